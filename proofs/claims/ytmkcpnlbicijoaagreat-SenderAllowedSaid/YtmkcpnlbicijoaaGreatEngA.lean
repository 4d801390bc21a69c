/- bbr: an engine, with all that it points to, as one: by mkenga.py. -/
import Derived.Test.YtmkcpnlbicijoaaGreatBbr6
import Derived.Test.YtmkcpnlbicijoaaGreatSndD
namespace Go.Proofs.YtmkcpnlbicijoaaGreat
open Go.RowKit
def Eng.new (c : Cnf) : Eng := ⟨c, Pip.zero, Bnd.none, 0, 0, 0, ⟨c.window, 0, true, []⟩, Cyc.zero, Ctr.zero, 0, 0, c.first, 0, 0⟩
section
variable (ε w : World) (R : List Asn) (b pb fb rb kb : Nat)
theorem engCwnd_c (s : Eng) (H : Own ε w (pts b (.cells #[.int .u64 s.c.mss, .int .u64 s.c.init, .int .u64 s.c.reorder, .int .u64 s.c.window, .int .u64 s.c.probe, .int .u64 s.c.loss, .pointer (some ⟨pb, 0, none⟩), .int .u64 s.bd.hi, .int .u64 s.bd.lo, .int .u64 s.bd.bw, .int .i64 s.st, .int .u64 s.since, .int .u64 s.rounds, .pointer (some ⟨fb, 0, none⟩), .pointer (some ⟨rb, 0, none⟩), .pointer (some ⟨kb, 0, none⟩), .int .u64 s.acked, .int .u64 s.lost, .int .u64 s.cwnd, .int .u64 s.kept, .int .u64 s.ended] 82 (0, 0)) :: pip pb s.p :: fil fb s.f :: cyc rb s.r :: ctr kb s.k :: R)) :
  Calls Tryz.prog 15 #[.pointer (some ⟨b, 0, none⟩)] w fun e w' => e = .returned (.int .u64 s.cwnd) ∧ w = w' := by
 have HH := Lib.hid H; clear H
 go_enter Tryz.func15, Tryz.ntmps15
 (try clear cc1_)
 have cc1_ := HH.out.cells
 go_wp2_with fail
 go_ret
 exact ⟨rfl, rfl⟩
theorem confDefault_c (H : Own ε w R) : Calls Tryz.prog 23 #[] w fun e w' => e = .returned (Cnf.v ⟨1500, 10, 3, 10000000, 200000, 20⟩) ∧ Own ε w' R := by
 have HH := Lib.hid H; clear H
 unfold Cnf.v
 go_enter Tryz.func23, Tryz.ntmps23
 go_wp2_with (with_reducible refine stop_al ?_)
 refine Stop.go ?_
 refine wpList_alloc_own HH.out [.int .u64 0, .int .u64 0, .int .u64 0, .int .u64 0, .int .u64 0, .int .u64 0] (by kernel_rfl) ?_
 intro g w2_ H9_
 replace HH := Lib.hid H9_
 clear H9_
 go_wp2_with (with_reducible refine stop_st ?_)
 refine Stop.go ?_
 refine wpList_store_own _ #[_, _, _, _, _, _] rfl rfl HH.out (by kernel_rfl) rfl (by repeat (first | (refine List.forall_mem_cons.2 ⟨(by first | with_reducible assumption | rfl), ?_⟩) | exact fun _ h => absurd h List.not_mem_nil)) ?_
 intro w3_ H9_
 replace HH := Lib.hid H9_
 clear H9_
 go_wp2_with fail
 refine bodyPost_ret (results_cell_row rfl _ _ _ _ _ _ _ rfl HH.out.blk Tryz.underlying24 rfl (by kernel_rfl)) rfl (⟨rfl, HH.out.pn⟩)
set_option maxRecDepth 100000 in
set_option maxHeartbeats 3200000 in
theorem engNew_c (m : Nat) (c : Cnf) (hc : c.Ok) (hr : c.right = true) (H : Own ε w R) :
  Calls Tryz.prog 25 #[c.v] w fun e w' => ∃ b pb fb rb kb, e = .returned (.tuple #[.pointer (some ⟨b, 0, none⟩), .int .i64 0]) ∧ Own ε w' (pts b (.cells #[.int .u64 (Eng.new c).c.mss, .int .u64 (Eng.new c).c.init, .int .u64 (Eng.new c).c.reorder, .int .u64 (Eng.new c).c.window, .int .u64 (Eng.new c).c.probe, .int .u64 (Eng.new c).c.loss, .pointer (some ⟨pb, 0, none⟩), .int .u64 (Eng.new c).bd.hi, .int .u64 (Eng.new c).bd.lo, .int .u64 (Eng.new c).bd.bw, .int .i64 (Eng.new c).st, .int .u64 (Eng.new c).since, .int .u64 (Eng.new c).rounds, .pointer (some ⟨fb, 0, none⟩), .pointer (some ⟨rb, 0, none⟩), .pointer (some ⟨kb, 0, none⟩), .int .u64 (Eng.new c).acked, .int .u64 (Eng.new c).lost, .int .u64 (Eng.new c).cwnd, .int .u64 (Eng.new c).kept, .int .u64 (Eng.new c).ended] 82 (0, 0)) :: pip pb (Eng.new c).p :: fil fb (Eng.new c).f :: cyc rb (Eng.new c).r :: ctr kb (Eng.new c).k :: R) := by
 have HH := Lib.hid H; clear H
 unfold Cnf.v
 replace hc := Lib.hid hc
 replace hr := Lib.hid hr
 go_enter Tryz.func25, Tryz.ntmps25
 go_wp2_with (with_reducible refine stop_bx ?_)
 refine Stop.go ?_
 refine wpList_box_own HH.out [_, _, _, _, _, _] rfl ?_
 intro g w4_ H9_
 replace HH := Lib.hid H9_
 clear H9_
 (try clear cc1_)
 have cc1_ := HH.out.cells
 go_wp2_with fail
 refine (confRight_c ε _ _ m c hc.out HH.out).mono ?_
 rw [hr.out]
 rintro e w5_ ⟨rfl, H9_⟩
 replace HH := Lib.hid H9_
 clear H9_
 (try clear cc1_)
 have cc1_ := HH.out.cells
 go_wp2_with fail
 go_wp2_with fail
 refine wp_region_regK none [pts g (.cells #[.int .u64 c.mss, .int .u64 c.init, .int .u64 c.reorder, .int .u64 c.window, .int .u64 c.probe, .int .u64 c.loss] 24 (0, 0))] HH.out (by kernel_rfl) ?_
 intro wm H9_
 replace HH := Lib.hid H9_
 clear H9_
 have HS : Own _ wm [pts g (.cells #[.int .u64 c.mss, .int .u64 c.init, .int .u64 c.reorder, .int .u64 c.window, .int .u64 c.probe, .int .u64 c.loss] 24 (0, 0))] := HH.out.pn
 refine mixk_s 0 HS (fun _ hx => hx.cells) ?_
 refine reg_s 3 HS ?_
 refine mixk_s 4 HS (fun _ hx => hx.cells) ?_
 refine mixk_s 8 HS (fun _ hx => hx.cells) ?_
 refine reg_l none (i := 1) rfl (by kernel_rfl) (fun wn hk K hK => ?_)
 replace HH := Lib.hid (hk _ _ HH.out)
 clear hk HS
 go_simp
 refine (pipNew_c ε wn HH.out).mono ?_
 rintro e wm ⟨pb, rfl, H9_⟩
 replace HH := Lib.hid H9_
 clear H9_
 have HS : Own _ wm [pts g (.cells #[.int .u64 c.mss, .int .u64 c.init, .int .u64 c.reorder, .int .u64 c.window, .int .u64 c.probe, .int .u64 c.loss] 24 (0, 0))] := HH.out.pn
 refine hK _ _ [pts g (.cells #[.int .u64 c.mss, .int .u64 c.init, .int .u64 c.reorder, .int .u64 c.window, .int .u64 c.probe, .int .u64 c.loss] 24 (0, 0))] HS (.inr ⟨rfl, fun _ h => h⟩) ?_
 clear hK K
 refine reg_l none (i := 2) rfl (by kernel_rfl) (fun wn hk K hK => ?_)
 replace HH := Lib.hid (hk _ _ HH.out)
 clear hk HS
 go_simp
 refine (boundNone_c wn).mono ?_
 rw [show Bnd.none.v = .agg #[.int .u64 18446744073709551615, .int .u64 18446744073709551615, .int .u64 18446744073709551615] from by first | rfl | decide]
 rintro e wm ⟨rfl, hbel⟩
 replace HH := Lib.hid ((by first | exact .same hbel | exact .drew hbel | exact .below hbel : Kp wn wm) _ _ HH.out)
 clear hbel
 have HS : Own _ wm [pts g (.cells #[.int .u64 c.mss, .int .u64 c.init, .int .u64 c.reorder, .int .u64 c.window, .int .u64 c.probe, .int .u64 c.loss] 24 (0, 0))] := HH.out.pn
 refine hK _ _ [pts g (.cells #[.int .u64 c.mss, .int .u64 c.init, .int .u64 c.reorder, .int .u64 c.window, .int .u64 c.probe, .int .u64 c.loss] 24 (0, 0))] HS (.inr ⟨rfl, fun _ h => h⟩) ?_
 clear hK K
 refine reg_l none (i := 5) rfl (by kernel_rfl) (fun wn hk K hK => ?_)
 replace HH := Lib.hid (hk _ _ HH.out)
 clear hk HS
 go_simp
 refine (filLeast_c ε wn _ c.window HH.out).mono ?_
 rintro e wm ⟨fb, rfl, H9_⟩
 replace HH := Lib.hid H9_
 clear H9_
 have HS : Own _ wm [pts g (.cells #[.int .u64 c.mss, .int .u64 c.init, .int .u64 c.reorder, .int .u64 c.window, .int .u64 c.probe, .int .u64 c.loss] 24 (0, 0))] := HH.out.pn
 refine hK _ _ [pts g (.cells #[.int .u64 c.mss, .int .u64 c.init, .int .u64 c.reorder, .int .u64 c.window, .int .u64 c.probe, .int .u64 c.loss] 24 (0, 0))] HS (.inr ⟨rfl, fun _ h => h⟩) ?_
 clear hK K
 refine reg_l none (i := 6) rfl (by kernel_rfl) (fun wn hk K hK => ?_)
 replace HH := Lib.hid (hk _ _ HH.out)
 clear hk HS
 go_simp
 refine (cycNew_c ε wn HH.out).mono ?_
 rintro e wm ⟨rb, rfl, H9_⟩
 replace HH := Lib.hid H9_
 clear H9_
 have HS : Own _ wm [pts g (.cells #[.int .u64 c.mss, .int .u64 c.init, .int .u64 c.reorder, .int .u64 c.window, .int .u64 c.probe, .int .u64 c.loss] 24 (0, 0))] := HH.out.pn
 refine hK _ _ [pts g (.cells #[.int .u64 c.mss, .int .u64 c.init, .int .u64 c.reorder, .int .u64 c.window, .int .u64 c.probe, .int .u64 c.loss] 24 (0, 0))] HS (.inr ⟨rfl, fun _ h => h⟩) ?_
 clear hK K
 refine reg_l none (i := 7) rfl (by kernel_rfl) (fun wn hk K hK => ?_)
 replace HH := Lib.hid (hk _ _ HH.out)
 clear hk HS
 go_simp
 refine (ctrNew_c ε wn HH.out).mono ?_
 rintro e wm ⟨kb, rfl, H9_⟩
 replace HH := Lib.hid H9_
 clear H9_
 have HS : Own _ wm [pts g (.cells #[.int .u64 c.mss, .int .u64 c.init, .int .u64 c.reorder, .int .u64 c.window, .int .u64 c.probe, .int .u64 c.loss] 24 (0, 0))] := HH.out.pn
 refine hK _ _ [pts g (.cells #[.int .u64 c.mss, .int .u64 c.init, .int .u64 c.reorder, .int .u64 c.window, .int .u64 c.probe, .int .u64 c.loss] 24 (0, 0))] HS (.inr ⟨rfl, fun _ h => h⟩) ?_
 clear hK K
 refine reg_l none (i := 9) rfl (by kernel_rfl) (fun wn hk K hK => ?_)
 replace HH := Lib.hid (hk _ _ HH.out)
 clear hk HS
 go_simp
 refine (confFirst_c wn c hc.out).mono ?_
 rintro e wm ⟨rfl, hbel⟩
 replace HH := Lib.hid ((by first | exact .same hbel | exact .drew hbel | exact .below hbel : Kp wn wm) _ _ HH.out)
 clear hbel
 have HS : Own _ wm [pts g (.cells #[.int .u64 c.mss, .int .u64 c.init, .int .u64 c.reorder, .int .u64 c.window, .int .u64 c.probe, .int .u64 c.loss] 24 (0, 0))] := HH.out.pn
 refine hK _ _ [pts g (.cells #[.int .u64 c.mss, .int .u64 c.init, .int .u64 c.reorder, .int .u64 c.window, .int .u64 c.probe, .int .u64 c.loss] 24 (0, 0))] HS (.inr ⟨rfl, fun _ h => h⟩) ?_
 clear hK K
 refine reg_s 10 HS ?_
 refine reg_l none (i := 11) rfl (by kernel_rfl) (fun wn hk K hK => ?_)
 replace HH := Lib.hid (hk _ _ HH.out)
 clear hk HS
 go_simp
 replace HH := Lib.hid (HH.out.alloc (.cells #[.int .u64 c.mss, .int .u64 c.init, .int .u64 c.reorder, .int .u64 c.window, .int .u64 c.probe, .int .u64 c.loss, .pointer (some ⟨pb, 0, none⟩), .int .u64 18446744073709551615, .int .u64 18446744073709551615, .int .u64 18446744073709551615, .int .i64 0, .int .u64 0, .int .u64 0, .pointer (some ⟨fb, 0, none⟩), .pointer (some ⟨rb, 0, none⟩), .pointer (some ⟨kb, 0, none⟩), .int .u64 0, .int .u64 0, .int .u64 c.first, .int .u64 0, .int .u64 0] 82))
 generalize wn.alloc (.cells #[.int .u64 c.mss, .int .u64 c.init, .int .u64 c.reorder, .int .u64 c.window, .int .u64 c.probe, .int .u64 c.loss, .pointer (some ⟨pb, 0, none⟩), .int .u64 18446744073709551615, .int .u64 18446744073709551615, .int .u64 18446744073709551615, .int .i64 0, .int .u64 0, .int .u64 0, .pointer (some ⟨fb, 0, none⟩), .pointer (some ⟨rb, 0, none⟩), .pointer (some ⟨kb, 0, none⟩), .int .u64 0, .int .u64 0, .int .u64 c.first, .int .u64 0, .int .u64 0] 82) = wm at *
 generalize wn.heap.size = lb at *
 have HS : Own _ wm [pts g (.cells #[.int .u64 c.mss, .int .u64 c.init, .int .u64 c.reorder, .int .u64 c.window, .int .u64 c.probe, .int .u64 c.loss] 24 (0, 0))] := HH.out.pn
 refine hK _ _ [pts g (.cells #[.int .u64 c.mss, .int .u64 c.init, .int .u64 c.reorder, .int .u64 c.window, .int .u64 c.probe, .int .u64 c.loss] 24 (0, 0))] HS (.inr ⟨rfl, fun _ h => h⟩) ?_
 clear hK K
 refine reg_s 12 HS ?_
 refine reg_s 13 HS ?_
 refine mixk_done (by kernel_rfl) (fun w6_ hk => ?_) _
 replace HH := Lib.hid (hk _ _ HH.out)
 clear hk
 go_wp2_with fail
 go_ret2
 have H9 := (HH.out.pn : Own ε _ (pts lb _ :: pip pb Pip.zero :: fil fb ⟨c.window, 0, true, []⟩ :: cyc rb Cyc.zero :: ctr kb Ctr.zero :: R))
 exact ⟨lb, pb, fb, rb, kb, rfl, H9⟩
def liveC : Cnf := ⟨1500, 10, 3, 10000000, 200000, 20⟩
def liveX : Evt := ⟨50000, 15000, 50000, 300000, 50000, false, true, 15000, 15000, 0, 0⟩
def liveE : Eng := (Eng.new liveC).on liveX
theorem live_told : liveC.right = true ∧ liveE.st = 0 ∧ liveE.cwnd = 30000 ∧ liveE.best = 300000 ∧ liveE.least = 50000 ∧ liveE.pace = 831000 ∧ liveE.quantum = 3000 := by
 refine ⟨?_, ?_, ?_, ?_, ?_, ?_, ?_⟩ <;> kernel_rfl
theorem live_okC : liveC.Ok := ⟨by decide, by decide, by decide, by decide, by decide, by decide⟩
end
end Go.Proofs.YtmkcpnlbicijoaaGreat
namespace Go.Proofs.YtmkcpnlbicijoaaGreat
open Go.RowKit
def eng (b : Nat) (s : Eng) : Asn := exA fun q : Nat × Nat × Nat × Nat => sep (pts b (.cells #[.int .u64 s.c.mss, .int .u64 s.c.init, .int .u64 s.c.reorder, .int .u64 s.c.window, .int .u64 s.c.probe, .int .u64 s.c.loss, .pointer (some ⟨q.1, 0, none⟩), .int .u64 s.bd.hi, .int .u64 s.bd.lo, .int .u64 s.bd.bw, .int .i64 s.st, .int .u64 s.since, .int .u64 s.rounds, .pointer (some ⟨q.2.1, 0, none⟩), .pointer (some ⟨q.2.2.1, 0, none⟩), .pointer (some ⟨q.2.2.2, 0, none⟩), .int .u64 s.acked, .int .u64 s.lost, .int .u64 s.cwnd, .int .u64 s.kept, .int .u64 s.ended] 82 (0, 0))) (sep (pip q.1 s.p) (sep (fil q.2.1 s.f) (sep (cyc q.2.2.1 s.r) (ctr q.2.2.2 s.k))))
section
variable {ε w : World} {R : List Asn} {b : Nat} {s : Eng}
theorem Own.eng_open (H : Own ε w (eng b s :: R)) : ∃ pb fb rb kb, Own ε w (pts b (.cells #[.int .u64 s.c.mss, .int .u64 s.c.init, .int .u64 s.c.reorder, .int .u64 s.c.window, .int .u64 s.c.probe, .int .u64 s.c.loss, .pointer (some ⟨pb, 0, none⟩), .int .u64 s.bd.hi, .int .u64 s.bd.lo, .int .u64 s.bd.bw, .int .i64 s.st, .int .u64 s.since, .int .u64 s.rounds, .pointer (some ⟨fb, 0, none⟩), .pointer (some ⟨rb, 0, none⟩), .pointer (some ⟨kb, 0, none⟩), .int .u64 s.acked, .int .u64 s.lost, .int .u64 s.cwnd, .int .u64 s.kept, .int .u64 s.ended] 82 (0, 0)) :: pip pb s.p :: fil fb s.f :: cyc rb s.r :: ctr kb s.k :: R) := by
 obtain ⟨⟨pb, fb, rb, kb⟩, H⟩ := H.ex
 exact ⟨pb, fb, rb, kb, H.map fun _ q => sep_imp (sep_assoc2 q) (fun _ z => z) fun _ z => sep_imp (sep_assoc2 z) (fun _ y => y) fun _ y => sep_imp (sep_assoc2 y) (fun _ x => x) fun _ x => sep_assoc2 x⟩
theorem Own.eng_mk {pb fb rb kb : Nat} (H : Own ε w (pts b (.cells #[.int .u64 s.c.mss, .int .u64 s.c.init, .int .u64 s.c.reorder, .int .u64 s.c.window, .int .u64 s.c.probe, .int .u64 s.c.loss, .pointer (some ⟨pb, 0, none⟩), .int .u64 s.bd.hi, .int .u64 s.bd.lo, .int .u64 s.bd.bw, .int .i64 s.st, .int .u64 s.since, .int .u64 s.rounds, .pointer (some ⟨fb, 0, none⟩), .pointer (some ⟨rb, 0, none⟩), .pointer (some ⟨kb, 0, none⟩), .int .u64 s.acked, .int .u64 s.lost, .int .u64 s.cwnd, .int .u64 s.kept, .int .u64 s.ended] 82 (0, 0)) :: pip pb s.p :: fil fb s.f :: cyc rb s.r :: ctr kb s.k :: R)) : Own ε w (eng b s :: R) :=
 Own.ex_mk (pb, fb, rb, kb) (H.map fun _ q => sep_assoc1 (sep_imp q (fun _ z => z) fun _ z => sep_assoc1 (sep_imp z (fun _ y => y) fun _ y => sep_assoc1 (sep_imp y (fun _ x => x) fun _ x => sep_assoc1 x))))
end
section
variable (ε w : World) (R : List Asn) (b : Nat)
theorem engNewA_c (c : Cnf) (hc : c.Ok) (hr : c.right = true) (H : Own ε w R) :
  Calls Tryz.prog 25 #[c.v] w fun e w' => ∃ b, e = .returned (.tuple #[.pointer (some ⟨b, 0, none⟩), .int .i64 0]) ∧ Own ε w' (eng b (Eng.new c) :: R) :=
 (engNew_c ε w R 0 c hc hr H).mono fun _ _ ⟨b, _, _, _, _, he, H'⟩ => ⟨b, he, Own.eng_mk H'⟩
theorem engOnA_c (s : Eng) (hs : s.Ok) (x : Evt) (hx : x.Ok) (hl : s.f.l.length ≤ 999999) (H : Own ε w (eng b s :: R)) :
  Calls Tryz.prog 38 #[.pointer (some ⟨b, 0, none⟩), x.v] w fun e w' => e = .returned (.tuple #[]) ∧ Own ε w' (eng b (s.on x) :: R) := by
 obtain ⟨pb, fb, rb, kb, H⟩ := H.eng_open
 exact (engOn_c ε w R b pb fb rb kb s hs x hx hl H).mono fun _ _ ⟨he, H'⟩ => ⟨he, Own.eng_mk H'⟩
theorem engCwndA_c (s : Eng) (H : Own ε w (eng b s :: R)) :
  Calls Tryz.prog 15 #[.pointer (some ⟨b, 0, none⟩)] w fun e w' => e = .returned (.int .u64 s.cwnd) ∧ w = w' := by
 obtain ⟨pb, fb, rb, kb, H⟩ := H.eng_open
 exact engCwnd_c ε w R b pb fb rb kb s H
theorem engPaceA_c (s : Eng) (hs : s.Ok) (H : Own ε w (eng b s :: R)) :
  Calls Tryz.prog 34 #[.pointer (some ⟨b, 0, none⟩)] w fun e w' => e = .returned (.int .u64 s.pace) ∧ Own ε w' (eng b s :: R) := by
 obtain ⟨pb, fb, rb, kb, H⟩ := H.eng_open
 exact (engPace_c ε w R b pb fb rb kb s hs H).mono fun _ _ ⟨he, H'⟩ => ⟨he, Own.eng_mk H'⟩
theorem engQuantumA_c (s : Eng) (hs : s.Ok) (hp : U s.pace) (H : Own ε w (eng b s :: R)) :
  Calls Tryz.prog 13 #[.pointer (some ⟨b, 0, none⟩)] w fun e w' => e = .returned (.int .u64 s.quantum) ∧ Own ε w' (eng b s :: R) := by
 obtain ⟨pb, fb, rb, kb, H⟩ := H.eng_open
 exact (engQuantum_c ε w R b pb fb rb kb s hs hp H).mono fun _ _ ⟨he, H'⟩ => ⟨he, Own.eng_mk H'⟩
theorem engLeastA_c (s : Eng) (H : Own ε w (eng b s :: R)) :
  Calls Tryz.prog 24 #[.pointer (some ⟨b, 0, none⟩)] w fun e w' => e = .returned (.int .u64 s.least) ∧ Own ε w' (eng b s :: R) := by
 obtain ⟨pb, fb, rb, kb, H⟩ := H.eng_open
 exact (engLeast_c ε w R b pb fb rb kb s H).mono fun _ _ ⟨he, H'⟩ => ⟨he, Own.eng_mk H'⟩
end
end Go.Proofs.YtmkcpnlbicijoaaGreat
