/- bbr: a new engine, what it tells, none, a live question: written by mkbbr2.py. -/
import Derived.Test.YtpfbbpiidhhkbaaGreatBbr6
import Derived.Test.YtpfbbpiidhhkbaaGreatBbrP
namespace Go.Proofs.YtpfbbpiidhhkbaaGreat
open Go.RowKit
def Eng.new (c : Cnf) : Eng := ⟨c, Pip.zero, Bnd.none, 0, 0, 0, ⟨c.window, 0, true, []⟩, Cyc.zero, Ctr.zero, 0, 0, c.first, 0, 0⟩
theorem Eng.ok_new {c : Cnf} (h : c.Ok) : (Eng.new c).Ok :=
  { c := h, p := ⟨U_zero, Int.le_refl _, show (0 : Int) ≤ 3 by decide⟩, bd := ⟨show U 18446744073709551615 by decide, show U 18446744073709551615 by decide, show U 18446744073709551615 by decide⟩, st0 := Int.le_refl _, st6 := show (0 : Int) ≤ 6 by decide, since := U_zero, rounds := U_zero,
    f := ⟨h.window, U_zero, fun _ hr => absurd hr (List.not_mem_nil)⟩, r := ⟨U_zero, U_zero⟩, rn := U_zero, k1 := U_zero, k2 := U_zero, acked := U_zero, lost := U_zero, cwnd := Cnf.U_first h, kept := U_zero, ended := U_zero }
section
variable (ε w : World) (R : List Asn) (b pb fb rb kb : Nat)
theorem engState_c (s : Eng) (H : Own ε w (pts b (.cells #[.int .u64 s.c.mss, .int .u64 s.c.init, .int .u64 s.c.reorder, .int .u64 s.c.window, .int .u64 s.c.probe, .int .u64 s.c.loss, .pointer (some ⟨pb, 0, none⟩), .int .u64 s.bd.hi, .int .u64 s.bd.lo, .int .u64 s.bd.bw, .int .i64 s.st, .int .u64 s.since, .int .u64 s.rounds, .pointer (some ⟨fb, 0, none⟩), .pointer (some ⟨rb, 0, none⟩), .pointer (some ⟨kb, 0, none⟩), .int .u64 s.acked, .int .u64 s.lost, .int .u64 s.cwnd, .int .u64 s.kept, .int .u64 s.ended] 64 (0, 0)) :: pip pb s.p :: fil fb s.f :: cyc rb s.r :: ctr kb s.k :: R)) :
    Calls Tryz.prog 12 #[.pointer (some ⟨b, 0, none⟩)] w fun e w' => e = .returned (.int .i64 s.st) ∧ w = w' := by
  have HH := Lib.hid H; clear H
  go_enter Tryz.func12, Tryz.ntmps12
  (try clear cc1_); (try clear cc2_); (try clear cc3_); (try clear cc4_); (try clear cc5_); (try clear cc6_); (try clear cc7_)
  have cc1_ := HH.out.cells
  go_wp2_with fail
  go_ret
  exact ⟨rfl, rfl⟩
theorem engCwnd_c (s : Eng) (H : Own ε w (pts b (.cells #[.int .u64 s.c.mss, .int .u64 s.c.init, .int .u64 s.c.reorder, .int .u64 s.c.window, .int .u64 s.c.probe, .int .u64 s.c.loss, .pointer (some ⟨pb, 0, none⟩), .int .u64 s.bd.hi, .int .u64 s.bd.lo, .int .u64 s.bd.bw, .int .i64 s.st, .int .u64 s.since, .int .u64 s.rounds, .pointer (some ⟨fb, 0, none⟩), .pointer (some ⟨rb, 0, none⟩), .pointer (some ⟨kb, 0, none⟩), .int .u64 s.acked, .int .u64 s.lost, .int .u64 s.cwnd, .int .u64 s.kept, .int .u64 s.ended] 64 (0, 0)) :: pip pb s.p :: fil fb s.f :: cyc rb s.r :: ctr kb s.k :: R)) :
    Calls Tryz.prog 13 #[.pointer (some ⟨b, 0, none⟩)] w fun e w' => e = .returned (.int .u64 s.cwnd) ∧ w = w' := by
  have HH := Lib.hid H; clear H
  go_enter Tryz.func13, Tryz.ntmps13
  (try clear cc1_); (try clear cc2_); (try clear cc3_); (try clear cc4_); (try clear cc5_); (try clear cc6_); (try clear cc7_)
  have cc1_ := HH.out.cells
  go_wp2_with fail
  go_ret
  exact ⟨rfl, rfl⟩
theorem engLimits_c (s : Eng) (H : Own ε w (pts b (.cells #[.int .u64 s.c.mss, .int .u64 s.c.init, .int .u64 s.c.reorder, .int .u64 s.c.window, .int .u64 s.c.probe, .int .u64 s.c.loss, .pointer (some ⟨pb, 0, none⟩), .int .u64 s.bd.hi, .int .u64 s.bd.lo, .int .u64 s.bd.bw, .int .i64 s.st, .int .u64 s.since, .int .u64 s.rounds, .pointer (some ⟨fb, 0, none⟩), .pointer (some ⟨rb, 0, none⟩), .pointer (some ⟨kb, 0, none⟩), .int .u64 s.acked, .int .u64 s.lost, .int .u64 s.cwnd, .int .u64 s.kept, .int .u64 s.ended] 64 (0, 0)) :: pip pb s.p :: fil fb s.f :: cyc rb s.r :: ctr kb s.k :: R)) :
    Calls Tryz.prog 32 #[.pointer (some ⟨b, 0, none⟩)] w fun e w' => e = .returned s.bd.v ∧ Own ε w' (pts b (.cells #[.int .u64 s.c.mss, .int .u64 s.c.init, .int .u64 s.c.reorder, .int .u64 s.c.window, .int .u64 s.c.probe, .int .u64 s.c.loss, .pointer (some ⟨pb, 0, none⟩), .int .u64 s.bd.hi, .int .u64 s.bd.lo, .int .u64 s.bd.bw, .int .i64 s.st, .int .u64 s.since, .int .u64 s.rounds, .pointer (some ⟨fb, 0, none⟩), .pointer (some ⟨rb, 0, none⟩), .pointer (some ⟨kb, 0, none⟩), .int .u64 s.acked, .int .u64 s.lost, .int .u64 s.cwnd, .int .u64 s.kept, .int .u64 s.ended] 64 (0, 0)) :: pip pb s.p :: fil fb s.f :: cyc rb s.r :: ctr kb s.k :: R) := by
  have HH := Lib.hid H; clear H
  go_enter Tryz.func32, Tryz.ntmps32
  go_wp2_with (with_reducible refine stop_al ?_)
  refine Stop.go ?_
  refine wpList_alloc_own HH.out [.int .u64 0, .int .u64 0, .int .u64 0] (by kernel_rfl) ?_
  intro g w1_ H9_
  replace HH := Lib.hid H9_
  clear H9_
  (try clear cc1_); (try clear cc2_); (try clear cc3_); (try clear cc4_); (try clear cc5_); (try clear cc6_); (try clear cc7_)
  have cc2_ := HH.out.r2.cells
  go_wp2_with (with_reducible refine stop_st ?_)
  refine Stop.go ?_
  refine wpList_store_own _ #[_, _, _] rfl rfl HH.out (by kernel_rfl) rfl (by repeat (first | (refine List.forall_mem_cons.2 ⟨(by first | with_reducible assumption | rfl), ?_⟩) | exact fun _ h => absurd h List.not_mem_nil)) ?_
  intro w2_ H9_
  replace HH := Lib.hid H9_
  clear H9_
  go_wp2_with fail
  refine bodyPost_ret (results_cell_row rfl _ _ _ _ _ _ _ rfl HH.out.blk Tryz.underlying52 rfl (by kernel_rfl)) rfl (⟨rfl, (Own.pm (HH.out) (by with_reducible repeat (first | exact .refl _ | exact .nil _ | refine .here ?_ | refine .at2 ?_ | refine .at3 ?_ | refine .at4 ?_ | refine .at5 ?_ | refine .at6 ?_ | refine .at7 ?_ | refine .at8 ?_ | refine .skip ?_)))⟩)
theorem confDefault_c (H : Own ε w R) : Calls Tryz.prog 11 #[] w fun e w' => e = .returned (Cnf.v ⟨1500, 10, 3, 10000000, 200000, 20⟩) ∧ Own ε w' R := by
  have HH := Lib.hid H; clear H
  unfold Cnf.v
  go_enter Tryz.func11, Tryz.ntmps11
  go_wp2_with (with_reducible refine stop_al ?_)
  refine Stop.go ?_
  refine wpList_alloc_own HH.out [.int .u64 0, .int .u64 0, .int .u64 0, .int .u64 0, .int .u64 0, .int .u64 0] (by kernel_rfl) ?_
  intro g w6_ H9_
  replace HH := Lib.hid H9_
  clear H9_
  go_wp2_with (with_reducible refine stop_st ?_)
  refine Stop.go ?_
  refine wpList_store_own _ #[_, _, _, _, _, _] rfl rfl HH.out (by kernel_rfl) rfl (by repeat (first | (refine List.forall_mem_cons.2 ⟨(by first | with_reducible assumption | rfl), ?_⟩) | exact fun _ h => absurd h List.not_mem_nil)) ?_
  intro w7_ H9_
  replace HH := Lib.hid H9_
  clear H9_
  go_wp2_with fail
  refine bodyPost_ret (results_cell_row rfl _ _ _ _ _ _ _ rfl HH.out.blk Tryz.underlying24 rfl (by kernel_rfl)) rfl (⟨rfl, (Own.pm (HH.out) (by with_reducible repeat (first | exact .refl _ | exact .nil _ | refine .here ?_ | refine .at2 ?_ | refine .at3 ?_ | refine .at4 ?_ | refine .at5 ?_ | refine .at6 ?_ | refine .at7 ?_ | refine .at8 ?_ | refine .skip ?_)))⟩)
set_option maxRecDepth 100000 in
set_option maxHeartbeats 3200000 in
theorem engNew_c (m : Nat) (c : Cnf) (hc : c.Ok) (hr : c.right = true) (H : Own ε w R) :
    Calls Tryz.prog 5 #[c.v] w fun e w' => ∃ b pb fb rb kb, e = .returned (.tuple #[.pointer (some ⟨b, 0, none⟩), .int .i64 0]) ∧ Own ε w' (pts b (.cells #[.int .u64 (Eng.new c).c.mss, .int .u64 (Eng.new c).c.init, .int .u64 (Eng.new c).c.reorder, .int .u64 (Eng.new c).c.window, .int .u64 (Eng.new c).c.probe, .int .u64 (Eng.new c).c.loss, .pointer (some ⟨pb, 0, none⟩), .int .u64 (Eng.new c).bd.hi, .int .u64 (Eng.new c).bd.lo, .int .u64 (Eng.new c).bd.bw, .int .i64 (Eng.new c).st, .int .u64 (Eng.new c).since, .int .u64 (Eng.new c).rounds, .pointer (some ⟨fb, 0, none⟩), .pointer (some ⟨rb, 0, none⟩), .pointer (some ⟨kb, 0, none⟩), .int .u64 (Eng.new c).acked, .int .u64 (Eng.new c).lost, .int .u64 (Eng.new c).cwnd, .int .u64 (Eng.new c).kept, .int .u64 (Eng.new c).ended] 64 (0, 0)) :: pip pb (Eng.new c).p :: fil fb (Eng.new c).f :: cyc rb (Eng.new c).r :: ctr kb (Eng.new c).k :: R) := by
  have HH := Lib.hid H; clear H
  unfold Cnf.v
  replace hc := Lib.hid hc
  replace hr := Lib.hid hr
  go_enter Tryz.func5, Tryz.ntmps5
  go_wp2_with (with_reducible refine stop_bx ?_)
  refine Stop.go ?_
  refine wpList_box_own HH.out [_, _, _, _, _, _] rfl ?_
  intro g w8_ H9_
  replace HH := Lib.hid H9_
  clear H9_
  (try clear cc1_); (try clear cc2_); (try clear cc3_); (try clear cc4_); (try clear cc5_); (try clear cc6_); (try clear cc7_)
  have cc1_ := HH.out.cells
  go_wp2_with fail
  refine (confRight_c ε _ _ m c hc.out HH.out).mono ?_
  rw [hr.out]
  rintro e w9_ ⟨rfl, H9_⟩
  replace HH := Lib.hid H9_
  clear H9_
  (try clear cc1_); (try clear cc2_); (try clear cc3_); (try clear cc4_); (try clear cc5_); (try clear cc6_); (try clear cc7_)
  have cc1_ := HH.out.cells
  go_wp2_with fail
  go_wp2_with fail
  refine wp_region_regK none [pts g (.cells #[.int .u64 c.mss, .int .u64 c.init, .int .u64 c.reorder, .int .u64 c.window, .int .u64 c.probe, .int .u64 c.loss] 24 (0, 0))] HH.out (by kernel_rfl) ?_
  intro wm H9_
  replace HH := Lib.hid H9_
  clear H9_
  have HS : Own _ wm [pts g (.cells #[.int .u64 c.mss, .int .u64 c.init, .int .u64 c.reorder, .int .u64 c.window, .int .u64 c.probe, .int .u64 c.loss] 24 (0, 0))] := (Own.pm (HH.out) (by with_reducible repeat (first | exact .refl _ | exact .nil _ | refine .here ?_ | refine .at2 ?_ | refine .at3 ?_ | refine .at4 ?_ | refine .at5 ?_ | refine .at6 ?_ | refine .at7 ?_ | refine .at8 ?_ | refine .skip ?_)))
  refine mixk_q (i := 0) rfl (by kernel_rfl) (fun _ _ _ _ h => h) HS (fun K hK => ?_)
  go_simp
  (first | refine hK _ ?_ | (apply Exists.intro; refine ⟨?_, hK _ ?_⟩; focus intro wx hx; have x1_ := hx.cells; first | (go_simp; first | rfl | exact ⟨rfl, rfl⟩) | rfl | exact ⟨rfl, rfl⟩)); clear hK K
  refine reg_p (i := 3) rfl (by kernel_rfl) (fun _ _ _ _ h => h) HS (fun K hK => ?_)
  go_simp
  (first | refine hK _ ?_ | (apply Exists.intro; refine ⟨?_, hK _ ?_⟩; focus intro wx; first | (go_simp; rfl) | rfl)); clear hK K
  refine mixk_q (i := 4) rfl (by kernel_rfl) (fun _ _ _ _ h => h) HS (fun K hK => ?_)
  go_simp
  (first | refine hK _ ?_ | (apply Exists.intro; refine ⟨?_, hK _ ?_⟩; focus intro wx hx; have x1_ := hx.cells; first | (go_simp; first | rfl | exact ⟨rfl, rfl⟩) | rfl | exact ⟨rfl, rfl⟩)); clear hK K
  refine mixk_q (i := 8) rfl (by kernel_rfl) (fun _ _ _ _ h => h) HS (fun K hK => ?_)
  go_simp
  (first | refine hK _ ?_ | (apply Exists.intro; refine ⟨?_, hK _ ?_⟩; focus intro wx hx; have x1_ := hx.cells; first | (go_simp; first | rfl | exact ⟨rfl, rfl⟩) | rfl | exact ⟨rfl, rfl⟩)); clear hK K
  refine reg_l none (i := 1) rfl (by kernel_rfl) (fun wn hk K hK => ?_)
  replace HH := Lib.hid (hk _ _ HH.out)
  clear hk HS
  go_simp
  refine (pipNew_c ε wn HH.out).mono ?_
  rintro e wm ⟨pb, rfl, H9_⟩
  replace HH := Lib.hid H9_
  clear H9_
  have HS : Own _ wm [pts g (.cells #[.int .u64 c.mss, .int .u64 c.init, .int .u64 c.reorder, .int .u64 c.window, .int .u64 c.probe, .int .u64 c.loss] 24 (0, 0))] := (Own.pm (HH.out) (by with_reducible repeat (first | exact .refl _ | exact .nil _ | refine .here ?_ | refine .at2 ?_ | refine .at3 ?_ | refine .at4 ?_ | refine .at5 ?_ | refine .at6 ?_ | refine .at7 ?_ | refine .at8 ?_ | refine .skip ?_)))
  refine hK _ _ [pts g (.cells #[.int .u64 c.mss, .int .u64 c.init, .int .u64 c.reorder, .int .u64 c.window, .int .u64 c.probe, .int .u64 c.loss] 24 (0, 0))] HS (.inr ⟨rfl, fun _ h => h⟩) ?_
  clear hK K
  refine reg_l none (i := 2) rfl (by kernel_rfl) (fun wn hk K hK => ?_)
  replace HH := Lib.hid (hk _ _ HH.out)
  clear hk HS
  go_simp
  refine (boundNone_c wn).mono ?_
  rw [show Bnd.none.v = .agg #[.int .u64 18446744073709551615, .int .u64 18446744073709551615, .int .u64 18446744073709551615] from by first | rfl | decide]
  rintro e wm ⟨rfl, hbel⟩
  replace HH := Lib.hid ((by first | exact .same hbel | exact .drew hbel | exact .below hbel : Kp wn wm) _ _ HH.out)
  clear hbel
  have HS : Own _ wm [pts g (.cells #[.int .u64 c.mss, .int .u64 c.init, .int .u64 c.reorder, .int .u64 c.window, .int .u64 c.probe, .int .u64 c.loss] 24 (0, 0))] := (Own.pm (HH.out) (by with_reducible repeat (first | exact .refl _ | exact .nil _ | refine .here ?_ | refine .at2 ?_ | refine .at3 ?_ | refine .at4 ?_ | refine .at5 ?_ | refine .at6 ?_ | refine .at7 ?_ | refine .at8 ?_ | refine .skip ?_)))
  refine hK _ _ [pts g (.cells #[.int .u64 c.mss, .int .u64 c.init, .int .u64 c.reorder, .int .u64 c.window, .int .u64 c.probe, .int .u64 c.loss] 24 (0, 0))] HS (.inr ⟨rfl, fun _ h => h⟩) ?_
  clear hK K
  refine reg_l none (i := 5) rfl (by kernel_rfl) (fun wn hk K hK => ?_)
  replace HH := Lib.hid (hk _ _ HH.out)
  clear hk HS
  go_simp
  refine (filLeast_c ε wn _ c.window HH.out).mono ?_
  rintro e wm ⟨fb, rfl, H9_⟩
  replace HH := Lib.hid H9_
  clear H9_
  have HS : Own _ wm [pts g (.cells #[.int .u64 c.mss, .int .u64 c.init, .int .u64 c.reorder, .int .u64 c.window, .int .u64 c.probe, .int .u64 c.loss] 24 (0, 0))] := (Own.pm (HH.out) (by with_reducible repeat (first | exact .refl _ | exact .nil _ | refine .here ?_ | refine .at2 ?_ | refine .at3 ?_ | refine .at4 ?_ | refine .at5 ?_ | refine .at6 ?_ | refine .at7 ?_ | refine .at8 ?_ | refine .skip ?_)))
  refine hK _ _ [pts g (.cells #[.int .u64 c.mss, .int .u64 c.init, .int .u64 c.reorder, .int .u64 c.window, .int .u64 c.probe, .int .u64 c.loss] 24 (0, 0))] HS (.inr ⟨rfl, fun _ h => h⟩) ?_
  clear hK K
  refine reg_l none (i := 6) rfl (by kernel_rfl) (fun wn hk K hK => ?_)
  replace HH := Lib.hid (hk _ _ HH.out)
  clear hk HS
  go_simp
  refine (cycNew_c ε wn HH.out).mono ?_
  rintro e wm ⟨rb, rfl, H9_⟩
  replace HH := Lib.hid H9_
  clear H9_
  have HS : Own _ wm [pts g (.cells #[.int .u64 c.mss, .int .u64 c.init, .int .u64 c.reorder, .int .u64 c.window, .int .u64 c.probe, .int .u64 c.loss] 24 (0, 0))] := (Own.pm (HH.out) (by with_reducible repeat (first | exact .refl _ | exact .nil _ | refine .here ?_ | refine .at2 ?_ | refine .at3 ?_ | refine .at4 ?_ | refine .at5 ?_ | refine .at6 ?_ | refine .at7 ?_ | refine .at8 ?_ | refine .skip ?_)))
  refine hK _ _ [pts g (.cells #[.int .u64 c.mss, .int .u64 c.init, .int .u64 c.reorder, .int .u64 c.window, .int .u64 c.probe, .int .u64 c.loss] 24 (0, 0))] HS (.inr ⟨rfl, fun _ h => h⟩) ?_
  clear hK K
  refine reg_l none (i := 7) rfl (by kernel_rfl) (fun wn hk K hK => ?_)
  replace HH := Lib.hid (hk _ _ HH.out)
  clear hk HS
  go_simp
  refine (ctrNew_c ε wn HH.out).mono ?_
  rintro e wm ⟨kb, rfl, H9_⟩
  replace HH := Lib.hid H9_
  clear H9_
  have HS : Own _ wm [pts g (.cells #[.int .u64 c.mss, .int .u64 c.init, .int .u64 c.reorder, .int .u64 c.window, .int .u64 c.probe, .int .u64 c.loss] 24 (0, 0))] := (Own.pm (HH.out) (by with_reducible repeat (first | exact .refl _ | exact .nil _ | refine .here ?_ | refine .at2 ?_ | refine .at3 ?_ | refine .at4 ?_ | refine .at5 ?_ | refine .at6 ?_ | refine .at7 ?_ | refine .at8 ?_ | refine .skip ?_)))
  refine hK _ _ [pts g (.cells #[.int .u64 c.mss, .int .u64 c.init, .int .u64 c.reorder, .int .u64 c.window, .int .u64 c.probe, .int .u64 c.loss] 24 (0, 0))] HS (.inr ⟨rfl, fun _ h => h⟩) ?_
  clear hK K
  refine reg_l none (i := 9) rfl (by kernel_rfl) (fun wn hk K hK => ?_)
  replace HH := Lib.hid (hk _ _ HH.out)
  clear hk HS
  go_simp
  refine (confFirst_c wn c hc.out).mono ?_
  rintro e wm ⟨rfl, hbel⟩
  replace HH := Lib.hid ((by first | exact .same hbel | exact .drew hbel | exact .below hbel : Kp wn wm) _ _ HH.out)
  clear hbel
  have HS : Own _ wm [pts g (.cells #[.int .u64 c.mss, .int .u64 c.init, .int .u64 c.reorder, .int .u64 c.window, .int .u64 c.probe, .int .u64 c.loss] 24 (0, 0))] := (Own.pm (HH.out) (by with_reducible repeat (first | exact .refl _ | exact .nil _ | refine .here ?_ | refine .at2 ?_ | refine .at3 ?_ | refine .at4 ?_ | refine .at5 ?_ | refine .at6 ?_ | refine .at7 ?_ | refine .at8 ?_ | refine .skip ?_)))
  refine hK _ _ [pts g (.cells #[.int .u64 c.mss, .int .u64 c.init, .int .u64 c.reorder, .int .u64 c.window, .int .u64 c.probe, .int .u64 c.loss] 24 (0, 0))] HS (.inr ⟨rfl, fun _ h => h⟩) ?_
  clear hK K
  refine reg_p (i := 10) rfl (by kernel_rfl) (fun _ _ _ _ h => h) HS (fun K hK => ?_)
  go_simp
  (first | refine hK _ ?_ | (apply Exists.intro; refine ⟨?_, hK _ ?_⟩; focus intro wx; first | (go_simp; rfl) | rfl)); clear hK K
  refine reg_l none (i := 11) rfl (by kernel_rfl) (fun wn hk K hK => ?_)
  replace HH := Lib.hid (hk _ _ HH.out)
  clear hk HS
  go_simp
  replace HH := Lib.hid (HH.out.alloc (.cells #[.int .u64 c.mss, .int .u64 c.init, .int .u64 c.reorder, .int .u64 c.window, .int .u64 c.probe, .int .u64 c.loss, .pointer (some ⟨pb, 0, none⟩), .int .u64 18446744073709551615, .int .u64 18446744073709551615, .int .u64 18446744073709551615, .int .i64 0, .int .u64 0, .int .u64 0, .pointer (some ⟨fb, 0, none⟩), .pointer (some ⟨rb, 0, none⟩), .pointer (some ⟨kb, 0, none⟩), .int .u64 0, .int .u64 0, .int .u64 c.first, .int .u64 0, .int .u64 0] 64))
  generalize wn.alloc (.cells #[.int .u64 c.mss, .int .u64 c.init, .int .u64 c.reorder, .int .u64 c.window, .int .u64 c.probe, .int .u64 c.loss, .pointer (some ⟨pb, 0, none⟩), .int .u64 18446744073709551615, .int .u64 18446744073709551615, .int .u64 18446744073709551615, .int .i64 0, .int .u64 0, .int .u64 0, .pointer (some ⟨fb, 0, none⟩), .pointer (some ⟨rb, 0, none⟩), .pointer (some ⟨kb, 0, none⟩), .int .u64 0, .int .u64 0, .int .u64 c.first, .int .u64 0, .int .u64 0] 64) = wm at *
  generalize wn.heap.size = lb at *
  have HS : Own _ wm [pts g (.cells #[.int .u64 c.mss, .int .u64 c.init, .int .u64 c.reorder, .int .u64 c.window, .int .u64 c.probe, .int .u64 c.loss] 24 (0, 0))] := (Own.pm (HH.out) (by with_reducible repeat (first | exact .refl _ | exact .nil _ | refine .here ?_ | refine .at2 ?_ | refine .at3 ?_ | refine .at4 ?_ | refine .at5 ?_ | refine .at6 ?_ | refine .at7 ?_ | refine .at8 ?_ | refine .skip ?_)))
  refine hK _ _ [pts g (.cells #[.int .u64 c.mss, .int .u64 c.init, .int .u64 c.reorder, .int .u64 c.window, .int .u64 c.probe, .int .u64 c.loss] 24 (0, 0))] HS (.inr ⟨rfl, fun _ h => h⟩) ?_
  clear hK K
  refine reg_p (i := 12) rfl (by kernel_rfl) (fun _ _ _ _ h => h) HS (fun K hK => ?_)
  go_simp
  (first | refine hK _ ?_ | (apply Exists.intro; refine ⟨?_, hK _ ?_⟩; focus intro wx; first | (go_simp; rfl) | rfl)); clear hK K
  refine reg_p (i := 13) rfl (by kernel_rfl) (fun _ _ _ _ h => h) HS (fun K hK => ?_)
  go_simp
  (first | refine hK _ ?_ | (apply Exists.intro; refine ⟨?_, hK _ ?_⟩; focus intro wx; first | (go_simp; rfl) | rfl)); clear hK K
  refine mixk_done (by kernel_rfl) (fun w10_ hk => ?_) _
  replace HH := Lib.hid (hk _ _ HH.out)
  clear hk
  go_wp2_with fail
  go_ret2
  have H9 := ((Own.pm (HH.out) (by with_reducible repeat (first | exact .refl _ | exact .nil _ | refine .here ?_ | refine .at2 ?_ | refine .at3 ?_ | refine .at4 ?_ | refine .at5 ?_ | refine .at6 ?_ | refine .at7 ?_ | refine .at8 ?_ | refine .skip ?_))) : Own ε _ (pts lb _ :: pip pb Pip.zero :: fil fb ⟨c.window, 0, true, []⟩ :: cyc rb Cyc.zero :: ctr kb Ctr.zero :: R))
  exact ⟨lb, pb, fb, rb, kb, rfl, H9⟩
def liveC : Cnf := ⟨1500, 10, 3, 10000000, 200000, 20⟩
def liveX : Evt := ⟨50000, 15000, 50000, 300000, 50000, false, true, 15000, 15000, 0, 0⟩
def liveE : Eng := (Eng.new liveC).on liveX
theorem live_told : liveC.right = true ∧ liveE.st = 0 ∧ liveE.cwnd = 30000 ∧ liveE.best = 300000 ∧ liveE.least = 50000 ∧ liveE.pace = 831000 ∧ liveE.quantum = 3000 := by
  refine ⟨?_, ?_, ?_, ?_, ?_, ?_, ?_⟩ <;> kernel_rfl
theorem live_okC : liveC.Ok := ⟨by decide, by decide, by decide, by decide, by decide, by decide⟩
theorem live_okX : liveX.Ok := ⟨by decide, by decide, by decide, by decide, by decide, by decide, by decide, by decide, by decide⟩
set_option maxRecDepth 100000 in
set_option maxHeartbeats 3200000 in
theorem alive15_c (H : Own ε w R) : Calls Tryz.prog 4 #[] w fun e w' => e = .returned (.bool true) ∧ Own ε w' R := by
  have HH := Lib.hid H; clear H
  have hE : liveE.Ok := Eng.ok_on (Eng.ok_new live_okC) live_okX
  obtain ⟨t1, t2, t3, t4, t5, t6, t7⟩ := live_told
  have hP : U liveE.pace := by rw [t6]; decide
  replace t1 := Lib.hid t1
  replace t2 := Lib.hid t2
  replace t3 := Lib.hid t3
  replace t4 := Lib.hid t4
  replace t5 := Lib.hid t5
  replace t6 := Lib.hid t6
  replace t7 := Lib.hid t7
  replace hE := Lib.hid hE
  replace hP := Lib.hid hP
  go_enter Tryz.func4, Tryz.ntmps4
  go_wp2_with fail
  refine (confDefault_c ε _ _ HH.out).mono ?_
  rintro e w11_ ⟨rfl, H9_⟩
  replace HH := Lib.hid H9_
  clear H9_
  go_wp2_with fail
  refine (engNew_c ε _ _ 0 liveC live_okC t1.out HH.out).mono ?_
  rintro e w12_ ⟨b, pb, fb, rb, kb, rfl, H9_⟩
  replace HH := Lib.hid H9_
  clear H9_
  go_wp2_with fail
  refine (engOn_c ε _ _ b pb fb rb kb (Eng.new liveC) (Eng.ok_new live_okC) liveX live_okX (Nat.zero_le _) HH.out).mono ?_
  rintro e w13_ ⟨rfl, H9_⟩
  replace HH := Lib.hid H9_
  clear H9_
  have H9 : Own ε _ (pts b (.cells #[.int .u64 liveE.c.mss, .int .u64 liveE.c.init, .int .u64 liveE.c.reorder, .int .u64 liveE.c.window, .int .u64 liveE.c.probe, .int .u64 liveE.c.loss, .pointer (some ⟨pb, 0, none⟩), .int .u64 liveE.bd.hi, .int .u64 liveE.bd.lo, .int .u64 liveE.bd.bw, .int .i64 liveE.st, .int .u64 liveE.since, .int .u64 liveE.rounds, .pointer (some ⟨fb, 0, none⟩), .pointer (some ⟨rb, 0, none⟩), .pointer (some ⟨kb, 0, none⟩), .int .u64 liveE.acked, .int .u64 liveE.lost, .int .u64 liveE.cwnd, .int .u64 liveE.kept, .int .u64 liveE.ended] 64 (0, 0)) :: pip pb liveE.p :: fil fb liveE.f :: cyc rb liveE.r :: ctr kb liveE.k :: R) := HH.out
  clear HH
  have HH := Lib.hid H9
  clear H9
  generalize liveE = s at t2 t3 t4 t5 t6 t7 hE hP HH
  go_wp2_with fail
  refine (engState_c ε _ _ b pb fb rb kb s HH.out).mono ?_
  rw [t2.out]
  rintro e w14_ ⟨rfl, hbel⟩
  replace HH := Lib.hid ((by first | exact .same hbel | exact .drew hbel | exact .below hbel : Kp _ w14_) _ _ (by first | exact HH.out | exact HH.out.drewN _ | exact (HH.out.alloc _).tail | exact ((HH.out.alloc _).drewN _).tail | exact ((HH.out.alloc _).alloc _).tail.tail))
  clear hbel
  go_wp2_with fail
  refine (engCwnd_c ε _ _ b pb fb rb kb s HH.out).mono ?_
  rw [t3.out]
  rintro e w15_ ⟨rfl, hbel⟩
  replace HH := Lib.hid ((by first | exact .same hbel | exact .drew hbel | exact .below hbel : Kp _ w15_) _ _ (by first | exact HH.out | exact HH.out.drewN _ | exact (HH.out.alloc _).tail | exact ((HH.out.alloc _).drewN _).tail | exact ((HH.out.alloc _).alloc _).tail.tail))
  clear hbel
  go_wp2_with fail
  refine (engBest_c ε _ _ b pb fb rb kb s hE.out HH.out).mono ?_
  rw [t4.out]
  rintro e w16_ ⟨rfl, H9_⟩
  replace HH := Lib.hid H9_
  clear H9_
  go_wp2_with fail
  refine (engLeast_c ε _ _ b pb fb rb kb s HH.out).mono ?_
  rw [t5.out]
  rintro e w17_ ⟨rfl, H9_⟩
  replace HH := Lib.hid H9_
  clear H9_
  go_wp2_with fail
  refine (engPace_c ε _ _ b pb fb rb kb s hE.out HH.out).mono ?_
  rw [t6.out]
  rintro e w18_ ⟨rfl, H9_⟩
  replace HH := Lib.hid H9_
  clear H9_
  go_wp2_with fail
  refine (engQuantum_c ε _ _ b pb fb rb kb s hE.out hP.out HH.out).mono ?_
  rw [t7.out]
  rintro e w19_ ⟨rfl, H9_⟩
  replace HH := Lib.hid H9_
  clear H9_
  go_wp2_with fail
  go_ret
  exact ⟨rfl, (Own.pm (HH.out) (by with_reducible repeat (first | exact .refl _ | exact .nil _ | refine .here ?_ | refine .at2 ?_ | refine .at3 ?_ | refine .at4 ?_ | refine .at5 ?_ | refine .at6 ?_ | refine .at7 ?_ | refine .at8 ?_ | refine .skip ?_)))⟩
end
end Go.Proofs.YtpfbbpiidhhkbaaGreat
