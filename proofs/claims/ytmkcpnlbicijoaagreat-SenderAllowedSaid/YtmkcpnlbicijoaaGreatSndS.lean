/- sender: packets that go, one by one, in plain words. -/
import Derived.Test.YtmkcpnlbicijoaaGreatSndI
import Derived.Test.YtmkcpnlbicijoaaGreatEngA
import Derived.Test.YtmkcpnlbicijoaaGreatRtt
namespace Go.Proofs.YtmkcpnlbicijoaaGreat
open Go.RowKit
abbrev sOb (kb lb tb sb eb pb : Nat) (s : Snd) : Obj := .cells #[.int .u64 s.c.mss, .int .u64 s.c.init, .int .u64 s.c.reorder, .int .u64 s.c.window, .int .u64 s.c.probe, .int .u64 s.c.loss, .pointer (some ⟨kb, 0, none⟩), .pointer (some ⟨lb, 0, none⟩), .pointer (some ⟨tb, 0, none⟩), .pointer (some ⟨sb, 0, none⟩), .pointer (some ⟨eb, 0, none⟩), .pointer (some ⟨pb, 0, none⟩), .int .u64 s.wait] 69 (0, 0)
abbrev sAll (b kb lb tb sb eb pb : Nat) (s : Snd) (R : List Asn) : List Asn := pts b (sOb kb lb tb sb eb pb s) :: clk kb s.k :: led lb s.l :: rtt tb s.t :: smp sb s.s :: eng eb s.e :: pac pb s.p :: R
def snd (b : Nat) (s : Snd) : Asn := exA fun q : Nat × Nat × Nat × Nat × Nat × Nat => sep (pts b (.cells #[.int .u64 s.c.mss, .int .u64 s.c.init, .int .u64 s.c.reorder, .int .u64 s.c.window, .int .u64 s.c.probe, .int .u64 s.c.loss, .pointer (some ⟨q.1, 0, none⟩), .pointer (some ⟨q.2.1, 0, none⟩), .pointer (some ⟨q.2.2.1, 0, none⟩), .pointer (some ⟨q.2.2.2.1, 0, none⟩), .pointer (some ⟨q.2.2.2.2.1, 0, none⟩), .pointer (some ⟨q.2.2.2.2.2, 0, none⟩), .int .u64 s.wait] 69 (0, 0)))
 (sep (clk q.1 s.k) (sep (led q.2.1 s.l) (sep (rtt q.2.2.1 s.t) (sep (smp q.2.2.2.1 s.s) (sep (eng q.2.2.2.2.1 s.e) (pac q.2.2.2.2.2 s.p))))))
section
variable {ε w : World} {R : List Asn} {b : Nat} {s : Snd}
end
section
variable (ε w : World) (R : List Asn) (b kb lb tb sb eb pb : Nat)
set_option maxRecDepth 100000 in
set_option maxHeartbeats 3200000 in
theorem sndSize_c (s : Snd) (c : Cnf) (N M : Nat) (h : s.In c N M) (hN : N ≤ 1000000) (H : Own ε w (sAll b kb lb tb sb eb pb s R)) :
  Calls Tryz.prog 43 #[.pointer (some ⟨b, 0, none⟩)] w fun e w' => e = .returned (.tuple #[.int .u64 s.n, .bool s.fits]) ∧ Own ε w' (sAll b kb lb tb sb eb pb s R) := by
 have HH := Lib.hid H; clear H
 have hr9 : s.l.row.length ≤ 1000000 := Nat.le_trans h.few hN
 have hok := h.row
 have hU1 := h.tot.2.2.2.2.1
 have hU2 : U s.n := by
  have h1 := h.tot.2.2.2.2.2
  have h2 := h.e.1.c.mss
  rw [h.e.2.1] at h2
  unfold Snd.n
  rw [h.c]
  unfold U at *
  omega
 obtain ⟨nn, hnn⟩ : ∃ nn, nn = s.n := ⟨_, rfl⟩
 have hn0 : min s.c.mss s.wait = nn := by rw [hnn]; rfl
 obtain ⟨fi, hfi⟩ : ∃ fi, fi = s.infl := ⟨_, rfl⟩
 have hf0 : bytesP (outs s.l.row) = fi := by rw [hfi]; rfl
 have hfit : s.fits = (decide (0 < nn) && decide (sadd fi nn ≤ s.e.cwnd)) := by rw [hnn, hfi]; rfl
 rw [← hnn, hfit]
 rw [← hnn] at hU2
 rw [← hfi] at hU1
 clear hnn hfi hfit h
 replace hr9 := Lib.hid hr9
 replace hok := Lib.hid hok
 replace hU1 := Lib.hid hU1
 replace hU2 := Lib.hid hU2
 replace hf0 := Lib.hid hf0
 have im := min_ite'
 by_cases hp : 0 < nn
 ·have d1 : decide (0 < nn) = true := decide_eq_true hp
  rw [d1]
  obtain ⟨dd, hdd⟩ : ∃ dd, dd = decide (sadd fi nn ≤ s.e.cwnd) := ⟨_, rfl⟩
  rw [← hdd]
  go_enter Tryz.func43, Tryz.ntmps43
  go_wp2_with fail
  refine wp_region_reg none HH.out (by kernel_rfl) ?_
  intro wm H9_
  replace HH := Lib.hid H9_
  clear H9_
  refine reg_s 0 HH.out ?_
  refine reg_s 1 HH.out ?_
  refine reg_s 2 HH.out ?_
  refine reg_s 3 HH.out ?_
  refine mixk_s 4 HH.out (fun _ hx => hx.cells) ?_
  refine reg_s 5 HH.out ?_
  refine reg_s 6 HH.out ?_
  refine reg_s 7 HH.out ?_
  refine mixk_s 8 HH.out (fun _ hx => hx.cells) ?_
  refine reg_s 9 HH.out ?_
  refine reg_s 10 HH.out ?_
  refine mixk_done (by kernel_rfl) (fun w1_ hk => ?_) _
  replace HH := Lib.hid (hk _ _ HH.out)
  clear hk
  go_wp2_with fail
  refine wp_region_reg none HH.out (by kernel_rfl) ?_
  intro wm H9_
  replace HH := Lib.hid H9_
  clear H9_
  refine reg_s 0 HH.out ?_
  refine reg_s 1 HH.out ?_
  refine reg_s 2 HH.out ?_
  refine reg_s 3 HH.out ?_
  refine reg_s 4 HH.out ?_
  refine reg_s 5 HH.out ?_
  refine reg_s 6 HH.out ?_
  refine mixk_s 7 HH.out (fun _ hx => hx.cells) ?_
  refine reg_s 9 HH.out ?_
  refine reg_s 12 HH.out ?_
  refine reg_s 13 HH.out ?_
  refine reg_s 14 HH.out ?_
  refine mixk_s 15 HH.out (fun _ hx => hx.cells) ?_
  refine reg_l none (i := 8) rfl (by kernel_rfl) (fun wn hk K hK => ?_)
  replace HH := Lib.hid (hk _ _ HH.out)
  clear hk
  go_simp
  refine (ledInFlight_c ε wn _ lb s.l hr9.out hok.out HH.out.r3).mono ?_
  rw [hf0.out]
  rintro e wm ⟨rfl, H9_⟩
  replace HH := Lib.hid H9_
  clear H9_
  refine hK _ _ _ HH.out (.inr ⟨rfl, fun _ h => h.pn⟩) ?_
  clear hK K
  refine reg_l none (i := 10) rfl (by kernel_rfl) (fun wn hk K hK => ?_)
  replace HH := Lib.hid (hk _ _ HH.out)
  clear hk
  go_simp
  replace HH := Lib.hid (HH.out.alloc (.cells #[.int .u64 fi, .int .u64 nn] 22))
  generalize wn.alloc (.cells #[.int .u64 fi, .int .u64 nn] 22) = wm at *
  generalize wn.heap.size = xb at *
  refine hK _ _ _ HH.out (.inr ⟨rfl, fun _ h => h.tail⟩) ?_
  clear hK K
  refine reg_l none (i := 11) rfl (by kernel_rfl) (fun wn hk K hK => ?_)
  replace HH := Lib.hid (hk _ _ HH.out)
  clear hk
  go_simp
  refine (fixAdd2_c wn xb fi nn hU1.out hU2.out (HH.out.cells.1 0) (HH.out.cells.1 1)).mono ?_
  rintro e wm ⟨rfl, hbel⟩
  replace HH := Lib.hid ((by first | exact .same hbel | exact .drew hbel | exact .below hbel : Kp wn wm) _ _ HH.out)
  clear hbel
  refine hK _ _ _ HH.out (.inr ⟨rfl, fun _ h => h⟩) ?_
  clear hK K
  refine mixk_q (i := 16) rfl (by kernel_rfl) (fun _ _ _ _ h => h) HH.out (fun K hK => ?_)
  go_simp
  (first | refine hK _ ?_ | (apply Exists.intro; refine ⟨?_, hK _ ?_⟩; focus intro wx hx; first | (first | (go_at_call 15; refine (engCwndA_c ε wx _ eb s.e (hx.pn : Own ε wx (eng eb s.e :: R))).mono ?_; rintro e wy ⟨rfl, hbel⟩; exact ⟨rfl, (by first | exact .same hbel | exact .drew hbel | exact .below hbel : Kp wx wy)⟩)) | (go_simp; first | rfl | exact ⟨rfl, rfl⟩) | rfl | exact ⟨rfl, rfl⟩)); clear hK K
  refine reg_s 17 HH.out ?_
  refine reg_s 18 HH.out ?_
  refine reg_s 19 HH.out ?_
  refine reg_s 20 HH.out ?_
  refine mixk_done (by kernel_rfl) (fun w2_ hk => ?_) _
  replace HH := Lib.hid (hk _ _ HH.out)
  clear hk
  go_wp2_with fail
  go_ret2
  exact ⟨by rw [hdd]; simp, HH.out.pn⟩
 ·have d1 : decide (0 < nn) = false := decide_eq_false hp
  rw [d1]
  go_enter Tryz.func43, Tryz.ntmps43
  go_wp2_with fail
  refine wp_region_reg none HH.out (by kernel_rfl) ?_
  intro wm H9_
  replace HH := Lib.hid H9_
  clear H9_
  refine reg_s 0 HH.out ?_
  refine reg_s 1 HH.out ?_
  refine reg_s 2 HH.out ?_
  refine reg_s 3 HH.out ?_
  refine mixk_s 4 HH.out (fun _ hx => hx.cells) ?_
  refine reg_s 5 HH.out ?_
  refine reg_s 6 HH.out ?_
  refine reg_s 7 HH.out ?_
  refine mixk_s 8 HH.out (fun _ hx => hx.cells) ?_
  refine reg_s 9 HH.out ?_
  refine reg_s 10 HH.out ?_
  refine mixk_done (by kernel_rfl) (fun w3_ hk => ?_) _
  replace HH := Lib.hid (hk _ _ HH.out)
  clear hk
  go_wp2_with fail
  refine wp_region_reg none HH.out (by kernel_rfl) ?_
  intro wm H9_
  replace HH := Lib.hid H9_
  clear H9_
  refine reg_s 0 HH.out ?_
  refine reg_s 1 HH.out ?_
  refine reg_s 2 HH.out ?_
  refine reg_s 3 HH.out ?_
  refine reg_s 4 HH.out ?_
  refine reg_s 5 HH.out ?_
  refine reg_s 6 HH.out ?_
  refine mixk_s 7 HH.out (fun _ hx => hx.cells) ?_
  refine reg_s 9 HH.out ?_
  refine reg_s 12 HH.out ?_
  refine reg_s 13 HH.out ?_
  refine reg_s 14 HH.out ?_
  refine mixk_s 15 HH.out (fun _ hx => hx.cells) ?_
  refine reg_l none (i := 8) rfl (by kernel_rfl) (fun wn hk K hK => ?_)
  replace HH := Lib.hid (hk _ _ HH.out)
  clear hk
  go_simp
  refine hK _ _ _ HH.out (.inr ⟨rfl, fun _ h => h⟩) ?_
  clear hK K
  refine reg_l none (i := 10) rfl (by kernel_rfl) (fun wn hk K hK => ?_)
  replace HH := Lib.hid (hk _ _ HH.out)
  clear hk
  go_simp
  refine hK _ _ _ HH.out (.inr ⟨rfl, fun _ h => h⟩) ?_
  clear hK K
  refine reg_l none (i := 11) rfl (by kernel_rfl) (fun wn hk K hK => ?_)
  replace HH := Lib.hid (hk _ _ HH.out)
  clear hk
  go_simp
  refine hK _ _ _ HH.out (.inr ⟨rfl, fun _ h => h⟩) ?_
  clear hK K
  refine mixk_q (i := 16) rfl (by kernel_rfl) (fun _ _ _ _ h => h) HH.out (fun K hK => ?_)
  go_simp
  (first | refine hK _ ?_ | (apply Exists.intro; refine ⟨?_, hK _ ?_⟩; focus intro wx hx; first | (first | (go_at_call 15; refine (engCwndA_c ε wx _ eb s.e (hx.pn : Own ε wx (eng eb s.e :: R))).mono ?_; rintro e wy ⟨rfl, hbel⟩; exact ⟨rfl, (by first | exact .same hbel | exact .drew hbel | exact .below hbel : Kp wx wy)⟩)) | (go_simp; first | rfl | exact ⟨rfl, rfl⟩) | rfl | exact ⟨rfl, rfl⟩)); clear hK K
  refine reg_s 17 HH.out ?_
  refine reg_s 18 HH.out ?_
  refine reg_s 19 HH.out ?_
  refine reg_s 20 HH.out ?_
  refine mixk_done (by kernel_rfl) (fun w4_ hk => ?_) _
  replace HH := Lib.hid (hk _ _ HH.out)
  clear hk
  go_wp2_with fail
  go_ret2
  exact ⟨rfl, HH.out.pn⟩
end
end Go.Proofs.YtmkcpnlbicijoaaGreat
namespace Go.Proofs.YtmkcpnlbicijoaaGreat
open Go.RowKit
section
variable (ε w : World) (R : List Asn) (b kb lb tb sb eb pb : Nat)
set_option maxRecDepth 100000 in
set_option maxHeartbeats 1600000 in
theorem sndBytes_c (A : Option Addr) (n cap : Nat) (l : List Pk) (hl : ∀ p ∈ l, p.Ok) (hA : ∀ wx, Own ε wx R → pkAt wx A n l) (hn : n ≤ 1000000) (H : Own ε w R) :
  Calls Tryz.prog 52 #[.slice A n cap] w fun e w' => e = .returned (.int .u64 (bytesP l)) ∧ Own ε w' R := by
 have HH := Lib.hid H; clear H
 have hln : l.length = n := (hA w HH.out).1
 replace hA := Lib.hid hA
 replace hl := Lib.hid hl
 replace hln := Lib.hid hln
 replace hn := Lib.hid hn
 go_enter Tryz.func52, Tryz.ntmps52
 go_wp2_with fail
 go_loopw [3, 8] (fun t i wr => ∃ k : Nat, k ≤ n ∧ i = .int .i64 k ∧ t = .int .u64 (bytesP (l.take k)) ∧ U (bytesP (l.take k)) ∧ Own ε wr R) (fun _ i _ => n - (intOf i).toNat)
 case atStart => exact ⟨0, Nat.zero_le _, rfl, rfl, U_zero, HH.out⟩
 case round =>
  clear HH
  obtain ⟨k, hk, rfl, rfl, hu, HR⟩ := hrel
  have HH := Lib.hid HR
  clear HR
  by_cases hlt : k < n
  ·obtain ⟨g, off, p, rfl, hp, y0_, y1_, y2_, y3_, y4_, y5_, y6_⟩ := (hA.out _ HH.out).cells hlt
   have hps := (hl.out p (List.mem_of_getElem? hp)).2.1
   have e1 := bytesP_next hp
   obtain ⟨t, ht⟩ : ∃ t, t = bytesP (l.take k) := ⟨_, rfl⟩
   rw [← ht] at e1 hu ⊢
   clear ht
   obtain ⟨pn, ps, p3, p4, p5, p6, p7⟩ := p
   replace hp := Lib.hid hp
   replace e1 := Lib.hid e1
   have hlti : (k : Int) < (n : Int) := by omega
   have hk9 : k ≤ 1000000 := Nat.le_trans hk hn.out
   go_wp2_with (with_reducible refine stop_al ?_)
   refine Stop.go ?_
   refine wpList_alloc_own HH.out [.int .u64 0, .int .u64 0, .int .u64 0, .int .u64 0, .int .u64 0, .int .u64 0, .bool false] (by kernel_rfl) ?_
   intro xb w1_ H9_
   replace HH := Lib.hid H9_
   clear H9_
   go_wp2_with (with_reducible refine stop_st ?_)
   refine Stop.go ?_
   refine wpList_store_own _ #[_, _, _, _, _, _, _] rfl rfl HH.out (by kernel_rfl) rfl (by repeat (first | (refine List.forall_mem_cons.2 ⟨(by first | with_reducible assumption | rfl), ?_⟩) | exact fun _ h => absurd h List.not_mem_nil)) ?_
   intro w2_ H9_
   replace HH := Lib.hid H9_
   clear H9_
   clear y0_ y1_ y2_ y3_ y4_ y5_ y6_
   (try clear cc1_); (try clear cc2_)
   have cc1_ := HH.out.cells
   go_wp2_with (with_reducible refine stop_bs ?_)
   refine Stop.go ?_
   refine wpList_bsv_own HH.out [.int .u64 t, .int .u64 ps] 1 8 [.int .u64 0] Tryz.underlying141 (by kernel_rfl) (by kernel_rfl) (by decide) (by decide) (by kernel_rfl) ?_
   intro g1 w3_ H9_
   replace HH := Lib.hid H9_
   clear H9_
   go_wp2_with fail
   refine (fixAdd2_c _ g1 t ps hu hps (HH.out.cells.1 0) (HH.out.cells.1 1)).mono ?_
   rintro e w4_ ⟨rfl, hbel⟩
   replace HH := Lib.hid ((by first | exact .same hbel | exact .drew hbel | exact .below hbel : Kp _ w4_) _ _ (by first | exact HH.out | exact HH.out.drewN _ | exact (HH.out.alloc _).tail | exact ((HH.out.alloc _).drewN _).tail | exact ((HH.out.alloc _).alloc _).tail.tail))
   clear hbel
   go_wp2_with fail
   go_roundw
   case rel => exact ⟨k + 1, by omega, by go_num, by rw [e1.out], by rw [e1.out]; exact U_sadd hu hps, HH.out.tail.tail⟩
   case measure => simp [intOf]; omega
  ·have hkn : ¬ (k : Int) < (n : Int) := by omega
   obtain rfl : k = n := by omega
   have e9 : bytesP (l.take k) = bytesP l := by rw [← hln.out, List.take_length]
   replace e9 := Lib.hid e9
   go_wp2_with fail
   go_ret
   exact ⟨by rw [← e9.out]; rfl, HH.out⟩
theorem pk_at {ε w : World} {R : List Asn} {A : Option Addr} {n cap : Nat} {l : List Pk} (H : Own ε w (slcP (.slice A n cap) l :: R)) : pkAt w A n l := by
 obtain ⟨_, _, _, e, _, _, h⟩ := H.slcP_val
 cases e
 exact h
set_option maxRecDepth 100000 in
set_option maxHeartbeats 6400000 in
theorem sndLosses_c (s : Snd) (c : Cnf) (N M : Nat) (h : s.In c N M) (hN : N ≤ 1000000) (H : Own ε w (sAll b kb lb tb sb eb pb s R)) :
  Calls Tryz.prog 37 #[.pointer (some ⟨b, 0, none⟩)] w fun e w' => e = .returned (.tuple #[.int .u64 (bytesP s.gone), .bool (!s.gone.isEmpty)]) ∧ Own ε w' (pts b (.cells #[.int .u64 s.lose.c.mss, .int .u64 s.lose.c.init, .int .u64 s.lose.c.reorder, .int .u64 s.lose.c.window, .int .u64 s.lose.c.probe, .int .u64 s.lose.c.loss, .pointer (some ⟨kb, 0, none⟩), .pointer (some ⟨lb, 0, none⟩), .pointer (some ⟨tb, 0, none⟩), .pointer (some ⟨sb, 0, none⟩), .pointer (some ⟨eb, 0, none⟩), .pointer (some ⟨pb, 0, none⟩), .int .u64 s.lose.wait] 69 (0, 0)) :: clk kb (s.lose.k) :: led lb (s.lose.l) :: rtt tb (s.lose.t) :: smp sb (s.lose.s) :: eng eb (s.lose.e) :: pac pb (s.lose.p) :: R) := by
 have HH := Lib.hid H; clear H
 have hr9 : s.l.row.length ≤ 1000000 := Nat.le_trans h.few hN
 have hok := h.row
 have ht := h.t
 have hd := Rtt.U_delay ht
 have hli := Rtt.U_limit ht
 have hre := h.re
 have hUw := h.tot.2.2.2.2.2
 obtain ⟨g1, _, _, g4, _⟩ := h.goneOk
 have hleft : s.left.row.length ≤ 1000000 := Nat.le_trans (take_len _ _) hr9
 have hgl : s.gone.length ≤ 1000000 := Nat.le_trans (taken_len _ _) hr9
 clear h hN
 obtain ⟨q, hq⟩ : ∃ q, q = s.lose := ⟨_, rfl⟩
 rw [← hq]
 obtain ⟨tk, htk⟩ : ∃ tk, tk = s.gone := ⟨_, rfl⟩
 obtain ⟨lf, hlf⟩ : ∃ lf, lf = s.left := ⟨_, rfl⟩
 have hlo : s.l.lost s.k.t s.t.delay s.t.limit = (tk, lf) := by rw [htk, hlf]; rfl
 rw [← htk] at g1 g4 hgl ⊢
 rw [← hlf] at hleft
 have hq2 : q = { s with l := lf, wait := sadd s.wait (bytesP tk), t := if (!tk.isEmpty && (outs lf.row).isEmpty) = true then s.t.double else s.t } := by rw [hq, htk, hlf]; rfl
 clear hq htk hlf
 obtain ⟨by', hby⟩ : ∃ y, y = bytesP tk := ⟨_, rfl⟩
 rw [← hby] at g4 hq2 ⊢
 replace hby := Lib.hid hby
 replace hr9 := Lib.hid hr9
 replace hok := Lib.hid hok
 replace ht := Lib.hid ht
 replace hd := Lib.hid hd
 replace hli := Lib.hid hli
 replace hre := Lib.hid hre
 replace hUw := Lib.hid hUw
 replace g1 := Lib.hid g1
 replace g4 := Lib.hid g4
 replace hleft := Lib.hid hleft
 replace hlo := Lib.hid hlo
 replace hq2 := Lib.hid hq2
 go_enter Tryz.func37, Tryz.ntmps37
 go_wp2_with fail
 refine wp_region_reg (some 19) HH.out (by kernel_rfl) ?_
 intro wm H9_
 replace HH := Lib.hid H9_
 clear H9_
 refine reg_s 0 HH.out ?_
 refine reg_s 1 HH.out ?_
 refine reg_s 2 HH.out ?_
 refine mixk_s 3 HH.out (fun _ hx => hx.cells) ?_
 refine reg_s 4 HH.out ?_
 refine reg_s 5 HH.out ?_
 refine reg_s 6 HH.out ?_
 refine mixk_s 7 HH.out (fun _ hx => hx.cells) ?_
 refine mixk_q (i := 8) rfl (by kernel_rfl) (fun _ _ _ _ h => h) HH.out (fun K hK => ?_)
 go_simp
 (first | refine hK _ ?_ | (apply Exists.intro; refine ⟨?_, hK _ ?_⟩; focus intro wx hx; first | (first | (go_at_call 32; refine (clkTime_c ε wx _ kb s.k (hx.pn : Own ε wx (clk kb s.k :: R))).mono ?_; rintro e wy ⟨rfl, hbel⟩; exact ⟨rfl, (by first | exact .same hbel | exact .drew hbel | exact .below hbel : Kp wx wy)⟩)) | (go_simp; first | rfl | exact ⟨rfl, rfl⟩) | rfl | exact ⟨rfl, rfl⟩)); clear hK K
 refine reg_s 9 HH.out ?_
 refine reg_s 10 HH.out ?_
 refine reg_s 11 HH.out ?_
 refine mixk_s 12 HH.out (fun _ hx => hx.cells) ?_
 refine reg_s 14 HH.out ?_
 refine reg_s 15 HH.out ?_
 refine reg_s 16 HH.out ?_
 refine mixk_s 17 HH.out (fun _ hx => hx.cells) ?_
 refine reg_l (some 19) (i := 13) rfl (by kernel_rfl) (fun wn hk K hK => ?_)
 replace HH := Lib.hid (hk _ _ HH.out)
 clear hk
 go_simp
 refine (rttDelay_c ε wn _ tb s.t ht.out HH.out.r4).mono ?_
 rintro e wm ⟨rfl, H9_⟩
 replace HH := Lib.hid H9_
 clear H9_
 refine hK _ _ _ HH.out (.inr ⟨rfl, fun _ h => h.pn⟩) ?_
 clear hK K
 refine reg_l (some 19) (i := 18) rfl (by kernel_rfl) (fun wn hk K hK => ?_)
 replace HH := Lib.hid (hk _ _ HH.out)
 clear hk
 go_simp
 refine (rttLimit_c ε wn _ tb s.t ht.out HH.out).mono ?_
 rintro e wm ⟨rfl, H9_⟩
 replace HH := Lib.hid H9_
 clear H9_
 refine hK _ _ _ HH.out (.inr ⟨rfl, fun _ h => h.pn⟩) ?_
 clear hK K
 refine reg_l none (i := 19) rfl (by kernel_rfl) (fun wn hk K hK => ?_)
 replace HH := Lib.hid (hk _ _ HH.out)
 clear hk
 go_simp
 refine (ledLost_c ε wn _ lb s.l hr9.out hok.out s.k.t s.t.delay s.t.limit hd.out hli.out hre.out HH.out.r4).mono ?_
 rw [hlo.out]
 rintro e wm ⟨v, rfl, H9_⟩
 replace HH := Lib.hid H9_
 clear H9_
 refine hK _ _ _ HH.out (.inl (by kernel_rfl)) ?_
 clear hK K
 refine reg_s 20 HH.out ?_
 refine mixk_done (by kernel_rfl) (fun w5_ hk => ?_) _
 replace HH := Lib.hid (hk _ _ HH.out)
 clear hk
 have HZ := show Own ε _ (slcP v tk :: led lb lf :: _) from HH.out
 replace HH := Lib.hid (HZ.pn : Own ε _ (slcP v tk :: pts b (sOb kb lb tb sb eb pb s) :: clk kb s.k :: led lb lf :: rtt tb s.t :: smp sb s.s :: eng eb s.e :: pac pb s.p :: R))
 clear HZ
 obtain ⟨A1, n1, c1, rfl, _, _, hpk⟩ := HH.out.slcP_val
 have hln : tk.length = n1 := hpk.1
 clear hpk
 go_wp2_with fail
 refine (sndBytes_c ε _ _ A1 n1 c1 tk g1.out (fun wx Hx => pk_at Hx) (by omega) HH.out).mono ?_
 rw [← hby.out]
 rintro e w6_ ⟨rfl, H9_⟩
 replace HH := Lib.hid H9_
 clear H9_
 replace hgl := Lib.hid hgl
 (try clear cc1_); (try clear cc2_)
 have cc2_ := HH.out.r2.cells
 go_wp2_with (with_reducible refine stop_bs ?_)
 refine Stop.go ?_
 refine wpList_bsv_own HH.out [.int .u64 s.wait, .int .u64 by'] 1 8 [.int .u64 0] Tryz.underlying141 (by kernel_rfl) (by kernel_rfl) (by decide) (by decide) (by kernel_rfl) ?_
 intro g1 w7_ H9_
 replace HH := Lib.hid H9_
 clear H9_
 go_wp2_with fail
 refine (fixAdd2_c _ g1 s.wait by' hUw.out g4.out (HH.out.cells.1 0) (HH.out.cells.1 1)).mono ?_
 rintro e w8_ ⟨rfl, hbel⟩
 replace HH := Lib.hid ((by first | exact .same hbel | exact .drew hbel | exact .below hbel : Kp _ w8_) _ _ (by first | exact HH.out | exact HH.out.drewN _ | exact (HH.out.alloc _).tail | exact ((HH.out.alloc _).drewN _).tail | exact ((HH.out.alloc _).alloc _).tail.tail))
 clear hbel
 replace HH := Lib.hid HH.out.tail
 (try clear cc1_); (try clear cc2_)
 have cc2_ := HH.out.r2.cells
 go_wp2_with (with_reducible refine stop_st ?_)
 refine Stop.go ?_
 refine wpList_store1_own (v := .int .u64 (sadd s.wait by')) (k := 12) rfl rfl HH.out.r2 (by kernel_rfl) (by simp) (by first | rfl | assumption) ?_
 intro w9_ H9_
 replace HH := Lib.hid H9_
 clear H9_
 simp only [List.setIfInBounds_toArray, List.set_cons_succ, List.set_cons_zero] at HH
 cases tk with
 | nil =>
  obtain rfl : n1 = 0 := hln.symm
  have hq3 : q = { s with l := lf, wait := sadd s.wait by' } := by rw [hq2.out]; rfl
  (try clear cc1_); (try clear cc2_)
  have cc1_ := HH.out.cells
  go_wp2_with fail
  go_ret2
  have HZ := HH.out
  rw [hq3]
  exact ⟨rfl, HZ.pn⟩
 | cons p0 tk =>
  have hn0 : (0 : Int) < (n1 : Int) := by
   simp only [List.length_cons] at hln
   omega
  clear hln
  obtain ⟨ou, hou⟩ : ∃ ou, ou = outs lf.row := ⟨_, rfl⟩
  replace hou := Lib.hid hou
  (try clear cc1_); (try clear cc2_)
  have cc1_ := HH.out.cells
  go_wp2_with fail
  refine (ledOut_c ε _ _ lb 0 lf hleft.out (HH.out.pn : Own ε _ (led lb lf :: pts b (.cells #[.int .u64 s.c.mss, .int .u64 s.c.init, .int .u64 s.c.reorder, .int .u64 s.c.window, .int .u64 s.c.probe, .int .u64 s.c.loss, .pointer (some ⟨kb, 0, none⟩), .pointer (some ⟨lb, 0, none⟩), .pointer (some ⟨tb, 0, none⟩), .pointer (some ⟨sb, 0, none⟩), .pointer (some ⟨eb, 0, none⟩), .pointer (some ⟨pb, 0, none⟩), .int .u64 (sadd s.wait by')] 69 (0, 0)) :: slcP (.slice A1 n1 c1) (p0 :: tk) :: clk kb s.k :: rtt tb s.t :: smp sb s.s :: eng eb s.e :: pac pb s.p :: R))).mono ?_
  rintro e w10_ ⟨v2, rfl, H9_⟩
  replace HH := Lib.hid H9_
  clear H9_
  rw [← hou.out] at HH
  obtain ⟨A2, n2, c2, rfl, _, _, hpk⟩ := HH.out.slcP_val
  have hln2 : ou.length = n2 := hpk.1
  clear hpk
  replace HH := Lib.hid (HH.out.pn : Own ε _ (rtt tb s.t :: pts b (.cells #[.int .u64 s.c.mss, .int .u64 s.c.init, .int .u64 s.c.reorder, .int .u64 s.c.window, .int .u64 s.c.probe, .int .u64 s.c.loss, .pointer (some ⟨kb, 0, none⟩), .pointer (some ⟨lb, 0, none⟩), .pointer (some ⟨tb, 0, none⟩), .pointer (some ⟨sb, 0, none⟩), .pointer (some ⟨eb, 0, none⟩), .pointer (some ⟨pb, 0, none⟩), .int .u64 (sadd s.wait by')] 69 (0, 0)) :: led lb lf :: slcP (.slice A1 n1 c1) (p0 :: tk) :: clk kb s.k :: smp sb s.s :: eng eb s.e :: pac pb s.p :: R))
  cases ou with
  | nil =>
   obtain rfl : n2 = 0 := hln2.symm
   have hq3 : q = { s with l := lf, wait := sadd s.wait by', t := s.t.double } := by rw [hq2.out, ← hou.out]; rfl
   (try clear cc1_); (try clear cc2_)
   have cc2_ := HH.out.r2.cells
   go_wp2_with fail
   refine (rttDouble_c ε _ _ tb s.t ht.out HH.out).mono ?_
   rintro e w11_ ⟨rfl, H9_⟩
   replace HH := Lib.hid H9_
   clear H9_
   go_wp2_with fail
   go_ret2
   have HZ := HH.out
   rw [hq3]
   exact ⟨rfl, HZ.pn⟩
  | cons p1 ou =>
   have hn2 : ¬ n2 = 0 := by
    simp only [List.length_cons] at hln2
    omega
   have hn3 : ((n2 : Int) == 0) = false := by simpa using hn2
   clear hln2
   have hq3 : q = { s with l := lf, wait := sadd s.wait by' } := by rw [hq2.out, ← hou.out]; rfl
   (try clear cc1_); (try clear cc2_)
   have cc2_ := HH.out.r2.cells
   go_wp2_with fail
   go_ret2
   have HZ := HH.out
   rw [hq3]
   exact ⟨rfl, HZ.pn⟩
end
end Go.Proofs.YtmkcpnlbicijoaaGreat
namespace Go.Proofs.YtmkcpnlbicijoaaGreat
structure SentIn (c : Cnf) (N M : Nat) (s0 : Snd) (l : List Pk) (s : Snd) : Prop where
 inn : s.In c (N + l.length) M
 k : s.k = s0.k
 e : s.e = s0.e
 qu : s.p.qu = s0.p.qu
 rate : s.p.rate = s0.p.rate
 pnow : s.p.now = s0.p.now
 all : s.all = s0.all
 next : s.l.next = s0.l.next + (l.length : Int)
 wait : s.wait + total l = s0.wait
 cr : s.p.cr + 1000000 * total l = s0.p.cr
 each : ∀ (i : Nat) (p : Pk), l[i]? = some p → p.n = s0.l.next + (i : Int) ∧ 0 < p.size ∧ p.size ≤ c.mss ∧ p.sent = s0.k.t
 cwnd : l ≠ [] → s.infl ≤ s.e.cwnd
 few : (l.length : Int) * c.mss ≤ total l ∨ (s.wait = 0 ∧ ((l.length : Int) - 1) * c.mss ≤ total l)
section
variable {c : Cnf} {N M : Nat} {s0 s : Snd} {l : List Pk}
theorem can_n (h : s.can = true) : 0 < s.n ∧ sadd s.infl s.n ≤ s.e.cwnd ∧ (s.p.take s.n).1 = true := by
 unfold Snd.can Snd.fits at h
 simp only [Bool.and_eq_true, decide_eq_true_eq] at h
 exact ⟨h.1.1, h.1.2, h.2⟩
theorem Snd.In.pk (h : s.In c N M) (hN : N ≤ 100000000) (hc : s.can = true) (hr : c.right = true) : s.pk.Ok ∧ 0 < s.n ∧ s.n ≤ c.mss ∧ s.n ≤ s.wait := by
 have hm := Cnf.right_in hr
 obtain ⟨h1, _, _⟩ := can_n hc
 have h2 : s.n ≤ c.mss := by unfold Snd.n; rw [h.c]; omega
 have h3 : s.n ≤ s.wait := by unfold Snd.n; omega
 have hn := h.n0
 have hk := h.k
 have hst := Smp.ok_stamp h.s (now := s.k.t) (n := s.infl) (by unfold Clk.Ok at hk; unfold U; omega)
 refine ⟨⟨?_, ?_, ?_, hst.first, h.s.d, hst.at'⟩, h1, h2, h3⟩
 ·have := h.nN
  show U s.l.next
  unfold U; omega
 ·show U s.n; unfold U; omega
 ·show U s.k.t; unfold Clk.Ok at hk; unfold U; omega
theorem outs_snoc (l : List En) (eb : Nat) (p : Pk) : outs (l ++ [⟨eb, p, true⟩]) = outs l ++ [p] := by unfold outs; simp
theorem take_yes {p : Pac} {n : Int} (h : (p.take n).1 = true) : (p.take n).2 = { p with cr := p.cr - smul n 1000000 } ∧ smul n 1000000 ≤ p.cr := by
 unfold Pac.take at h ⊢
 split at h
 ·cases h
 ·rename_i q
  rw [if_neg q]
  exact ⟨rfl, by omega⟩
theorem SentIn.more (hr : c.right = true) (hN : N + l.length ≤ 100000000) (ih : SentIn c N M s0 l s) (hcan : s.can = true) (eb : Nat) : SentIn c N M s0 (l ++ [s.pk]) (s.go eb) := by
 have hm := Cnf.right_in hr
 obtain ⟨hpk, h1, h2, h3⟩ := ih.inn.pk hN hcan hr
 obtain ⟨_, h4, h5⟩ := can_n hcan
 obtain ⟨h6, h7⟩ := take_yes h5
 have h8 : smul s.n 1000000 = s.n * 1000000 := smul_in (by omega)
 rw [h8] at h6 h7
 have hi := ih.inn
 have hk := hi.k
 have hUn : U s.n := hpk.2.1
 have hlen : ((l ++ [s.pk]).length : Int) = (l.length : Int) + 1 := by simp
 have ho : outs (s.go eb).l.row = outs s.l.row ++ [s.pk] := outs_snoc _ _ _
 have htot : total [s.pk] = s.n := by simp [total, Snd.pk]
 have hall : (s.go eb).all = s.all := by
  unfold Snd.all
  rw [ho, total_app, htot]
  show s.wait - s.n + _ = _
  omega
 have hp : (s.go eb).p = { s.p with cr := s.p.cr - s.n * 1000000 } := h6
 have hw0 := hi.w
 refine { inn := { c := hi.c, k := hi.k, re := hi.re, row := ?_, few := ?_, n0 := ?_, nN := ?_, t := hi.t, s := ?_, e := hi.e, cw := hi.cw, p := ?_, pn := ?_, cr := ?_, qu := ?_, w := ?_, all := ?_ }, k := ih.k, e := ih.e, qu := ?_, rate := ?_, pnow := ?_, all := hall.trans ih.all, next := ?_, wait := ?_, cr := ?_, each := ?_, cwnd := ?_, few := ?_ }
 ·intro e he
  rcases List.mem_append.1 he with he | he
  ·exact hi.row e he
  ·rw [List.mem_singleton.1 he]; exact hpk
 ·have := hi.few
  show (s.l.row ++ [_]).length ≤ _
  rw [List.length_append, List.length_append]
  simp only [List.length_singleton]
  omega
 ·have := hi.n0
  show 0 ≤ s.l.next + 1
  omega
 ·have := hi.nN
  show s.l.next + 1 ≤ _
  rw [List.length_append]
  simp only [List.length_singleton]
  omega
 ·exact Smp.ok_stamp hi.s (by unfold Clk.Ok at hk; unfold U; omega)
 ·exact Pac.ok_take hi.p hUn
 ·rw [hp]; exact hi.pn
 ·rw [hp]
  have := hi.cr
  simp only
  omega
 ·rw [hp]; exact hi.qu
 ·show 0 ≤ s.wait - s.n; omega
 ·rw [hall]; exact hi.all
 ·rw [hp]; exact ih.qu
 ·rw [hp]; exact ih.rate
 ·rw [hp]; exact ih.pnow
 ·rw [hlen]
  have := ih.next
  show s.l.next + 1 = _
  omega
 ·rw [total_app, htot]
  have := ih.wait
  show s.wait - s.n + _ = _
  omega
 ·rw [total_app, htot, hp]
  have := ih.cr
  simp only
  omega
 ·intro i p hip
  rcases Nat.lt_or_ge i l.length with hlt | hge
  ·exact ih.each i p (by rwa [List.getElem?_append_left hlt] at hip)
  ·rw [List.getElem?_append_right hge] at hip
   have h0 : i - l.length = 0 := by
    rcases Nat.eq_zero_or_pos (i - l.length) with q | q
    ·exact q
    ·rw [List.getElem?_eq_none (by simp; omega)] at hip; cases hip
   rw [h0] at hip
   obtain rfl := (Option.some.inj hip).symm
   refine ⟨?_, h1, h2, ?_⟩
   ·show s.l.next = _
    rw [ih.next]; omega
   ·show s.k.t = _
    rw [ih.k]
 ·intro _
  unfold Snd.infl
  rw [ho, bytesP_snoc]
  exact h4
 ·rcases ih.few with hf | ⟨hf, _⟩
  ·rw [hlen, total_app, htot]
   by_cases he : s.n = c.mss
   ·left
    rw [Int.add_mul, Int.one_mul]
    omega
   ·right
    have hne : s.n = s.wait := by
     unfold Snd.n at he ⊢
     rw [hi.c] at he ⊢
     omega
    refine ⟨by show s.wait - s.n = 0; omega, ?_⟩
    rw [show (l.length : Int) + 1 - 1 = (l.length : Int) by omega]
    omega
  ·omega
theorem SentIn.bound (hr : c.right = true) (h0 : s0.In c N M) (h : SentIn c N M s0 l s) : l.length ≤ 65 ∧ total l ≤ s0.p.qu := by
 have hm := Cnf.right_in hr
 have h1 := h.cr
 have h2 := h.inn.p.2.1.1
 have h3 := h0.cr
 have h4 := h0.qu
 have h5 : total l ≤ s0.p.qu := by omega
 refine ⟨?_, h5⟩
 have h6 : ((l.length : Int) - 1) * c.mss ≤ 64 * c.mss := by
  rcases h.few with hf | ⟨_, hf⟩
  ·have h7 : ((l.length : Int) - 1) * c.mss = (l.length : Int) * c.mss - c.mss := by rw [Int.sub_mul, Int.one_mul]
   omega
  ·omega
 have h7 : (l.length : Int) - 1 ≤ 64 := Int.le_of_mul_le_mul_right h6 (by omega)
 omega
theorem Sent.inn (hr : c.right = true) (hN : N ≤ 1000000) (h0 : s0.In c N M) (h : Sent s0 l s) : SentIn c N M s0 l s := by
 induction h with
 | zero => exact ⟨h0, rfl, rfl, rfl, rfl, rfl, rfl, by simp, by simp [total], by simp [total], fun i p hp => by simp at hp, fun hq => absurd rfl hq, .inl (by simp [total])⟩
 | @more l s eb _ hcan ih => exact ih.more hr (by have := (ih.bound hr h0).1; omega) hcan eb
theorem Snd.In.done (h : s.In c N M) : s.done.In c N M ∧ s.done.all = s.all := by
 refine ⟨{ h with s := ?_ }, rfl⟩
 unfold Snd.done
 simp only
 split
 ·exact Smp.ok_limit h.s h.tot.2.2.2.2.1
 ·exact h.s
theorem evT_ok (h : s.In c N M) {now lost : Int} (h1 : U now) (h2 : U lost) : (s.evT now lost).Ok := ⟨h1, U_zero, U_zero, U_zero, U_zero, h.s.d, U_zero, h2, h.tot.2.2.2.2.1⟩
theorem Snd.In.hurt (hr : c.right = true) (h : s.In c N M) {now : Int} (h1 : U now) : (s.hurt now).In c N (M + 1) ∧ (s.hurt now).all = s.all ∧ (s.hurt now).k = s.k := by
 obtain ⟨_, _, _, g4, _⟩ := h.goneOk
 obtain ⟨h2, h3⟩ := h.lose
 unfold Snd.hurt
 split
 ·exact ⟨h2.more (Nat.le_refl _) (Nat.le_succ _), h3, rfl⟩
 ·obtain ⟨h4, h5⟩ := h2.told hr (evT_ok h2 h1 g4)
  exact ⟨h4, h5.trans h3, rfl⟩
theorem to_zero {k : Clk} {t : Int} (h : (k.to t).1 = 0) : (k.to t).2.t = t ∧ k.past = false ∧ k.t ≤ t ∧ t ≤ 4398046511104 ∧ (k.to t).2.past = false ∧ (k.to t).2.n = k.n := by
 unfold Clk.to at h ⊢
 split at h
 ·simp at h
 ·rename_i q1
  split at h
  ·simp at h
  ·rename_i q2
   split at h
   ·simp at h
   ·rename_i q3
    rw [if_neg q1, if_neg q2, if_neg q3]
    have : k.past = false := by simpa using q1
    exact ⟨rfl, this, by omega, by omega, this, rfl⟩
theorem clock_all (s : Snd) (t : Int) : (s.clock t).all = s.all := rfl
theorem Snd.In.begin (hr : c.right = true) (h : s.In c N M) {now : Int} (h0 : (s.k.to now).1 = 0) : (s.begin now).In c N (M + 1) ∧ (s.begin now).all = s.all ∧ (s.begin now).k = (s.k.to now).2 ∧ (s.begin now).k.t = now ∧ (s.begin now).p.qu = (s.begin now).e.quantum ∧ (s.begin now).p.rate = (s.begin now).e.pace ∧ (s.begin now).p.now = now := by
 obtain ⟨z1, _, z3, z4, _, _⟩ := to_zero h0
 have hk := h.k
 have hU : U now := by unfold Clk.Ok at hk; unfold U; omega
 have h1 := h.clock now
 obtain ⟨h2, h3, h4⟩ := h1.hurt hr hU
 have hkt : ((s.clock now).hurt now).k.t = now := by rw [h4]; exact z1
 obtain ⟨h5, h6, h7, h8, h9⟩ := h2.pace hr hU hkt
 exact ⟨h5, h6.trans h3, h4, hkt, h7, h8, h9⟩
theorem TickEnd.inn (hr : c.right = true) (hN : N ≤ 1000000) (h : s.In c N M) {now e : Int} {s' : Snd} (hT : TickEnd s now l e s') : s'.In c (N + 65) (M + 1) ∧ s'.all = s.all ∧ l.length ≤ 65 := by
 rcases hT with ⟨_, rfl, _, rfl⟩ | ⟨h0, _, s2, hs, _, rfl⟩
 ·exact ⟨(h.clock now).more (by omega) (by omega), clock_all s now, by simp⟩
 ·obtain ⟨h1, h2, _⟩ := h.begin hr h0
  have h3 := hs.inn hr hN h1
  have h4 := (h3.bound hr h1).1
  obtain ⟨h5, h6⟩ := h3.inn.done
  exact ⟨h5.more (by omega) (Nat.le_refl _), h6.trans (h3.all.trans h2), h4⟩
end
end Go.Proofs.YtmkcpnlbicijoaaGreat
