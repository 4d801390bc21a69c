/- sender: new ones, writes, when the next may go, what it tells: by mksnd.py. -/
import Derived.Test.YtmkcpnlbicijoaaGreatSnd5
namespace Go.Proofs.YtmkcpnlbicijoaaGreat
open Go.RowKit
section
variable (ε w : World) (R : List Asn) (b kb lb tb sb eb pb : Nat)
set_option maxRecDepth 100000 in
set_option maxHeartbeats 3200000 in
theorem sndNew_c (c : Cnf) (hc : c.Ok) (hr : c.right = true) (H : Own ε w R) :
  Calls Tryz.prog 9 #[c.v] w fun e w' => ∃ b kb lb tb sb eb pb, e = .returned (.tuple #[.pointer (some ⟨b, 0, none⟩), .int .i64 0]) ∧ Own ε w' (sAll b kb lb tb sb eb pb (Snd.fresh c) R) := by
 have HH := Lib.hid H; clear H
 unfold Cnf.v
 have hnew := fun (W : World) (X : List Asn) (HX : Own ε W X) => engNewA_c ε W X c hc hr HX
 unfold Cnf.v at hnew
 replace hnew := Lib.hid hnew
 go_enter Tryz.func9, Tryz.ntmps9
 go_wp2_with (with_reducible refine stop_bx ?_)
 refine Stop.go ?_
 refine wpList_box_own HH.out [_, _, _, _, _, _] rfl ?_
 intro cb w1_ H9_
 replace HH := Lib.hid H9_
 clear H9_
 (try clear cc1_); (try clear cc2_)
 have cc1_ := HH.out.cells
 go_wp2_with fail
 refine (hnew.out _ _ HH.out).mono ?_
 rintro e w2_ ⟨eb, rfl, H9_⟩
 replace HH := Lib.hid H9_
 clear H9_
 replace HH := Lib.hid (show Own ε _ (eng eb (Eng.new c) :: pts cb (.cells #[.int .u64 c.mss, .int .u64 c.init, .int .u64 c.reorder, .int .u64 c.window, .int .u64 c.probe, .int .u64 c.loss] 24 (0, 0)) :: R) from HH.out)
 (try clear cc1_); (try clear cc2_)
 have cc2_ := HH.out.r2.cells
 go_wp2_with fail
 refine wp_region_regK none [pts cb (.cells #[.int .u64 c.mss, .int .u64 c.init, .int .u64 c.reorder, .int .u64 c.window, .int .u64 c.probe, .int .u64 c.loss] 24 (0, 0))] HH.out (by kernel_rfl) ?_
 intro wm H9_
 replace HH := Lib.hid H9_
 clear H9_
 have HS : Own _ wm [pts cb (.cells #[.int .u64 c.mss, .int .u64 c.init, .int .u64 c.reorder, .int .u64 c.window, .int .u64 c.probe, .int .u64 c.loss] 24 (0, 0))] := HH.out.pn
 refine mixk_s 0 HS (fun _ hx => hx.cells) ?_
 refine reg_s 2 HS ?_
 refine mixk_s 3 HS (fun _ hx => hx.cells) ?_
 refine reg_s 7 HS ?_
 refine reg_l none (i := 1) rfl (by kernel_rfl) (fun wn hk K hK => ?_)
 replace HH := Lib.hid (hk _ _ HH.out)
 clear hk HS
 go_simp
 refine (clkNew_c ε wn HH.out).mono ?_
 rintro e wm ⟨kb, rfl, H9_⟩
 replace HH := Lib.hid H9_
 clear H9_
 have HS : Own _ wm [pts cb (.cells #[.int .u64 c.mss, .int .u64 c.init, .int .u64 c.reorder, .int .u64 c.window, .int .u64 c.probe, .int .u64 c.loss] 24 (0, 0))] := HH.out.pn
 refine hK _ _ [pts cb (.cells #[.int .u64 c.mss, .int .u64 c.init, .int .u64 c.reorder, .int .u64 c.window, .int .u64 c.probe, .int .u64 c.loss] 24 (0, 0))] HS (.inr ⟨rfl, fun _ h => h⟩) ?_
 clear hK K
 refine reg_l none (i := 4) rfl (by kernel_rfl) (fun wn hk K hK => ?_)
 replace HH := Lib.hid (hk _ _ HH.out)
 clear hk HS
 go_simp
 refine (ledNew_c ε wn _ c.reorder HH.out).mono ?_
 rintro e wm ⟨lb, rfl, H9_⟩
 replace HH := Lib.hid H9_
 clear H9_
 have HS : Own _ wm [pts cb (.cells #[.int .u64 c.mss, .int .u64 c.init, .int .u64 c.reorder, .int .u64 c.window, .int .u64 c.probe, .int .u64 c.loss] 24 (0, 0))] := HH.out.pn
 refine hK _ _ [pts cb (.cells #[.int .u64 c.mss, .int .u64 c.init, .int .u64 c.reorder, .int .u64 c.window, .int .u64 c.probe, .int .u64 c.loss] 24 (0, 0))] HS (.inr ⟨rfl, fun _ h => h⟩) ?_
 clear hK K
 refine reg_l none (i := 5) rfl (by kernel_rfl) (fun wn hk K hK => ?_)
 replace HH := Lib.hid (hk _ _ HH.out)
 clear hk HS
 go_simp
 refine (rttNew_c ε wn _ HH.out).mono ?_
 rintro e wm ⟨tb, rfl, H9_⟩
 replace HH := Lib.hid H9_
 clear H9_
 have HS : Own _ wm [pts cb (.cells #[.int .u64 c.mss, .int .u64 c.init, .int .u64 c.reorder, .int .u64 c.window, .int .u64 c.probe, .int .u64 c.loss] 24 (0, 0))] := HH.out.pn
 refine hK _ _ [pts cb (.cells #[.int .u64 c.mss, .int .u64 c.init, .int .u64 c.reorder, .int .u64 c.window, .int .u64 c.probe, .int .u64 c.loss] 24 (0, 0))] HS (.inr ⟨rfl, fun _ h => h⟩) ?_
 clear hK K
 refine reg_l none (i := 6) rfl (by kernel_rfl) (fun wn hk K hK => ?_)
 replace HH := Lib.hid (hk _ _ HH.out)
 clear hk HS
 go_simp
 refine (rateNew_c ε wn _ HH.out).mono ?_
 rintro e wm ⟨sb, rfl, H9_⟩
 replace HH := Lib.hid H9_
 clear H9_
 have HS : Own _ wm [pts cb (.cells #[.int .u64 c.mss, .int .u64 c.init, .int .u64 c.reorder, .int .u64 c.window, .int .u64 c.probe, .int .u64 c.loss] 24 (0, 0))] := HH.out.pn
 refine hK _ _ [pts cb (.cells #[.int .u64 c.mss, .int .u64 c.init, .int .u64 c.reorder, .int .u64 c.window, .int .u64 c.probe, .int .u64 c.loss] 24 (0, 0))] HS (.inr ⟨rfl, fun _ h => h⟩) ?_
 clear hK K
 refine reg_l none (i := 8) rfl (by kernel_rfl) (fun wn hk K hK => ?_)
 replace HH := Lib.hid (hk _ _ HH.out)
 clear hk HS
 go_simp
 refine (pacNew_c ε wn _ HH.out).mono ?_
 rintro e wm ⟨pb, rfl, H9_⟩
 replace HH := Lib.hid H9_
 clear H9_
 have HS : Own _ wm [pts cb (.cells #[.int .u64 c.mss, .int .u64 c.init, .int .u64 c.reorder, .int .u64 c.window, .int .u64 c.probe, .int .u64 c.loss] 24 (0, 0))] := HH.out.pn
 refine hK _ _ [pts cb (.cells #[.int .u64 c.mss, .int .u64 c.init, .int .u64 c.reorder, .int .u64 c.window, .int .u64 c.probe, .int .u64 c.loss] 24 (0, 0))] HS (.inr ⟨rfl, fun _ h => h⟩) ?_
 clear hK K
 refine reg_s 9 HS ?_
 refine reg_l none (i := 10) rfl (by kernel_rfl) (fun wn hk K hK => ?_)
 replace HH := Lib.hid (hk _ _ HH.out)
 clear hk HS
 go_simp
 replace HH := Lib.hid (HH.out.alloc (.cells #[.int .u64 c.mss, .int .u64 c.init, .int .u64 c.reorder, .int .u64 c.window, .int .u64 c.probe, .int .u64 c.loss, .pointer (some ⟨kb, 0, none⟩), .pointer (some ⟨lb, 0, none⟩), .pointer (some ⟨tb, 0, none⟩), .pointer (some ⟨sb, 0, none⟩), .pointer (some ⟨eb, 0, none⟩), .pointer (some ⟨pb, 0, none⟩), .int .u64 0] 69))
 generalize wn.alloc (.cells #[.int .u64 c.mss, .int .u64 c.init, .int .u64 c.reorder, .int .u64 c.window, .int .u64 c.probe, .int .u64 c.loss, .pointer (some ⟨kb, 0, none⟩), .pointer (some ⟨lb, 0, none⟩), .pointer (some ⟨tb, 0, none⟩), .pointer (some ⟨sb, 0, none⟩), .pointer (some ⟨eb, 0, none⟩), .pointer (some ⟨pb, 0, none⟩), .int .u64 0] 69) = wm at *
 generalize wn.heap.size = nb at *
 have HS : Own _ wm [pts cb (.cells #[.int .u64 c.mss, .int .u64 c.init, .int .u64 c.reorder, .int .u64 c.window, .int .u64 c.probe, .int .u64 c.loss] 24 (0, 0))] := HH.out.pn
 refine hK _ _ [pts cb (.cells #[.int .u64 c.mss, .int .u64 c.init, .int .u64 c.reorder, .int .u64 c.window, .int .u64 c.probe, .int .u64 c.loss] 24 (0, 0))] HS (.inr ⟨rfl, fun _ h => h⟩) ?_
 clear hK K
 refine reg_s 11 HS ?_
 refine reg_s 12 HS ?_
 refine mixk_done (by kernel_rfl) (fun w3_ hk => ?_) _
 replace HH := Lib.hid (hk _ _ HH.out)
 clear hk
 go_wp2_with fail
 go_ret2
 have HZ := (HH.out.pn : Own ε _ (pts nb _ :: clk kb Clk.zero :: led lb ⟨c.reorder, 0, 0, false, []⟩ :: rtt tb Rtt.zero :: smp sb Smp.zero :: eng eb (Eng.new c) :: pac pb Pac.zero :: R))
 exact ⟨nb, kb, lb, tb, sb, eb, pb, rfl, HZ⟩
set_option maxRecDepth 100000 in
set_option maxHeartbeats 3200000 in
theorem sndWrite_c (s : Snd) (c : Cnf) (N M : Nat) (h : s.In c N M) (n : Int) (hn : U n) (H : Own ε w (sAll b kb lb tb sb eb pb s R)) :
  Calls Tryz.prog 20 #[.pointer (some ⟨b, 0, none⟩), .int .u64 n] w fun e w' => e = .returned (.int .i64 (s.write n).1) ∧ Own ε w' (pts b (.cells #[.int .u64 (s.write n).2.c.mss, .int .u64 (s.write n).2.c.init, .int .u64 (s.write n).2.c.reorder, .int .u64 (s.write n).2.c.window, .int .u64 (s.write n).2.c.probe, .int .u64 (s.write n).2.c.loss, .pointer (some ⟨kb, 0, none⟩), .pointer (some ⟨lb, 0, none⟩), .pointer (some ⟨tb, 0, none⟩), .pointer (some ⟨sb, 0, none⟩), .pointer (some ⟨eb, 0, none⟩), .pointer (some ⟨pb, 0, none⟩), .int .u64 (s.write n).2.wait] 69 (0, 0)) :: clk kb ((s.write n).2.k) :: led lb ((s.write n).2.l) :: rtt tb ((s.write n).2.t) :: smp sb ((s.write n).2.s) :: eng eb ((s.write n).2.e) :: pac pb ((s.write n).2.p) :: R) := by
 have HH := Lib.hid H; clear H
 have hUw := h.tot.2.2.2.2.2
 have hk := h.k
 clear h
 by_cases h0 : (s.k.count n).1 = 0
 ·have e1 : s.write n = (0, { s with k := (s.k.count n).2, wait := sadd s.wait n }) := by unfold Snd.write; rw [h0, if_pos rfl]
  rw [e1]
  replace hUw := Lib.hid hUw
  go_enter Tryz.func20, Tryz.ntmps20
  (try clear cc1_); (try clear cc2_)
  have cc1_ := HH.out.cells
  go_wp2_with fail
  refine (clkCount_c ε _ _ kb s.k n hn hk (HH.out.pn : Own ε _ (clk kb s.k :: pts b (sOb kb lb tb sb eb pb s) :: led lb s.l :: rtt tb s.t :: smp sb s.s :: eng eb s.e :: pac pb s.p :: R))).mono ?_
  rw [h0]
  rintro e w4_ ⟨rfl, H9_⟩
  replace HH := Lib.hid H9_
  clear H9_
  replace HH := Lib.hid (HH.out.pn : Own ε _ (pts b (sOb kb lb tb sb eb pb s) :: clk kb ((s.k.count n).2) :: led lb (s.l) :: rtt tb (s.t) :: smp sb (s.s) :: eng eb (s.e) :: pac pb (s.p) :: R))
  (try clear cc1_); (try clear cc2_)
  have cc1_ := HH.out.cells
  go_wp2_with (with_reducible refine stop_bs ?_)
  refine Stop.go ?_
  refine wpList_bsv_own HH.out [.int .u64 s.wait, .int .u64 n] 1 8 [.int .u64 0] Tryz.underlying141 (by kernel_rfl) (by kernel_rfl) (by decide) (by decide) (by kernel_rfl) ?_
  intro g1 w5_ H9_
  replace HH := Lib.hid H9_
  clear H9_
  go_wp2_with fail
  refine (fixAdd2_c _ g1 s.wait n hUw.out hn (HH.out.cells.1 0) (HH.out.cells.1 1)).mono ?_
  rintro e w6_ ⟨rfl, hbel⟩
  replace HH := Lib.hid ((by first | exact .same hbel | exact .drew hbel | exact .below hbel : Kp _ w6_) _ _ (by first | exact HH.out | exact HH.out.drewN _ | exact (HH.out.alloc _).tail | exact ((HH.out.alloc _).drewN _).tail | exact ((HH.out.alloc _).alloc _).tail.tail))
  clear hbel
  replace HH := Lib.hid HH.out.tail
  (try clear cc1_); (try clear cc2_)
  have cc1_ := HH.out.cells
  go_wp2_with (with_reducible refine stop_st ?_)
  refine Stop.go ?_
  refine wpList_store1_own (v := .int .u64 (sadd s.wait n)) (k := 12) rfl rfl HH.out (by kernel_rfl) (by simp) (by first | rfl | assumption) ?_
  intro w7_ H9_
  replace HH := Lib.hid H9_
  clear H9_
  simp only [List.setIfInBounds_toArray, List.set_cons_succ, List.set_cons_zero] at HH
  go_wp2_with fail
  go_ret
  exact ⟨rfl, HH.out⟩
 ·have e1 : s.write n = ((s.k.count n).1, { s with k := (s.k.count n).2 }) := by unfold Snd.write; rw [if_neg h0]
  rw [e1]
  have hb : ((s.k.count n).1 == 0) = false := by simpa using h0
  clear hUw
  go_enter Tryz.func20, Tryz.ntmps20
  (try clear cc1_); (try clear cc2_)
  have cc1_ := HH.out.cells
  go_wp2_with fail
  refine (clkCount_c ε _ _ kb s.k n hn hk (HH.out.pn : Own ε _ (clk kb s.k :: pts b (sOb kb lb tb sb eb pb s) :: led lb s.l :: rtt tb s.t :: smp sb s.s :: eng eb s.e :: pac pb s.p :: R))).mono ?_
  rintro e w8_ ⟨rfl, H9_⟩
  replace HH := Lib.hid H9_
  clear H9_
  replace HH := Lib.hid (HH.out.pn : Own ε _ (pts b (sOb kb lb tb sb eb pb s) :: clk kb ((s.k.count n).2) :: led lb (s.l) :: rtt tb (s.t) :: smp sb (s.s) :: eng eb (s.e) :: pac pb (s.p) :: R))
  go_wp2_with fail
  go_ret
  exact ⟨rfl, HH.out⟩
set_option maxRecDepth 100000 in
set_option maxHeartbeats 3200000 in
theorem sndNext_c (s : Snd) (c : Cnf) (N M : Nat) (h : s.In c N M) (hN : N ≤ 1000000) (H : Own ε w (sAll b kb lb tb sb eb pb s R)) :
  Calls Tryz.prog 17 #[.pointer (some ⟨b, 0, none⟩)] w fun e w' => e = .returned (.tuple #[.int .u64 s.next.1, .bool s.next.2]) ∧ Own ε w' (sAll b kb lb tb sb eb pb s R) := by
 have HH := Lib.hid H; clear H
 have hUn : U s.n := by
  have h1 := h.tot.2.2.2.2.2
  have h2 := h.e.1.c.mss
  rw [h.e.2.1] at h2
  unfold Snd.n
  rw [h.c]
  unfold U at *
  omega
 have hp := h.p
 replace h := Lib.hid h
 cases hpa : s.k.past with
 | true =>
  rw [show s.next = (0, false) by unfold Snd.next; rw [hpa, if_pos rfl]]
  go_enter Tryz.func17, Tryz.ntmps17
  (try clear cc1_); (try clear cc2_)
  have cc1_ := HH.out.cells
  go_wp2_with fail
  refine (clkPast_c ε _ _ kb s.k (HH.out.pn : Own ε _ (clk kb s.k :: pts b (sOb kb lb tb sb eb pb s) :: led lb s.l :: rtt tb s.t :: smp sb s.s :: eng eb s.e :: pac pb s.p :: R))).mono ?_
  rw [hpa]
  rintro e w9_ ⟨rfl, hbel⟩
  replace HH := Lib.hid ((by first | exact .same hbel | exact .drew hbel | exact .below hbel : Kp _ w9_) _ _ (by first | exact HH.out | exact HH.out.drewN _ | exact (HH.out.alloc _).tail | exact ((HH.out.alloc _).drewN _).tail | exact ((HH.out.alloc _).alloc _).tail.tail))
  clear hbel
  go_wp2_with fail
  go_ret2
  exact ⟨rfl, HH.out⟩
 | false =>
  cases hf : s.fits with
  | false =>
   rw [show s.next = (0, false) by unfold Snd.next; rw [hpa, if_neg (by decide), hf, if_neg (by decide)]]
   go_enter Tryz.func17, Tryz.ntmps17
   (try clear cc1_); (try clear cc2_)
   have cc1_ := HH.out.cells
   go_wp2_with fail
   refine (clkPast_c ε _ _ kb s.k (HH.out.pn : Own ε _ (clk kb s.k :: pts b (sOb kb lb tb sb eb pb s) :: led lb s.l :: rtt tb s.t :: smp sb s.s :: eng eb s.e :: pac pb s.p :: R))).mono ?_
   rw [hpa]
   rintro e w10_ ⟨rfl, hbel⟩
   replace HH := Lib.hid ((by first | exact .same hbel | exact .drew hbel | exact .below hbel : Kp _ w10_) _ _ (by first | exact HH.out | exact HH.out.drewN _ | exact (HH.out.alloc _).tail | exact ((HH.out.alloc _).drewN _).tail | exact ((HH.out.alloc _).alloc _).tail.tail))
   clear hbel
   go_wp2_with fail
   refine (sndSize_c ε _ _ b kb lb tb sb eb pb s c N M h.out hN HH.out).mono ?_
   rw [hf]
   rintro e w11_ ⟨rfl, H9_⟩
   replace HH := Lib.hid H9_
   clear H9_
   go_wp2_with fail
   go_ret2
   exact ⟨rfl, HH.out⟩
  | true =>
   rw [show s.next = s.p.next s.n by unfold Snd.next; rw [hpa, if_neg (by decide), hf, if_pos rfl]]
   go_enter Tryz.func17, Tryz.ntmps17
   (try clear cc1_); (try clear cc2_)
   have cc1_ := HH.out.cells
   go_wp2_with fail
   refine (clkPast_c ε _ _ kb s.k (HH.out.pn : Own ε _ (clk kb s.k :: pts b (sOb kb lb tb sb eb pb s) :: led lb s.l :: rtt tb s.t :: smp sb s.s :: eng eb s.e :: pac pb s.p :: R))).mono ?_
   rw [hpa]
   rintro e w12_ ⟨rfl, hbel⟩
   replace HH := Lib.hid ((by first | exact .same hbel | exact .drew hbel | exact .below hbel : Kp _ w12_) _ _ (by first | exact HH.out | exact HH.out.drewN _ | exact (HH.out.alloc _).tail | exact ((HH.out.alloc _).drewN _).tail | exact ((HH.out.alloc _).alloc _).tail.tail))
   clear hbel
   go_wp2_with fail
   refine (sndSize_c ε _ _ b kb lb tb sb eb pb s c N M h.out hN HH.out).mono ?_
   rw [hf]
   rintro e w13_ ⟨rfl, H9_⟩
   replace HH := Lib.hid H9_
   clear H9_
   (try clear cc1_); (try clear cc2_)
   have cc1_ := HH.out.cells
   go_wp2_with fail
   refine (pacNext_c ε _ _ pb s.p s.n hUn hp (HH.out.pn : Own ε _ (pac pb s.p :: pts b (sOb kb lb tb sb eb pb s) :: clk kb s.k :: led lb s.l :: rtt tb s.t :: smp sb s.s :: eng eb s.e :: R))).mono ?_
   rintro e w14_ ⟨rfl, H9_⟩
   replace HH := Lib.hid H9_
   clear H9_
   go_wp2_with fail
   go_ret2
   exact ⟨rfl, HH.out.pn⟩
theorem sndTime_c (s : Snd) (H : Own ε w (sAll b kb lb tb sb eb pb s R)) : Calls Tryz.prog 11 #[.pointer (some ⟨b, 0, none⟩)] w fun e w' => e = .returned (.int .u64 s.k.t) ∧ w = w' := by
 have k1 := H.cells
 have hc := clkTime_c ε w _ kb s.k H.r2
 replace hc := Lib.hid hc
 clear H
 go_enter Tryz.func11, Tryz.ntmps11
 go_wp2_with fail
 refine (hc.out).mono ?_
 rintro e w' ⟨rfl, rfl⟩
 go_wp2_with fail
 go_ret
 exact ⟨rfl, rfl⟩
theorem sndPast_c (s : Snd) (H : Own ε w (sAll b kb lb tb sb eb pb s R)) : Calls Tryz.prog 19 #[.pointer (some ⟨b, 0, none⟩)] w fun e w' => e = .returned (.bool s.k.past) ∧ w = w' := by
 have k1 := H.cells
 have hc := clkPast_c ε w _ kb s.k H.r2
 replace hc := Lib.hid hc
 clear H
 go_enter Tryz.func19, Tryz.ntmps19
 go_wp2_with fail
 refine (hc.out).mono ?_
 rintro e w' ⟨rfl, rfl⟩
 go_wp2_with fail
 go_ret
 exact ⟨rfl, rfl⟩
theorem sndWaiting_c (s : Snd) (H : Own ε w (sAll b kb lb tb sb eb pb s R)) : Calls Tryz.prog 18 #[.pointer (some ⟨b, 0, none⟩)] w fun e w' => e = .returned (.int .u64 s.wait) ∧ w = w' := by
 have k1 := H.cells
 clear H
 go_enter Tryz.func18, Tryz.ntmps18
 go_wp2_with fail
 go_ret
 exact ⟨rfl, rfl⟩
theorem sndEngine_c (s : Snd) (H : Own ε w (sAll b kb lb tb sb eb pb s R)) : Calls Tryz.prog 12 #[.pointer (some ⟨b, 0, none⟩)] w fun e w' => e = .returned (.pointer (some ⟨eb, 0, none⟩)) ∧ w = w' := by
 have k1 := H.cells
 clear H
 go_enter Tryz.func12, Tryz.ntmps12
 go_wp2_with fail
 go_ret
 exact ⟨rfl, rfl⟩
set_option maxRecDepth 100000 in
theorem sndInFlight_c (s : Snd) (c : Cnf) (N M : Nat) (h : s.In c N M) (hN : N ≤ 1000000) (H : Own ε w (sAll b kb lb tb sb eb pb s R)) : Calls Tryz.prog 14 #[.pointer (some ⟨b, 0, none⟩)] w fun e w' => e = .returned (.int .u64 s.infl) ∧ Own ε w' (sAll b kb lb tb sb eb pb s R) := by
 have HH := Lib.hid H; clear H
 have hr9 : s.l.row.length ≤ 1000000 := Nat.le_trans h.few hN
 have hok := h.row
 have hfl : bytesP (outs s.l.row) = s.infl := rfl
 clear h hN
 replace hr9 := Lib.hid hr9
 replace hok := Lib.hid hok
 replace hfl := Lib.hid hfl
 go_enter Tryz.func14, Tryz.ntmps14
 (try clear cc1_); (try clear cc2_)
 have cc1_ := HH.out.cells
 go_wp2_with fail
 refine (ledInFlight_c ε _ _ lb s.l hr9.out hok.out (HH.out.pn : Own ε _ (led lb s.l :: pts b (sOb kb lb tb sb eb pb s) :: clk kb s.k :: rtt tb s.t :: smp sb s.s :: eng eb s.e :: pac pb s.p :: R))).mono ?_
 rw [hfl.out]
 rintro e w15_ ⟨rfl, H9_⟩
 replace HH := Lib.hid H9_
 clear H9_
 go_wp2_with fail
 go_ret
 exact ⟨rfl, HH.out.pn⟩
theorem sndWrite_nil (n : Int) : Calls Tryz.prog 20 #[.pointer none, .int .u64 n] w fun e w' => e = .returned (.int .i64 1) ∧ w = w' := by
 go_enter Tryz.func20, Tryz.ntmps20
 go_wp2_with fail
 go_ret
 exact ⟨rfl, rfl⟩
theorem sndTick_nil (n : Int) : Calls Tryz.prog 16 #[.pointer none, .int .u64 n] w fun e w' => e = .returned (.tuple #[.slice none 0 0, .int .i64 1]) ∧ w = w' := by
 go_enter Tryz.func16, Tryz.ntmps16
 go_wp2_with fail
 go_ret2
 exact ⟨rfl, rfl⟩
theorem sndAck_nil (n : Int) (A : Option Addr) (k c : Nat) : Calls Tryz.prog 21 #[.pointer none, .int .u64 n, .slice A k c] w fun e w' => e = .returned (.int .i64 1) ∧ w = w' := by
 go_enter Tryz.func21, Tryz.ntmps21
 go_wp2_with fail
 go_ret
 exact ⟨rfl, rfl⟩
theorem sndNext_nil : Calls Tryz.prog 17 #[.pointer none] w fun e w' => e = .returned (.tuple #[.int .u64 0, .bool false]) ∧ w = w' := by
 go_enter Tryz.func17, Tryz.ntmps17
 go_wp2_with fail
 go_ret2
 exact ⟨rfl, rfl⟩
theorem sndTime_nil : Calls Tryz.prog 11 #[.pointer none] w fun e w' => e = .returned (.int .u64 0) ∧ w = w' := by
 go_enter Tryz.func11, Tryz.ntmps11
 go_wp2_with fail
 go_ret
 exact ⟨rfl, rfl⟩
theorem sndPast_nil : Calls Tryz.prog 19 #[.pointer none] w fun e w' => e = .returned (.bool false) ∧ w = w' := by
 go_enter Tryz.func19, Tryz.ntmps19
 go_wp2_with fail
 go_ret
 exact ⟨rfl, rfl⟩
theorem sndWaiting_nil : Calls Tryz.prog 18 #[.pointer none] w fun e w' => e = .returned (.int .u64 0) ∧ w = w' := by
 go_enter Tryz.func18, Tryz.ntmps18
 go_wp2_with fail
 go_ret
 exact ⟨rfl, rfl⟩
theorem sndInFlight_nil : Calls Tryz.prog 14 #[.pointer none] w fun e w' => e = .returned (.int .u64 0) ∧ w = w' := by
 go_enter Tryz.func14, Tryz.ntmps14
 go_wp2_with fail
 go_ret
 exact ⟨rfl, rfl⟩
theorem sndEngine_nil : Calls Tryz.prog 12 #[.pointer none] w fun e w' => e = .returned (.pointer none) ∧ w = w' := by
 go_enter Tryz.func12, Tryz.ntmps12
 go_wp2_with fail
 go_ret
 exact ⟨rfl, rfl⟩
end
end Go.Proofs.YtmkcpnlbicijoaaGreat
