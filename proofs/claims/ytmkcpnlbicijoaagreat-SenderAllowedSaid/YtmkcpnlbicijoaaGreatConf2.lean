/- conf: may a setup be: a range over a function. -/
import Derived.Test.YtmkcpnlbicijoaaGreatRttD
import Derived.Test.YtmkcpnlbicijoaaGreatCalm
import Derived.Test.YtmkcpnlbicijoaaGreatLed3
import Derived.Test.YtmkcpnlbicijoaaGreatMixK
import Derived.Sort.QuietTacIn
import Derived.Shelf.Abstract
namespace Go.Proofs.YtmkcpnlbicijoaaGreat
open Go.RowKit
structure Cnf where
 mss : Int
 init : Int
 reorder : Int
 window : Int
 probe : Int
 loss : Int
deriving DecidableEq
def Cnf.cells (c : Cnf) : List Value := [.int .u64 c.mss, .int .u64 c.init, .int .u64 c.reorder, .int .u64 c.window, .int .u64 c.probe, .int .u64 c.loss]
def Cnf.v (c : Cnf) : Value := .agg #[.int .u64 c.mss, .int .u64 c.init, .int .u64 c.reorder, .int .u64 c.window, .int .u64 c.probe, .int .u64 c.loss]
def inB (x a b : Int) : Bool := decide (a ≤ x) && decide (x ≤ b)
def Cnf.right (c : Cnf) : Bool := inB c.mss 1 65535 && inB c.init 4 1000 && inB c.reorder 1 100 && inB c.window 1 1099511627776 && inB c.probe 1 1099511627776 && decide (c.loss ≤ 1000)
structure Cnf.Ok (c : Cnf) : Prop where
 mss : U c.mss
 init : U c.init
 reorder : U c.reorder
 window : U c.window
 probe : U c.probe
 loss : U c.loss
def Cnf.least (c : Cnf) : Int := smul 4 c.mss
def Cnf.first (c : Cnf) : Int := smul c.init c.mss
def Cnf.quantum (c : Cnf) (rate : Int) : Int := min (max (rate / 1000) (smul 2 c.mss)) (smul 64 c.mss)
def flightI (rate time : Int) : Int := sover rate time 1000000
section
variable (w : World)
theorem confLeast_c (c : Cnf) (hc : c.Ok) : Calls Tryz.prog 66 #[c.v] w fun e w' => e = .returned (.int .u64 c.least) ∧ Below w.heap.size w w' := by
 have HH := Lib.hid (Own.init w)
 have h1 := Lib.hid hc.mss
 clear hc
 unfold Cnf.v Cnf.least
 go_enter Tryz.func66, Tryz.ntmps66
 go_wp2_with (with_reducible refine stop_bx ?_)
 refine Stop.go ?_
 refine wpList_box_own HH.out [_, _, _, _, _, _] rfl ?_
 intro g w1_ H9_
 replace HH := Lib.hid H9_
 clear H9_
 (try clear cc1_)
 have cc1_ := HH.out.cells
 go_wp2_with fail
 refine (fixMul_c _ 4 c.mss (by decide) h1.out).mono ?_
 rintro e w2_ ⟨rfl, hbel⟩
 replace HH := Lib.hid ((by first | exact .same hbel | exact .drew hbel | exact .below hbel : Kp _ w2_) _ _ (by first | exact HH.out | exact HH.out.drewN _ | exact (HH.out.alloc _).tail | exact ((HH.out.alloc _).drewN _).tail | exact ((HH.out.alloc _).alloc _).tail.tail))
 clear hbel
 go_wp2_with fail
 go_ret
 exact ⟨rfl, HH.out.tail.old_below⟩
theorem confFirst_c (c : Cnf) (hc : c.Ok) : Calls Tryz.prog 60 #[c.v] w fun e w' => e = .returned (.int .u64 c.first) ∧ Below w.heap.size w w' := by
 have HH := Lib.hid (Own.init w)
 have h1 := Lib.hid hc.mss
 have h2 := Lib.hid hc.init
 clear hc
 unfold Cnf.v Cnf.first
 go_enter Tryz.func60, Tryz.ntmps60
 go_wp2_with (with_reducible refine stop_bx ?_)
 refine Stop.go ?_
 refine wpList_box_own HH.out [_, _, _, _, _, _] rfl ?_
 intro g w3_ H9_
 replace HH := Lib.hid H9_
 clear H9_
 (try clear cc1_)
 have cc1_ := HH.out.cells
 go_wp2_with fail
 refine (fixMul_c _ c.init c.mss h2.out h1.out).mono ?_
 rintro e w4_ ⟨rfl, hbel⟩
 replace HH := Lib.hid ((by first | exact .same hbel | exact .drew hbel | exact .below hbel : Kp _ w4_) _ _ (by first | exact HH.out | exact HH.out.drewN _ | exact (HH.out.alloc _).tail | exact ((HH.out.alloc _).drewN _).tail | exact ((HH.out.alloc _).alloc _).tail.tail))
 clear hbel
 go_wp2_with fail
 go_ret
 exact ⟨rfl, HH.out.tail.old_below⟩
set_option maxHeartbeats 1600000 in
theorem confQuantum_c (c : Cnf) (hc : c.Ok) (rate : Int) (hr : U rate) : Calls Tryz.prog 33 #[c.v, .int .u64 rate] w fun e w' => e = .returned (.int .u64 (c.quantum rate)) ∧ Below w.heap.size w w' := by
 have HH := Lib.hid (Own.init w)
 have h1 := Lib.hid hc.mss
 have im := min_ite'
 have ix := max_ite'
 have hd : rate.tdiv 1000 = rate / 1000 := Int.tdiv_eq_ediv_of_nonneg hr.1
 have hw : IntKind.u64.wrap (rate / 1000) = rate / 1000 := by unfold U at hr; rw [IntKind.wrap_u64]; omega
 clear hc
 unfold Cnf.v Cnf.quantum
 obtain ⟨rq, hrq⟩ : ∃ rq, rate / 1000 = rq := ⟨_, rfl⟩
 rw [hrq] at hd hw ⊢
 replace hr := Lib.hid hr
 replace hrq := Lib.hid hrq
 go_enter Tryz.func33, Tryz.ntmps33
 go_wp2_with (with_reducible refine stop_bx ?_)
 refine Stop.go ?_
 refine wpList_box_own HH.out [_, _, _, _, _, _] rfl ?_
 intro g w5_ H9_
 replace HH := Lib.hid H9_
 clear H9_
 go_wp2_with fail
 go_wp2_with fail
 refine wp_region_reg none HH.out (by kernel_rfl) ?_
 intro wm H9_
 replace HH := Lib.hid H9_
 clear H9_
 refine reg_s 0 HH.out ?_
 refine reg_s 1 HH.out ?_
 refine reg_s 2 HH.out ?_
 refine mixk_s 3 HH.out (fun _ hx => hx.cells) ?_
 refine mixk_q (i := 4) rfl (by kernel_rfl) (fun _ _ _ _ h => h) HH.out (fun K hK => ?_)
 go_simp
 (first | refine hK _ ?_ | (apply Exists.intro; refine ⟨?_, hK _ ?_⟩; focus intro wx hx; first | (first | (go_at_call 62; (with_reducible refine (fixMul_c wx 2 c.mss (by decide) h1.out).mono ?_); rintro e wy ⟨rfl, hbel⟩; exact ⟨rfl, (by first | exact .same hbel | exact .drew hbel | exact .below hbel : Kp wx wy)⟩) | (go_at_call 62; (with_reducible refine (fixMul_c wx 64 c.mss (by decide) h1.out).mono ?_); rintro e wy ⟨rfl, hbel⟩; exact ⟨rfl, (by first | exact .same hbel | exact .drew hbel | exact .below hbel : Kp wx wy)⟩)) | (go_simp; first | rfl | exact ⟨rfl, rfl⟩) | rfl | exact ⟨rfl, rfl⟩)); clear hK K
 refine reg_s 5 HH.out ?_
 refine reg_s 6 HH.out ?_
 refine mixk_s 7 HH.out (fun _ hx => hx.cells) ?_
 refine mixk_q (i := 8) rfl (by kernel_rfl) (fun _ _ _ _ h => h) HH.out (fun K hK => ?_)
 go_simp
 (first | refine hK _ ?_ | (apply Exists.intro; refine ⟨?_, hK _ ?_⟩; focus intro wx hx; first | (first | (go_at_call 62; (with_reducible refine (fixMul_c wx 2 c.mss (by decide) h1.out).mono ?_); rintro e wy ⟨rfl, hbel⟩; exact ⟨rfl, (by first | exact .same hbel | exact .drew hbel | exact .below hbel : Kp wx wy)⟩) | (go_at_call 62; (with_reducible refine (fixMul_c wx 64 c.mss (by decide) h1.out).mono ?_); rintro e wy ⟨rfl, hbel⟩; exact ⟨rfl, (by first | exact .same hbel | exact .drew hbel | exact .below hbel : Kp wx wy)⟩)) | (go_simp; first | rfl | exact ⟨rfl, rfl⟩) | rfl | exact ⟨rfl, rfl⟩)); clear hK K
 refine reg_s 9 HH.out ?_
 refine reg_s 10 HH.out ?_
 refine mixk_done (by kernel_rfl) (fun w6_ hk => ?_) _
 replace HH := Lib.hid (hk _ _ HH.out)
 clear hk
 go_wp2_with fail
 go_ret
 exact ⟨rfl, HH.out.tail.old_below⟩
theorem confFlight_c (rate time : Int) (h1 : U rate) (h2 : U time) : Calls Tryz.prog 112 #[.int .u64 rate, .int .u64 time] w fun e w' => e = .returned (.int .u64 (flightI rate time)) ∧ Below w.heap.size w w' := by
 have HH := Lib.hid (Own.init w)
 replace h1 := Lib.hid h1
 replace h2 := Lib.hid h2
 unfold flightI
 go_enter Tryz.func112, Tryz.ntmps112
 go_wp2_with fail
 refine (fixOver_c _ _ _ _ h1.out h2.out (by decide)).mono ?_
 rintro e w7_ ⟨rfl, hbel⟩
 replace HH := Lib.hid ((by first | exact .same hbel | exact .drew hbel | exact .below hbel : Kp _ w7_) _ _ (by first | exact HH.out | exact HH.out.drewN _ | exact (HH.out.alloc _).tail | exact ((HH.out.alloc _).drewN _).tail | exact ((HH.out.alloc _).alloc _).tail.tail))
 clear hbel
 go_wp2_with fail
 go_ret
 exact ⟨rfl, HH.out.old_below⟩
theorem ref03In_c (x a b : Int) : Calls Tryz.prog 22 #[.int .u64 x, .int .u64 a, .int .u64 b] w fun e w' => e = .returned (.bool (inB x a b)) ∧ w = w' := by
 unfold inB
 by_cases h1 : a ≤ x
 ·go_enter Tryz.func22, Tryz.ntmps22
  go_wp2_with fail
  go_ret
  exact ⟨by simp [*], rfl⟩
 ·go_enter Tryz.func22, Tryz.ntmps22
  go_wp2_with fail
  go_ret
  exact ⟨by simp [*] <;> (intros; omega), rfl⟩
set_option maxHeartbeats 3200000 in
theorem ref03Right_c (c : Cnf) : Calls Tryz.prog 6 #[c.v] w fun e w' => e = .returned (.bool c.right) ∧ Below w.heap.size w w' := by
 have HH := Lib.hid (Own.init w)
 unfold Cnf.v Cnf.right
 obtain ⟨b1, e1⟩ : ∃ x, inB c.mss 1 65535 = x := ⟨_, rfl⟩
 obtain ⟨b2, e2⟩ : ∃ x, inB c.init 4 1000 = x := ⟨_, rfl⟩
 obtain ⟨b3, e3⟩ : ∃ x, inB c.reorder 1 100 = x := ⟨_, rfl⟩
 obtain ⟨b4, e4⟩ : ∃ x, inB c.window 1 1099511627776 = x := ⟨_, rfl⟩
 obtain ⟨b5, e5⟩ : ∃ x, inB c.probe 1 1099511627776 = x := ⟨_, rfl⟩
 rw [e1, e2, e3, e4, e5]
 replace e1 := Lib.hid e1
 replace e2 := Lib.hid e2
 replace e3 := Lib.hid e3
 replace e4 := Lib.hid e4
 replace e5 := Lib.hid e5
 cases b1
 ·go_enter Tryz.func6, Tryz.ntmps6
  go_wp2_with (with_reducible refine stop_bx ?_)
  refine Stop.go ?_
  refine wpList_box_own HH.out [_, _, _, _, _, _] rfl ?_
  intro g w8_ H9_
  replace HH := Lib.hid H9_
  clear H9_
  (try clear cc1_)
  have cc1_ := HH.out.cells
  go_wp2_with fail
  refine (ref03In_c _ c.mss 1 65535).mono ?_
  rw [e1.out]
  rintro e w' ⟨rfl, rfl⟩
  go_wp2_with fail
  go_ret
  exact ⟨by simp, HH.out.tail.old_below⟩
 cases b2
 ·go_enter Tryz.func6, Tryz.ntmps6
  go_wp2_with (with_reducible refine stop_bx ?_)
  refine Stop.go ?_
  refine wpList_box_own HH.out [_, _, _, _, _, _] rfl ?_
  intro g w9_ H9_
  replace HH := Lib.hid H9_
  clear H9_
  (try clear cc1_)
  have cc1_ := HH.out.cells
  go_wp2_with fail
  refine (ref03In_c _ c.mss 1 65535).mono ?_
  rw [e1.out]
  rintro e w' ⟨rfl, rfl⟩
  go_wp2_with fail
  refine (ref03In_c _ c.init 4 1000).mono ?_
  rw [e2.out]
  rintro e w' ⟨rfl, rfl⟩
  go_wp2_with fail
  go_ret
  exact ⟨by simp, HH.out.tail.old_below⟩
 cases b3
 ·go_enter Tryz.func6, Tryz.ntmps6
  go_wp2_with (with_reducible refine stop_bx ?_)
  refine Stop.go ?_
  refine wpList_box_own HH.out [_, _, _, _, _, _] rfl ?_
  intro g w10_ H9_
  replace HH := Lib.hid H9_
  clear H9_
  (try clear cc1_)
  have cc1_ := HH.out.cells
  go_wp2_with fail
  refine (ref03In_c _ c.mss 1 65535).mono ?_
  rw [e1.out]
  rintro e w' ⟨rfl, rfl⟩
  go_wp2_with fail
  refine (ref03In_c _ c.init 4 1000).mono ?_
  rw [e2.out]
  rintro e w' ⟨rfl, rfl⟩
  go_wp2_with fail
  refine (ref03In_c _ c.reorder 1 100).mono ?_
  rw [e3.out]
  rintro e w' ⟨rfl, rfl⟩
  go_wp2_with fail
  go_ret
  exact ⟨by simp, HH.out.tail.old_below⟩
 cases b4
 ·go_enter Tryz.func6, Tryz.ntmps6
  go_wp2_with (with_reducible refine stop_bx ?_)
  refine Stop.go ?_
  refine wpList_box_own HH.out [_, _, _, _, _, _] rfl ?_
  intro g w11_ H9_
  replace HH := Lib.hid H9_
  clear H9_
  (try clear cc1_)
  have cc1_ := HH.out.cells
  go_wp2_with fail
  refine (ref03In_c _ c.mss 1 65535).mono ?_
  rw [e1.out]
  rintro e w' ⟨rfl, rfl⟩
  go_wp2_with fail
  refine (ref03In_c _ c.init 4 1000).mono ?_
  rw [e2.out]
  rintro e w' ⟨rfl, rfl⟩
  go_wp2_with fail
  refine (ref03In_c _ c.reorder 1 100).mono ?_
  rw [e3.out]
  rintro e w' ⟨rfl, rfl⟩
  go_wp2_with fail
  refine (ref03In_c _ c.window 1 1099511627776).mono ?_
  rw [e4.out]
  rintro e w' ⟨rfl, rfl⟩
  go_wp2_with fail
  go_ret
  exact ⟨by simp, HH.out.tail.old_below⟩
 cases b5
 ·go_enter Tryz.func6, Tryz.ntmps6
  go_wp2_with (with_reducible refine stop_bx ?_)
  refine Stop.go ?_
  refine wpList_box_own HH.out [_, _, _, _, _, _] rfl ?_
  intro g w12_ H9_
  replace HH := Lib.hid H9_
  clear H9_
  (try clear cc1_)
  have cc1_ := HH.out.cells
  go_wp2_with fail
  refine (ref03In_c _ c.mss 1 65535).mono ?_
  rw [e1.out]
  rintro e w' ⟨rfl, rfl⟩
  go_wp2_with fail
  refine (ref03In_c _ c.init 4 1000).mono ?_
  rw [e2.out]
  rintro e w' ⟨rfl, rfl⟩
  go_wp2_with fail
  refine (ref03In_c _ c.reorder 1 100).mono ?_
  rw [e3.out]
  rintro e w' ⟨rfl, rfl⟩
  go_wp2_with fail
  refine (ref03In_c _ c.window 1 1099511627776).mono ?_
  rw [e4.out]
  rintro e w' ⟨rfl, rfl⟩
  go_wp2_with fail
  refine (ref03In_c _ c.probe 1 1099511627776).mono ?_
  rw [e5.out]
  rintro e w' ⟨rfl, rfl⟩
  go_wp2_with fail
  go_ret
  exact ⟨by simp, HH.out.tail.old_below⟩
 ·go_enter Tryz.func6, Tryz.ntmps6
  go_wp2_with (with_reducible refine stop_bx ?_)
  refine Stop.go ?_
  refine wpList_box_own HH.out [_, _, _, _, _, _] rfl ?_
  intro g w13_ H9_
  replace HH := Lib.hid H9_
  clear H9_
  (try clear cc1_)
  have cc1_ := HH.out.cells
  go_wp2_with fail
  refine (ref03In_c _ c.mss 1 65535).mono ?_
  rw [e1.out]
  rintro e w' ⟨rfl, rfl⟩
  go_wp2_with fail
  refine (ref03In_c _ c.init 4 1000).mono ?_
  rw [e2.out]
  rintro e w' ⟨rfl, rfl⟩
  go_wp2_with fail
  refine (ref03In_c _ c.reorder 1 100).mono ?_
  rw [e3.out]
  rintro e w' ⟨rfl, rfl⟩
  go_wp2_with fail
  refine (ref03In_c _ c.window 1 1099511627776).mono ?_
  rw [e4.out]
  rintro e w' ⟨rfl, rfl⟩
  go_wp2_with fail
  refine (ref03In_c _ c.probe 1 1099511627776).mono ?_
  rw [e5.out]
  rintro e w' ⟨rfl, rfl⟩
  go_wp2_with fail
  go_ret
  exact ⟨by simp, HH.out.tail.old_below⟩
end
end Go.Proofs.YtmkcpnlbicijoaaGreat
namespace Go.Proofs.YtmkcpnlbicijoaaGreat
open Go.RowKit Go.Shelf
attribute [local go_sem] Oper.semAt_some
section
variable (ε w : World) (A : List Asn)
abbrev capCf (kb cb : Nat) : Asn := pts kb (.cells #[.pointer (some ⟨cb, 0, none⟩)] 163 (0, 0))
abbrev cnfB (cb : Nat) (c : Cnf) : Asn := pts cb (.cells #[.int .u64 c.mss, .int .u64 c.init, .int .u64 c.reorder, .int .u64 c.window, .int .u64 c.probe, .int .u64 c.loss] 24 (0, 0))
def Cnf.all (c : Cnf) : Bool := inB c.mss 1 65535 && inB c.init 4 1000 && inB c.reorder 1 100 && inB c.window 1 1099511627776 && inB c.probe 1 1099511627776 && inB c.loss 0 1000
theorem Cnf.all_right {c : Cnf} (h : c.Ok) : c.all = c.right := by
 unfold Cnf.all Cnf.right
 have : inB c.loss 0 1000 = decide (c.loss ≤ 1000) := by unfold inB; have := h.loss.1; simp [this]
 rw [this]
def YOut (ε : World) (F G : List Asn) (b : Bool) (e : Ending) (w' : World) : Prop := e = .returned (.bool b) ∧ (b = true → Own ε w' F) ∧ (b = false → Own ε w' G)
def IOut (ε : World) (F G : List Asn) (b : Bool) (e : Ending) (w' : World) : Prop := (∃ v, e = .returned v) ∧ (b = true → Own ε w' F) ∧ (b = false → Own ε w' G)
set_option maxHeartbeats 3200000 in
theorem confIter_c (m l kb cb : Nat) (c : Cnf) (F G : List Asn)
  (hY : ∀ nm o lo hi x W, c.cells[o]? = some (.int .u64 x) → Own ε W (capCf kb cb :: cnfB cb c :: F) → YieldAt Fence.wide m Tryz.prog l #[.string nm, .agg #[.pointer (some ⟨cb, o, none⟩), .int .u64 lo, .int .u64 hi]] W (YOut ε (capCf kb cb :: cnfB cb c :: F) G (inB x lo hi)))
  (H : Own ε w (capCf kb cb :: cnfB cb c :: F)) :
  Calls Tryz.prog 136 #[.func (.yield l) #[] #[], .pointer (some ⟨kb, 0, none⟩)] w (IOut ε (capCf kb cb :: cnfB cb c :: F) G c.all) := by
 have HH := Lib.hid H; clear H
 replace hY := Lib.hid hY
 unfold Cnf.all
 obtain ⟨b1, e1⟩ : ∃ x, inB c.mss 1 65535 = x := ⟨_, rfl⟩
 obtain ⟨b2, e2⟩ : ∃ x, inB c.init 4 1000 = x := ⟨_, rfl⟩
 obtain ⟨b3, e3⟩ : ∃ x, inB c.reorder 1 100 = x := ⟨_, rfl⟩
 obtain ⟨b4, e4⟩ : ∃ x, inB c.window 1 1099511627776 = x := ⟨_, rfl⟩
 obtain ⟨b5, e5⟩ : ∃ x, inB c.probe 1 1099511627776 = x := ⟨_, rfl⟩
 obtain ⟨b6, e6⟩ : ∃ x, inB c.loss 0 1000 = x := ⟨_, rfl⟩
 rw [e1, e2, e3, e4, e5, e6]
 replace e1 := Lib.hid e1
 replace e2 := Lib.hid e2
 replace e3 := Lib.hid e3
 replace e4 := Lib.hid e4
 replace e5 := Lib.hid e5
 replace e6 := Lib.hid e6
 go_enter Tryz.func136, Tryz.ntmps136
 (try clear cc1_)
 have cc1_ := HH.out.cells
 obtain ⟨fn, tmps, assign, body, hy, hR⟩ := hY.out ⟨#[109, 115, 115]⟩ 0 1 65535 c.mss _ rfl HH.out
 refine (wpIn_wide (n := m + 1)).1 ?_
 gi_wp2
 refine hR.mono ?_
 clear hy hR
 rw [e1.out]
 rintro e w1 ⟨rfl, hT, hF⟩
 cases b1
 case' false =>
  have H9 := Lib.hid (hF rfl)
  clear hT hF HH
  gi_wp2
  (repeat (refine ⟨fun _ h => (nomatch h), ?_⟩; gi_wp2))
  go_wp2_with fail
  first | go_end0 | ((try simp only [Exit.inBlock, Exit.then]); refine bodyPost_ret (results_none rfl _ _ _) rfl ?_)
  exact ⟨⟨_, rfl⟩, fun h => by simp at h, fun _ => H9.out⟩
 replace HH := Lib.hid (hT rfl)
 clear hT hF
 (try clear cc1_)
 have cc1_ := HH.out.cells
 obtain ⟨fn, tmps, assign, body, hy, hR⟩ := hY.out ⟨#[105, 110, 105, 116]⟩ 1 4 1000 c.init _ rfl HH.out
 gi_wp2
 refine hR.mono ?_
 clear hy hR
 rw [e2.out]
 rintro e w2 ⟨rfl, hT, hF⟩
 cases b2
 case' false =>
  have H9 := Lib.hid (hF rfl)
  clear hT hF HH
  gi_wp2
  (repeat (refine ⟨fun _ h => (nomatch h), ?_⟩; gi_wp2))
  go_wp2_with fail
  first | go_end0 | ((try simp only [Exit.inBlock, Exit.then]); refine bodyPost_ret (results_none rfl _ _ _) rfl ?_)
  exact ⟨⟨_, rfl⟩, fun h => by simp at h, fun _ => H9.out⟩
 replace HH := Lib.hid (hT rfl)
 clear hT hF
 (try clear cc1_)
 have cc1_ := HH.out.cells
 obtain ⟨fn, tmps, assign, body, hy, hR⟩ := hY.out ⟨#[114, 101, 111, 114, 100, 101, 114]⟩ 2 1 100 c.reorder _ rfl HH.out
 gi_wp2
 refine hR.mono ?_
 clear hy hR
 rw [e3.out]
 rintro e w3 ⟨rfl, hT, hF⟩
 cases b3
 case' false =>
  have H9 := Lib.hid (hF rfl)
  clear hT hF HH
  gi_wp2
  (repeat (refine ⟨fun _ h => (nomatch h), ?_⟩; gi_wp2))
  go_wp2_with fail
  first | go_end0 | ((try simp only [Exit.inBlock, Exit.then]); refine bodyPost_ret (results_none rfl _ _ _) rfl ?_)
  exact ⟨⟨_, rfl⟩, fun h => by simp at h, fun _ => H9.out⟩
 replace HH := Lib.hid (hT rfl)
 clear hT hF
 (try clear cc1_)
 have cc1_ := HH.out.cells
 obtain ⟨fn, tmps, assign, body, hy, hR⟩ := hY.out ⟨#[119, 105, 110, 100, 111, 119]⟩ 3 1 1099511627776 c.window _ rfl HH.out
 gi_wp2
 refine hR.mono ?_
 clear hy hR
 rw [e4.out]
 rintro e w4 ⟨rfl, hT, hF⟩
 cases b4
 case' false =>
  have H9 := Lib.hid (hF rfl)
  clear hT hF HH
  gi_wp2
  (repeat (refine ⟨fun _ h => (nomatch h), ?_⟩; gi_wp2))
  go_wp2_with fail
  first | go_end0 | ((try simp only [Exit.inBlock, Exit.then]); refine bodyPost_ret (results_none rfl _ _ _) rfl ?_)
  exact ⟨⟨_, rfl⟩, fun h => by simp at h, fun _ => H9.out⟩
 replace HH := Lib.hid (hT rfl)
 clear hT hF
 (try clear cc1_)
 have cc1_ := HH.out.cells
 obtain ⟨fn, tmps, assign, body, hy, hR⟩ := hY.out ⟨#[112, 114, 111, 98, 101]⟩ 4 1 1099511627776 c.probe _ rfl HH.out
 gi_wp2
 refine hR.mono ?_
 clear hy hR
 rw [e5.out]
 rintro e w5 ⟨rfl, hT, hF⟩
 cases b5
 case' false =>
  have H9 := Lib.hid (hF rfl)
  clear hT hF HH
  gi_wp2
  (repeat (refine ⟨fun _ h => (nomatch h), ?_⟩; gi_wp2))
  go_wp2_with fail
  first | go_end0 | ((try simp only [Exit.inBlock, Exit.then]); refine bodyPost_ret (results_none rfl _ _ _) rfl ?_)
  exact ⟨⟨_, rfl⟩, fun h => by simp at h, fun _ => H9.out⟩
 replace HH := Lib.hid (hT rfl)
 clear hT hF
 (try clear cc1_)
 have cc1_ := HH.out.cells
 obtain ⟨fn, tmps, assign, body, hy, hR⟩ := hY.out ⟨#[108, 111, 115, 115]⟩ 5 0 1000 c.loss _ rfl HH.out
 gi_wp2
 refine hR.mono ?_
 clear hy hR
 rw [e6.out]
 rintro e w6 ⟨rfl, hT, hF⟩
 cases b6
 case' false =>
  have H9 := Lib.hid (hF rfl)
  clear hT hF HH
  gi_wp2
  (repeat (refine ⟨fun _ h => (nomatch h), ?_⟩; gi_wp2))
  go_wp2_with fail
  first | go_end0 | ((try simp only [Exit.inBlock, Exit.then]); refine bodyPost_ret (results_none rfl _ _ _) rfl ?_)
  exact ⟨⟨_, rfl⟩, fun h => by simp at h, fun _ => H9.out⟩
 replace HH := Lib.hid (hT rfl)
 clear hT hF
 gi_wp2
 go_wp2_with fail
 first | go_end0 | ((try simp only [Exit.inBlock, Exit.then]); refine bodyPost_ret (results_none rfl _ _ _) rfl ?_)
 exact ⟨⟨_, rfl⟩, fun _ => HH.out, fun h => by simp at h⟩
end
end Go.Proofs.YtmkcpnlbicijoaaGreat
