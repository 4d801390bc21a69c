/- conf: a setup, and its bytes. -/
import Derived.Test.YtpfbbpiidhhkbaaFixP
import Derived.Test.YtpfbbpiidhhkbaaFix01
import Derived.Test.YtpfbbpiidhhkbaaReg2
import Derived.Test.YtpfbbpiidhhkbaaKp
import Derived.Test.YtpfbbpiidhhkbaaEv
namespace Go.Proofs.Ytpfbbpiidhhkbaa
open Go.RowKit
/-- A setup. -/
structure Cnf where
  mss : Int
  init : Int
  reorder : Int
  window : Int
  probe : Int
  loss : Int
deriving DecidableEq
def Cnf.cells (c : Cnf) : List Value := [.int .u64 c.mss, .int .u64 c.init, .int .u64 c.reorder, .int .u64 c.window, .int .u64 c.probe, .int .u64 c.loss]
def Cnf.v (c : Cnf) : Value := .agg #[.int .u64 c.mss, .int .u64 c.init, .int .u64 c.reorder, .int .u64 c.window, .int .u64 c.probe, .int .u64 c.loss]
def inB (x a b : Int) : Bool := decide (a ≤ x) && decide (x ≤ b)
def Cnf.right (c : Cnf) : Bool := inB c.mss 1 65535 && inB c.init 4 1000 && inB c.reorder 1 100 && inB c.window 1 1099511627776 && inB c.probe 1 1099511627776 && decide (c.loss ≤ 1000)
structure Cnf.Ok (c : Cnf) : Prop where
  mss : U c.mss
  init : U c.init
  reorder : U c.reorder
  window : U c.window
  probe : U c.probe
  loss : U c.loss
def Cnf.least (c : Cnf) : Int := smul 4 c.mss
def Cnf.first (c : Cnf) : Int := smul c.init c.mss
def Cnf.quantum (c : Cnf) (rate : Int) : Int := min (max (rate / 1000) (smul 2 c.mss)) (smul 64 c.mss)
def flightI (rate time : Int) : Int := sover rate time 1000000
section
variable (w : World)
theorem confLeast_c (c : Cnf) (hc : c.Ok) : Calls Try.prog 27 #[c.v] w fun e w' => e = .returned (.int .u64 c.least) ∧ Below w.heap.size w w' := by
  have HH := Lib.hid (Own.init w)
  have h1 := Lib.hid hc.mss
  clear hc
  unfold Cnf.v Cnf.least
  go_enter Try.func27, Try.ntmps27
  go_wp2_with (with_reducible refine stop_bx ?_)
  refine Stop.go ?_
  refine wpList_box_own HH.out [_, _, _, _, _, _] rfl ?_
  intro g w1_ H9_
  replace HH := Lib.hid H9_
  clear H9_
  (try clear cc1_); (try clear cc2_); (try clear cc3_); (try clear cc4_); (try clear cc5_); (try clear cc6_); (try clear cc7_)
  have cc1_ := HH.out.cells
  go_wp2_with fail
  refine (fixMul_c _ 4 c.mss (by decide) h1.out).mono ?_
  rintro e w2_ ⟨rfl, hbel⟩
  replace HH := Lib.hid ((by first | exact Kp.same hbel | exact Kp.drew hbel | exact Kp.below hbel : Kp _ w2_) _ _ (by first | exact HH.out | exact HH.out.drewN _ | exact (HH.out.alloc _).tail | exact ((HH.out.alloc _).drewN _).tail | exact ((HH.out.alloc _).alloc _).tail.tail))
  clear hbel
  go_wp2_with fail
  go_ret
  exact ⟨rfl, HH.out.tail.old_below⟩
theorem confFirst_c (c : Cnf) (hc : c.Ok) : Calls Try.prog 24 #[c.v] w fun e w' => e = .returned (.int .u64 c.first) ∧ Below w.heap.size w w' := by
  have HH := Lib.hid (Own.init w)
  have h1 := Lib.hid hc.mss
  have h2 := Lib.hid hc.init
  clear hc
  unfold Cnf.v Cnf.first
  go_enter Try.func24, Try.ntmps24
  go_wp2_with (with_reducible refine stop_bx ?_)
  refine Stop.go ?_
  refine wpList_box_own HH.out [_, _, _, _, _, _] rfl ?_
  intro g w3_ H9_
  replace HH := Lib.hid H9_
  clear H9_
  (try clear cc1_); (try clear cc2_); (try clear cc3_); (try clear cc4_); (try clear cc5_); (try clear cc6_); (try clear cc7_)
  have cc1_ := HH.out.cells
  go_wp2_with fail
  refine (fixMul_c _ c.init c.mss h2.out h1.out).mono ?_
  rintro e w4_ ⟨rfl, hbel⟩
  replace HH := Lib.hid ((by first | exact Kp.same hbel | exact Kp.drew hbel | exact Kp.below hbel : Kp _ w4_) _ _ (by first | exact HH.out | exact HH.out.drewN _ | exact (HH.out.alloc _).tail | exact ((HH.out.alloc _).drewN _).tail | exact ((HH.out.alloc _).alloc _).tail.tail))
  clear hbel
  go_wp2_with fail
  go_ret
  exact ⟨rfl, HH.out.tail.old_below⟩
set_option maxHeartbeats 1600000 in
theorem confQuantum_c (c : Cnf) (hc : c.Ok) (rate : Int) (hr : U rate) : Calls Try.prog 38 #[c.v, .int .u64 rate] w fun e w' => e = .returned (.int .u64 (c.quantum rate)) ∧ Below w.heap.size w w' := by
  have HH := Lib.hid (Own.init w)
  have h1 := Lib.hid hc.mss
  have im := min_ite'
  have ix := max_ite'
  have hd : rate.tdiv 1000 = rate / 1000 := Int.tdiv_eq_ediv_of_nonneg hr.1
  have hw : IntKind.u64.wrap (rate / 1000) = rate / 1000 := by unfold U at hr; rw [IntKind.wrap_u64]; omega
  clear hc
  unfold Cnf.v Cnf.quantum
  obtain ⟨rq, hrq⟩ : ∃ rq, rate / 1000 = rq := ⟨_, rfl⟩
  rw [hrq] at hd hw ⊢
  replace hr := Lib.hid hr
  replace hrq := Lib.hid hrq
  go_enter Try.func38, Try.ntmps38
  go_wp2_with (with_reducible refine stop_bx ?_)
  refine Stop.go ?_
  refine wpList_box_own HH.out [_, _, _, _, _, _] rfl ?_
  intro g w5_ H9_
  replace HH := Lib.hid H9_
  clear H9_
  go_wp2_with fail
  go_wp2_with fail
  refine wp_region_reg none HH.out (by kernel_rfl) ?_
  intro wm H9_
  replace HH := Lib.hid H9_
  clear H9_
  refine reg_p (i := 0) rfl (by kernel_rfl) (fun _ _ _ _ h => h) HH.out (fun K hK => ?_)
  go_simp
  first | (refine hK _ ?_; clear hK K) | (apply Exists.intro; refine ⟨?_, hK _ ?_⟩; (focus (intro wx; first | (go_simp; first | rfl) | rfl)); clear hK K)
  refine reg_p (i := 1) rfl (by kernel_rfl) (fun _ _ _ _ h => h) HH.out (fun K hK => ?_)
  go_simp
  first | (refine hK _ ?_; clear hK K) | (apply Exists.intro; refine ⟨?_, hK _ ?_⟩; (focus (intro wx; first | (go_simp; first | rfl) | rfl)); clear hK K)
  refine reg_p (i := 2) rfl (by kernel_rfl) (fun _ _ _ _ h => h) HH.out (fun K hK => ?_)
  go_simp
  first | (refine hK _ ?_; clear hK K) | (apply Exists.intro; refine ⟨?_, hK _ ?_⟩; (focus (intro wx; first | (go_simp; first | rfl) | rfl)); clear hK K)
  refine mixk_q (i := 3) rfl (by kernel_rfl) (fun _ _ _ _ h => h) HH.out (fun K hK => ?_)
  go_simp
  first | (refine hK _ ?_; clear hK K) | (apply Exists.intro; refine ⟨?_, hK _ ?_⟩; (focus (intro wx hx; have x1_ := hx.cells; first | (first | (go_at_call 44; (with_reducible refine (fixMul_c wx 2 c.mss (by decide) h1.out).mono ?_); rintro e wy ⟨rfl, hbel⟩; exact ⟨rfl, (by first | exact Kp.same hbel | exact Kp.drew hbel | exact Kp.below hbel : Kp wx wy)⟩) | (go_at_call 44; (with_reducible refine (fixMul_c wx 64 c.mss (by decide) h1.out).mono ?_); rintro e wy ⟨rfl, hbel⟩; exact ⟨rfl, (by first | exact Kp.same hbel | exact Kp.drew hbel | exact Kp.below hbel : Kp wx wy)⟩)) | (go_simp; first | rfl | exact ⟨rfl, rfl⟩) | rfl | exact ⟨rfl, rfl⟩)); clear hK K)
  refine mixk_q (i := 4) rfl (by kernel_rfl) (fun _ _ _ _ h => h) HH.out (fun K hK => ?_)
  go_simp
  first | (refine hK _ ?_; clear hK K) | (apply Exists.intro; refine ⟨?_, hK _ ?_⟩; (focus (intro wx hx; have x1_ := hx.cells; first | (first | (go_at_call 44; (with_reducible refine (fixMul_c wx 2 c.mss (by decide) h1.out).mono ?_); rintro e wy ⟨rfl, hbel⟩; exact ⟨rfl, (by first | exact Kp.same hbel | exact Kp.drew hbel | exact Kp.below hbel : Kp wx wy)⟩) | (go_at_call 44; (with_reducible refine (fixMul_c wx 64 c.mss (by decide) h1.out).mono ?_); rintro e wy ⟨rfl, hbel⟩; exact ⟨rfl, (by first | exact Kp.same hbel | exact Kp.drew hbel | exact Kp.below hbel : Kp wx wy)⟩)) | (go_simp; first | rfl | exact ⟨rfl, rfl⟩) | rfl | exact ⟨rfl, rfl⟩)); clear hK K)
  refine reg_p (i := 5) rfl (by kernel_rfl) (fun _ _ _ _ h => h) HH.out (fun K hK => ?_)
  go_simp
  first | (refine hK _ ?_; clear hK K) | (apply Exists.intro; refine ⟨?_, hK _ ?_⟩; (focus (intro wx; first | (go_simp; first | rfl) | rfl)); clear hK K)
  refine reg_p (i := 6) rfl (by kernel_rfl) (fun _ _ _ _ h => h) HH.out (fun K hK => ?_)
  go_simp
  first | (refine hK _ ?_; clear hK K) | (apply Exists.intro; refine ⟨?_, hK _ ?_⟩; (focus (intro wx; first | (go_simp; first | rfl) | rfl)); clear hK K)
  refine mixk_q (i := 7) rfl (by kernel_rfl) (fun _ _ _ _ h => h) HH.out (fun K hK => ?_)
  go_simp
  first | (refine hK _ ?_; clear hK K) | (apply Exists.intro; refine ⟨?_, hK _ ?_⟩; (focus (intro wx hx; have x1_ := hx.cells; first | (first | (go_at_call 44; (with_reducible refine (fixMul_c wx 2 c.mss (by decide) h1.out).mono ?_); rintro e wy ⟨rfl, hbel⟩; exact ⟨rfl, (by first | exact Kp.same hbel | exact Kp.drew hbel | exact Kp.below hbel : Kp wx wy)⟩) | (go_at_call 44; (with_reducible refine (fixMul_c wx 64 c.mss (by decide) h1.out).mono ?_); rintro e wy ⟨rfl, hbel⟩; exact ⟨rfl, (by first | exact Kp.same hbel | exact Kp.drew hbel | exact Kp.below hbel : Kp wx wy)⟩)) | (go_simp; first | rfl | exact ⟨rfl, rfl⟩) | rfl | exact ⟨rfl, rfl⟩)); clear hK K)
  refine mixk_q (i := 8) rfl (by kernel_rfl) (fun _ _ _ _ h => h) HH.out (fun K hK => ?_)
  go_simp
  first | (refine hK _ ?_; clear hK K) | (apply Exists.intro; refine ⟨?_, hK _ ?_⟩; (focus (intro wx hx; have x1_ := hx.cells; first | (first | (go_at_call 44; (with_reducible refine (fixMul_c wx 2 c.mss (by decide) h1.out).mono ?_); rintro e wy ⟨rfl, hbel⟩; exact ⟨rfl, (by first | exact Kp.same hbel | exact Kp.drew hbel | exact Kp.below hbel : Kp wx wy)⟩) | (go_at_call 44; (with_reducible refine (fixMul_c wx 64 c.mss (by decide) h1.out).mono ?_); rintro e wy ⟨rfl, hbel⟩; exact ⟨rfl, (by first | exact Kp.same hbel | exact Kp.drew hbel | exact Kp.below hbel : Kp wx wy)⟩)) | (go_simp; first | rfl | exact ⟨rfl, rfl⟩) | rfl | exact ⟨rfl, rfl⟩)); clear hK K)
  refine reg_p (i := 9) rfl (by kernel_rfl) (fun _ _ _ _ h => h) HH.out (fun K hK => ?_)
  go_simp
  first | (refine hK _ ?_; clear hK K) | (apply Exists.intro; refine ⟨?_, hK _ ?_⟩; (focus (intro wx; first | (go_simp; first | rfl) | rfl)); clear hK K)
  refine reg_p (i := 10) rfl (by kernel_rfl) (fun _ _ _ _ h => h) HH.out (fun K hK => ?_)
  go_simp
  first | (refine hK _ ?_; clear hK K) | (apply Exists.intro; refine ⟨?_, hK _ ?_⟩; (focus (intro wx; first | (go_simp; first | rfl) | rfl)); clear hK K)
  refine mixk_done (by kernel_rfl) (fun w6_ hk => ?_) _
  replace HH := Lib.hid (hk _ _ HH.out)
  clear hk
  go_wp2_with fail
  go_ret
  exact ⟨rfl, HH.out.tail.old_below⟩
theorem confFlight_c (rate time : Int) (h1 : U rate) (h2 : U time) : Calls Try.prog 55 #[.int .u64 rate, .int .u64 time] w fun e w' => e = .returned (.int .u64 (flightI rate time)) ∧ Below w.heap.size w w' := by
  have HH := Lib.hid (Own.init w)
  replace h1 := Lib.hid h1
  replace h2 := Lib.hid h2
  unfold flightI
  go_enter Try.func55, Try.ntmps55
  go_wp2_with fail
  refine (fixOver_c _ _ _ _ h1.out h2.out (by decide)).mono ?_
  rintro e w7_ ⟨rfl, hbel⟩
  replace HH := Lib.hid ((by first | exact Kp.same hbel | exact Kp.drew hbel | exact Kp.below hbel : Kp _ w7_) _ _ (by first | exact HH.out | exact HH.out.drewN _ | exact (HH.out.alloc _).tail | exact ((HH.out.alloc _).drewN _).tail | exact ((HH.out.alloc _).alloc _).tail.tail))
  clear hbel
  go_wp2_with fail
  go_ret
  exact ⟨rfl, HH.out.old_below⟩
theorem ref03In_c (x a b : Int) : Calls Try.prog 16 #[.int .u64 x, .int .u64 a, .int .u64 b] w fun e w' => e = .returned (.bool (inB x a b)) ∧ w = w' := by
  unfold inB
  by_cases h1 : a ≤ x
  · go_enter Try.func16, Try.ntmps16
    go_wp2_with fail
    go_ret
    exact ⟨by simp [*], rfl⟩
  · go_enter Try.func16, Try.ntmps16
    go_wp2_with fail
    go_ret
    exact ⟨by simp [*] <;> (intros; omega), rfl⟩
set_option maxHeartbeats 3200000 in
theorem ref03Right_c (c : Cnf) : Calls Try.prog 5 #[c.v] w fun e w' => e = .returned (.bool c.right) ∧ Below w.heap.size w w' := by
  have HH := Lib.hid (Own.init w)
  unfold Cnf.v Cnf.right
  obtain ⟨b1, e1⟩ : ∃ x, inB c.mss 1 65535 = x := ⟨_, rfl⟩
  obtain ⟨b2, e2⟩ : ∃ x, inB c.init 4 1000 = x := ⟨_, rfl⟩
  obtain ⟨b3, e3⟩ : ∃ x, inB c.reorder 1 100 = x := ⟨_, rfl⟩
  obtain ⟨b4, e4⟩ : ∃ x, inB c.window 1 1099511627776 = x := ⟨_, rfl⟩
  obtain ⟨b5, e5⟩ : ∃ x, inB c.probe 1 1099511627776 = x := ⟨_, rfl⟩
  rw [e1, e2, e3, e4, e5]
  replace e1 := Lib.hid e1
  replace e2 := Lib.hid e2
  replace e3 := Lib.hid e3
  replace e4 := Lib.hid e4
  replace e5 := Lib.hid e5
  cases b1
  · go_enter Try.func5, Try.ntmps5
    go_wp2_with (with_reducible refine stop_bx ?_)
    refine Stop.go ?_
    refine wpList_box_own HH.out [_, _, _, _, _, _] rfl ?_
    intro g w8_ H9_
    replace HH := Lib.hid H9_
    clear H9_
    (try clear cc1_); (try clear cc2_); (try clear cc3_); (try clear cc4_); (try clear cc5_); (try clear cc6_); (try clear cc7_)
    have cc1_ := HH.out.cells
    go_wp2_with fail
    refine (ref03In_c _ c.mss 1 65535).mono ?_
    rw [e1.out]
    rintro e w' ⟨rfl, rfl⟩
    go_wp2_with fail
    go_ret
    exact ⟨by simp, HH.out.tail.old_below⟩
  cases b2
  · go_enter Try.func5, Try.ntmps5
    go_wp2_with (with_reducible refine stop_bx ?_)
    refine Stop.go ?_
    refine wpList_box_own HH.out [_, _, _, _, _, _] rfl ?_
    intro g w9_ H9_
    replace HH := Lib.hid H9_
    clear H9_
    (try clear cc1_); (try clear cc2_); (try clear cc3_); (try clear cc4_); (try clear cc5_); (try clear cc6_); (try clear cc7_)
    have cc1_ := HH.out.cells
    go_wp2_with fail
    refine (ref03In_c _ c.mss 1 65535).mono ?_
    rw [e1.out]
    rintro e w' ⟨rfl, rfl⟩
    go_wp2_with fail
    refine (ref03In_c _ c.init 4 1000).mono ?_
    rw [e2.out]
    rintro e w' ⟨rfl, rfl⟩
    go_wp2_with fail
    go_ret
    exact ⟨by simp, HH.out.tail.old_below⟩
  cases b3
  · go_enter Try.func5, Try.ntmps5
    go_wp2_with (with_reducible refine stop_bx ?_)
    refine Stop.go ?_
    refine wpList_box_own HH.out [_, _, _, _, _, _] rfl ?_
    intro g w10_ H9_
    replace HH := Lib.hid H9_
    clear H9_
    (try clear cc1_); (try clear cc2_); (try clear cc3_); (try clear cc4_); (try clear cc5_); (try clear cc6_); (try clear cc7_)
    have cc1_ := HH.out.cells
    go_wp2_with fail
    refine (ref03In_c _ c.mss 1 65535).mono ?_
    rw [e1.out]
    rintro e w' ⟨rfl, rfl⟩
    go_wp2_with fail
    refine (ref03In_c _ c.init 4 1000).mono ?_
    rw [e2.out]
    rintro e w' ⟨rfl, rfl⟩
    go_wp2_with fail
    refine (ref03In_c _ c.reorder 1 100).mono ?_
    rw [e3.out]
    rintro e w' ⟨rfl, rfl⟩
    go_wp2_with fail
    go_ret
    exact ⟨by simp, HH.out.tail.old_below⟩
  cases b4
  · go_enter Try.func5, Try.ntmps5
    go_wp2_with (with_reducible refine stop_bx ?_)
    refine Stop.go ?_
    refine wpList_box_own HH.out [_, _, _, _, _, _] rfl ?_
    intro g w11_ H9_
    replace HH := Lib.hid H9_
    clear H9_
    (try clear cc1_); (try clear cc2_); (try clear cc3_); (try clear cc4_); (try clear cc5_); (try clear cc6_); (try clear cc7_)
    have cc1_ := HH.out.cells
    go_wp2_with fail
    refine (ref03In_c _ c.mss 1 65535).mono ?_
    rw [e1.out]
    rintro e w' ⟨rfl, rfl⟩
    go_wp2_with fail
    refine (ref03In_c _ c.init 4 1000).mono ?_
    rw [e2.out]
    rintro e w' ⟨rfl, rfl⟩
    go_wp2_with fail
    refine (ref03In_c _ c.reorder 1 100).mono ?_
    rw [e3.out]
    rintro e w' ⟨rfl, rfl⟩
    go_wp2_with fail
    refine (ref03In_c _ c.window 1 1099511627776).mono ?_
    rw [e4.out]
    rintro e w' ⟨rfl, rfl⟩
    go_wp2_with fail
    go_ret
    exact ⟨by simp, HH.out.tail.old_below⟩
  cases b5
  · go_enter Try.func5, Try.ntmps5
    go_wp2_with (with_reducible refine stop_bx ?_)
    refine Stop.go ?_
    refine wpList_box_own HH.out [_, _, _, _, _, _] rfl ?_
    intro g w12_ H9_
    replace HH := Lib.hid H9_
    clear H9_
    (try clear cc1_); (try clear cc2_); (try clear cc3_); (try clear cc4_); (try clear cc5_); (try clear cc6_); (try clear cc7_)
    have cc1_ := HH.out.cells
    go_wp2_with fail
    refine (ref03In_c _ c.mss 1 65535).mono ?_
    rw [e1.out]
    rintro e w' ⟨rfl, rfl⟩
    go_wp2_with fail
    refine (ref03In_c _ c.init 4 1000).mono ?_
    rw [e2.out]
    rintro e w' ⟨rfl, rfl⟩
    go_wp2_with fail
    refine (ref03In_c _ c.reorder 1 100).mono ?_
    rw [e3.out]
    rintro e w' ⟨rfl, rfl⟩
    go_wp2_with fail
    refine (ref03In_c _ c.window 1 1099511627776).mono ?_
    rw [e4.out]
    rintro e w' ⟨rfl, rfl⟩
    go_wp2_with fail
    refine (ref03In_c _ c.probe 1 1099511627776).mono ?_
    rw [e5.out]
    rintro e w' ⟨rfl, rfl⟩
    go_wp2_with fail
    go_ret
    exact ⟨by simp, HH.out.tail.old_below⟩
  · go_enter Try.func5, Try.ntmps5
    go_wp2_with (with_reducible refine stop_bx ?_)
    refine Stop.go ?_
    refine wpList_box_own HH.out [_, _, _, _, _, _] rfl ?_
    intro g w13_ H9_
    replace HH := Lib.hid H9_
    clear H9_
    (try clear cc1_); (try clear cc2_); (try clear cc3_); (try clear cc4_); (try clear cc5_); (try clear cc6_); (try clear cc7_)
    have cc1_ := HH.out.cells
    go_wp2_with fail
    refine (ref03In_c _ c.mss 1 65535).mono ?_
    rw [e1.out]
    rintro e w' ⟨rfl, rfl⟩
    go_wp2_with fail
    refine (ref03In_c _ c.init 4 1000).mono ?_
    rw [e2.out]
    rintro e w' ⟨rfl, rfl⟩
    go_wp2_with fail
    refine (ref03In_c _ c.reorder 1 100).mono ?_
    rw [e3.out]
    rintro e w' ⟨rfl, rfl⟩
    go_wp2_with fail
    refine (ref03In_c _ c.window 1 1099511627776).mono ?_
    rw [e4.out]
    rintro e w' ⟨rfl, rfl⟩
    go_wp2_with fail
    refine (ref03In_c _ c.probe 1 1099511627776).mono ?_
    rw [e5.out]
    rintro e w' ⟨rfl, rfl⟩
    go_wp2_with fail
    go_ret
    exact ⟨by simp, HH.out.tail.old_below⟩
end
end Go.Proofs.Ytpfbbpiidhhkbaa
