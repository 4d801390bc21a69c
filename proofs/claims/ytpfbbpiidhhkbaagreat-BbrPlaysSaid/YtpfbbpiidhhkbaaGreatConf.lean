/- conf: a setup, and its bytes. -/
import Derived.Test.YtpfbbpiidhhkbaaGreatFix2
import Derived.Test.YtpfbbpiidhhkbaaGreatRnd
import Derived.Test.YtpfbbpiidhhkbaaGreatEv
import Derived.Test.YtpfbbpiidhhkbaaGreatRingC
namespace Go.Proofs.YtpfbbpiidhhkbaaGreat
end Go.Proofs.YtpfbbpiidhhkbaaGreat
namespace Go.Proofs.YtpfbbpiidhhkbaaGreat
open Go.RowKit
theorem rdInts_getD {w : World} {A : Option Addr} {len cap : Nat} {xs : List Int} (h : rdSlice (rdInt .u64) 1 w [.slice A len cap] xs) :
    xs.length = len ∧ len ≤ 9223372036854775807 ∧ (len = 0 ∧ xs = [] ∨ ∃ b off, A = some ⟨b, off, none⟩ ∧ ∀ i, i < len → w.cell? ⟨b, off + i, none⟩ = some (.int .u64 (xs.getD i 0)) ∧ U (xs.getD i 0) ∧ xs.take (i + 1) = xs.take i ++ [xs.getD i 0]) := by
  obtain ⟨h1, h2, h3⟩ := rdInts_cell h
  refine ⟨h1, h2, ?_⟩
  rcases h3 with h | ⟨b, off, e, hx⟩
  · exact .inl ⟨by omega, List.eq_nil_of_length_eq_zero (by omega)⟩
  · refine .inr ⟨b, off, e, fun i hi => ?_⟩
    have hg : xs.getD i 0 = xs[i] := by rw [List.getD, List.getElem?_eq_getElem (by omega)]; rfl
    refine ⟨?_, ?_, take_snoc_getD xs i (by omega)⟩
    · rw [hg]; exact (hx i (by omega)).1
    · rw [hg]; exact (hx i (by omega)).2
theorem sless_snoc (a : Int) (l : List Int) (x : Int) : sless a (l ++ [x]) = ssub (sless a l) x := by simp [sless]
theorem U_sless {a : Int} {l : List Int} (ha : U a) (h : ∀ x ∈ l, U x) : U (sless a l) := by
  unfold sless
  induction l generalizing a with
  | nil => exact ha
  | cons x l ih => exact ih (U_ssub ha (h x (by simp))) (fun y hy => h y (by simp [hy]))
theorem ssub_ite (a b : Int) : a - (if b < a then b else a) = ssub a b := by unfold ssub; split <;> split <;> omega
theorem fixSub_c (w : World) (a : Int) (A : Option Addr) (len cap : Nat) (l : List Int) (ha : U a) (hr : rdSlice (rdInt .u64) 1 w [.slice A len cap] l) :
    Calls Tryz.prog 73 #[.int .u64 a, .slice A len cap] w fun e w' => e = .returned (.int .u64 (sless a l)) ∧ w = w' := by
  have hUl := Lib.hid (rdInts_U hr)
  obtain ⟨h1, h2, h3⟩ := rdInts_getD hr
  replace h1 := Lib.hid h1
  replace ha := Lib.hid ha
  clear hr
  rcases h3 with ⟨rfl, rfl⟩ | ⟨b, off, rfl, hx⟩
  · go_enter Tryz.func73, Tryz.ntmps73
    go_wp2
    go_loop [0, 9] (fun n i => n = .int .u64 a ∧ i = .int .i64 0) (fun _ i => 0)
    case atStart => exact ⟨rfl, rfl⟩
    case round =>
      obtain ⟨rfl, rfl⟩ := hrel
      go_wp2
      go_ret
      exact ⟨rfl, rfl⟩
  · replace hx := Lib.hid hx
    go_enter Tryz.func73, Tryz.ntmps73
    go_wp2
    go_loop [0, 6, 9] (fun n x i => ∃ k : Nat, k ≤ len ∧ i = .int .i64 k ∧ n = .int .u64 (sless a (l.take k))) (fun _ _ i => len - (intOf i).toNat)
    case atStart => exact ⟨0, Nat.zero_le _, rfl, rfl⟩
    case round =>
      obtain ⟨k, hk, rfl, rfl⟩ := hrel
      by_cases hlt : k < len
      · obtain ⟨hc, hU, HT⟩ := hx.out k hlt
        have hs : U (sless a (l.take k)) := U_sless ha.out (fun x h => hUl.out x (List.mem_of_mem_take h))
        generalize l.getD k 0 = v at *
        have HQ := Lib.hid (sless_snoc a (l.take k) v)
        rw [← HT] at HQ
        generalize sless a (l.take k) = s at *
        clear HT
        unfold U at hU hs
        go_wp2
        go_round
        case rel => exact ⟨k + 1, by omega, by go_num, by rw [HQ.out, ← ssub_ite]⟩
        case measure => simp [intOf]; omega
      · have HE := Lib.hid (show l.take k = l from List.take_of_length_le (by have := h1.out; omega))
        go_wp2
        go_ret
        exact ⟨by rw [HE.out]; rfl, rfl⟩
theorem refSub_c (w : World) (a b : Int) (ha : U a) (hb : U b) :
    Calls Tryz.prog 93 #[.int .u64 a, .int .u64 b] w fun e w' => e = .returned (.int .u64 (ssub a b)) ∧ w = w' := by
  unfold U at ha hb
  unfold ssub
  by_cases h : a < b
  · rw [if_pos h]
    go_enter Tryz.func93, Tryz.ntmps93
    go_wp2_with fail
    go_ret
    exact ⟨rfl, rfl⟩
  · rw [if_neg h]
    go_enter Tryz.func93, Tryz.ntmps93
    go_wp2_with fail
    go_ret
    exact ⟨rfl, rfl⟩
theorem rdInts_at {w : World} {b off : Nat} (l : List Int) (hc : ∀ i, i < l.length → w.cell? ⟨b, off + i, none⟩ = some (.int .u64 (l.getD i 0))) (hU : ∀ x ∈ l, U x) (hm : l.length ≤ maxLen) : rdSlice (rdInt .u64) 1 w [.slice (some ⟨b, off, none⟩) l.length l.length] l :=
  rdInts_mk rfl (Nat.le_refl _) hm (fun x hx => wf_of_U (hU x hx)) (fun i hi => by rw [hc i hi, List.getD, List.getElem?_eq_getElem hi]; rfl)
end Go.Proofs.YtpfbbpiidhhkbaaGreat
namespace Go.Proofs.YtpfbbpiidhhkbaaGreat
open Go.RowKit
structure Cnf where
  mss : Int
  init : Int
  reorder : Int
  window : Int
  probe : Int
  loss : Int
deriving DecidableEq
def Cnf.cells (c : Cnf) : List Value := [.int .u64 c.mss, .int .u64 c.init, .int .u64 c.reorder, .int .u64 c.window, .int .u64 c.probe, .int .u64 c.loss]
def Cnf.v (c : Cnf) : Value := .agg #[.int .u64 c.mss, .int .u64 c.init, .int .u64 c.reorder, .int .u64 c.window, .int .u64 c.probe, .int .u64 c.loss]
def inB (x a b : Int) : Bool := decide (a ≤ x) && decide (x ≤ b)
def Cnf.right (c : Cnf) : Bool := inB c.mss 1 65535 && inB c.init 4 1000 && inB c.reorder 1 100 && inB c.window 1 1099511627776 && inB c.probe 1 1099511627776 && decide (c.loss ≤ 1000)
structure Cnf.Ok (c : Cnf) : Prop where
  mss : U c.mss
  init : U c.init
  reorder : U c.reorder
  window : U c.window
  probe : U c.probe
  loss : U c.loss
def Cnf.least (c : Cnf) : Int := smul 4 c.mss
def Cnf.first (c : Cnf) : Int := smul c.init c.mss
def Cnf.quantum (c : Cnf) (rate : Int) : Int := min (max (rate / 1000) (smul 2 c.mss)) (smul 64 c.mss)
def flightI (rate time : Int) : Int := sover rate time 1000000
section
variable (w : World)
theorem confLeast_c (c : Cnf) (hc : c.Ok) : Calls Tryz.prog 55 #[c.v] w fun e w' => e = .returned (.int .u64 c.least) ∧ Below w.heap.size w w' := by
  have HH := Lib.hid (Own.init w)
  have h1 := Lib.hid hc.mss
  clear hc
  unfold Cnf.v Cnf.least
  go_enter Tryz.func55, Tryz.ntmps55
  go_wp2_with (with_reducible refine stop_bx ?_)
  refine Stop.go ?_
  refine wpList_box_own HH.out [_, _, _, _, _, _] rfl ?_
  intro g w1_ H9_
  replace HH := Lib.hid H9_
  clear H9_
  (try clear cc1_); (try clear cc2_); (try clear cc3_); (try clear cc4_); (try clear cc5_); (try clear cc6_); (try clear cc7_)
  have cc1_ := HH.out.cells
  go_wp2_with fail
  refine (fixMul_c _ 4 c.mss (by decide) h1.out).mono ?_
  rintro e w2_ ⟨rfl, hbel⟩
  replace HH := Lib.hid ((by first | exact .same hbel | exact .drew hbel | exact .below hbel : Kp _ w2_) _ _ (by first | exact HH.out | exact HH.out.drewN _ | exact (HH.out.alloc _).tail | exact ((HH.out.alloc _).drewN _).tail | exact ((HH.out.alloc _).alloc _).tail.tail))
  clear hbel
  go_wp2_with fail
  go_ret
  exact ⟨rfl, HH.out.tail.old_below⟩
theorem confFirst_c (c : Cnf) (hc : c.Ok) : Calls Tryz.prog 24 #[c.v] w fun e w' => e = .returned (.int .u64 c.first) ∧ Below w.heap.size w w' := by
  have HH := Lib.hid (Own.init w)
  have h1 := Lib.hid hc.mss
  have h2 := Lib.hid hc.init
  clear hc
  unfold Cnf.v Cnf.first
  go_enter Tryz.func24, Tryz.ntmps24
  go_wp2_with (with_reducible refine stop_bx ?_)
  refine Stop.go ?_
  refine wpList_box_own HH.out [_, _, _, _, _, _] rfl ?_
  intro g w3_ H9_
  replace HH := Lib.hid H9_
  clear H9_
  (try clear cc1_); (try clear cc2_); (try clear cc3_); (try clear cc4_); (try clear cc5_); (try clear cc6_); (try clear cc7_)
  have cc1_ := HH.out.cells
  go_wp2_with fail
  refine (fixMul_c _ c.init c.mss h2.out h1.out).mono ?_
  rintro e w4_ ⟨rfl, hbel⟩
  replace HH := Lib.hid ((by first | exact .same hbel | exact .drew hbel | exact .below hbel : Kp _ w4_) _ _ (by first | exact HH.out | exact HH.out.drewN _ | exact (HH.out.alloc _).tail | exact ((HH.out.alloc _).drewN _).tail | exact ((HH.out.alloc _).alloc _).tail.tail))
  clear hbel
  go_wp2_with fail
  go_ret
  exact ⟨rfl, HH.out.tail.old_below⟩
set_option maxHeartbeats 1600000 in
theorem confQuantum_c (c : Cnf) (hc : c.Ok) (rate : Int) (hr : U rate) : Calls Tryz.prog 56 #[c.v, .int .u64 rate] w fun e w' => e = .returned (.int .u64 (c.quantum rate)) ∧ Below w.heap.size w w' := by
  have HH := Lib.hid (Own.init w)
  have h1 := Lib.hid hc.mss
  have im := min_ite'
  have ix := max_ite'
  have hd : rate.tdiv 1000 = rate / 1000 := Int.tdiv_eq_ediv_of_nonneg hr.1
  have hw : IntKind.u64.wrap (rate / 1000) = rate / 1000 := by unfold U at hr; rw [IntKind.wrap_u64]; omega
  clear hc
  unfold Cnf.v Cnf.quantum
  obtain ⟨rq, hrq⟩ : ∃ rq, rate / 1000 = rq := ⟨_, rfl⟩
  rw [hrq] at hd hw ⊢
  replace hr := Lib.hid hr
  replace hrq := Lib.hid hrq
  go_enter Tryz.func56, Tryz.ntmps56
  go_wp2_with (with_reducible refine stop_bx ?_)
  refine Stop.go ?_
  refine wpList_box_own HH.out [_, _, _, _, _, _] rfl ?_
  intro g w5_ H9_
  replace HH := Lib.hid H9_
  clear H9_
  go_wp2_with fail
  go_wp2_with fail
  refine wp_region_reg none HH.out (by kernel_rfl) ?_
  intro wm H9_
  replace HH := Lib.hid H9_
  clear H9_
  refine reg_p (i := 0) rfl (by kernel_rfl) (fun _ _ _ _ h => h) HH.out (fun K hK => ?_)
  go_simp
  (first | refine hK _ ?_ | (apply Exists.intro; refine ⟨?_, hK _ ?_⟩; focus intro wx; first | (go_simp; rfl) | rfl)); clear hK K
  refine reg_p (i := 1) rfl (by kernel_rfl) (fun _ _ _ _ h => h) HH.out (fun K hK => ?_)
  go_simp
  (first | refine hK _ ?_ | (apply Exists.intro; refine ⟨?_, hK _ ?_⟩; focus intro wx; first | (go_simp; rfl) | rfl)); clear hK K
  refine reg_p (i := 2) rfl (by kernel_rfl) (fun _ _ _ _ h => h) HH.out (fun K hK => ?_)
  go_simp
  (first | refine hK _ ?_ | (apply Exists.intro; refine ⟨?_, hK _ ?_⟩; focus intro wx; first | (go_simp; rfl) | rfl)); clear hK K
  refine mixk_q (i := 3) rfl (by kernel_rfl) (fun _ _ _ _ h => h) HH.out (fun K hK => ?_)
  go_simp
  (first | refine hK _ ?_ | (apply Exists.intro; refine ⟨?_, hK _ ?_⟩; focus intro wx hx; have x1_ := hx.cells; first | (go_simp; first | rfl | exact ⟨rfl, rfl⟩) | rfl | exact ⟨rfl, rfl⟩)); clear hK K
  refine mixk_q (i := 4) rfl (by kernel_rfl) (fun _ _ _ _ h => h) HH.out (fun K hK => ?_)
  go_simp
  (first | refine hK _ ?_ | (apply Exists.intro; refine ⟨?_, hK _ ?_⟩; focus intro wx hx; first | (first | (go_at_call 59; (with_reducible refine (fixMul_c wx 2 c.mss (by decide) h1.out).mono ?_); rintro e wy ⟨rfl, hbel⟩; exact ⟨rfl, (by first | exact .same hbel | exact .drew hbel | exact .below hbel : Kp wx wy)⟩) | (go_at_call 59; (with_reducible refine (fixMul_c wx 64 c.mss (by decide) h1.out).mono ?_); rintro e wy ⟨rfl, hbel⟩; exact ⟨rfl, (by first | exact .same hbel | exact .drew hbel | exact .below hbel : Kp wx wy)⟩)) | (go_simp; first | rfl | exact ⟨rfl, rfl⟩) | rfl | exact ⟨rfl, rfl⟩)); clear hK K
  refine reg_p (i := 5) rfl (by kernel_rfl) (fun _ _ _ _ h => h) HH.out (fun K hK => ?_)
  go_simp
  (first | refine hK _ ?_ | (apply Exists.intro; refine ⟨?_, hK _ ?_⟩; focus intro wx; first | (go_simp; rfl) | rfl)); clear hK K
  refine reg_p (i := 6) rfl (by kernel_rfl) (fun _ _ _ _ h => h) HH.out (fun K hK => ?_)
  go_simp
  (first | refine hK _ ?_ | (apply Exists.intro; refine ⟨?_, hK _ ?_⟩; focus intro wx; first | (go_simp; rfl) | rfl)); clear hK K
  refine mixk_q (i := 7) rfl (by kernel_rfl) (fun _ _ _ _ h => h) HH.out (fun K hK => ?_)
  go_simp
  (first | refine hK _ ?_ | (apply Exists.intro; refine ⟨?_, hK _ ?_⟩; focus intro wx hx; have x1_ := hx.cells; first | (go_simp; first | rfl | exact ⟨rfl, rfl⟩) | rfl | exact ⟨rfl, rfl⟩)); clear hK K
  refine mixk_q (i := 8) rfl (by kernel_rfl) (fun _ _ _ _ h => h) HH.out (fun K hK => ?_)
  go_simp
  (first | refine hK _ ?_ | (apply Exists.intro; refine ⟨?_, hK _ ?_⟩; focus intro wx hx; first | (first | (go_at_call 59; (with_reducible refine (fixMul_c wx 2 c.mss (by decide) h1.out).mono ?_); rintro e wy ⟨rfl, hbel⟩; exact ⟨rfl, (by first | exact .same hbel | exact .drew hbel | exact .below hbel : Kp wx wy)⟩) | (go_at_call 59; (with_reducible refine (fixMul_c wx 64 c.mss (by decide) h1.out).mono ?_); rintro e wy ⟨rfl, hbel⟩; exact ⟨rfl, (by first | exact .same hbel | exact .drew hbel | exact .below hbel : Kp wx wy)⟩)) | (go_simp; first | rfl | exact ⟨rfl, rfl⟩) | rfl | exact ⟨rfl, rfl⟩)); clear hK K
  refine reg_p (i := 9) rfl (by kernel_rfl) (fun _ _ _ _ h => h) HH.out (fun K hK => ?_)
  go_simp
  (first | refine hK _ ?_ | (apply Exists.intro; refine ⟨?_, hK _ ?_⟩; focus intro wx; first | (go_simp; rfl) | rfl)); clear hK K
  refine reg_p (i := 10) rfl (by kernel_rfl) (fun _ _ _ _ h => h) HH.out (fun K hK => ?_)
  go_simp
  (first | refine hK _ ?_ | (apply Exists.intro; refine ⟨?_, hK _ ?_⟩; focus intro wx; first | (go_simp; rfl) | rfl)); clear hK K
  refine mixk_done (by kernel_rfl) (fun w6_ hk => ?_) _
  replace HH := Lib.hid (hk _ _ HH.out)
  clear hk
  go_wp2_with fail
  go_ret
  exact ⟨rfl, HH.out.tail.old_below⟩
theorem confFlight_c (rate time : Int) (h1 : U rate) (h2 : U time) : Calls Tryz.prog 76 #[.int .u64 rate, .int .u64 time] w fun e w' => e = .returned (.int .u64 (flightI rate time)) ∧ Below w.heap.size w w' := by
  have HH := Lib.hid (Own.init w)
  replace h1 := Lib.hid h1
  replace h2 := Lib.hid h2
  unfold flightI
  go_enter Tryz.func76, Tryz.ntmps76
  go_wp2_with fail
  refine (fixOver_c _ _ _ _ h1.out h2.out (by decide)).mono ?_
  rintro e w7_ ⟨rfl, hbel⟩
  replace HH := Lib.hid ((by first | exact .same hbel | exact .drew hbel | exact .below hbel : Kp _ w7_) _ _ (by first | exact HH.out | exact HH.out.drewN _ | exact (HH.out.alloc _).tail | exact ((HH.out.alloc _).drewN _).tail | exact ((HH.out.alloc _).alloc _).tail.tail))
  clear hbel
  go_wp2_with fail
  go_ret
  exact ⟨rfl, HH.out.old_below⟩
theorem ref03In_c (x a b : Int) : Calls Tryz.prog 60 #[.int .u64 x, .int .u64 a, .int .u64 b] w fun e w' => e = .returned (.bool (inB x a b)) ∧ w = w' := by
  unfold inB
  by_cases h1 : a ≤ x
  · go_enter Tryz.func60, Tryz.ntmps60
    go_wp2_with fail
    go_ret
    exact ⟨by simp [*], rfl⟩
  · go_enter Tryz.func60, Tryz.ntmps60
    go_wp2_with fail
    go_ret
    exact ⟨by simp [*] <;> (intros; omega), rfl⟩
set_option maxHeartbeats 3200000 in
theorem ref03Right_c (c : Cnf) : Calls Tryz.prog 25 #[c.v] w fun e w' => e = .returned (.bool c.right) ∧ Below w.heap.size w w' := by
  have HH := Lib.hid (Own.init w)
  unfold Cnf.v Cnf.right
  obtain ⟨b1, e1⟩ : ∃ x, inB c.mss 1 65535 = x := ⟨_, rfl⟩
  obtain ⟨b2, e2⟩ : ∃ x, inB c.init 4 1000 = x := ⟨_, rfl⟩
  obtain ⟨b3, e3⟩ : ∃ x, inB c.reorder 1 100 = x := ⟨_, rfl⟩
  obtain ⟨b4, e4⟩ : ∃ x, inB c.window 1 1099511627776 = x := ⟨_, rfl⟩
  obtain ⟨b5, e5⟩ : ∃ x, inB c.probe 1 1099511627776 = x := ⟨_, rfl⟩
  rw [e1, e2, e3, e4, e5]
  replace e1 := Lib.hid e1
  replace e2 := Lib.hid e2
  replace e3 := Lib.hid e3
  replace e4 := Lib.hid e4
  replace e5 := Lib.hid e5
  cases b1
  · go_enter Tryz.func25, Tryz.ntmps25
    go_wp2_with (with_reducible refine stop_bx ?_)
    refine Stop.go ?_
    refine wpList_box_own HH.out [_, _, _, _, _, _] rfl ?_
    intro g w8_ H9_
    replace HH := Lib.hid H9_
    clear H9_
    (try clear cc1_); (try clear cc2_); (try clear cc3_); (try clear cc4_); (try clear cc5_); (try clear cc6_); (try clear cc7_)
    have cc1_ := HH.out.cells
    go_wp2_with fail
    refine (ref03In_c _ c.mss 1 65535).mono ?_
    rw [e1.out]
    rintro e w' ⟨rfl, rfl⟩
    go_wp2_with fail
    go_ret
    exact ⟨by simp, HH.out.tail.old_below⟩
  cases b2
  · go_enter Tryz.func25, Tryz.ntmps25
    go_wp2_with (with_reducible refine stop_bx ?_)
    refine Stop.go ?_
    refine wpList_box_own HH.out [_, _, _, _, _, _] rfl ?_
    intro g w9_ H9_
    replace HH := Lib.hid H9_
    clear H9_
    (try clear cc1_); (try clear cc2_); (try clear cc3_); (try clear cc4_); (try clear cc5_); (try clear cc6_); (try clear cc7_)
    have cc1_ := HH.out.cells
    go_wp2_with fail
    refine (ref03In_c _ c.mss 1 65535).mono ?_
    rw [e1.out]
    rintro e w' ⟨rfl, rfl⟩
    go_wp2_with fail
    refine (ref03In_c _ c.init 4 1000).mono ?_
    rw [e2.out]
    rintro e w' ⟨rfl, rfl⟩
    go_wp2_with fail
    go_ret
    exact ⟨by simp, HH.out.tail.old_below⟩
  cases b3
  · go_enter Tryz.func25, Tryz.ntmps25
    go_wp2_with (with_reducible refine stop_bx ?_)
    refine Stop.go ?_
    refine wpList_box_own HH.out [_, _, _, _, _, _] rfl ?_
    intro g w10_ H9_
    replace HH := Lib.hid H9_
    clear H9_
    (try clear cc1_); (try clear cc2_); (try clear cc3_); (try clear cc4_); (try clear cc5_); (try clear cc6_); (try clear cc7_)
    have cc1_ := HH.out.cells
    go_wp2_with fail
    refine (ref03In_c _ c.mss 1 65535).mono ?_
    rw [e1.out]
    rintro e w' ⟨rfl, rfl⟩
    go_wp2_with fail
    refine (ref03In_c _ c.init 4 1000).mono ?_
    rw [e2.out]
    rintro e w' ⟨rfl, rfl⟩
    go_wp2_with fail
    refine (ref03In_c _ c.reorder 1 100).mono ?_
    rw [e3.out]
    rintro e w' ⟨rfl, rfl⟩
    go_wp2_with fail
    go_ret
    exact ⟨by simp, HH.out.tail.old_below⟩
  cases b4
  · go_enter Tryz.func25, Tryz.ntmps25
    go_wp2_with (with_reducible refine stop_bx ?_)
    refine Stop.go ?_
    refine wpList_box_own HH.out [_, _, _, _, _, _] rfl ?_
    intro g w11_ H9_
    replace HH := Lib.hid H9_
    clear H9_
    (try clear cc1_); (try clear cc2_); (try clear cc3_); (try clear cc4_); (try clear cc5_); (try clear cc6_); (try clear cc7_)
    have cc1_ := HH.out.cells
    go_wp2_with fail
    refine (ref03In_c _ c.mss 1 65535).mono ?_
    rw [e1.out]
    rintro e w' ⟨rfl, rfl⟩
    go_wp2_with fail
    refine (ref03In_c _ c.init 4 1000).mono ?_
    rw [e2.out]
    rintro e w' ⟨rfl, rfl⟩
    go_wp2_with fail
    refine (ref03In_c _ c.reorder 1 100).mono ?_
    rw [e3.out]
    rintro e w' ⟨rfl, rfl⟩
    go_wp2_with fail
    refine (ref03In_c _ c.window 1 1099511627776).mono ?_
    rw [e4.out]
    rintro e w' ⟨rfl, rfl⟩
    go_wp2_with fail
    go_ret
    exact ⟨by simp, HH.out.tail.old_below⟩
  cases b5
  · go_enter Tryz.func25, Tryz.ntmps25
    go_wp2_with (with_reducible refine stop_bx ?_)
    refine Stop.go ?_
    refine wpList_box_own HH.out [_, _, _, _, _, _] rfl ?_
    intro g w12_ H9_
    replace HH := Lib.hid H9_
    clear H9_
    (try clear cc1_); (try clear cc2_); (try clear cc3_); (try clear cc4_); (try clear cc5_); (try clear cc6_); (try clear cc7_)
    have cc1_ := HH.out.cells
    go_wp2_with fail
    refine (ref03In_c _ c.mss 1 65535).mono ?_
    rw [e1.out]
    rintro e w' ⟨rfl, rfl⟩
    go_wp2_with fail
    refine (ref03In_c _ c.init 4 1000).mono ?_
    rw [e2.out]
    rintro e w' ⟨rfl, rfl⟩
    go_wp2_with fail
    refine (ref03In_c _ c.reorder 1 100).mono ?_
    rw [e3.out]
    rintro e w' ⟨rfl, rfl⟩
    go_wp2_with fail
    refine (ref03In_c _ c.window 1 1099511627776).mono ?_
    rw [e4.out]
    rintro e w' ⟨rfl, rfl⟩
    go_wp2_with fail
    refine (ref03In_c _ c.probe 1 1099511627776).mono ?_
    rw [e5.out]
    rintro e w' ⟨rfl, rfl⟩
    go_wp2_with fail
    go_ret
    exact ⟨by simp, HH.out.tail.old_below⟩
  · go_enter Tryz.func25, Tryz.ntmps25
    go_wp2_with (with_reducible refine stop_bx ?_)
    refine Stop.go ?_
    refine wpList_box_own HH.out [_, _, _, _, _, _] rfl ?_
    intro g w13_ H9_
    replace HH := Lib.hid H9_
    clear H9_
    (try clear cc1_); (try clear cc2_); (try clear cc3_); (try clear cc4_); (try clear cc5_); (try clear cc6_); (try clear cc7_)
    have cc1_ := HH.out.cells
    go_wp2_with fail
    refine (ref03In_c _ c.mss 1 65535).mono ?_
    rw [e1.out]
    rintro e w' ⟨rfl, rfl⟩
    go_wp2_with fail
    refine (ref03In_c _ c.init 4 1000).mono ?_
    rw [e2.out]
    rintro e w' ⟨rfl, rfl⟩
    go_wp2_with fail
    refine (ref03In_c _ c.reorder 1 100).mono ?_
    rw [e3.out]
    rintro e w' ⟨rfl, rfl⟩
    go_wp2_with fail
    refine (ref03In_c _ c.window 1 1099511627776).mono ?_
    rw [e4.out]
    rintro e w' ⟨rfl, rfl⟩
    go_wp2_with fail
    refine (ref03In_c _ c.probe 1 1099511627776).mono ?_
    rw [e5.out]
    rintro e w' ⟨rfl, rfl⟩
    go_wp2_with fail
    go_ret
    exact ⟨by simp, HH.out.tail.old_below⟩
end
end Go.Proofs.YtpfbbpiidhhkbaaGreat
