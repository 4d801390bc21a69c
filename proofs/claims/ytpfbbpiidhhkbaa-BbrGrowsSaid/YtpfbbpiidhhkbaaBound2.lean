/- bound: the least one; and the reference's bounds. -/
import Derived.Test.YtpfbbpiidhhkbaaBound
namespace Go.Proofs.Ytpfbbpiidhhkbaa
open Go.RowKit
theorem minL_snoc (n : Int) (l : List Int) (x : Int) : minL n (l ++ [x]) = min (minL n l) x := by simp [minL]
theorem rdInts_own {ε w : World} {A : Option Addr} {n cap : Nat} {l : List Int} {R : List Asn} (H : Own ε w (own64 (.slice A n cap) l :: R)) (hU : ∀ x ∈ l, U x) : rdSlice (rdInt .u64) 1 w [.slice A n cap] l := by
  obtain ⟨A', n', cap', e, h⟩ := H.nums_rd hU
  cases e
  exact h
set_option maxRecDepth 100000 in
theorem slicesMin_c (w : World) (A : Option Addr) (len cap : Nat) (n : Int) (l : List Int) (hr : rdSlice (rdInt .u64) 1 w [.slice A len cap] (n :: l)) :
    Calls Try.prog 83 #[.slice A len cap] w fun e w' => e = .returned (.int .u64 (minL n l)) ∧ w = w' := by
  obtain ⟨h1, h2, h3⟩ := rdInts_getD hr
  clear hr
  rcases h3 with ⟨rfl, h⟩ | ⟨b, off, rfl, hx⟩
  · cases h
  have hlen : len = l.length + 1 := by simpa using h1.symm
  have hpos : ¬ len < 1 := by omega
  have c0 := (hx 0 (by omega)).1
  rw [Nat.add_zero, show (n :: l).getD 0 0 = n from rfl] at c0
  replace hx := Lib.hid hx
  replace h1 := Lib.hid h1
  replace hlen := Lib.hid hlen
  have im := ite_min
  go_enter Try.func83, Try.ntmps83
  go_wp2
  clear c0
  go_loop [3, 4] (fun m i => ∃ k : Nat, 1 ≤ k ∧ k ≤ len ∧ i = .int .i64 k ∧ m = .int .u64 (minL n (l.take (k - 1)))) (fun _ i => len - (intOf i).toNat)
  case atStart => exact ⟨1, by omega, by omega, rfl, rfl⟩
  case round =>
    obtain ⟨k, hk0, hk, rfl, rfl⟩ := hrel
    by_cases hlt : k < len
    · obtain ⟨hc, hU, HT⟩ := hx.out k hlt
      have hg : (n :: l).getD k 0 = l.getD (k - 1) 0 := by
        obtain ⟨j, rfl⟩ : ∃ j, k = j + 1 := ⟨k - 1, by omega⟩
        simp
      rw [hg] at hc
      have HQ := Lib.hid (minL_snoc n (l.take (k - 1)) (l.getD (k - 1) 0))
      rw [← take_snoc_getD l (k - 1) (by have := hlen.out; omega), show k - 1 + 1 = k + 1 - 1 from by omega] at HQ
      generalize l.getD (k - 1) 0 = v at *
      generalize minL n (l.take (k - 1)) = s at *
      clear HT hU hg
      go_wp2
      go_round
      case rel => exact ⟨k + 1, by omega, by omega, by go_num, by rw [HQ.out]⟩
      case measure => simp [intOf]; omega
    · have HE := Lib.hid (show l.take (k - 1) = l from List.take_of_length_le (by have := hlen.out; omega))
      go_wp2
      go_ret
      exact ⟨by rw [HE.out]; rfl, rfl⟩
set_option maxRecDepth 100000 in
theorem boundCap_c (w : World) (s : Bnd) (hs : s.Ok) (A : Option Addr) (len cap : Nat) (l : List Int) (hm : len ≤ 1000) (hr : rdSlice (rdInt .u64) 1 w [.slice A len cap] l) :
    Calls Try.prog 67 #[s.v, .slice A len cap] w fun e w' => e = .returned (.int .u64 (s.cap l)) ∧ Below w.heap.size w w' := by
  obtain ⟨hi, lo, bw⟩ := s
  obtain ⟨h1, h2, h3⟩ := hs
  simp only at h1 h2 h3
  have hUl := Lib.hid (rdInts_U hr)
  have hll := Lib.hid (rdInts_getD hr).1
  replace h1 := Lib.hid h1
  replace h2 := Lib.hid h2
  clear h3
  replace hr := Lib.hid hr
  have HH := Lib.hid (Own.init w)
  unfold Bnd.v
  go_enter Try.func67, Try.ntmps67
  go_wp2_with (first | with_reducible refine stop_bs ?_ | with_reducible refine stop_bx ?_ | with_reducible refine stop_al ?_ | with_reducible refine stop_ms ?_ | with_reducible refine stop_app ?_ | with_reducible refine stop_copy ?_)
  refine Stop.go ?_
  go_step
  go_simp
  have H1 := Lib.hid (HH.out.alloc (.cells #[.int .u64 hi, .int .u64 lo, .int .u64 bw] 43))
  generalize w.alloc (.cells #[.int .u64 hi, .int .u64 lo, .int .u64 bw] 43) = w1 at *
  generalize w.heap.size = b1 at *
  have k1 := H1.out.cells
  go_wp2_with (first | with_reducible refine stop_bs ?_ | with_reducible refine stop_bx ?_ | with_reducible refine stop_al ?_ | with_reducible refine stop_ms ?_ | with_reducible refine stop_app ?_ | with_reducible refine stop_copy ?_)
  refine Stop.go ?_
  go_step
  go_simp
  have H2 := Lib.hid (H1.out.alloc (.cells #[.int .u64 hi, .int .u64 lo] 22))
  generalize w1.alloc (.cells #[.int .u64 hi, .int .u64 lo] 22) = w2 at *
  generalize w1.heap.size = b2 at *
  clear k1
  have HS := Lib.hid (show Own w w2 (slc 22 1 (.slice (some ⟨b2, 0, none⟩) 2 2) (nums [hi, lo]) :: _) from H2.out.slc_all (by simp [maxLen]) rfl)
  have hr2 := Lib.hid (mono_slice (mono_int .u64) 1 _ w2 _ _ (fun a v h => ((Own.pm (H2.out) (by repeat (first | with_reducible exact Pm.refl _ | with_reducible exact Pm.nil _ | with_reducible refine Pm.here ?_ | with_reducible refine Pm.at2 ?_ | with_reducible refine Pm.at3 ?_ | with_reducible refine Pm.at4 ?_ | with_reducible refine Pm.at5 ?_ | with_reducible refine Pm.at6 ?_ | with_reducible refine Pm.at7 ?_ | with_reducible refine Pm.at8 ?_ | with_reducible refine Pm.skip ?_))) : Own w w2 [old w]).old_cell h) hr.out)
  go_wp2_with (first | with_reducible refine stop_bs ?_ | with_reducible refine stop_bx ?_ | with_reducible refine stop_al ?_ | with_reducible refine stop_ms ?_ | with_reducible refine stop_app ?_ | with_reducible refine stop_copy ?_)
  refine Stop.go ?_
  refine wpList_append_slc rfl _ _ 25 rfl 22 1 8 Try.underlying25 (by kernel_rfl) (by decide) rfl (HS.out) rfl ((show (nums [hi, lo]).length = 2 * 1 from rfl)) ((srcAt_rd hr2.out)) (nums_one _) (by simp only [maxLen]; omega) (by omega) ?_
  intro v3 w3 H3
  replace H3 := Lib.hid H3
  have e0 : nums [hi, lo] ++ nums l = nums (hi :: lo :: l) := by simp [nums]
  rw [e0] at H3
  clear e0
  obtain ⟨A3, n3, cap3, rfl, hr3⟩ := Own.nums_rd H3.out (by
    intro x hx
    rcases List.mem_cons.1 hx with rfl | hx
    · exact h1.out
    · rcases List.mem_cons.1 hx with rfl | hx
      · exact h2.out
      · exact hUl.out x hx)
  replace hr3 := Lib.hid hr3
  go_wp2_with fail
  refine (slicesMin_c _ _ _ _ _ _ hr3.out).mono ?_
  rintro e w' ⟨rfl, rfl⟩
  go_wp2_with fail
  go_ret
  exact ⟨rfl, ((Own.pm (H3.out) (by repeat (first | with_reducible exact Pm.refl _ | with_reducible exact Pm.nil _ | with_reducible refine Pm.here ?_ | with_reducible refine Pm.at2 ?_ | with_reducible refine Pm.at3 ?_ | with_reducible refine Pm.at4 ?_ | with_reducible refine Pm.at5 ?_ | with_reducible refine Pm.at6 ?_ | with_reducible refine Pm.at7 ?_ | with_reducible refine Pm.at8 ?_ | with_reducible refine Pm.skip ?_))) : Own w w3 [old w]).old_below⟩
theorem cut7 (x : Int) (hx : U x) : sshare x 7 10 = cutI x := by
  unfold U at hx
  unfold cutI sshare hi64
  rw [if_neg (by omega), if_neg (by omega)]
  omega
section
variable (w : World)
end
end Go.Proofs.Ytpfbbpiidhhkbaa
