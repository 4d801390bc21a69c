/- fix.Share, fix.Over and what their reference computes. -/
import Derived.Test.YtpfbbpiidhhkbaaDiv64
import Derived.Test.YtpfbbpiidhhkbaaKp
namespace Go.Proofs.Ytpfbbpiidhhkbaa
open Go.RowKit
/-- A product's share, rounded down, and up. -/
def sshare (a b c : Int) : Int := if c ≤ hi64 a b then 18446744073709551615 else a * b / c
def sover (a b c : Int) : Int := if c ≤ hi64 a b then 18446744073709551615 else if 0 < a * b % c then sadd (a * b / c) 1 else a * b / c
theorem hi_lo (a b : Int) : hi64 a b * 18446744073709551616 + lo64 a b = a * b := by unfold hi64 lo64; omega
theorem quo_U {a b c : Int} (ha : U a) (hb : U b) (h : hi64 a b < c) : U (a * b / c) ∧ 0 ≤ a * b % c ∧ a * b % c < c := by
  have h0 := (U_hi64 ha hb).1
  have hm := Int.mul_nonneg ha.1 hb.1
  have hc : 0 < c := by omega
  refine ⟨⟨Int.ediv_nonneg hm (by omega), ?_⟩, Int.emod_nonneg _ (by omega), Int.emod_lt_of_pos _ hc⟩
  have h1 := hi_lo a b
  have h2 := U_lo64 a b
  unfold U at h2
  have : a * b < c * 18446744073709551616 := by
    rw [← h1]; omega
  have := Int.ediv_lt_of_lt_mul hc (show a * b < 18446744073709551616 * c by rw [Int.mul_comm 18446744073709551616]; exact this)
  omega
theorem U_sshare {a b c : Int} (ha : U a) (hb : U b) : U (sshare a b c) := by
  unfold sshare
  split
  · unfold U; omega
  · exact (quo_U ha hb (by omega)).1
theorem U_sover {a b c : Int} (ha : U a) (hb : U b) : U (sover a b c) := by
  unfold sover
  split
  · unfold U; omega
  · have := (quo_U ha hb (show hi64 a b < c by omega)).1
    split
    · exact U_sadd this (by unfold U; omega)
    · exact this
section
variable (w : World) (a b c : Int) (ha : U a) (hb : U b) (hc : U c)
include ha hb hc
omit hc in
theorem fixDivide_no (h : c ≤ hi64 a b) :
    Calls Try.prog 68 #[.int .u64 a, .int .u64 b, .int .u64 c] w fun e w' => e = .returned (.tuple #[.int .u64 0, .int .u64 0, .bool false]) ∧ w = w' := by
  go_enter Try.func68, Try.ntmps68
  go_wp2_with fail
  refine (mul64_c _ a b ha hb).mono ?_
  rintro e w' ⟨rfl, rfl⟩
  go_wp2
  go_ret3
  exact ⟨rfl, rfl⟩
theorem fixDivide_yes (h : hi64 a b < c) :
    Calls Try.prog 68 #[.int .u64 a, .int .u64 b, .int .u64 c] w fun e w' => e = .returned (.tuple #[.int .u64 (a * b / c), .int .u64 (a * b % c), .bool true]) ∧ ∃ n, w' = w.drewN n := by
  have hd := div64_c w (hi64 a b) (lo64 a b) c (U_lo64 a b) hc (U_hi64 ha hb).1 h
  rw [hi_lo] at hd
  go_enter Try.func68, Try.ntmps68
  go_wp2_with fail
  refine (mul64_c _ a b ha hb).mono ?_
  rintro e w' ⟨rfl, rfl⟩
  go_wp2_with fail
  refine hd.mono ?_
  rintro e w' ⟨rfl, n, rfl⟩
  go_wp2
  go_ret3
  exact ⟨rfl, n, rfl⟩
theorem fixShare_c :
    Calls Try.prog 41 #[.int .u64 a, .int .u64 b, .int .u64 c] w fun e w' => e = .returned (.int .u64 (sshare a b c)) ∧ ∃ n, w' = w.drewN n := by
  by_cases h : c ≤ hi64 a b
  · unfold sshare
    rw [if_pos h]
    go_enter Try.func41, Try.ntmps41
    go_wp2_with fail
    refine (fixDivide_no _ a b c ha hb h).mono ?_
    rintro e w' ⟨rfl, rfl⟩
    go_wp2_with fail
    go_ret
    exact ⟨rfl, 0, rfl⟩
  · unfold sshare
    rw [if_neg h]
    have hd := fixDivide_yes w a b c ha hb hc (by omega)
    go_enter Try.func41, Try.ntmps41
    go_wp2_with fail
    refine hd.mono ?_
    rintro e w' ⟨rfl, n, rfl⟩
    go_wp2_with fail
    go_ret
    exact ⟨rfl, n, rfl⟩
theorem fixOver_c :
    Calls Try.prog 80 #[.int .u64 a, .int .u64 b, .int .u64 c] w fun e w' => e = .returned (.int .u64 (sover a b c)) ∧ Below w.heap.size w w' := by
  by_cases h : c ≤ hi64 a b
  · unfold sover
    rw [if_pos h]
    go_enter Try.func80, Try.ntmps80
    go_wp2_with fail
    refine (fixDivide_no _ a b c ha hb h).mono ?_
    rintro e w' ⟨rfl, rfl⟩
    go_wp2_with fail
    go_ret
    exact ⟨rfl, Below.refl _ _⟩
  · unfold sover
    rw [if_neg h]
    have hd := fixDivide_yes w a b c ha hb hc (by omega)
    have hq := quo_U ha hb (show hi64 a b < c by omega)
    have hqU := Lib.hid hq.1
    clear hq
    by_cases hr : 0 < a * b % c
    · rw [if_pos hr]
      go_enter Try.func80, Try.ntmps80
      go_wp2_with fail
      refine hd.mono ?_
      rintro e w' ⟨rfl, n, rfl⟩
      go_wp2_with fail
      refine (fixAdd2_c _ _ (a * b / c) 1 hqU.out (by unfold U; omega) (cell_new _ _ _ 0) (cell_new _ _ _ 1)).mono ?_
      rintro e w' ⟨rfl, rfl⟩
      go_wp2_with fail
      go_ret
      exact ⟨rfl, Below.of_drewN_alloc w n _⟩
    · rw [if_neg hr]
      go_enter Try.func80, Try.ntmps80
      go_wp2_with fail
      refine hd.mono ?_
      rintro e w' ⟨rfl, n, rfl⟩
      go_wp2_with fail
      go_ret
      exact ⟨rfl, Below.of_drewN w n⟩
end
end Go.Proofs.Ytpfbbpiidhhkbaa
