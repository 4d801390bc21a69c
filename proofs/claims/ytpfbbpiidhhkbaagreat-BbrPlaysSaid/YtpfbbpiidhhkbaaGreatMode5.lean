/- mode's laws. -/
import Derived.Test.YtpfbbpiidhhkbaaGreatMode4
import Derived.Test.YtpfbbpiidhhkbaaGreatRow
namespace Go.Proofs.YtpfbbpiidhhkbaaGreat
open Go.RowKit
section
variable (w : World)
theorem modeWait_c (s c p : Int) (hc : U c) : Calls Tryz.prog 82 #[.int .i64 s, .int .u64 c, .int .u64 p] w fun e w' => e = .returned (.int .u64 (waitI s c p)) ∧ w = w' := by
  unfold U at hc
  unfold waitI
  by_cases h2 : s = 2
  · subst h2
    go_enter Tryz.func82, Tryz.ntmps82
    go_wp2_with fail
    go_ret
    exact ⟨rfl, rfl⟩
  by_cases h3 : s = 3
  · subst h3
    go_enter Tryz.func82, Tryz.ntmps82
    go_wp2_with fail
    go_ret
    exact ⟨rfl, rfl⟩
  rw [if_neg (by omega)]
  have b2 : (s == 2) = false := by simpa using h2
  have b3 : (s == 3) = false := by simpa using h3
  by_cases h6 : s = 6
  · subst h6
    rw [if_pos rfl]
    go_enter Tryz.func82, Tryz.ntmps82
    go_wp2_with fail
    go_ret
    exact ⟨rfl, rfl⟩
  · rw [if_neg h6]
    have b6 : (s == 6) = false := by simpa using h6
    go_enter Tryz.func82, Tryz.ntmps82
    go_wp2_with fail
    go_ret
    exact ⟨rfl, rfl⟩
theorem refWait_c (s c p : Int) (hc : U c) : Calls Tryz.prog 100 #[.int .i64 s, .int .u64 c, .int .u64 p] w fun e w' => e = .returned (.int .u64 (waitI s c p)) ∧ w = w' := by
  unfold U at hc
  unfold waitI
  by_cases h2 : s = 2
  · subst h2
    go_enter Tryz.func100, Tryz.ntmps100
    go_wp2_with fail
    go_ret
    exact ⟨rfl, rfl⟩
  by_cases h3 : s = 3
  · subst h3
    go_enter Tryz.func100, Tryz.ntmps100
    go_wp2_with fail
    go_ret
    exact ⟨rfl, rfl⟩
  rw [if_neg (by omega)]
  have b2 : (s == 2) = false := by simpa using h2
  have b3 : (s == 3) = false := by simpa using h3
  by_cases h6 : s = 6
  · subst h6
    rw [if_pos rfl]
    go_enter Tryz.func100, Tryz.ntmps100
    go_wp2_with fail
    go_ret
    exact ⟨rfl, rfl⟩
  · rw [if_neg h6]
    have b6 : (s == 6) = false := by simpa using h6
    go_enter Tryz.func100, Tryz.ntmps100
    go_wp2_with fail
    go_ret
    exact ⟨rfl, rfl⟩
abbrev SigC := Bool × Bool × Bool × Bool × Int × Int × Int × Int × Int × Int × Unit
def rdSig : Rd SigC := rdPair rdBool (rdPair rdBool (rdPair rdBool (rdPair rdBool (rdPair (rdInt .u64) (rdPair (rdInt .u64) (rdPair (rdInt .u64) (rdPair (rdInt .u64) (rdPair (rdInt .u64) (rdPair (rdInt .u64) rdUnit)))))))))
end
end Go.Proofs.YtpfbbpiidhhkbaaGreat
