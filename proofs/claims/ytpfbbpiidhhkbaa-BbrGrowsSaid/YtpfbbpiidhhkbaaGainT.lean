/- gain's table. -/
import Derived.Test.YtpfbbpiidhhkbaaFix01
import Derived.Test.YtpfbbpiidhhkbaaFixP
import Derived.Test.YtpfbbpiidhhkbaaCalm
import Derived.Test.YtpfbbpiidhhkbaaMap
import Derived.Test.YtpfbbpiidhhkbaaSet
import Derived.Outline
namespace Go.Proofs.Ytpfbbpiidhhkbaa
open Go.RowKit
/-- The states' names, and gains. -/
def gTab : List (ByteArray × Int × Int) := [(⟨#[115, 116, 97, 114, 116, 117, 112]⟩, 277, 200), (⟨#[100, 114, 97, 105, 110]⟩, 36, 200), (⟨#[100, 111, 119, 110]⟩, 75, 200), (⟨#[99, 114, 117, 105, 115, 101]⟩, 100, 200), (⟨#[114, 101, 102, 105, 108, 108]⟩, 100, 200), (⟨#[117, 112]⟩, 125, 225), (⟨#[112, 114, 111, 98, 101]⟩, 100, 50)]
def gAt (s : Int) : ByteArray × Int × Int := if 0 ≤ s ∧ s ≤ 6 then gTab.getD s.toNat (⟨#[]⟩, 0, 0) else (⟨#[]⟩, 0, 0)
def gOk (s : Int) : Bool := decide (0 ≤ s ∧ s ≤ 6)
def gCell (g : ByteArray × Int × Int) : Value := .agg #[.string g.1, .int .u64 g.2.1, .int .u64 g.2.2]
def gAgg : Value := .agg (gTab.flatMap fun g => [.string g.1, .int .u64 g.2.1, .int .u64 g.2.2]).toArray
def gPace (s r : Int) : Int := if 0 ≤ s ∧ s ≤ 6 then sshare r (gAt s).2.1 100 else 0
def gWindow (s r : Int) : Int := sover r (gAt s).2.2 100
theorem gAt_cases (s : Int) : (s = 0 ∨ s = 1 ∨ s = 2 ∨ s = 3 ∨ s = 4 ∨ s = 5 ∨ s = 6) ∨ ¬ (0 ≤ s ∧ s ≤ 6) := by omega
theorem U_gAt (s : Int) : U (gAt s).2.1 ∧ U (gAt s).2.2 := by
  rcases gAt_cases s with (rfl | rfl | rfl | rfl | rfl | rfl | rfl) | h
  all_goals first | decide | (unfold gAt; rw [if_neg h]; decide)
section
variable (w : World)
set_option maxRecDepth 100000 in
theorem gainTable_c : Calls Try.prog 73 #[] w fun e w' => e = .returned gAgg ∧ Below w.heap.size w w' := by
  have HH := Lib.hid (Own.init w)
  go_enter Try.func73, Try.ntmps73
  go_wp2_with (first | with_reducible refine stop_bs ?_ | with_reducible refine stop_bx ?_ | with_reducible refine stop_al ?_ | with_reducible refine stop_ms ?_ | with_reducible refine stop_app ?_ | with_reducible refine stop_copy ?_)
  refine Stop.go ?_
  go_step
  go_simp
  have H2 := Lib.hid (HH.out.alloc (.cells #[.string ⟨#[]⟩, .int .u64 0, .int .u64 0, .string ⟨#[]⟩, .int .u64 0, .int .u64 0, .string ⟨#[]⟩, .int .u64 0, .int .u64 0, .string ⟨#[]⟩, .int .u64 0, .int .u64 0, .string ⟨#[]⟩, .int .u64 0, .int .u64 0, .string ⟨#[]⟩, .int .u64 0, .int .u64 0, .string ⟨#[]⟩, .int .u64 0, .int .u64 0] 117))
  generalize w.alloc (.cells #[.string ⟨#[]⟩, .int .u64 0, .int .u64 0, .string ⟨#[]⟩, .int .u64 0, .int .u64 0, .string ⟨#[]⟩, .int .u64 0, .int .u64 0, .string ⟨#[]⟩, .int .u64 0, .int .u64 0, .string ⟨#[]⟩, .int .u64 0, .int .u64 0, .string ⟨#[]⟩, .int .u64 0, .int .u64 0, .string ⟨#[]⟩, .int .u64 0, .int .u64 0] 117) = w2 at *
  generalize w.heap.size = b at *
  go_wp2_with (with_reducible refine stop_st ?_)
  refine Stop.go ?_
  refine wpList_store_own _ #[.string ⟨#[115, 116, 97, 114, 116, 117, 112]⟩, .int .u64 277, .int .u64 200, .string ⟨#[100, 114, 97, 105, 110]⟩, .int .u64 36, .int .u64 200, .string ⟨#[100, 111, 119, 110]⟩, .int .u64 75, .int .u64 200, .string ⟨#[99, 114, 117, 105, 115, 101]⟩, .int .u64 100, .int .u64 200, .string ⟨#[114, 101, 102, 105, 108, 108]⟩, .int .u64 100, .int .u64 200, .string ⟨#[117, 112]⟩, .int .u64 125, .int .u64 225, .string ⟨#[112, 114, 111, 98, 101]⟩, .int .u64 100, .int .u64 50] rfl rfl (H2.out) (by kernel_rfl) rfl (by simp [Value.oneCell']) ?_
  intro w3 H3
  replace H3 := Lib.hid H3
  go_wp2_with fail
  refine bodyPost_ret (results_cell_row rfl _ _ _ _ _ _ _ rfl H3.out.blk Try.underlying117 rfl (by kernel_rfl)) rfl (⟨rfl, H3.out.tail.old_below⟩)
end
end Go.Proofs.Ytpfbbpiidhhkbaa
