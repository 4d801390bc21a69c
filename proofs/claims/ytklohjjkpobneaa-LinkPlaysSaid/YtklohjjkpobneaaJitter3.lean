/- jitter: the live question, and JitterNone. -/
import Derived.Test.YtklohjjkpobneaaJitter2
import Derived.Test.YtklohjjkpobneaaRdU
import Derived.Outline
namespace Go.Proofs.Ytklohjjkpobneaa
open Go.RowKit
section
variable (w : World)
abbrev ActJ := Bool × Int × Int × Unit
def rdActJ : Rd ActJ := rdPair rdBool (rdPair (rdInt .u64) (rdPair (rdInt .u64) rdUnit))
theorem rdActJ_open {w : World} {c : List Value} {x : ActJ} (h : rdActJ w c x) : c = [.bool x.1, .int .u64 x.2.1, .int .u64 x.2.2.1] ∧ U x.2.1 ∧ U x.2.2.1 := by
  obtain ⟨c1, d1, rfl, rfl, c2, d2, rfl, ⟨rfl, h2⟩, c3, d3, rfl, ⟨rfl, h3⟩, rfl⟩ := h
  exact ⟨rfl, U_of_wf h2, U_of_wf h3⟩
theorem Bo.due_none {s : Bo} {now c : Int} (hj : min c s.jit = 0) (hl : s.last ≤ now + s.delay) (h1 : 0 ≤ now) (h2 : now ≤ 1099511627776) (h3 : 0 ≤ s.delay) (h4 : s.delay ≤ 1099511627776) : s.due now c = now + s.delay := by
  unfold Bo.due
  rw [hj]
  have e1 : sadd now s.delay = now + s.delay := by unfold sadd; rw [if_neg (by omega)]
  have e2 : sadd (now + s.delay) 0 = now + s.delay := by unfold sadd; rw [if_neg (by omega)]; omega
  rw [e1, e2]; omega
end
end Go.Proofs.Ytklohjjkpobneaa
