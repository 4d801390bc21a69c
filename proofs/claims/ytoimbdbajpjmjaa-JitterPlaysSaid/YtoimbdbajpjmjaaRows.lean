/-
  No cell of these rows narrows 'for every input' (looked for: loops, veiled, ifaces, maps, wideKeys, modest, calm, conditions, laid).
  DERIVED. THE GIVEN ROWS OF THIS SEAT. 13 by the template 'for every input the law returns true; each argument reads behind the call as it read before'; 0 by the template 'total and deterministic' (their statements: YtoimbdbajpjmjaaTotals.lean).
  GIVEN WITH THE SEED: the statements are not yours to turn. If you find one false, say at which input.
  Laid BY PROGRAM, IN A SANDBOX (cutbox-rows.mjs): the forced cells as the released guide's own fill.sh prints them over the translation 8357693a5a03db0a… (all of the seat's roots in one cut). By AI agents, Wed Nov 11 2026. No macro, syntax, notation, axiom, sorry.
-/
import Derived.Test.YtoimbdbajpjmjaaChecked
import GoSem.Claim
import GoSem.ClaimJoined
import GoSem.ClaimMapViews
import Derived.JoinedTies
import Derived.KernelRfl
namespace Go.Proofs.Ytoimbdbajpjmjaa
/- THE CELL 'sum', in the pinned program and in every row, IS THE sha256 OF THE DUMP (.gsa) THAT YtoimbdbajpjmjaaProg.lean LOADS. Nothing in Lean hashes anything: it is a label: what it is worth is what the hold of that sum in a sandbox is worth. -/
noncomputable def Try.pinned : Pinned := { name := "ytoimbdbajpjmjaa", sum := "8357693a5a03db0a2053a70e031b19967a961a6b3f6e6b333d35d37a5612aed5", checked := Try.checked }
namespace Rows
def none {H : Type} : Left H := { results := [], args := [] }

/-- 'goitlaw22.MeterRuns': WHATEVER THE INPUT: true; the input reads as it did. -/
def meterRunsSpec : ChangeSpec := { name := "meterRuns", fn := fun _ => fun
  | [d1, d2] => { results := [.lit (.bool true)], args := [d1, d2] }
  | _ => none }
def meterRunsRow : OpenClaim := { program := "ytoimbdbajpjmjaa", sum := "8357693a5a03db0a2053a70e031b19967a961a6b3f6e6b333d35d37a5612aed5", func := "goit/goitlaw22.MeterRuns", spec := "meterRuns", unfollowed := true, recurses := true, apart := false }
def MeterRunsSaid : Prop := meterRunsRow.holds Try.pinned (OpenSpec.ofChange meterRunsSpec)

/-- ITS FALSE NEIGHBOUR: 'it returns false'. Refute it at one input. -/
def meterRunsWrong : ChangeSpec := { name := "meterRuns", fn := fun _ => fun
  | [d1, d2] => { results := [.lit (.bool false)], args := [d1, d2] }
  | _ => none }
def MeterRunsWrongFalsely : Prop := meterRunsRow.holds Try.pinned (OpenSpec.ofChange meterRunsWrong)

/-- 'goitlaw22.MeterMore': WHATEVER THE INPUT: true; the input reads as it did. -/
def meterMoreSpec : ChangeSpec := { name := "meterMore", fn := fun _ => fun
  | [d1, d2, d3] => { results := [.lit (.bool true)], args := [d1, d2, d3] }
  | _ => none }
def meterMoreRow : OpenClaim := { program := "ytoimbdbajpjmjaa", sum := "8357693a5a03db0a2053a70e031b19967a961a6b3f6e6b333d35d37a5612aed5", func := "goit/goitlaw22.MeterMore", spec := "meterMore", unfollowed := true, recurses := true, apart := false }
def MeterMoreSaid : Prop := meterMoreRow.holds Try.pinned (OpenSpec.ofChange meterMoreSpec)

/-- ITS FALSE NEIGHBOUR: 'it returns false'. Refute it at one input. -/
def meterMoreWrong : ChangeSpec := { name := "meterMore", fn := fun _ => fun
  | [d1, d2, d3] => { results := [.lit (.bool false)], args := [d1, d2, d3] }
  | _ => none }
def MeterMoreWrongFalsely : Prop := meterMoreRow.holds Try.pinned (OpenSpec.ofChange meterMoreWrong)

/-- 'goitlaw22.MeterChecks': WHATEVER THE INPUT: true; the input reads as it did. -/
def meterChecksSpec : ChangeSpec := { name := "meterChecks", fn := fun _ => fun
  | [d1, d2] => { results := [.lit (.bool true)], args := [d1, d2] }
  | _ => none }
def meterChecksRow : OpenClaim := { program := "ytoimbdbajpjmjaa", sum := "8357693a5a03db0a2053a70e031b19967a961a6b3f6e6b333d35d37a5612aed5", func := "goit/goitlaw22.MeterChecks", spec := "meterChecks", unfollowed := true, recurses := true, apart := false }
def MeterChecksSaid : Prop := meterChecksRow.holds Try.pinned (OpenSpec.ofChange meterChecksSpec)

/-- ITS FALSE NEIGHBOUR: 'it returns false'. Refute it at one input. -/
def meterChecksWrong : ChangeSpec := { name := "meterChecks", fn := fun _ => fun
  | [d1, d2] => { results := [.lit (.bool false)], args := [d1, d2] }
  | _ => none }
def MeterChecksWrongFalsely : Prop := meterChecksRow.holds Try.pinned (OpenSpec.ofChange meterChecksWrong)

/-- 'goitlaw22.MeterAll': WHATEVER THE INPUT: true; the input reads as it did. -/
def meterAllSpec : ChangeSpec := { name := "meterAll", fn := fun _ => fun
  | [d1, d2, d3] => { results := [.lit (.bool true)], args := [d1, d2, d3] }
  | _ => none }
def meterAllRow : OpenClaim := { program := "ytoimbdbajpjmjaa", sum := "8357693a5a03db0a2053a70e031b19967a961a6b3f6e6b333d35d37a5612aed5", func := "goit/goitlaw22.MeterAll", spec := "meterAll", unfollowed := true, recurses := true, apart := false }
def MeterAllSaid : Prop := meterAllRow.holds Try.pinned (OpenSpec.ofChange meterAllSpec)

/-- ITS FALSE NEIGHBOUR: 'it returns false'. Refute it at one input. -/
def meterAllWrong : ChangeSpec := { name := "meterAll", fn := fun _ => fun
  | [d1, d2, d3] => { results := [.lit (.bool false)], args := [d1, d2, d3] }
  | _ => none }
def MeterAllWrongFalsely : Prop := meterAllRow.holds Try.pinned (OpenSpec.ofChange meterAllWrong)

/-- 'goitlaw20.JitterNone': WHATEVER THE INPUT: true; the input reads as it did. -/
def jitterNoneSpec : ChangeSpec := { name := "jitterNone", fn := fun _ => fun
  | [d1, d2] => { results := [.lit (.bool true)], args := [d1, d2] }
  | _ => none }
def jitterNoneRow : OpenClaim := { program := "ytoimbdbajpjmjaa", sum := "8357693a5a03db0a2053a70e031b19967a961a6b3f6e6b333d35d37a5612aed5", func := "goit/goitlaw20.JitterNone", spec := "jitterNone", inPlace := ["math/bits.Add64"], unfollowed := true, recurses := true, apart := false }
def JitterNoneSaid : Prop := jitterNoneRow.holds Try.pinned (OpenSpec.ofChange jitterNoneSpec)

/-- ITS FALSE NEIGHBOUR: 'it returns false'. Refute it at one input. -/
def jitterNoneWrong : ChangeSpec := { name := "jitterNone", fn := fun _ => fun
  | [d1, d2] => { results := [.lit (.bool false)], args := [d1, d2] }
  | _ => none }
def JitterNoneWrongFalsely : Prop := jitterNoneRow.holds Try.pinned (OpenSpec.ofChange jitterNoneWrong)

/-- 'goitlaw19.QueuePlays': WHATEVER THE INPUT: true; the input reads as it did. -/
def queuePlaysSpec : ChangeSpec := { name := "queuePlays", fn := fun _ => fun
  | [d1, d2] => { results := [.lit (.bool true)], args := [d1, d2] }
  | _ => none }
def queuePlaysRow : OpenClaim := { program := "ytoimbdbajpjmjaa", sum := "8357693a5a03db0a2053a70e031b19967a961a6b3f6e6b333d35d37a5612aed5", func := "goit/goitlaw19.QueuePlays", spec := "queuePlays", inPlace := ["math/bits.Add64"], apart := false }
def QueuePlaysSaid : Prop := queuePlaysRow.holds Try.pinned (OpenSpec.ofChange queuePlaysSpec)

/-- ITS FALSE NEIGHBOUR: 'it returns false'. Refute it at one input. -/
def queuePlaysWrong : ChangeSpec := { name := "queuePlays", fn := fun _ => fun
  | [d1, d2] => { results := [.lit (.bool false)], args := [d1, d2] }
  | _ => none }
def QueuePlaysWrongFalsely : Prop := queuePlaysRow.holds Try.pinned (OpenSpec.ofChange queuePlaysWrong)

/-- 'goitlaw19.QueueOrder': WHATEVER THE INPUT: true; the input reads as it did. -/
def queueOrderSpec : ChangeSpec := { name := "queueOrder", fn := fun _ => fun
  | [d1, d2] => { results := [.lit (.bool true)], args := [d1, d2] }
  | _ => none }
def queueOrderRow : OpenClaim := { program := "ytoimbdbajpjmjaa", sum := "8357693a5a03db0a2053a70e031b19967a961a6b3f6e6b333d35d37a5612aed5", func := "goit/goitlaw19.QueueOrder", spec := "queueOrder", inPlace := ["math/bits.Add64"], apart := false }
def QueueOrderSaid : Prop := queueOrderRow.holds Try.pinned (OpenSpec.ofChange queueOrderSpec)

/-- ITS FALSE NEIGHBOUR: 'it returns false'. Refute it at one input. -/
def queueOrderWrong : ChangeSpec := { name := "queueOrder", fn := fun _ => fun
  | [d1, d2] => { results := [.lit (.bool false)], args := [d1, d2] }
  | _ => none }
def QueueOrderWrongFalsely : Prop := queueOrderRow.holds Try.pinned (OpenSpec.ofChange queueOrderWrong)

/-- 'goitlaw20.JitterPlays': WHATEVER THE INPUT: true; the input reads as it did. -/
def jitterPlaysSpec : ChangeSpec := { name := "jitterPlays", fn := fun _ => fun
  | [d1, d2, d3] => { results := [.lit (.bool true)], args := [d1, d2, d3] }
  | _ => none }
def jitterPlaysRow : OpenClaim := { program := "ytoimbdbajpjmjaa", sum := "8357693a5a03db0a2053a70e031b19967a961a6b3f6e6b333d35d37a5612aed5", func := "goit/goitlaw20.JitterPlays", spec := "jitterPlays", inPlace := ["math/bits.Add64"], unfollowed := true, recurses := true, apart := false }
def JitterPlaysSaid : Prop := jitterPlaysRow.holds Try.pinned (OpenSpec.ofChange jitterPlaysSpec)

/-- ITS FALSE NEIGHBOUR: 'it returns false'. Refute it at one input. -/
def jitterPlaysWrong : ChangeSpec := { name := "jitterPlays", fn := fun _ => fun
  | [d1, d2, d3] => { results := [.lit (.bool false)], args := [d1, d2, d3] }
  | _ => none }
def JitterPlaysWrongFalsely : Prop := jitterPlaysRow.holds Try.pinned (OpenSpec.ofChange jitterPlaysWrong)

/-- 'goitlaw20.JitterLate': WHATEVER THE INPUT: true; the input reads as it did. -/
def jitterLateSpec : ChangeSpec := { name := "jitterLate", fn := fun _ => fun
  | [d1, d2, d3] => { results := [.lit (.bool true)], args := [d1, d2, d3] }
  | _ => none }
def jitterLateRow : OpenClaim := { program := "ytoimbdbajpjmjaa", sum := "8357693a5a03db0a2053a70e031b19967a961a6b3f6e6b333d35d37a5612aed5", func := "goit/goitlaw20.JitterLate", spec := "jitterLate", inPlace := ["math/bits.Add64"], unfollowed := true, recurses := true, apart := false }
def JitterLateSaid : Prop := jitterLateRow.holds Try.pinned (OpenSpec.ofChange jitterLateSpec)

/-- ITS FALSE NEIGHBOUR: 'it returns false'. Refute it at one input. -/
def jitterLateWrong : ChangeSpec := { name := "jitterLate", fn := fun _ => fun
  | [d1, d2, d3] => { results := [.lit (.bool false)], args := [d1, d2, d3] }
  | _ => none }
def JitterLateWrongFalsely : Prop := jitterLateRow.holds Try.pinned (OpenSpec.ofChange jitterLateWrong)

/-- 'goitlaw16.PacerPlays': WHATEVER THE INPUT: true; the input reads as it did. -/
def pacerPlaysSpec : ChangeSpec := { name := "pacerPlays", fn := fun _ => fun
  | [d1, d2] => { results := [.lit (.bool true)], args := [d1, d2] }
  | _ => none }
def pacerPlaysRow : OpenClaim := { program := "ytoimbdbajpjmjaa", sum := "8357693a5a03db0a2053a70e031b19967a961a6b3f6e6b333d35d37a5612aed5", func := "goit/goitlaw16.PacerPlays", spec := "pacerPlays", inPlace := ["math/bits.Add64"], named := ["math/bits.divideError", "math/bits.overflowError"], apart := false }
def PacerPlaysSaid : Prop := pacerPlaysRow.holds Try.pinned (OpenSpec.ofChange pacerPlaysSpec)

/-- ITS FALSE NEIGHBOUR: 'it returns false'. Refute it at one input. -/
def pacerPlaysWrong : ChangeSpec := { name := "pacerPlays", fn := fun _ => fun
  | [d1, d2] => { results := [.lit (.bool false)], args := [d1, d2] }
  | _ => none }
def PacerPlaysWrongFalsely : Prop := pacerPlaysRow.holds Try.pinned (OpenSpec.ofChange pacerPlaysWrong)

/-- 'goitlaw16.PacerNoMore': WHATEVER THE INPUT: true; the input reads as it did. -/
def pacerNoMoreSpec : ChangeSpec := { name := "pacerNoMore", fn := fun _ => fun
  | [d1, d2] => { results := [.lit (.bool true)], args := [d1, d2] }
  | _ => none }
def pacerNoMoreRow : OpenClaim := { program := "ytoimbdbajpjmjaa", sum := "8357693a5a03db0a2053a70e031b19967a961a6b3f6e6b333d35d37a5612aed5", func := "goit/goitlaw16.PacerNoMore", spec := "pacerNoMore", inPlace := ["math/bits.Add64"], named := ["math/bits.divideError", "math/bits.overflowError"], apart := false }
def PacerNoMoreSaid : Prop := pacerNoMoreRow.holds Try.pinned (OpenSpec.ofChange pacerNoMoreSpec)

/-- ITS FALSE NEIGHBOUR: 'it returns false'. Refute it at one input. -/
def pacerNoMoreWrong : ChangeSpec := { name := "pacerNoMore", fn := fun _ => fun
  | [d1, d2] => { results := [.lit (.bool false)], args := [d1, d2] }
  | _ => none }
def PacerNoMoreWrongFalsely : Prop := pacerNoMoreRow.holds Try.pinned (OpenSpec.ofChange pacerNoMoreWrong)

/-- 'goitlaw16.PacerThen': WHATEVER THE INPUT: true; the input reads as it did. -/
def pacerThenSpec : ChangeSpec := { name := "pacerThen", fn := fun _ => fun
  | [d1, d2] => { results := [.lit (.bool true)], args := [d1, d2] }
  | _ => none }
def pacerThenRow : OpenClaim := { program := "ytoimbdbajpjmjaa", sum := "8357693a5a03db0a2053a70e031b19967a961a6b3f6e6b333d35d37a5612aed5", func := "goit/goitlaw16.PacerThen", spec := "pacerThen", inPlace := ["math/bits.Add64"], named := ["math/bits.divideError", "math/bits.overflowError"], apart := false }
def PacerThenSaid : Prop := pacerThenRow.holds Try.pinned (OpenSpec.ofChange pacerThenSpec)

/-- ITS FALSE NEIGHBOUR: 'it returns false'. Refute it at one input. -/
def pacerThenWrong : ChangeSpec := { name := "pacerThen", fn := fun _ => fun
  | [d1, d2] => { results := [.lit (.bool false)], args := [d1, d2] }
  | _ => none }
def PacerThenWrongFalsely : Prop := pacerThenRow.holds Try.pinned (OpenSpec.ofChange pacerThenWrong)

/-- 'goitlaw16.PacerTwice': WHATEVER THE INPUT: true; the input reads as it did. -/
def pacerTwiceSpec : ChangeSpec := { name := "pacerTwice", fn := fun _ => fun
  | [d1, d2, d3] => { results := [.lit (.bool true)], args := [d1, d2, d3] }
  | _ => none }
def pacerTwiceRow : OpenClaim := { program := "ytoimbdbajpjmjaa", sum := "8357693a5a03db0a2053a70e031b19967a961a6b3f6e6b333d35d37a5612aed5", func := "goit/goitlaw16.PacerTwice", spec := "pacerTwice", inPlace := ["math/bits.Add64"], named := ["math/bits.divideError", "math/bits.overflowError"], apart := false }
def PacerTwiceSaid : Prop := pacerTwiceRow.holds Try.pinned (OpenSpec.ofChange pacerTwiceSpec)

/-- ITS FALSE NEIGHBOUR: 'it returns false'. Refute it at one input. -/
def pacerTwiceWrong : ChangeSpec := { name := "pacerTwice", fn := fun _ => fun
  | [d1, d2, d3] => { results := [.lit (.bool false)], args := [d1, d2, d3] }
  | _ => none }
def PacerTwiceWrongFalsely : Prop := pacerTwiceRow.holds Try.pinned (OpenSpec.ofChange pacerTwiceWrong)

/- THE SECOND FORM. 'bulk': how many values and letters a reading holds, each counted each time it is reached (what is shared counts as often as it is met; a slice's spare places count too). A statement '..UptoSaid' is the law's where the arguments, and the package variables that the reading takes, are together of bulk at most 1048576: NARROWER than '..Said'. Prove '..Said' where nothing that the law and all that it calls make is longer than what came in: it says more and counts as full. Else prove '..UptoSaid'. A law counts once. -/
mutual
def uptoBulk {H : Type} : DataW H → Nat
  | .lit (.string bytes) => bytes.length + 1
  | .lit _ => 1
  | .nil => 1
  | .ptr d => uptoBulk d + 1
  | .slice elems spare => uptoBulkAll elems + uptoBulkAll spare + 1
  | .agg parts => uptoBulkAll parts + 1
  | .iface _ d => uptoBulk d + 1
  | .map entries => uptoBulkEntries entries + 1
  | .held _ => 1
def uptoBulkAll {H : Type} : List (DataW H) → Nat
  | [] => 0
  | d :: r => uptoBulk d + uptoBulkAll r
def uptoBulkEntries {H : Type} : List (Lit × DataW H) → Nat
  | [] => 0
  | x :: r => uptoBulkEntry x + uptoBulkEntries r
def uptoBulkEntry {H : Type} : Lit × DataW H → Nat
  | (.string bytes, d) => bytes.length + uptoBulk d + 1
  | (_, d) => uptoBulk d + 1
 end
def uptoSmall : (H : Type) → List (DataW H) → Bool := fun _ ds => decide (uptoBulkAll ds ≤ 1048576)
def OpenSpec.upto (s : _root_.Go.ChangeSpec) : _root_.Go.OpenSpec := { _root_.Go.OpenSpec.ofChange s with cond := some uptoSmall }

/-- 'goitlaw22.MeterRuns', WHERE WHAT IT READS IS OF BULK AT MOST 1048576: true; the input reads as it did. -/
def meterRunsUptoRow : OpenClaim := { program := "ytoimbdbajpjmjaa", sum := "8357693a5a03db0a2053a70e031b19967a961a6b3f6e6b333d35d37a5612aed5", func := "goit/goitlaw22.MeterRuns", spec := "meterRuns", unfollowed := true, recurses := true, apart := false, narrowed := true }
def MeterRunsUptoSaid : Prop := meterRunsUptoRow.holds Try.pinned (OpenSpec.upto meterRunsSpec)

/-- 'goitlaw22.MeterMore', WHERE WHAT IT READS IS OF BULK AT MOST 1048576: true; the input reads as it did. -/
def meterMoreUptoRow : OpenClaim := { program := "ytoimbdbajpjmjaa", sum := "8357693a5a03db0a2053a70e031b19967a961a6b3f6e6b333d35d37a5612aed5", func := "goit/goitlaw22.MeterMore", spec := "meterMore", unfollowed := true, recurses := true, apart := false, narrowed := true }
def MeterMoreUptoSaid : Prop := meterMoreUptoRow.holds Try.pinned (OpenSpec.upto meterMoreSpec)

/-- 'goitlaw22.MeterChecks', WHERE WHAT IT READS IS OF BULK AT MOST 1048576: true; the input reads as it did. -/
def meterChecksUptoRow : OpenClaim := { program := "ytoimbdbajpjmjaa", sum := "8357693a5a03db0a2053a70e031b19967a961a6b3f6e6b333d35d37a5612aed5", func := "goit/goitlaw22.MeterChecks", spec := "meterChecks", unfollowed := true, recurses := true, apart := false, narrowed := true }
def MeterChecksUptoSaid : Prop := meterChecksUptoRow.holds Try.pinned (OpenSpec.upto meterChecksSpec)

/-- 'goitlaw22.MeterAll', WHERE WHAT IT READS IS OF BULK AT MOST 1048576: true; the input reads as it did. -/
def meterAllUptoRow : OpenClaim := { program := "ytoimbdbajpjmjaa", sum := "8357693a5a03db0a2053a70e031b19967a961a6b3f6e6b333d35d37a5612aed5", func := "goit/goitlaw22.MeterAll", spec := "meterAll", unfollowed := true, recurses := true, apart := false, narrowed := true }
def MeterAllUptoSaid : Prop := meterAllUptoRow.holds Try.pinned (OpenSpec.upto meterAllSpec)

/-- 'goitlaw20.JitterNone', WHERE WHAT IT READS IS OF BULK AT MOST 1048576: true; the input reads as it did. -/
def jitterNoneUptoRow : OpenClaim := { program := "ytoimbdbajpjmjaa", sum := "8357693a5a03db0a2053a70e031b19967a961a6b3f6e6b333d35d37a5612aed5", func := "goit/goitlaw20.JitterNone", spec := "jitterNone", inPlace := ["math/bits.Add64"], unfollowed := true, recurses := true, apart := false, narrowed := true }
def JitterNoneUptoSaid : Prop := jitterNoneUptoRow.holds Try.pinned (OpenSpec.upto jitterNoneSpec)

/-- 'goitlaw19.QueuePlays', WHERE WHAT IT READS IS OF BULK AT MOST 1048576: true; the input reads as it did. -/
def queuePlaysUptoRow : OpenClaim := { program := "ytoimbdbajpjmjaa", sum := "8357693a5a03db0a2053a70e031b19967a961a6b3f6e6b333d35d37a5612aed5", func := "goit/goitlaw19.QueuePlays", spec := "queuePlays", inPlace := ["math/bits.Add64"], apart := false, narrowed := true }
def QueuePlaysUptoSaid : Prop := queuePlaysUptoRow.holds Try.pinned (OpenSpec.upto queuePlaysSpec)

/-- 'goitlaw19.QueueOrder', WHERE WHAT IT READS IS OF BULK AT MOST 1048576: true; the input reads as it did. -/
def queueOrderUptoRow : OpenClaim := { program := "ytoimbdbajpjmjaa", sum := "8357693a5a03db0a2053a70e031b19967a961a6b3f6e6b333d35d37a5612aed5", func := "goit/goitlaw19.QueueOrder", spec := "queueOrder", inPlace := ["math/bits.Add64"], apart := false, narrowed := true }
def QueueOrderUptoSaid : Prop := queueOrderUptoRow.holds Try.pinned (OpenSpec.upto queueOrderSpec)

/-- 'goitlaw20.JitterPlays', WHERE WHAT IT READS IS OF BULK AT MOST 1048576: true; the input reads as it did. -/
def jitterPlaysUptoRow : OpenClaim := { program := "ytoimbdbajpjmjaa", sum := "8357693a5a03db0a2053a70e031b19967a961a6b3f6e6b333d35d37a5612aed5", func := "goit/goitlaw20.JitterPlays", spec := "jitterPlays", inPlace := ["math/bits.Add64"], unfollowed := true, recurses := true, apart := false, narrowed := true }
def JitterPlaysUptoSaid : Prop := jitterPlaysUptoRow.holds Try.pinned (OpenSpec.upto jitterPlaysSpec)

/-- 'goitlaw20.JitterLate', WHERE WHAT IT READS IS OF BULK AT MOST 1048576: true; the input reads as it did. -/
def jitterLateUptoRow : OpenClaim := { program := "ytoimbdbajpjmjaa", sum := "8357693a5a03db0a2053a70e031b19967a961a6b3f6e6b333d35d37a5612aed5", func := "goit/goitlaw20.JitterLate", spec := "jitterLate", inPlace := ["math/bits.Add64"], unfollowed := true, recurses := true, apart := false, narrowed := true }
def JitterLateUptoSaid : Prop := jitterLateUptoRow.holds Try.pinned (OpenSpec.upto jitterLateSpec)

/-- 'goitlaw16.PacerPlays', WHERE WHAT IT READS IS OF BULK AT MOST 1048576: true; the input reads as it did. -/
def pacerPlaysUptoRow : OpenClaim := { program := "ytoimbdbajpjmjaa", sum := "8357693a5a03db0a2053a70e031b19967a961a6b3f6e6b333d35d37a5612aed5", func := "goit/goitlaw16.PacerPlays", spec := "pacerPlays", inPlace := ["math/bits.Add64"], named := ["math/bits.divideError", "math/bits.overflowError"], apart := false, narrowed := true }
def PacerPlaysUptoSaid : Prop := pacerPlaysUptoRow.holds Try.pinned (OpenSpec.upto pacerPlaysSpec)

/-- 'goitlaw16.PacerNoMore', WHERE WHAT IT READS IS OF BULK AT MOST 1048576: true; the input reads as it did. -/
def pacerNoMoreUptoRow : OpenClaim := { program := "ytoimbdbajpjmjaa", sum := "8357693a5a03db0a2053a70e031b19967a961a6b3f6e6b333d35d37a5612aed5", func := "goit/goitlaw16.PacerNoMore", spec := "pacerNoMore", inPlace := ["math/bits.Add64"], named := ["math/bits.divideError", "math/bits.overflowError"], apart := false, narrowed := true }
def PacerNoMoreUptoSaid : Prop := pacerNoMoreUptoRow.holds Try.pinned (OpenSpec.upto pacerNoMoreSpec)

/-- 'goitlaw16.PacerThen', WHERE WHAT IT READS IS OF BULK AT MOST 1048576: true; the input reads as it did. -/
def pacerThenUptoRow : OpenClaim := { program := "ytoimbdbajpjmjaa", sum := "8357693a5a03db0a2053a70e031b19967a961a6b3f6e6b333d35d37a5612aed5", func := "goit/goitlaw16.PacerThen", spec := "pacerThen", inPlace := ["math/bits.Add64"], named := ["math/bits.divideError", "math/bits.overflowError"], apart := false, narrowed := true }
def PacerThenUptoSaid : Prop := pacerThenUptoRow.holds Try.pinned (OpenSpec.upto pacerThenSpec)

/-- 'goitlaw16.PacerTwice', WHERE WHAT IT READS IS OF BULK AT MOST 1048576: true; the input reads as it did. -/
def pacerTwiceUptoRow : OpenClaim := { program := "ytoimbdbajpjmjaa", sum := "8357693a5a03db0a2053a70e031b19967a961a6b3f6e6b333d35d37a5612aed5", func := "goit/goitlaw16.PacerTwice", spec := "pacerTwice", inPlace := ["math/bits.Add64"], named := ["math/bits.divideError", "math/bits.overflowError"], apart := false, narrowed := true }
def PacerTwiceUptoSaid : Prop := pacerTwiceUptoRow.holds Try.pinned (OpenSpec.upto pacerTwiceSpec)

end Rows
end Go.Proofs.Ytoimbdbajpjmjaa
