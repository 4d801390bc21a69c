/-
  No cell of these rows narrows 'for every input' (looked for: loops, veiled, ifaces, maps, wideKeys, modest, calm, conditions, laid).
  DERIVED. THE GIVEN ROWS OF THIS SEAT. 13 by the template 'for every input the law returns true; each argument reads behind the call as it read before'; 0 by the template 'total and deterministic' (their statements: YtfcappjodichlaaTotals.lean).
  GIVEN WITH THE SEED: the statements are not yours to turn. If you find one false, say at which input.
  Laid BY PROGRAM, IN A SANDBOX (cutbox-rows.mjs): the forced cells as the released guide's own fill.sh prints them over the translation de63389c3364351e… (all of the seat's roots in one cut). By AI agents, Wed Nov 11 2026. No macro, syntax, notation, axiom, sorry.
-/
import Derived.Test.YtfcappjodichlaaChecked
import GoSem.Claim
import GoSem.ClaimJoined
import GoSem.ClaimMapViews
import Derived.JoinedTies
import Derived.KernelRfl
namespace Go.Proofs.Ytfcappjodichlaa
/- THE CELL 'sum', in the pinned program and in every row, IS THE sha256 OF THE DUMP (.gsa) THAT YtfcappjodichlaaProg.lean LOADS. Nothing in Lean hashes anything: it is a label: what it is worth is what the hold of that sum in a sandbox is worth. -/
noncomputable def Try.pinned : Pinned := { name := "ytfcappjodichlaa", sum := "de63389c3364351e5c9788a111b211997b879e4108591c6a14e78414196d11d2", checked := Try.checked }
namespace Rows
def none {H : Type} : Left H := { results := [], args := [] }

/-- 'goitlaw06.CyclePlays': WHATEVER THE INPUT: true; the input reads as it did. -/
def cyclePlaysSpec : ChangeSpec := { name := "cyclePlays", fn := fun _ => fun
  | [d] => { results := [.lit (.bool true)], args := [d] }
  | _ => none }
def cyclePlaysRow : OpenClaim := { program := "ytfcappjodichlaa", sum := "de63389c3364351e5c9788a111b211997b879e4108591c6a14e78414196d11d2", func := "goit/goitlaw06.CyclePlays", spec := "cyclePlays", apart := false }
def CyclePlaysSaid : Prop := cyclePlaysRow.holds Try.pinned (OpenSpec.ofChange cyclePlaysSpec)

/-- ITS FALSE NEIGHBOUR: 'it returns false'. Refute it at one input. -/
def cyclePlaysWrong : ChangeSpec := { name := "cyclePlays", fn := fun _ => fun
  | [d] => { results := [.lit (.bool false)], args := [d] }
  | _ => none }
def CyclePlaysWrongFalsely : Prop := cyclePlaysRow.holds Try.pinned (OpenSpec.ofChange cyclePlaysWrong)

/-- 'goitlaw06.CycleOrder': WHATEVER THE INPUT: true; the input reads as it did. -/
def cycleOrderSpec : ChangeSpec := { name := "cycleOrder", fn := fun _ => fun
  | [d] => { results := [.lit (.bool true)], args := [d] }
  | _ => none }
def cycleOrderRow : OpenClaim := { program := "ytfcappjodichlaa", sum := "de63389c3364351e5c9788a111b211997b879e4108591c6a14e78414196d11d2", func := "goit/goitlaw06.CycleOrder", spec := "cycleOrder", apart := false }
def CycleOrderSaid : Prop := cycleOrderRow.holds Try.pinned (OpenSpec.ofChange cycleOrderSpec)

/-- ITS FALSE NEIGHBOUR: 'it returns false'. Refute it at one input. -/
def cycleOrderWrong : ChangeSpec := { name := "cycleOrder", fn := fun _ => fun
  | [d] => { results := [.lit (.bool false)], args := [d] }
  | _ => none }
def CycleOrderWrongFalsely : Prop := cycleOrderRow.holds Try.pinned (OpenSpec.ofChange cycleOrderWrong)

/-- 'goitlaw11.RoundCounts': WHATEVER THE INPUT: true; the input reads as it did. -/
def roundCountsSpec : ChangeSpec := { name := "roundCounts", fn := fun _ => fun
  | [d] => { results := [.lit (.bool true)], args := [d] }
  | _ => none }
def roundCountsRow : OpenClaim := { program := "ytfcappjodichlaa", sum := "de63389c3364351e5c9788a111b211997b879e4108591c6a14e78414196d11d2", func := "goit/goitlaw11.RoundCounts", spec := "roundCounts", apart := false }
def RoundCountsSaid : Prop := roundCountsRow.holds Try.pinned (OpenSpec.ofChange roundCountsSpec)

/-- ITS FALSE NEIGHBOUR: 'it returns false'. Refute it at one input. -/
def roundCountsWrong : ChangeSpec := { name := "roundCounts", fn := fun _ => fun
  | [d] => { results := [.lit (.bool false)], args := [d] }
  | _ => none }
def RoundCountsWrongFalsely : Prop := roundCountsRow.holds Try.pinned (OpenSpec.ofChange roundCountsWrong)

/-- 'goitlaw11.RoundFills': WHATEVER THE INPUT: true; the input reads as it did. -/
def roundFillsSpec : ChangeSpec := { name := "roundFills", fn := fun _ => fun
  | [d] => { results := [.lit (.bool true)], args := [d] }
  | _ => none }
def roundFillsRow : OpenClaim := { program := "ytfcappjodichlaa", sum := "de63389c3364351e5c9788a111b211997b879e4108591c6a14e78414196d11d2", func := "goit/goitlaw11.RoundFills", spec := "roundFills", apart := false }
def RoundFillsSaid : Prop := roundFillsRow.holds Try.pinned (OpenSpec.ofChange roundFillsSpec)

/-- ITS FALSE NEIGHBOUR: 'it returns false'. Refute it at one input. -/
def roundFillsWrong : ChangeSpec := { name := "roundFills", fn := fun _ => fun
  | [d] => { results := [.lit (.bool false)], args := [d] }
  | _ => none }
def RoundFillsWrongFalsely : Prop := roundFillsRow.holds Try.pinned (OpenSpec.ofChange roundFillsWrong)

/-- 'goitlaw04.RingPlays': WHATEVER THE INPUT: true; the input reads as it did. -/
def ringPlaysSpec : ChangeSpec := { name := "ringPlays", fn := fun _ => fun
  | [d1, d2] => { results := [.lit (.bool true)], args := [d1, d2] }
  | _ => none }
def ringPlaysRow : OpenClaim := { program := "ytfcappjodichlaa", sum := "de63389c3364351e5c9788a111b211997b879e4108591c6a14e78414196d11d2", func := "goit/goitlaw04.RingPlays", spec := "ringPlays", apart := false }
def RingPlaysSaid : Prop := ringPlaysRow.holds Try.pinned (OpenSpec.ofChange ringPlaysSpec)

/-- ITS FALSE NEIGHBOUR: 'it returns false'. Refute it at one input. -/
def ringPlaysWrong : ChangeSpec := { name := "ringPlays", fn := fun _ => fun
  | [d1, d2] => { results := [.lit (.bool false)], args := [d1, d2] }
  | _ => none }
def RingPlaysWrongFalsely : Prop := ringPlaysRow.holds Try.pinned (OpenSpec.ofChange ringPlaysWrong)

/-- 'goitlaw02.ClockPlays': WHATEVER THE INPUT: true; the input reads as it did. -/
def clockPlaysSpec : ChangeSpec := { name := "clockPlays", fn := fun _ => fun
  | [d] => { results := [.lit (.bool true)], args := [d] }
  | _ => none }
def clockPlaysRow : OpenClaim := { program := "ytfcappjodichlaa", sum := "de63389c3364351e5c9788a111b211997b879e4108591c6a14e78414196d11d2", func := "goit/goitlaw02.ClockPlays", spec := "clockPlays", inPlace := ["math/bits.Add64"], apart := false }
def ClockPlaysSaid : Prop := clockPlaysRow.holds Try.pinned (OpenSpec.ofChange clockPlaysSpec)

/-- ITS FALSE NEIGHBOUR: 'it returns false'. Refute it at one input. -/
def clockPlaysWrong : ChangeSpec := { name := "clockPlays", fn := fun _ => fun
  | [d] => { results := [.lit (.bool false)], args := [d] }
  | _ => none }
def ClockPlaysWrongFalsely : Prop := clockPlaysRow.holds Try.pinned (OpenSpec.ofChange clockPlaysWrong)

/-- 'goitlaw02.ClockOn': WHATEVER THE INPUT: true; the input reads as it did. -/
def clockOnSpec : ChangeSpec := { name := "clockOn", fn := fun _ => fun
  | [d] => { results := [.lit (.bool true)], args := [d] }
  | _ => none }
def clockOnRow : OpenClaim := { program := "ytfcappjodichlaa", sum := "de63389c3364351e5c9788a111b211997b879e4108591c6a14e78414196d11d2", func := "goit/goitlaw02.ClockOn", spec := "clockOn", inPlace := ["math/bits.Add64"], apart := false }
def ClockOnSaid : Prop := clockOnRow.holds Try.pinned (OpenSpec.ofChange clockOnSpec)

/-- ITS FALSE NEIGHBOUR: 'it returns false'. Refute it at one input. -/
def clockOnWrong : ChangeSpec := { name := "clockOn", fn := fun _ => fun
  | [d] => { results := [.lit (.bool false)], args := [d] }
  | _ => none }
def ClockOnWrongFalsely : Prop := clockOnRow.holds Try.pinned (OpenSpec.ofChange clockOnWrong)

/-- 'goitlaw04.RingOwn': WHATEVER THE INPUT: true; the input reads as it did. -/
def ringOwnSpec : ChangeSpec := { name := "ringOwn", fn := fun _ => fun
  | [d1, d2] => { results := [.lit (.bool true)], args := [d1, d2] }
  | _ => none }
def ringOwnRow : OpenClaim := { program := "ytfcappjodichlaa", sum := "de63389c3364351e5c9788a111b211997b879e4108591c6a14e78414196d11d2", func := "goit/goitlaw04.RingOwn", spec := "ringOwn", apart := false }
def RingOwnSaid : Prop := ringOwnRow.holds Try.pinned (OpenSpec.ofChange ringOwnSpec)

/-- ITS FALSE NEIGHBOUR: 'it returns false'. Refute it at one input. -/
def ringOwnWrong : ChangeSpec := { name := "ringOwn", fn := fun _ => fun
  | [d1, d2] => { results := [.lit (.bool false)], args := [d1, d2] }
  | _ => none }
def RingOwnWrongFalsely : Prop := ringOwnRow.holds Try.pinned (OpenSpec.ofChange ringOwnWrong)

/-- 'goitlaw18.BucketPlays': WHATEVER THE INPUT: true; the input reads as it did. -/
def bucketPlaysSpec : ChangeSpec := { name := "bucketPlays", fn := fun _ => fun
  | [d1, d2] => { results := [.lit (.bool true)], args := [d1, d2] }
  | _ => none }
def bucketPlaysRow : OpenClaim := { program := "ytfcappjodichlaa", sum := "de63389c3364351e5c9788a111b211997b879e4108591c6a14e78414196d11d2", func := "goit/goitlaw18.BucketPlays", spec := "bucketPlays", inPlace := ["math/bits.Add64"], apart := false }
def BucketPlaysSaid : Prop := bucketPlaysRow.holds Try.pinned (OpenSpec.ofChange bucketPlaysSpec)

/-- ITS FALSE NEIGHBOUR: 'it returns false'. Refute it at one input. -/
def bucketPlaysWrong : ChangeSpec := { name := "bucketPlays", fn := fun _ => fun
  | [d1, d2] => { results := [.lit (.bool false)], args := [d1, d2] }
  | _ => none }
def BucketPlaysWrongFalsely : Prop := bucketPlaysRow.holds Try.pinned (OpenSpec.ofChange bucketPlaysWrong)

/-- 'goitlaw18.BucketConserved': WHATEVER THE INPUT: true; the input reads as it did. -/
def bucketConservedSpec : ChangeSpec := { name := "bucketConserved", fn := fun _ => fun
  | [d1, d2] => { results := [.lit (.bool true)], args := [d1, d2] }
  | _ => none }
def bucketConservedRow : OpenClaim := { program := "ytfcappjodichlaa", sum := "de63389c3364351e5c9788a111b211997b879e4108591c6a14e78414196d11d2", func := "goit/goitlaw18.BucketConserved", spec := "bucketConserved", inPlace := ["math/bits.Add64"], apart := false }
def BucketConservedSaid : Prop := bucketConservedRow.holds Try.pinned (OpenSpec.ofChange bucketConservedSpec)

/-- ITS FALSE NEIGHBOUR: 'it returns false'. Refute it at one input. -/
def bucketConservedWrong : ChangeSpec := { name := "bucketConserved", fn := fun _ => fun
  | [d1, d2] => { results := [.lit (.bool false)], args := [d1, d2] }
  | _ => none }
def BucketConservedWrongFalsely : Prop := bucketConservedRow.holds Try.pinned (OpenSpec.ofChange bucketConservedWrong)

/-- 'goitlaw18.BucketTwice': WHATEVER THE INPUT: true; the input reads as it did. -/
def bucketTwiceSpec : ChangeSpec := { name := "bucketTwice", fn := fun _ => fun
  | [d1, d2, d3] => { results := [.lit (.bool true)], args := [d1, d2, d3] }
  | _ => none }
def bucketTwiceRow : OpenClaim := { program := "ytfcappjodichlaa", sum := "de63389c3364351e5c9788a111b211997b879e4108591c6a14e78414196d11d2", func := "goit/goitlaw18.BucketTwice", spec := "bucketTwice", inPlace := ["math/bits.Add64"], apart := false }
def BucketTwiceSaid : Prop := bucketTwiceRow.holds Try.pinned (OpenSpec.ofChange bucketTwiceSpec)

/-- ITS FALSE NEIGHBOUR: 'it returns false'. Refute it at one input. -/
def bucketTwiceWrong : ChangeSpec := { name := "bucketTwice", fn := fun _ => fun
  | [d1, d2, d3] => { results := [.lit (.bool false)], args := [d1, d2, d3] }
  | _ => none }
def BucketTwiceWrongFalsely : Prop := bucketTwiceRow.holds Try.pinned (OpenSpec.ofChange bucketTwiceWrong)

/-- 'goitlaw05.FiltFew': WHATEVER THE INPUT: true; the input reads as it did. -/
def filtFewSpec : ChangeSpec := { name := "filtFew", fn := fun _ => fun
  | [d1, d2, d3] => { results := [.lit (.bool true)], args := [d1, d2, d3] }
  | _ => none }
def filtFewRow : OpenClaim := { program := "ytfcappjodichlaa", sum := "de63389c3364351e5c9788a111b211997b879e4108591c6a14e78414196d11d2", func := "goit/goitlaw05.FiltFew", spec := "filtFew", inPlace := ["math/bits.Add64"], unfollowed := true, recurses := true, apart := false }
def FiltFewSaid : Prop := filtFewRow.holds Try.pinned (OpenSpec.ofChange filtFewSpec)

/-- ITS FALSE NEIGHBOUR: 'it returns false'. Refute it at one input. -/
def filtFewWrong : ChangeSpec := { name := "filtFew", fn := fun _ => fun
  | [d1, d2, d3] => { results := [.lit (.bool false)], args := [d1, d2, d3] }
  | _ => none }
def FiltFewWrongFalsely : Prop := filtFewRow.holds Try.pinned (OpenSpec.ofChange filtFewWrong)

/-- 'goitlaw05.FiltClone': WHATEVER THE INPUT: true; the input reads as it did. -/
def filtCloneSpec : ChangeSpec := { name := "filtClone", fn := fun _ => fun
  | [d1, d2, d3] => { results := [.lit (.bool true)], args := [d1, d2, d3] }
  | _ => none }
def filtCloneRow : OpenClaim := { program := "ytfcappjodichlaa", sum := "de63389c3364351e5c9788a111b211997b879e4108591c6a14e78414196d11d2", func := "goit/goitlaw05.FiltClone", spec := "filtClone", inPlace := ["math/bits.Add64"], unfollowed := true, recurses := true, apart := false }
def FiltCloneSaid : Prop := filtCloneRow.holds Try.pinned (OpenSpec.ofChange filtCloneSpec)

/-- ITS FALSE NEIGHBOUR: 'it returns false'. Refute it at one input. -/
def filtCloneWrong : ChangeSpec := { name := "filtClone", fn := fun _ => fun
  | [d1, d2, d3] => { results := [.lit (.bool false)], args := [d1, d2, d3] }
  | _ => none }
def FiltCloneWrongFalsely : Prop := filtCloneRow.holds Try.pinned (OpenSpec.ofChange filtCloneWrong)

/- THE SECOND FORM. 'bulk': how many values and letters a reading holds, each counted each time it is reached (what is shared counts as often as it is met; a slice's spare places count too). A statement '..UptoSaid' is the law's where the arguments, and the package variables that the reading takes, are together of bulk at most 1048576: NARROWER than '..Said'. Prove '..Said' where nothing that the law and all that it calls make is longer than what came in: it says more and counts as full. Else prove '..UptoSaid'. A law counts once. -/
mutual
def uptoBulk {H : Type} : DataW H → Nat
  | .lit (.string bytes) => bytes.length + 1
  | .lit _ => 1
  | .nil => 1
  | .ptr d => uptoBulk d + 1
  | .slice elems spare => uptoBulkAll elems + uptoBulkAll spare + 1
  | .agg parts => uptoBulkAll parts + 1
  | .iface _ d => uptoBulk d + 1
  | .map entries => uptoBulkEntries entries + 1
  | .held _ => 1
def uptoBulkAll {H : Type} : List (DataW H) → Nat
  | [] => 0
  | d :: r => uptoBulk d + uptoBulkAll r
def uptoBulkEntries {H : Type} : List (Lit × DataW H) → Nat
  | [] => 0
  | x :: r => uptoBulkEntry x + uptoBulkEntries r
def uptoBulkEntry {H : Type} : Lit × DataW H → Nat
  | (.string bytes, d) => bytes.length + uptoBulk d + 1
  | (_, d) => uptoBulk d + 1
 end
def uptoSmall : (H : Type) → List (DataW H) → Bool := fun _ ds => decide (uptoBulkAll ds ≤ 1048576)
def OpenSpec.upto (s : _root_.Go.ChangeSpec) : _root_.Go.OpenSpec := { _root_.Go.OpenSpec.ofChange s with cond := some uptoSmall }

/-- 'goitlaw06.CyclePlays', WHERE WHAT IT READS IS OF BULK AT MOST 1048576: true; the input reads as it did. -/
def cyclePlaysUptoRow : OpenClaim := { program := "ytfcappjodichlaa", sum := "de63389c3364351e5c9788a111b211997b879e4108591c6a14e78414196d11d2", func := "goit/goitlaw06.CyclePlays", spec := "cyclePlays", apart := false, narrowed := true }
def CyclePlaysUptoSaid : Prop := cyclePlaysUptoRow.holds Try.pinned (OpenSpec.upto cyclePlaysSpec)

/-- 'goitlaw06.CycleOrder', WHERE WHAT IT READS IS OF BULK AT MOST 1048576: true; the input reads as it did. -/
def cycleOrderUptoRow : OpenClaim := { program := "ytfcappjodichlaa", sum := "de63389c3364351e5c9788a111b211997b879e4108591c6a14e78414196d11d2", func := "goit/goitlaw06.CycleOrder", spec := "cycleOrder", apart := false, narrowed := true }
def CycleOrderUptoSaid : Prop := cycleOrderUptoRow.holds Try.pinned (OpenSpec.upto cycleOrderSpec)

/-- 'goitlaw11.RoundCounts', WHERE WHAT IT READS IS OF BULK AT MOST 1048576: true; the input reads as it did. -/
def roundCountsUptoRow : OpenClaim := { program := "ytfcappjodichlaa", sum := "de63389c3364351e5c9788a111b211997b879e4108591c6a14e78414196d11d2", func := "goit/goitlaw11.RoundCounts", spec := "roundCounts", apart := false, narrowed := true }
def RoundCountsUptoSaid : Prop := roundCountsUptoRow.holds Try.pinned (OpenSpec.upto roundCountsSpec)

/-- 'goitlaw11.RoundFills', WHERE WHAT IT READS IS OF BULK AT MOST 1048576: true; the input reads as it did. -/
def roundFillsUptoRow : OpenClaim := { program := "ytfcappjodichlaa", sum := "de63389c3364351e5c9788a111b211997b879e4108591c6a14e78414196d11d2", func := "goit/goitlaw11.RoundFills", spec := "roundFills", apart := false, narrowed := true }
def RoundFillsUptoSaid : Prop := roundFillsUptoRow.holds Try.pinned (OpenSpec.upto roundFillsSpec)

/-- 'goitlaw04.RingPlays', WHERE WHAT IT READS IS OF BULK AT MOST 1048576: true; the input reads as it did. -/
def ringPlaysUptoRow : OpenClaim := { program := "ytfcappjodichlaa", sum := "de63389c3364351e5c9788a111b211997b879e4108591c6a14e78414196d11d2", func := "goit/goitlaw04.RingPlays", spec := "ringPlays", apart := false, narrowed := true }
def RingPlaysUptoSaid : Prop := ringPlaysUptoRow.holds Try.pinned (OpenSpec.upto ringPlaysSpec)

/-- 'goitlaw02.ClockPlays', WHERE WHAT IT READS IS OF BULK AT MOST 1048576: true; the input reads as it did. -/
def clockPlaysUptoRow : OpenClaim := { program := "ytfcappjodichlaa", sum := "de63389c3364351e5c9788a111b211997b879e4108591c6a14e78414196d11d2", func := "goit/goitlaw02.ClockPlays", spec := "clockPlays", inPlace := ["math/bits.Add64"], apart := false, narrowed := true }
def ClockPlaysUptoSaid : Prop := clockPlaysUptoRow.holds Try.pinned (OpenSpec.upto clockPlaysSpec)

/-- 'goitlaw02.ClockOn', WHERE WHAT IT READS IS OF BULK AT MOST 1048576: true; the input reads as it did. -/
def clockOnUptoRow : OpenClaim := { program := "ytfcappjodichlaa", sum := "de63389c3364351e5c9788a111b211997b879e4108591c6a14e78414196d11d2", func := "goit/goitlaw02.ClockOn", spec := "clockOn", inPlace := ["math/bits.Add64"], apart := false, narrowed := true }
def ClockOnUptoSaid : Prop := clockOnUptoRow.holds Try.pinned (OpenSpec.upto clockOnSpec)

/-- 'goitlaw04.RingOwn', WHERE WHAT IT READS IS OF BULK AT MOST 1048576: true; the input reads as it did. -/
def ringOwnUptoRow : OpenClaim := { program := "ytfcappjodichlaa", sum := "de63389c3364351e5c9788a111b211997b879e4108591c6a14e78414196d11d2", func := "goit/goitlaw04.RingOwn", spec := "ringOwn", apart := false, narrowed := true }
def RingOwnUptoSaid : Prop := ringOwnUptoRow.holds Try.pinned (OpenSpec.upto ringOwnSpec)

/-- 'goitlaw18.BucketPlays', WHERE WHAT IT READS IS OF BULK AT MOST 1048576: true; the input reads as it did. -/
def bucketPlaysUptoRow : OpenClaim := { program := "ytfcappjodichlaa", sum := "de63389c3364351e5c9788a111b211997b879e4108591c6a14e78414196d11d2", func := "goit/goitlaw18.BucketPlays", spec := "bucketPlays", inPlace := ["math/bits.Add64"], apart := false, narrowed := true }
def BucketPlaysUptoSaid : Prop := bucketPlaysUptoRow.holds Try.pinned (OpenSpec.upto bucketPlaysSpec)

/-- 'goitlaw18.BucketConserved', WHERE WHAT IT READS IS OF BULK AT MOST 1048576: true; the input reads as it did. -/
def bucketConservedUptoRow : OpenClaim := { program := "ytfcappjodichlaa", sum := "de63389c3364351e5c9788a111b211997b879e4108591c6a14e78414196d11d2", func := "goit/goitlaw18.BucketConserved", spec := "bucketConserved", inPlace := ["math/bits.Add64"], apart := false, narrowed := true }
def BucketConservedUptoSaid : Prop := bucketConservedUptoRow.holds Try.pinned (OpenSpec.upto bucketConservedSpec)

/-- 'goitlaw18.BucketTwice', WHERE WHAT IT READS IS OF BULK AT MOST 1048576: true; the input reads as it did. -/
def bucketTwiceUptoRow : OpenClaim := { program := "ytfcappjodichlaa", sum := "de63389c3364351e5c9788a111b211997b879e4108591c6a14e78414196d11d2", func := "goit/goitlaw18.BucketTwice", spec := "bucketTwice", inPlace := ["math/bits.Add64"], apart := false, narrowed := true }
def BucketTwiceUptoSaid : Prop := bucketTwiceUptoRow.holds Try.pinned (OpenSpec.upto bucketTwiceSpec)

/-- 'goitlaw05.FiltFew', WHERE WHAT IT READS IS OF BULK AT MOST 1048576: true; the input reads as it did. -/
def filtFewUptoRow : OpenClaim := { program := "ytfcappjodichlaa", sum := "de63389c3364351e5c9788a111b211997b879e4108591c6a14e78414196d11d2", func := "goit/goitlaw05.FiltFew", spec := "filtFew", inPlace := ["math/bits.Add64"], unfollowed := true, recurses := true, apart := false, narrowed := true }
def FiltFewUptoSaid : Prop := filtFewUptoRow.holds Try.pinned (OpenSpec.upto filtFewSpec)

/-- 'goitlaw05.FiltClone', WHERE WHAT IT READS IS OF BULK AT MOST 1048576: true; the input reads as it did. -/
def filtCloneUptoRow : OpenClaim := { program := "ytfcappjodichlaa", sum := "de63389c3364351e5c9788a111b211997b879e4108591c6a14e78414196d11d2", func := "goit/goitlaw05.FiltClone", spec := "filtClone", inPlace := ["math/bits.Add64"], unfollowed := true, recurses := true, apart := false, narrowed := true }
def FiltCloneUptoSaid : Prop := filtCloneUptoRow.holds Try.pinned (OpenSpec.upto filtCloneSpec)

end Rows
end Go.Proofs.Ytfcappjodichlaa
