/-
  No cell of these rows narrows 'for every input' (looked for: loops, veiled, ifaces, maps, wideKeys, modest, calm, conditions, laid).
  DERIVED. THE GIVEN ROWS OF THIS SEAT. 10 by the template 'for every input the law returns true; each argument reads behind the call as it read before'; 0 by the template 'total and deterministic' (their statements: YtklohjjkpobneaaTotals.lean).
  GIVEN WITH THE SEED: the statements are not yours to turn. If you find one false, say at which input.
  Laid BY PROGRAM, IN A SANDBOX (cutbox-rows.mjs): the forced cells as the released guide's own fill.sh prints them over the translation 804fed0aa960a64d… (all of the seat's roots in one cut). By AI agents, Wed Nov 11 2026. No macro, syntax, notation, axiom, sorry.
-/
import Derived.Test.YtklohjjkpobneaaChecked
import GoSem.Claim
import GoSem.ClaimJoined
import GoSem.ClaimMapViews
import Derived.JoinedTies
import Derived.KernelRfl
namespace Go.Proofs.Ytklohjjkpobneaa
/- THE CELL 'sum', in the pinned program and in every row, IS THE sha256 OF THE DUMP (.gsa) THAT YtklohjjkpobneaaProg.lean LOADS. Nothing in Lean hashes anything: it is a label: what it is worth is what the hold of that sum in a sandbox is worth. -/
noncomputable def Try.pinned : Pinned := { name := "ytklohjjkpobneaa", sum := "804fed0aa960a64dce0da3db76673b32b0b5c0c061e3feb9951d1df20ce059f4", checked := Try.checked }
namespace Rows
def none {H : Type} : Left H := { results := [], args := [] }

/-- 'goitlaw10.RateSlow': WHATEVER THE INPUT: true; the input reads as it did. -/
def rateSlowSpec : ChangeSpec := { name := "rateSlow", fn := fun _ => fun
  | [d] => { results := [.lit (.bool true)], args := [d] }
  | _ => none }
def rateSlowRow : OpenClaim := { program := "ytklohjjkpobneaa", sum := "804fed0aa960a64dce0da3db76673b32b0b5c0c061e3feb9951d1df20ce059f4", func := "goit/goitlaw10.RateSlow", spec := "rateSlow", inPlace := ["math/bits.Add64"], named := ["math/bits.divideError", "math/bits.overflowError"], apart := false }
def RateSlowSaid : Prop := rateSlowRow.holds Try.pinned (OpenSpec.ofChange rateSlowSpec)

/-- ITS FALSE NEIGHBOUR: 'it returns false'. Refute it at one input. -/
def rateSlowWrong : ChangeSpec := { name := "rateSlow", fn := fun _ => fun
  | [d] => { results := [.lit (.bool false)], args := [d] }
  | _ => none }
def RateSlowWrongFalsely : Prop := rateSlowRow.holds Try.pinned (OpenSpec.ofChange rateSlowWrong)

/-- 'goitlaw07.SeqsOrder': WHATEVER THE INPUT: true; the input reads as it did. -/
def seqsOrderSpec : ChangeSpec := { name := "seqsOrder", fn := fun _ => fun
  | [d1, d2] => { results := [.lit (.bool true)], args := [d1, d2] }
  | _ => none }
def seqsOrderRow : OpenClaim := { program := "ytklohjjkpobneaa", sum := "804fed0aa960a64dce0da3db76673b32b0b5c0c061e3feb9951d1df20ce059f4", func := "goit/goitlaw07.SeqsOrder", spec := "seqsOrder", inPlace := ["slices.overlaps[goit/api.Range]"], unfollowed := true, recurses := true, apart := false }
def SeqsOrderSaid : Prop := seqsOrderRow.holds Try.pinned (OpenSpec.ofChange seqsOrderSpec)

/-- ITS FALSE NEIGHBOUR: 'it returns false'. Refute it at one input. -/
def seqsOrderWrong : ChangeSpec := { name := "seqsOrder", fn := fun _ => fun
  | [d1, d2] => { results := [.lit (.bool false)], args := [d1, d2] }
  | _ => none }
def SeqsOrderWrongFalsely : Prop := seqsOrderRow.holds Try.pinned (OpenSpec.ofChange seqsOrderWrong)

/-- 'goitlaw08.LedgerOnce': WHATEVER THE INPUT: true; the input reads as it did. -/
def ledgerOnceSpec : ChangeSpec := { name := "ledgerOnce", fn := fun _ => fun
  | [d1, d2] => { results := [.lit (.bool true)], args := [d1, d2] }
  | _ => none }
def ledgerOnceRow : OpenClaim := { program := "ytklohjjkpobneaa", sum := "804fed0aa960a64dce0da3db76673b32b0b5c0c061e3feb9951d1df20ce059f4", func := "goit/goitlaw08.LedgerOnce", spec := "ledgerOnce", inPlace := ["slices.overlaps[goit/api.Range]", "math/bits.Add64"], unfollowed := true, recurses := true, apart := false }
def LedgerOnceSaid : Prop := ledgerOnceRow.holds Try.pinned (OpenSpec.ofChange ledgerOnceSpec)

/-- ITS FALSE NEIGHBOUR: 'it returns false'. Refute it at one input. -/
def ledgerOnceWrong : ChangeSpec := { name := "ledgerOnce", fn := fun _ => fun
  | [d1, d2] => { results := [.lit (.bool false)], args := [d1, d2] }
  | _ => none }
def LedgerOnceWrongFalsely : Prop := ledgerOnceRow.holds Try.pinned (OpenSpec.ofChange ledgerOnceWrong)

/-- 'goitlaw08.LedgerClone': WHATEVER THE INPUT: true; the input reads as it did. -/
def ledgerCloneSpec : ChangeSpec := { name := "ledgerClone", fn := fun _ => fun
  | [d1, d2, d3] => { results := [.lit (.bool true)], args := [d1, d2, d3] }
  | _ => none }
def ledgerCloneRow : OpenClaim := { program := "ytklohjjkpobneaa", sum := "804fed0aa960a64dce0da3db76673b32b0b5c0c061e3feb9951d1df20ce059f4", func := "goit/goitlaw08.LedgerClone", spec := "ledgerClone", inPlace := ["slices.overlaps[goit/api.Range]", "math/bits.Add64"], unfollowed := true, recurses := true, apart := false }
def LedgerCloneSaid : Prop := ledgerCloneRow.holds Try.pinned (OpenSpec.ofChange ledgerCloneSpec)

/-- ITS FALSE NEIGHBOUR: 'it returns false'. Refute it at one input. -/
def ledgerCloneWrong : ChangeSpec := { name := "ledgerClone", fn := fun _ => fun
  | [d1, d2, d3] => { results := [.lit (.bool false)], args := [d1, d2, d3] }
  | _ => none }
def LedgerCloneWrongFalsely : Prop := ledgerCloneRow.holds Try.pinned (OpenSpec.ofChange ledgerCloneWrong)

/-- 'goitlaw21.LinkWait': WHATEVER THE INPUT: true; the input reads as it did. -/
def linkWaitSpec : ChangeSpec := { name := "linkWait", fn := fun _ => fun
  | [d1, d2, d3] => { results := [.lit (.bool true)], args := [d1, d2, d3] }
  | _ => none }
def linkWaitRow : OpenClaim := { program := "ytklohjjkpobneaa", sum := "804fed0aa960a64dce0da3db76673b32b0b5c0c061e3feb9951d1df20ce059f4", func := "goit/goitlaw21.LinkWait", spec := "linkWait", inPlace := ["math/bits.Add64"], unfollowed := true, recurses := true, apart := false }
def LinkWaitSaid : Prop := linkWaitRow.holds Try.pinned (OpenSpec.ofChange linkWaitSpec)

/-- ITS FALSE NEIGHBOUR: 'it returns false'. Refute it at one input. -/
def linkWaitWrong : ChangeSpec := { name := "linkWait", fn := fun _ => fun
  | [d1, d2, d3] => { results := [.lit (.bool false)], args := [d1, d2, d3] }
  | _ => none }
def LinkWaitWrongFalsely : Prop := linkWaitRow.holds Try.pinned (OpenSpec.ofChange linkWaitWrong)

/-- 'goitlaw21.LinkPlays': WHATEVER THE INPUT: true; the input reads as it did. -/
def linkPlaysSpec : ChangeSpec := { name := "linkPlays", fn := fun _ => fun
  | [d1, d2] => { results := [.lit (.bool true)], args := [d1, d2] }
  | _ => none }
def linkPlaysRow : OpenClaim := { program := "ytklohjjkpobneaa", sum := "804fed0aa960a64dce0da3db76673b32b0b5c0c061e3feb9951d1df20ce059f4", func := "goit/goitlaw21.LinkPlays", spec := "linkPlays", inPlace := ["math/bits.Add64"], unfollowed := true, recurses := true, apart := false }
def LinkPlaysSaid : Prop := linkPlaysRow.holds Try.pinned (OpenSpec.ofChange linkPlaysSpec)

/-- ITS FALSE NEIGHBOUR: 'it returns false'. Refute it at one input. -/
def linkPlaysWrong : ChangeSpec := { name := "linkPlays", fn := fun _ => fun
  | [d1, d2] => { results := [.lit (.bool false)], args := [d1, d2] }
  | _ => none }
def LinkPlaysWrongFalsely : Prop := linkPlaysRow.holds Try.pinned (OpenSpec.ofChange linkPlaysWrong)

/-- 'goitlaw21.LinkEnvelope': WHATEVER THE INPUT: true; the input reads as it did. -/
def linkEnvelopeSpec : ChangeSpec := { name := "linkEnvelope", fn := fun _ => fun
  | [d1, d2] => { results := [.lit (.bool true)], args := [d1, d2] }
  | _ => none }
def linkEnvelopeRow : OpenClaim := { program := "ytklohjjkpobneaa", sum := "804fed0aa960a64dce0da3db76673b32b0b5c0c061e3feb9951d1df20ce059f4", func := "goit/goitlaw21.LinkEnvelope", spec := "linkEnvelope", inPlace := ["math/bits.Add64"], unfollowed := true, recurses := true, apart := false }
def LinkEnvelopeSaid : Prop := linkEnvelopeRow.holds Try.pinned (OpenSpec.ofChange linkEnvelopeSpec)

/-- ITS FALSE NEIGHBOUR: 'it returns false'. Refute it at one input. -/
def linkEnvelopeWrong : ChangeSpec := { name := "linkEnvelope", fn := fun _ => fun
  | [d1, d2] => { results := [.lit (.bool false)], args := [d1, d2] }
  | _ => none }
def LinkEnvelopeWrongFalsely : Prop := linkEnvelopeRow.holds Try.pinned (OpenSpec.ofChange linkEnvelopeWrong)

/-- 'goitlaw21.LinkServed': WHATEVER THE INPUT: true; the input reads as it did. -/
def linkServedSpec : ChangeSpec := { name := "linkServed", fn := fun _ => fun
  | [d1, d2, d3] => { results := [.lit (.bool true)], args := [d1, d2, d3] }
  | _ => none }
def linkServedRow : OpenClaim := { program := "ytklohjjkpobneaa", sum := "804fed0aa960a64dce0da3db76673b32b0b5c0c061e3feb9951d1df20ce059f4", func := "goit/goitlaw21.LinkServed", spec := "linkServed", inPlace := ["math/bits.Add64"], unfollowed := true, recurses := true, apart := false }
def LinkServedSaid : Prop := linkServedRow.holds Try.pinned (OpenSpec.ofChange linkServedSpec)

/-- ITS FALSE NEIGHBOUR: 'it returns false'. Refute it at one input. -/
def linkServedWrong : ChangeSpec := { name := "linkServed", fn := fun _ => fun
  | [d1, d2, d3] => { results := [.lit (.bool false)], args := [d1, d2, d3] }
  | _ => none }
def LinkServedWrongFalsely : Prop := linkServedRow.holds Try.pinned (OpenSpec.ofChange linkServedWrong)

/-- 'goitlaw15.BbrGrows': WHATEVER THE INPUT: true; the input reads as it did. -/
def bbrGrowsSpec : ChangeSpec := { name := "bbrGrows", fn := fun _ => fun
  | [d1, d2] => { results := [.lit (.bool true)], args := [d1, d2] }
  | _ => none }
def bbrGrowsRow : OpenClaim := { program := "ytklohjjkpobneaa", sum := "804fed0aa960a64dce0da3db76673b32b0b5c0c061e3feb9951d1df20ce059f4", func := "goit/goitlaw15.BbrGrows", spec := "bbrGrows", inPlace := ["math/bits.Add64"], unfollowed := true, recurses := true, named := ["math/bits.divideError", "math/bits.overflowError"], apart := false }
def BbrGrowsSaid : Prop := bbrGrowsRow.holds Try.pinned (OpenSpec.ofChange bbrGrowsSpec)

/-- ITS FALSE NEIGHBOUR: 'it returns false'. Refute it at one input. -/
def bbrGrowsWrong : ChangeSpec := { name := "bbrGrows", fn := fun _ => fun
  | [d1, d2] => { results := [.lit (.bool false)], args := [d1, d2] }
  | _ => none }
def BbrGrowsWrongFalsely : Prop := bbrGrowsRow.holds Try.pinned (OpenSpec.ofChange bbrGrowsWrong)

/-- 'goitlaw15.BbrStuck': WHATEVER THE INPUT: true; the input reads as it did. -/
def bbrStuckSpec : ChangeSpec := { name := "bbrStuck", fn := fun _ => fun
  | [d1, d2] => { results := [.lit (.bool true)], args := [d1, d2] }
  | _ => none }
def bbrStuckRow : OpenClaim := { program := "ytklohjjkpobneaa", sum := "804fed0aa960a64dce0da3db76673b32b0b5c0c061e3feb9951d1df20ce059f4", func := "goit/goitlaw15.BbrStuck", spec := "bbrStuck", inPlace := ["math/bits.Add64"], unfollowed := true, recurses := true, named := ["math/bits.divideError", "math/bits.overflowError"], apart := false }
def BbrStuckSaid : Prop := bbrStuckRow.holds Try.pinned (OpenSpec.ofChange bbrStuckSpec)

/-- ITS FALSE NEIGHBOUR: 'it returns false'. Refute it at one input. -/
def bbrStuckWrong : ChangeSpec := { name := "bbrStuck", fn := fun _ => fun
  | [d1, d2] => { results := [.lit (.bool false)], args := [d1, d2] }
  | _ => none }
def BbrStuckWrongFalsely : Prop := bbrStuckRow.holds Try.pinned (OpenSpec.ofChange bbrStuckWrong)

/- THE SECOND FORM. 'bulk': how many values and letters a reading holds, each counted each time it is reached (what is shared counts as often as it is met; a slice's spare places count too). A statement '..UptoSaid' is the law's where the arguments, and the package variables that the reading takes, are together of bulk at most 1048576: NARROWER than '..Said'. Prove '..Said' where nothing that the law and all that it calls make is longer than what came in: it says more and counts as full. Else prove '..UptoSaid'. A law counts once. -/
mutual
def uptoBulk {H : Type} : DataW H → Nat
  | .lit (.string bytes) => bytes.length + 1
  | .lit _ => 1
  | .nil => 1
  | .ptr d => uptoBulk d + 1
  | .slice elems spare => uptoBulkAll elems + uptoBulkAll spare + 1
  | .agg parts => uptoBulkAll parts + 1
  | .iface _ d => uptoBulk d + 1
  | .map entries => uptoBulkEntries entries + 1
  | .held _ => 1
def uptoBulkAll {H : Type} : List (DataW H) → Nat
  | [] => 0
  | d :: r => uptoBulk d + uptoBulkAll r
def uptoBulkEntries {H : Type} : List (Lit × DataW H) → Nat
  | [] => 0
  | x :: r => uptoBulkEntry x + uptoBulkEntries r
def uptoBulkEntry {H : Type} : Lit × DataW H → Nat
  | (.string bytes, d) => bytes.length + uptoBulk d + 1
  | (_, d) => uptoBulk d + 1
 end
def uptoSmall : (H : Type) → List (DataW H) → Bool := fun _ ds => decide (uptoBulkAll ds ≤ 1048576)
def OpenSpec.upto (s : _root_.Go.ChangeSpec) : _root_.Go.OpenSpec := { _root_.Go.OpenSpec.ofChange s with cond := some uptoSmall }

/-- 'goitlaw10.RateSlow', WHERE WHAT IT READS IS OF BULK AT MOST 1048576: true; the input reads as it did. -/
def rateSlowUptoRow : OpenClaim := { program := "ytklohjjkpobneaa", sum := "804fed0aa960a64dce0da3db76673b32b0b5c0c061e3feb9951d1df20ce059f4", func := "goit/goitlaw10.RateSlow", spec := "rateSlow", inPlace := ["math/bits.Add64"], named := ["math/bits.divideError", "math/bits.overflowError"], apart := false, narrowed := true }
def RateSlowUptoSaid : Prop := rateSlowUptoRow.holds Try.pinned (OpenSpec.upto rateSlowSpec)

/-- 'goitlaw07.SeqsOrder', WHERE WHAT IT READS IS OF BULK AT MOST 1048576: true; the input reads as it did. -/
def seqsOrderUptoRow : OpenClaim := { program := "ytklohjjkpobneaa", sum := "804fed0aa960a64dce0da3db76673b32b0b5c0c061e3feb9951d1df20ce059f4", func := "goit/goitlaw07.SeqsOrder", spec := "seqsOrder", inPlace := ["slices.overlaps[goit/api.Range]"], unfollowed := true, recurses := true, apart := false, narrowed := true }
def SeqsOrderUptoSaid : Prop := seqsOrderUptoRow.holds Try.pinned (OpenSpec.upto seqsOrderSpec)

/-- 'goitlaw08.LedgerOnce', WHERE WHAT IT READS IS OF BULK AT MOST 1048576: true; the input reads as it did. -/
def ledgerOnceUptoRow : OpenClaim := { program := "ytklohjjkpobneaa", sum := "804fed0aa960a64dce0da3db76673b32b0b5c0c061e3feb9951d1df20ce059f4", func := "goit/goitlaw08.LedgerOnce", spec := "ledgerOnce", inPlace := ["slices.overlaps[goit/api.Range]", "math/bits.Add64"], unfollowed := true, recurses := true, apart := false, narrowed := true }
def LedgerOnceUptoSaid : Prop := ledgerOnceUptoRow.holds Try.pinned (OpenSpec.upto ledgerOnceSpec)

/-- 'goitlaw08.LedgerClone', WHERE WHAT IT READS IS OF BULK AT MOST 1048576: true; the input reads as it did. -/
def ledgerCloneUptoRow : OpenClaim := { program := "ytklohjjkpobneaa", sum := "804fed0aa960a64dce0da3db76673b32b0b5c0c061e3feb9951d1df20ce059f4", func := "goit/goitlaw08.LedgerClone", spec := "ledgerClone", inPlace := ["slices.overlaps[goit/api.Range]", "math/bits.Add64"], unfollowed := true, recurses := true, apart := false, narrowed := true }
def LedgerCloneUptoSaid : Prop := ledgerCloneUptoRow.holds Try.pinned (OpenSpec.upto ledgerCloneSpec)

/-- 'goitlaw21.LinkWait', WHERE WHAT IT READS IS OF BULK AT MOST 1048576: true; the input reads as it did. -/
def linkWaitUptoRow : OpenClaim := { program := "ytklohjjkpobneaa", sum := "804fed0aa960a64dce0da3db76673b32b0b5c0c061e3feb9951d1df20ce059f4", func := "goit/goitlaw21.LinkWait", spec := "linkWait", inPlace := ["math/bits.Add64"], unfollowed := true, recurses := true, apart := false, narrowed := true }
def LinkWaitUptoSaid : Prop := linkWaitUptoRow.holds Try.pinned (OpenSpec.upto linkWaitSpec)

/-- 'goitlaw21.LinkPlays', WHERE WHAT IT READS IS OF BULK AT MOST 1048576: true; the input reads as it did. -/
def linkPlaysUptoRow : OpenClaim := { program := "ytklohjjkpobneaa", sum := "804fed0aa960a64dce0da3db76673b32b0b5c0c061e3feb9951d1df20ce059f4", func := "goit/goitlaw21.LinkPlays", spec := "linkPlays", inPlace := ["math/bits.Add64"], unfollowed := true, recurses := true, apart := false, narrowed := true }
def LinkPlaysUptoSaid : Prop := linkPlaysUptoRow.holds Try.pinned (OpenSpec.upto linkPlaysSpec)

/-- 'goitlaw21.LinkEnvelope', WHERE WHAT IT READS IS OF BULK AT MOST 1048576: true; the input reads as it did. -/
def linkEnvelopeUptoRow : OpenClaim := { program := "ytklohjjkpobneaa", sum := "804fed0aa960a64dce0da3db76673b32b0b5c0c061e3feb9951d1df20ce059f4", func := "goit/goitlaw21.LinkEnvelope", spec := "linkEnvelope", inPlace := ["math/bits.Add64"], unfollowed := true, recurses := true, apart := false, narrowed := true }
def LinkEnvelopeUptoSaid : Prop := linkEnvelopeUptoRow.holds Try.pinned (OpenSpec.upto linkEnvelopeSpec)

/-- 'goitlaw21.LinkServed', WHERE WHAT IT READS IS OF BULK AT MOST 1048576: true; the input reads as it did. -/
def linkServedUptoRow : OpenClaim := { program := "ytklohjjkpobneaa", sum := "804fed0aa960a64dce0da3db76673b32b0b5c0c061e3feb9951d1df20ce059f4", func := "goit/goitlaw21.LinkServed", spec := "linkServed", inPlace := ["math/bits.Add64"], unfollowed := true, recurses := true, apart := false, narrowed := true }
def LinkServedUptoSaid : Prop := linkServedUptoRow.holds Try.pinned (OpenSpec.upto linkServedSpec)

/-- 'goitlaw15.BbrGrows', WHERE WHAT IT READS IS OF BULK AT MOST 1048576: true; the input reads as it did. -/
def bbrGrowsUptoRow : OpenClaim := { program := "ytklohjjkpobneaa", sum := "804fed0aa960a64dce0da3db76673b32b0b5c0c061e3feb9951d1df20ce059f4", func := "goit/goitlaw15.BbrGrows", spec := "bbrGrows", inPlace := ["math/bits.Add64"], unfollowed := true, recurses := true, named := ["math/bits.divideError", "math/bits.overflowError"], apart := false, narrowed := true }
def BbrGrowsUptoSaid : Prop := bbrGrowsUptoRow.holds Try.pinned (OpenSpec.upto bbrGrowsSpec)

/-- 'goitlaw15.BbrStuck', WHERE WHAT IT READS IS OF BULK AT MOST 1048576: true; the input reads as it did. -/
def bbrStuckUptoRow : OpenClaim := { program := "ytklohjjkpobneaa", sum := "804fed0aa960a64dce0da3db76673b32b0b5c0c061e3feb9951d1df20ce059f4", func := "goit/goitlaw15.BbrStuck", spec := "bbrStuck", inPlace := ["math/bits.Add64"], unfollowed := true, recurses := true, named := ["math/bits.divideError", "math/bits.overflowError"], apart := false, narrowed := true }
def BbrStuckUptoSaid : Prop := bbrStuckUptoRow.holds Try.pinned (OpenSpec.upto bbrStuckSpec)

end Rows
end Go.Proofs.Ytklohjjkpobneaa
