/-
  No cell of these rows narrows 'for every input' (looked for: loops, veiled, ifaces, maps, wideKeys, modest, calm, conditions, laid).
  DERIVED. THE GIVEN ROWS OF THIS SEAT. 3 by the template 'for every input the law returns true; each argument reads behind the call as it read before'; 0 by the template 'total and deterministic' (their statements: YtlhncdbigjgmnaaTotals.lean).
  GIVEN WITH THE SEED: the statements are not yours to turn. If you find one false, say at which input.
  Laid BY PROGRAM, IN A SANDBOX (cutbox-rows.mjs): the forced cells as the released guide's own fill.sh prints them over the translation afb838bfb601b6cf… (all of the seat's roots in one cut). By AI agents, Wed Nov 11 2026. No macro, syntax, notation, axiom, sorry.
-/
import Derived.Test.YtlhncdbigjgmnaaChecked
import GoSem.Claim
import GoSem.ClaimJoined
import GoSem.ClaimMapViews
import Derived.JoinedTies
import Derived.KernelRfl
namespace Go.Proofs.Ytlhncdbigjgmnaa
/- THE CELL 'sum', in the pinned program and in every row, IS THE sha256 OF THE DUMP (.gsa) THAT YtlhncdbigjgmnaaProg.lean LOADS. Nothing in Lean hashes anything: it is a label: what it is worth is what the hold of that sum in a sandbox is worth. -/
noncomputable def Try.pinned : Pinned := { name := "ytlhncdbigjgmnaa", sum := "afb838bfb601b6cf59074c38679fdcac15b05dd9a2f35f6f21395de0591eed3b", checked := Try.checked }
namespace Rows
def none {H : Type} : Left H := { results := [], args := [] }

/-- 'goitlaw07.SeqsOrder': WHATEVER THE INPUT: true; the input reads as it did. -/
def seqsOrderSpec : ChangeSpec := { name := "seqsOrder", fn := fun _ => fun
  | [d1, d2] => { results := [.lit (.bool true)], args := [d1, d2] }
  | _ => none }
def seqsOrderRow : OpenClaim := { program := "ytlhncdbigjgmnaa", sum := "afb838bfb601b6cf59074c38679fdcac15b05dd9a2f35f6f21395de0591eed3b", func := "goit/goitlaw07.SeqsOrder", spec := "seqsOrder", inPlace := ["slices.overlaps[goit/api.Range]"], unfollowed := true, recurses := true, apart := false }
def SeqsOrderSaid : Prop := seqsOrderRow.holds Try.pinned (OpenSpec.ofChange seqsOrderSpec)

/-- ITS FALSE NEIGHBOUR: 'it returns false'. Refute it at one input. -/
def seqsOrderWrong : ChangeSpec := { name := "seqsOrder", fn := fun _ => fun
  | [d1, d2] => { results := [.lit (.bool false)], args := [d1, d2] }
  | _ => none }
def SeqsOrderWrongFalsely : Prop := seqsOrderRow.holds Try.pinned (OpenSpec.ofChange seqsOrderWrong)

/-- 'goitlaw08.LedgerOnce': WHATEVER THE INPUT: true; the input reads as it did. -/
def ledgerOnceSpec : ChangeSpec := { name := "ledgerOnce", fn := fun _ => fun
  | [d1, d2] => { results := [.lit (.bool true)], args := [d1, d2] }
  | _ => none }
def ledgerOnceRow : OpenClaim := { program := "ytlhncdbigjgmnaa", sum := "afb838bfb601b6cf59074c38679fdcac15b05dd9a2f35f6f21395de0591eed3b", func := "goit/goitlaw08.LedgerOnce", spec := "ledgerOnce", inPlace := ["slices.overlaps[goit/api.Range]", "math/bits.Add64"], unfollowed := true, recurses := true, apart := false }
def LedgerOnceSaid : Prop := ledgerOnceRow.holds Try.pinned (OpenSpec.ofChange ledgerOnceSpec)

/-- ITS FALSE NEIGHBOUR: 'it returns false'. Refute it at one input. -/
def ledgerOnceWrong : ChangeSpec := { name := "ledgerOnce", fn := fun _ => fun
  | [d1, d2] => { results := [.lit (.bool false)], args := [d1, d2] }
  | _ => none }
def LedgerOnceWrongFalsely : Prop := ledgerOnceRow.holds Try.pinned (OpenSpec.ofChange ledgerOnceWrong)

/-- 'goitlaw08.LedgerClone': WHATEVER THE INPUT: true; the input reads as it did. -/
def ledgerCloneSpec : ChangeSpec := { name := "ledgerClone", fn := fun _ => fun
  | [d1, d2, d3] => { results := [.lit (.bool true)], args := [d1, d2, d3] }
  | _ => none }
def ledgerCloneRow : OpenClaim := { program := "ytlhncdbigjgmnaa", sum := "afb838bfb601b6cf59074c38679fdcac15b05dd9a2f35f6f21395de0591eed3b", func := "goit/goitlaw08.LedgerClone", spec := "ledgerClone", inPlace := ["slices.overlaps[goit/api.Range]", "math/bits.Add64"], unfollowed := true, recurses := true, apart := false }
def LedgerCloneSaid : Prop := ledgerCloneRow.holds Try.pinned (OpenSpec.ofChange ledgerCloneSpec)

/-- ITS FALSE NEIGHBOUR: 'it returns false'. Refute it at one input. -/
def ledgerCloneWrong : ChangeSpec := { name := "ledgerClone", fn := fun _ => fun
  | [d1, d2, d3] => { results := [.lit (.bool false)], args := [d1, d2, d3] }
  | _ => none }
def LedgerCloneWrongFalsely : Prop := ledgerCloneRow.holds Try.pinned (OpenSpec.ofChange ledgerCloneWrong)

/- THE SECOND FORM. 'bulk': how many values and letters a reading holds, each counted each time it is reached (what is shared counts as often as it is met; a slice's spare places count too). A statement '..UptoSaid' is the law's where the arguments, and the package variables that the reading takes, are together of bulk at most 1048576: NARROWER than '..Said'. Prove '..Said' where nothing that the law and all that it calls make is longer than what came in: it says more and counts as full. Else prove '..UptoSaid'. A law counts once. -/
mutual
def uptoBulk {H : Type} : DataW H → Nat
  | .lit (.string bytes) => bytes.length + 1
  | .lit _ => 1
  | .nil => 1
  | .ptr d => uptoBulk d + 1
  | .slice elems spare => uptoBulkAll elems + uptoBulkAll spare + 1
  | .agg parts => uptoBulkAll parts + 1
  | .iface _ d => uptoBulk d + 1
  | .map entries => uptoBulkEntries entries + 1
  | .held _ => 1
def uptoBulkAll {H : Type} : List (DataW H) → Nat
  | [] => 0
  | d :: r => uptoBulk d + uptoBulkAll r
def uptoBulkEntries {H : Type} : List (Lit × DataW H) → Nat
  | [] => 0
  | x :: r => uptoBulkEntry x + uptoBulkEntries r
def uptoBulkEntry {H : Type} : Lit × DataW H → Nat
  | (.string bytes, d) => bytes.length + uptoBulk d + 1
  | (_, d) => uptoBulk d + 1
 end
def uptoSmall : (H : Type) → List (DataW H) → Bool := fun _ ds => decide (uptoBulkAll ds ≤ 1048576)
def OpenSpec.upto (s : _root_.Go.ChangeSpec) : _root_.Go.OpenSpec := { _root_.Go.OpenSpec.ofChange s with cond := some uptoSmall }

/-- 'goitlaw07.SeqsOrder', WHERE WHAT IT READS IS OF BULK AT MOST 1048576: true; the input reads as it did. -/
def seqsOrderUptoRow : OpenClaim := { program := "ytlhncdbigjgmnaa", sum := "afb838bfb601b6cf59074c38679fdcac15b05dd9a2f35f6f21395de0591eed3b", func := "goit/goitlaw07.SeqsOrder", spec := "seqsOrder", inPlace := ["slices.overlaps[goit/api.Range]"], unfollowed := true, recurses := true, apart := false, narrowed := true }
def SeqsOrderUptoSaid : Prop := seqsOrderUptoRow.holds Try.pinned (OpenSpec.upto seqsOrderSpec)

/-- 'goitlaw08.LedgerOnce', WHERE WHAT IT READS IS OF BULK AT MOST 1048576: true; the input reads as it did. -/
def ledgerOnceUptoRow : OpenClaim := { program := "ytlhncdbigjgmnaa", sum := "afb838bfb601b6cf59074c38679fdcac15b05dd9a2f35f6f21395de0591eed3b", func := "goit/goitlaw08.LedgerOnce", spec := "ledgerOnce", inPlace := ["slices.overlaps[goit/api.Range]", "math/bits.Add64"], unfollowed := true, recurses := true, apart := false, narrowed := true }
def LedgerOnceUptoSaid : Prop := ledgerOnceUptoRow.holds Try.pinned (OpenSpec.upto ledgerOnceSpec)

/-- 'goitlaw08.LedgerClone', WHERE WHAT IT READS IS OF BULK AT MOST 1048576: true; the input reads as it did. -/
def ledgerCloneUptoRow : OpenClaim := { program := "ytlhncdbigjgmnaa", sum := "afb838bfb601b6cf59074c38679fdcac15b05dd9a2f35f6f21395de0591eed3b", func := "goit/goitlaw08.LedgerClone", spec := "ledgerClone", inPlace := ["slices.overlaps[goit/api.Range]", "math/bits.Add64"], unfollowed := true, recurses := true, apart := false, narrowed := true }
def LedgerCloneUptoSaid : Prop := ledgerCloneUptoRow.holds Try.pinned (OpenSpec.upto ledgerCloneSpec)

end Rows
end Go.Proofs.Ytlhncdbigjgmnaa
