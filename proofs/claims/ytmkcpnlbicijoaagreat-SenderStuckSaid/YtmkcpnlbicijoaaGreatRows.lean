/-
  No cell of these rows narrows 'for every input' (looked for: loops, veiled, ifaces, maps, wideKeys, modest, calm, conditions, laid).
  DERIVED. THE GIVEN ROWS OF THIS SEAT. 3 by the template 'for every input the law returns true; each argument reads behind the call as it read before'; 0 by the template 'total and deterministic' (their statements: YtmkcpnlbicijoaaGreatTotals.lean).
  GIVEN WITH THE SEED: the statements are not yours to turn. If you find one false, say at which input.
  Laid BY PROGRAM, IN A SANDBOX (cutbox-rows.mjs): the forced cells as the released guide's own fill.sh prints them over the translation 66b8821d463f6e35… (all of the seat's roots in one cut). By AI agents, Wed Nov 11 2026. No macro, syntax, notation, axiom, sorry.
-/
import Derived.Test.YtmkcpnlbicijoaaGreatChecked
import GoSem.Claim
import GoSem.ClaimJoined
import GoSem.ClaimMapViews
import Derived.JoinedTies
import Derived.KernelRfl
namespace Go.Proofs.YtmkcpnlbicijoaaGreat
/- THE CELL 'sum', in the pinned program and in every row, IS THE sha256 OF THE DUMP (.gsa) THAT YtmkcpnlbicijoaaGreatProg.lean LOADS. Nothing in Lean hashes anything: it is a label: what it is worth is what the hold of that sum in a sandbox is worth. -/
noncomputable def Tryz.pinned : Pinned := { name := "ytmkcpnlbicijoaagreat", sum := "66b8821d463f6e351f2bea116bd400e4f921bbc6f5b01968c1c85eb8fe1493c5", checked := Tryz.checked }
namespace Rows
def none {H : Type} : Left H := { results := [], args := [] }

/-- 'goitlaw17.SenderAllowed': WHATEVER THE INPUT: true; the input reads as it did. -/
def senderAllowedSpec : ChangeSpec := { name := "senderAllowed", fn := fun _ => fun
  | [d1, d2] => { results := [.lit (.bool true)], args := [d1, d2] }
  | _ => none }
def senderAllowedRow : OpenClaim := { program := "ytmkcpnlbicijoaagreat", sum := "66b8821d463f6e351f2bea116bd400e4f921bbc6f5b01968c1c85eb8fe1493c5", func := "goit/goitlaw17.SenderAllowed", spec := "senderAllowed", inPlace := ["math/bits.Add64", "slices.overlaps[goit/api.Range]"], unfollowed := true, recurses := true, named := ["math/bits.divideError", "math/bits.overflowError"], apart := false }
def SenderAllowedSaid : Prop := senderAllowedRow.holds Tryz.pinned (OpenSpec.ofChange senderAllowedSpec)

/-- ITS FALSE NEIGHBOUR: 'it returns false'. Refute it at one input. -/
def senderAllowedWrong : ChangeSpec := { name := "senderAllowed", fn := fun _ => fun
  | [d1, d2] => { results := [.lit (.bool false)], args := [d1, d2] }
  | _ => none }
def SenderAllowedWrongFalsely : Prop := senderAllowedRow.holds Tryz.pinned (OpenSpec.ofChange senderAllowedWrong)

/-- 'goitlaw17.SenderStuck': WHATEVER THE INPUT: true; the input reads as it did. -/
def senderStuckSpec : ChangeSpec := { name := "senderStuck", fn := fun _ => fun
  | [d1, d2] => { results := [.lit (.bool true)], args := [d1, d2] }
  | _ => none }
def senderStuckRow : OpenClaim := { program := "ytmkcpnlbicijoaagreat", sum := "66b8821d463f6e351f2bea116bd400e4f921bbc6f5b01968c1c85eb8fe1493c5", func := "goit/goitlaw17.SenderStuck", spec := "senderStuck", inPlace := ["math/bits.Add64", "slices.overlaps[goit/api.Range]"], unfollowed := true, recurses := true, named := ["math/bits.divideError", "math/bits.overflowError"], apart := false }
def SenderStuckSaid : Prop := senderStuckRow.holds Tryz.pinned (OpenSpec.ofChange senderStuckSpec)

/-- ITS FALSE NEIGHBOUR: 'it returns false'. Refute it at one input. -/
def senderStuckWrong : ChangeSpec := { name := "senderStuck", fn := fun _ => fun
  | [d1, d2] => { results := [.lit (.bool false)], args := [d1, d2] }
  | _ => none }
def SenderStuckWrongFalsely : Prop := senderStuckRow.holds Tryz.pinned (OpenSpec.ofChange senderStuckWrong)

/-- 'goitlaw17.SenderKept': WHATEVER THE INPUT: true; the input reads as it did. -/
def senderKeptSpec : ChangeSpec := { name := "senderKept", fn := fun _ => fun
  | [d1, d2] => { results := [.lit (.bool true)], args := [d1, d2] }
  | _ => none }
def senderKeptRow : OpenClaim := { program := "ytmkcpnlbicijoaagreat", sum := "66b8821d463f6e351f2bea116bd400e4f921bbc6f5b01968c1c85eb8fe1493c5", func := "goit/goitlaw17.SenderKept", spec := "senderKept", inPlace := ["math/bits.Add64", "slices.overlaps[goit/api.Range]"], unfollowed := true, recurses := true, named := ["math/bits.divideError", "math/bits.overflowError"], apart := false }
def SenderKeptSaid : Prop := senderKeptRow.holds Tryz.pinned (OpenSpec.ofChange senderKeptSpec)

/-- ITS FALSE NEIGHBOUR: 'it returns false'. Refute it at one input. -/
def senderKeptWrong : ChangeSpec := { name := "senderKept", fn := fun _ => fun
  | [d1, d2] => { results := [.lit (.bool false)], args := [d1, d2] }
  | _ => none }
def SenderKeptWrongFalsely : Prop := senderKeptRow.holds Tryz.pinned (OpenSpec.ofChange senderKeptWrong)

/- THE SECOND FORM. 'bulk': how many values and letters a reading holds, each counted each time it is reached (what is shared counts as often as it is met; a slice's spare places count too). A statement '..UptoSaid' is the law's where the arguments, and the package variables that the reading takes, are together of bulk at most 1048576: NARROWER than '..Said'. Prove '..Said' where nothing that the law and all that it calls make is longer than what came in: it says more and counts as full. Else prove '..UptoSaid'. A law counts once. -/
mutual
def uptoBulk {H : Type} : DataW H → Nat
  | .lit (.string bytes) => bytes.length + 1
  | .lit _ => 1
  | .nil => 1
  | .ptr d => uptoBulk d + 1
  | .slice elems spare => uptoBulkAll elems + uptoBulkAll spare + 1
  | .agg parts => uptoBulkAll parts + 1
  | .iface _ d => uptoBulk d + 1
  | .map entries => uptoBulkEntries entries + 1
  | .held _ => 1
def uptoBulkAll {H : Type} : List (DataW H) → Nat
  | [] => 0
  | d :: r => uptoBulk d + uptoBulkAll r
def uptoBulkEntries {H : Type} : List (Lit × DataW H) → Nat
  | [] => 0
  | x :: r => uptoBulkEntry x + uptoBulkEntries r
def uptoBulkEntry {H : Type} : Lit × DataW H → Nat
  | (.string bytes, d) => bytes.length + uptoBulk d + 1
  | (_, d) => uptoBulk d + 1
 end
def uptoSmall : (H : Type) → List (DataW H) → Bool := fun _ ds => decide (uptoBulkAll ds ≤ 1048576)
def OpenSpec.upto (s : _root_.Go.ChangeSpec) : _root_.Go.OpenSpec := { _root_.Go.OpenSpec.ofChange s with cond := some uptoSmall }

/-- 'goitlaw17.SenderAllowed', WHERE WHAT IT READS IS OF BULK AT MOST 1048576: true; the input reads as it did. -/
def senderAllowedUptoRow : OpenClaim := { program := "ytmkcpnlbicijoaagreat", sum := "66b8821d463f6e351f2bea116bd400e4f921bbc6f5b01968c1c85eb8fe1493c5", func := "goit/goitlaw17.SenderAllowed", spec := "senderAllowed", inPlace := ["math/bits.Add64", "slices.overlaps[goit/api.Range]"], unfollowed := true, recurses := true, named := ["math/bits.divideError", "math/bits.overflowError"], apart := false, narrowed := true }
def SenderAllowedUptoSaid : Prop := senderAllowedUptoRow.holds Tryz.pinned (OpenSpec.upto senderAllowedSpec)

/-- 'goitlaw17.SenderStuck', WHERE WHAT IT READS IS OF BULK AT MOST 1048576: true; the input reads as it did. -/
def senderStuckUptoRow : OpenClaim := { program := "ytmkcpnlbicijoaagreat", sum := "66b8821d463f6e351f2bea116bd400e4f921bbc6f5b01968c1c85eb8fe1493c5", func := "goit/goitlaw17.SenderStuck", spec := "senderStuck", inPlace := ["math/bits.Add64", "slices.overlaps[goit/api.Range]"], unfollowed := true, recurses := true, named := ["math/bits.divideError", "math/bits.overflowError"], apart := false, narrowed := true }
def SenderStuckUptoSaid : Prop := senderStuckUptoRow.holds Tryz.pinned (OpenSpec.upto senderStuckSpec)

/-- 'goitlaw17.SenderKept', WHERE WHAT IT READS IS OF BULK AT MOST 1048576: true; the input reads as it did. -/
def senderKeptUptoRow : OpenClaim := { program := "ytmkcpnlbicijoaagreat", sum := "66b8821d463f6e351f2bea116bd400e4f921bbc6f5b01968c1c85eb8fe1493c5", func := "goit/goitlaw17.SenderKept", spec := "senderKept", inPlace := ["math/bits.Add64", "slices.overlaps[goit/api.Range]"], unfollowed := true, recurses := true, named := ["math/bits.divideError", "math/bits.overflowError"], apart := false, narrowed := true }
def SenderKeptUptoSaid : Prop := senderKeptUptoRow.holds Tryz.pinned (OpenSpec.upto senderKeptSpec)

end Rows
end Go.Proofs.YtmkcpnlbicijoaaGreat
