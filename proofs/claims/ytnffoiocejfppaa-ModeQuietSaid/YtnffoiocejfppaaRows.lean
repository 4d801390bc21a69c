/-
  No cell of these rows narrows 'for every input' (looked for: loops, veiled, ifaces, maps, wideKeys, modest, calm, conditions, laid).
  DERIVED. THE GIVEN ROWS OF THIS SEAT. 13 by the template 'for every input the law returns true; each argument reads behind the call as it read before'; 0 by the template 'total and deterministic' (their statements: YtnffoiocejfppaaTotals.lean).
  GIVEN WITH THE SEED: the statements are not yours to turn. If you find one false, say at which input.
  Laid BY PROGRAM, IN A SANDBOX (cutbox-rows.mjs): the forced cells as the released guide's own fill.sh prints them over the translation ec0aef7c9a99a30d… (all of the seat's roots in one cut). By AI agents, Wed Nov 11 2026. No macro, syntax, notation, axiom, sorry.
-/
import Derived.Test.YtnffoiocejfppaaChecked
import GoSem.Claim
import GoSem.ClaimJoined
import GoSem.ClaimMapViews
import Derived.JoinedTies
import Derived.KernelRfl
namespace Go.Proofs.Ytnffoiocejfppaa
/- THE CELL 'sum', in the pinned program and in every row, IS THE sha256 OF THE DUMP (.gsa) THAT YtnffoiocejfppaaProg.lean LOADS. Nothing in Lean hashes anything: it is a label: what it is worth is what the hold of that sum in a sandbox is worth. -/
noncomputable def Try.pinned : Pinned := { name := "ytnffoiocejfppaa", sum := "ec0aef7c9a99a30def2c946c0199029fe1653ab39201cc9ec2e8ea4a66b9818e", checked := Try.checked }
namespace Rows
def none {H : Type} : Left H := { results := [], args := [] }

/-- 'goitlaw01.FixSums': WHATEVER THE INPUT: true; the input reads as it did. -/
def fixSumsSpec : ChangeSpec := { name := "fixSums", fn := fun _ => fun
  | [d1, d2] => { results := [.lit (.bool true)], args := [d1, d2] }
  | _ => none }
def fixSumsRow : OpenClaim := { program := "ytnffoiocejfppaa", sum := "ec0aef7c9a99a30def2c946c0199029fe1653ab39201cc9ec2e8ea4a66b9818e", func := "goit/goitlaw01.FixSums", spec := "fixSums", inPlace := ["math/bits.Add64"], named := ["math/bits.divideError", "math/bits.overflowError"], apart := false }
def FixSumsSaid : Prop := fixSumsRow.holds Try.pinned (OpenSpec.ofChange fixSumsSpec)

/-- ITS FALSE NEIGHBOUR: 'it returns false'. Refute it at one input. -/
def fixSumsWrong : ChangeSpec := { name := "fixSums", fn := fun _ => fun
  | [d1, d2] => { results := [.lit (.bool false)], args := [d1, d2] }
  | _ => none }
def FixSumsWrongFalsely : Prop := fixSumsRow.holds Try.pinned (OpenSpec.ofChange fixSumsWrong)

/-- 'goitlaw01.FixParts': WHATEVER THE INPUT: true; the input reads as it did. -/
def fixPartsSpec : ChangeSpec := { name := "fixParts", fn := fun _ => fun
  | [d1, d2, d3] => { results := [.lit (.bool true)], args := [d1, d2, d3] }
  | _ => none }
def fixPartsRow : OpenClaim := { program := "ytnffoiocejfppaa", sum := "ec0aef7c9a99a30def2c946c0199029fe1653ab39201cc9ec2e8ea4a66b9818e", func := "goit/goitlaw01.FixParts", spec := "fixParts", inPlace := ["math/bits.Add64"], named := ["math/bits.divideError", "math/bits.overflowError"], apart := false }
def FixPartsSaid : Prop := fixPartsRow.holds Try.pinned (OpenSpec.ofChange fixPartsSpec)

/-- ITS FALSE NEIGHBOUR: 'it returns false'. Refute it at one input. -/
def fixPartsWrong : ChangeSpec := { name := "fixParts", fn := fun _ => fun
  | [d1, d2, d3] => { results := [.lit (.bool false)], args := [d1, d2, d3] }
  | _ => none }
def FixPartsWrongFalsely : Prop := fixPartsRow.holds Try.pinned (OpenSpec.ofChange fixPartsWrong)

/-- 'goitlaw01.FixNear': WHATEVER THE INPUT: true; the input reads as it did. -/
def fixNearSpec : ChangeSpec := { name := "fixNear", fn := fun _ => fun
  | [d1, d2, d3] => { results := [.lit (.bool true)], args := [d1, d2, d3] }
  | _ => none }
def fixNearRow : OpenClaim := { program := "ytnffoiocejfppaa", sum := "ec0aef7c9a99a30def2c946c0199029fe1653ab39201cc9ec2e8ea4a66b9818e", func := "goit/goitlaw01.FixNear", spec := "fixNear", inPlace := ["math/bits.Add64"], named := ["math/bits.divideError", "math/bits.overflowError"], apart := false }
def FixNearSaid : Prop := fixNearRow.holds Try.pinned (OpenSpec.ofChange fixNearSpec)

/-- ITS FALSE NEIGHBOUR: 'it returns false'. Refute it at one input. -/
def fixNearWrong : ChangeSpec := { name := "fixNear", fn := fun _ => fun
  | [d1, d2, d3] => { results := [.lit (.bool false)], args := [d1, d2, d3] }
  | _ => none }
def FixNearWrongFalsely : Prop := fixNearRow.holds Try.pinned (OpenSpec.ofChange fixNearWrong)

/-- 'goitlaw01.FixWhole': WHATEVER THE INPUT: true; the input reads as it did. -/
def fixWholeSpec : ChangeSpec := { name := "fixWhole", fn := fun _ => fun
  | [d1, d2, d3] => { results := [.lit (.bool true)], args := [d1, d2, d3] }
  | _ => none }
def fixWholeRow : OpenClaim := { program := "ytnffoiocejfppaa", sum := "ec0aef7c9a99a30def2c946c0199029fe1653ab39201cc9ec2e8ea4a66b9818e", func := "goit/goitlaw01.FixWhole", spec := "fixWhole", inPlace := ["math/bits.Add64"], named := ["math/bits.divideError", "math/bits.overflowError"], apart := false }
def FixWholeSaid : Prop := fixWholeRow.holds Try.pinned (OpenSpec.ofChange fixWholeSpec)

/-- ITS FALSE NEIGHBOUR: 'it returns false'. Refute it at one input. -/
def fixWholeWrong : ChangeSpec := { name := "fixWhole", fn := fun _ => fun
  | [d1, d2, d3] => { results := [.lit (.bool false)], args := [d1, d2, d3] }
  | _ => none }
def FixWholeWrongFalsely : Prop := fixWholeRow.holds Try.pinned (OpenSpec.ofChange fixWholeWrong)

/-- 'goitlaw01.FixRises': WHATEVER THE INPUT: true; the input reads as it did. -/
def fixRisesSpec : ChangeSpec := { name := "fixRises", fn := fun _ => fun
  | [d1, d2, d3] => { results := [.lit (.bool true)], args := [d1, d2, d3] }
  | _ => none }
def fixRisesRow : OpenClaim := { program := "ytnffoiocejfppaa", sum := "ec0aef7c9a99a30def2c946c0199029fe1653ab39201cc9ec2e8ea4a66b9818e", func := "goit/goitlaw01.FixRises", spec := "fixRises", inPlace := ["math/bits.Add64"], named := ["math/bits.divideError", "math/bits.overflowError"], apart := false }
def FixRisesSaid : Prop := fixRisesRow.holds Try.pinned (OpenSpec.ofChange fixRisesSpec)

/-- ITS FALSE NEIGHBOUR: 'it returns false'. Refute it at one input. -/
def fixRisesWrong : ChangeSpec := { name := "fixRises", fn := fun _ => fun
  | [d1, d2, d3] => { results := [.lit (.bool false)], args := [d1, d2, d3] }
  | _ => none }
def FixRisesWrongFalsely : Prop := fixRisesRow.holds Try.pinned (OpenSpec.ofChange fixRisesWrong)

/-- 'goitlaw13.BoundTells': WHATEVER THE INPUT: true; the input reads as it did. -/
def boundTellsSpec : ChangeSpec := { name := "boundTells", fn := fun _ => fun
  | [d1, d2, d3] => { results := [.lit (.bool true)], args := [d1, d2, d3] }
  | _ => none }
def boundTellsRow : OpenClaim := { program := "ytnffoiocejfppaa", sum := "ec0aef7c9a99a30def2c946c0199029fe1653ab39201cc9ec2e8ea4a66b9818e", func := "goit/goitlaw13.BoundTells", spec := "boundTells", inPlace := ["math/bits.Add64"], named := ["math/bits.divideError", "math/bits.overflowError"], apart := false }
def BoundTellsSaid : Prop := boundTellsRow.holds Try.pinned (OpenSpec.ofChange boundTellsSpec)

/-- ITS FALSE NEIGHBOUR: 'it returns false'. Refute it at one input. -/
def boundTellsWrong : ChangeSpec := { name := "boundTells", fn := fun _ => fun
  | [d1, d2, d3] => { results := [.lit (.bool false)], args := [d1, d2, d3] }
  | _ => none }
def BoundTellsWrongFalsely : Prop := boundTellsRow.holds Try.pinned (OpenSpec.ofChange boundTellsWrong)

/-- 'goitlaw13.BoundWays': WHATEVER THE INPUT: true; the input reads as it did. -/
def boundWaysSpec : ChangeSpec := { name := "boundWays", fn := fun _ => fun
  | [d1, d2] => { results := [.lit (.bool true)], args := [d1, d2] }
  | _ => none }
def boundWaysRow : OpenClaim := { program := "ytnffoiocejfppaa", sum := "ec0aef7c9a99a30def2c946c0199029fe1653ab39201cc9ec2e8ea4a66b9818e", func := "goit/goitlaw13.BoundWays", spec := "boundWays", inPlace := ["math/bits.Add64"], named := ["math/bits.divideError", "math/bits.overflowError"], apart := false }
def BoundWaysSaid : Prop := boundWaysRow.holds Try.pinned (OpenSpec.ofChange boundWaysSpec)

/-- ITS FALSE NEIGHBOUR: 'it returns false'. Refute it at one input. -/
def boundWaysWrong : ChangeSpec := { name := "boundWays", fn := fun _ => fun
  | [d1, d2] => { results := [.lit (.bool false)], args := [d1, d2] }
  | _ => none }
def BoundWaysWrongFalsely : Prop := boundWaysRow.holds Try.pinned (OpenSpec.ofChange boundWaysWrong)

/-- 'goitlaw12.GainTells': WHATEVER THE INPUT: true; the input reads as it did. -/
def gainTellsSpec : ChangeSpec := { name := "gainTells", fn := fun _ => fun
  | [d1, d2, d3] => { results := [.lit (.bool true)], args := [d1, d2, d3] }
  | _ => none }
def gainTellsRow : OpenClaim := { program := "ytnffoiocejfppaa", sum := "ec0aef7c9a99a30def2c946c0199029fe1653ab39201cc9ec2e8ea4a66b9818e", func := "goit/goitlaw12.GainTells", spec := "gainTells", inPlace := ["math/bits.Add64"], named := ["math/bits.divideError", "math/bits.overflowError"], apart := false }
def GainTellsSaid : Prop := gainTellsRow.holds Try.pinned (OpenSpec.ofChange gainTellsSpec)

/-- ITS FALSE NEIGHBOUR: 'it returns false'. Refute it at one input. -/
def gainTellsWrong : ChangeSpec := { name := "gainTells", fn := fun _ => fun
  | [d1, d2, d3] => { results := [.lit (.bool false)], args := [d1, d2, d3] }
  | _ => none }
def GainTellsWrongFalsely : Prop := gainTellsRow.holds Try.pinned (OpenSpec.ofChange gainTellsWrong)

/-- 'goitlaw12.GainNames': WHATEVER THE INPUT: true; the input reads as it did. -/
def gainNamesSpec : ChangeSpec := { name := "gainNames", fn := fun _ => fun
  | [d] => { results := [.lit (.bool true)], args := [d] }
  | _ => none }
def gainNamesRow : OpenClaim := { program := "ytnffoiocejfppaa", sum := "ec0aef7c9a99a30def2c946c0199029fe1653ab39201cc9ec2e8ea4a66b9818e", func := "goit/goitlaw12.GainNames", spec := "gainNames", inPlace := ["math/bits.Add64"], named := ["math/bits.divideError", "math/bits.overflowError"], apart := false }
def GainNamesSaid : Prop := gainNamesRow.holds Try.pinned (OpenSpec.ofChange gainNamesSpec)

/-- ITS FALSE NEIGHBOUR: 'it returns false'. Refute it at one input. -/
def gainNamesWrong : ChangeSpec := { name := "gainNames", fn := fun _ => fun
  | [d] => { results := [.lit (.bool false)], args := [d] }
  | _ => none }
def GainNamesWrongFalsely : Prop := gainNamesRow.holds Try.pinned (OpenSpec.ofChange gainNamesWrong)

/-- 'goitlaw12.GainAll': WHATEVER THE INPUT: true; the input reads as it did. -/
def gainAllSpec : ChangeSpec := { name := "gainAll", fn := fun _ => fun
  | [d1, d2] => { results := [.lit (.bool true)], args := [d1, d2] }
  | _ => none }
def gainAllRow : OpenClaim := { program := "ytnffoiocejfppaa", sum := "ec0aef7c9a99a30def2c946c0199029fe1653ab39201cc9ec2e8ea4a66b9818e", func := "goit/goitlaw12.GainAll", spec := "gainAll", inPlace := ["math/bits.Add64"], named := ["math/bits.divideError", "math/bits.overflowError"], apart := false }
def GainAllSaid : Prop := gainAllRow.holds Try.pinned (OpenSpec.ofChange gainAllSpec)

/-- ITS FALSE NEIGHBOUR: 'it returns false'. Refute it at one input. -/
def gainAllWrong : ChangeSpec := { name := "gainAll", fn := fun _ => fun
  | [d1, d2] => { results := [.lit (.bool false)], args := [d1, d2] }
  | _ => none }
def GainAllWrongFalsely : Prop := gainAllRow.holds Try.pinned (OpenSpec.ofChange gainAllWrong)

/-- 'goitlaw14.ModeNext': WHATEVER THE INPUT: true; the input reads as it did. -/
def modeNextSpec : ChangeSpec := { name := "modeNext", fn := fun _ => fun
  | [d1, d2, d3] => { results := [.lit (.bool true)], args := [d1, d2, d3] }
  | _ => none }
def modeNextRow : OpenClaim := { program := "ytnffoiocejfppaa", sum := "ec0aef7c9a99a30def2c946c0199029fe1653ab39201cc9ec2e8ea4a66b9818e", func := "goit/goitlaw14.ModeNext", spec := "modeNext", named := ["math/bits.divideError", "math/bits.overflowError"], apart := false }
def ModeNextSaid : Prop := modeNextRow.holds Try.pinned (OpenSpec.ofChange modeNextSpec)

/-- ITS FALSE NEIGHBOUR: 'it returns false'. Refute it at one input. -/
def modeNextWrong : ChangeSpec := { name := "modeNext", fn := fun _ => fun
  | [d1, d2, d3] => { results := [.lit (.bool false)], args := [d1, d2, d3] }
  | _ => none }
def ModeNextWrongFalsely : Prop := modeNextRow.holds Try.pinned (OpenSpec.ofChange modeNextWrong)

/-- 'goitlaw14.ModeArrows': WHATEVER THE INPUT: true; the input reads as it did. -/
def modeArrowsSpec : ChangeSpec := { name := "modeArrows", fn := fun _ => fun
  | [d1, d2, d3] => { results := [.lit (.bool true)], args := [d1, d2, d3] }
  | _ => none }
def modeArrowsRow : OpenClaim := { program := "ytnffoiocejfppaa", sum := "ec0aef7c9a99a30def2c946c0199029fe1653ab39201cc9ec2e8ea4a66b9818e", func := "goit/goitlaw14.ModeArrows", spec := "modeArrows", named := ["math/bits.divideError", "math/bits.overflowError"], apart := false }
def ModeArrowsSaid : Prop := modeArrowsRow.holds Try.pinned (OpenSpec.ofChange modeArrowsSpec)

/-- ITS FALSE NEIGHBOUR: 'it returns false'. Refute it at one input. -/
def modeArrowsWrong : ChangeSpec := { name := "modeArrows", fn := fun _ => fun
  | [d1, d2, d3] => { results := [.lit (.bool false)], args := [d1, d2, d3] }
  | _ => none }
def ModeArrowsWrongFalsely : Prop := modeArrowsRow.holds Try.pinned (OpenSpec.ofChange modeArrowsWrong)

/-- 'goitlaw14.ModeQuiet': WHATEVER THE INPUT: true; the input reads as it did. -/
def modeQuietSpec : ChangeSpec := { name := "modeQuiet", fn := fun _ => fun
  | [d1, d2, d3] => { results := [.lit (.bool true)], args := [d1, d2, d3] }
  | _ => none }
def modeQuietRow : OpenClaim := { program := "ytnffoiocejfppaa", sum := "ec0aef7c9a99a30def2c946c0199029fe1653ab39201cc9ec2e8ea4a66b9818e", func := "goit/goitlaw14.ModeQuiet", spec := "modeQuiet", named := ["math/bits.divideError", "math/bits.overflowError"], apart := false }
def ModeQuietSaid : Prop := modeQuietRow.holds Try.pinned (OpenSpec.ofChange modeQuietSpec)

/-- ITS FALSE NEIGHBOUR: 'it returns false'. Refute it at one input. -/
def modeQuietWrong : ChangeSpec := { name := "modeQuiet", fn := fun _ => fun
  | [d1, d2, d3] => { results := [.lit (.bool false)], args := [d1, d2, d3] }
  | _ => none }
def ModeQuietWrongFalsely : Prop := modeQuietRow.holds Try.pinned (OpenSpec.ofChange modeQuietWrong)

/- THE SECOND FORM. 'bulk': how many values and letters a reading holds, each counted each time it is reached (what is shared counts as often as it is met; a slice's spare places count too). A statement '..UptoSaid' is the law's where the arguments, and the package variables that the reading takes, are together of bulk at most 1048576: NARROWER than '..Said'. Prove '..Said' where nothing that the law and all that it calls make is longer than what came in: it says more and counts as full. Else prove '..UptoSaid'. A law counts once. -/
mutual
def uptoBulk {H : Type} : DataW H → Nat
  | .lit (.string bytes) => bytes.length + 1
  | .lit _ => 1
  | .nil => 1
  | .ptr d => uptoBulk d + 1
  | .slice elems spare => uptoBulkAll elems + uptoBulkAll spare + 1
  | .agg parts => uptoBulkAll parts + 1
  | .iface _ d => uptoBulk d + 1
  | .map entries => uptoBulkEntries entries + 1
  | .held _ => 1
def uptoBulkAll {H : Type} : List (DataW H) → Nat
  | [] => 0
  | d :: r => uptoBulk d + uptoBulkAll r
def uptoBulkEntries {H : Type} : List (Lit × DataW H) → Nat
  | [] => 0
  | x :: r => uptoBulkEntry x + uptoBulkEntries r
def uptoBulkEntry {H : Type} : Lit × DataW H → Nat
  | (.string bytes, d) => bytes.length + uptoBulk d + 1
  | (_, d) => uptoBulk d + 1
 end
def uptoSmall : (H : Type) → List (DataW H) → Bool := fun _ ds => decide (uptoBulkAll ds ≤ 1048576)
def OpenSpec.upto (s : _root_.Go.ChangeSpec) : _root_.Go.OpenSpec := { _root_.Go.OpenSpec.ofChange s with cond := some uptoSmall }

/-- 'goitlaw01.FixSums', WHERE WHAT IT READS IS OF BULK AT MOST 1048576: true; the input reads as it did. -/
def fixSumsUptoRow : OpenClaim := { program := "ytnffoiocejfppaa", sum := "ec0aef7c9a99a30def2c946c0199029fe1653ab39201cc9ec2e8ea4a66b9818e", func := "goit/goitlaw01.FixSums", spec := "fixSums", inPlace := ["math/bits.Add64"], named := ["math/bits.divideError", "math/bits.overflowError"], apart := false, narrowed := true }
def FixSumsUptoSaid : Prop := fixSumsUptoRow.holds Try.pinned (OpenSpec.upto fixSumsSpec)

/-- 'goitlaw01.FixParts', WHERE WHAT IT READS IS OF BULK AT MOST 1048576: true; the input reads as it did. -/
def fixPartsUptoRow : OpenClaim := { program := "ytnffoiocejfppaa", sum := "ec0aef7c9a99a30def2c946c0199029fe1653ab39201cc9ec2e8ea4a66b9818e", func := "goit/goitlaw01.FixParts", spec := "fixParts", inPlace := ["math/bits.Add64"], named := ["math/bits.divideError", "math/bits.overflowError"], apart := false, narrowed := true }
def FixPartsUptoSaid : Prop := fixPartsUptoRow.holds Try.pinned (OpenSpec.upto fixPartsSpec)

/-- 'goitlaw01.FixNear', WHERE WHAT IT READS IS OF BULK AT MOST 1048576: true; the input reads as it did. -/
def fixNearUptoRow : OpenClaim := { program := "ytnffoiocejfppaa", sum := "ec0aef7c9a99a30def2c946c0199029fe1653ab39201cc9ec2e8ea4a66b9818e", func := "goit/goitlaw01.FixNear", spec := "fixNear", inPlace := ["math/bits.Add64"], named := ["math/bits.divideError", "math/bits.overflowError"], apart := false, narrowed := true }
def FixNearUptoSaid : Prop := fixNearUptoRow.holds Try.pinned (OpenSpec.upto fixNearSpec)

/-- 'goitlaw01.FixWhole', WHERE WHAT IT READS IS OF BULK AT MOST 1048576: true; the input reads as it did. -/
def fixWholeUptoRow : OpenClaim := { program := "ytnffoiocejfppaa", sum := "ec0aef7c9a99a30def2c946c0199029fe1653ab39201cc9ec2e8ea4a66b9818e", func := "goit/goitlaw01.FixWhole", spec := "fixWhole", inPlace := ["math/bits.Add64"], named := ["math/bits.divideError", "math/bits.overflowError"], apart := false, narrowed := true }
def FixWholeUptoSaid : Prop := fixWholeUptoRow.holds Try.pinned (OpenSpec.upto fixWholeSpec)

/-- 'goitlaw01.FixRises', WHERE WHAT IT READS IS OF BULK AT MOST 1048576: true; the input reads as it did. -/
def fixRisesUptoRow : OpenClaim := { program := "ytnffoiocejfppaa", sum := "ec0aef7c9a99a30def2c946c0199029fe1653ab39201cc9ec2e8ea4a66b9818e", func := "goit/goitlaw01.FixRises", spec := "fixRises", inPlace := ["math/bits.Add64"], named := ["math/bits.divideError", "math/bits.overflowError"], apart := false, narrowed := true }
def FixRisesUptoSaid : Prop := fixRisesUptoRow.holds Try.pinned (OpenSpec.upto fixRisesSpec)

/-- 'goitlaw13.BoundTells', WHERE WHAT IT READS IS OF BULK AT MOST 1048576: true; the input reads as it did. -/
def boundTellsUptoRow : OpenClaim := { program := "ytnffoiocejfppaa", sum := "ec0aef7c9a99a30def2c946c0199029fe1653ab39201cc9ec2e8ea4a66b9818e", func := "goit/goitlaw13.BoundTells", spec := "boundTells", inPlace := ["math/bits.Add64"], named := ["math/bits.divideError", "math/bits.overflowError"], apart := false, narrowed := true }
def BoundTellsUptoSaid : Prop := boundTellsUptoRow.holds Try.pinned (OpenSpec.upto boundTellsSpec)

/-- 'goitlaw13.BoundWays', WHERE WHAT IT READS IS OF BULK AT MOST 1048576: true; the input reads as it did. -/
def boundWaysUptoRow : OpenClaim := { program := "ytnffoiocejfppaa", sum := "ec0aef7c9a99a30def2c946c0199029fe1653ab39201cc9ec2e8ea4a66b9818e", func := "goit/goitlaw13.BoundWays", spec := "boundWays", inPlace := ["math/bits.Add64"], named := ["math/bits.divideError", "math/bits.overflowError"], apart := false, narrowed := true }
def BoundWaysUptoSaid : Prop := boundWaysUptoRow.holds Try.pinned (OpenSpec.upto boundWaysSpec)

/-- 'goitlaw12.GainTells', WHERE WHAT IT READS IS OF BULK AT MOST 1048576: true; the input reads as it did. -/
def gainTellsUptoRow : OpenClaim := { program := "ytnffoiocejfppaa", sum := "ec0aef7c9a99a30def2c946c0199029fe1653ab39201cc9ec2e8ea4a66b9818e", func := "goit/goitlaw12.GainTells", spec := "gainTells", inPlace := ["math/bits.Add64"], named := ["math/bits.divideError", "math/bits.overflowError"], apart := false, narrowed := true }
def GainTellsUptoSaid : Prop := gainTellsUptoRow.holds Try.pinned (OpenSpec.upto gainTellsSpec)

/-- 'goitlaw12.GainNames', WHERE WHAT IT READS IS OF BULK AT MOST 1048576: true; the input reads as it did. -/
def gainNamesUptoRow : OpenClaim := { program := "ytnffoiocejfppaa", sum := "ec0aef7c9a99a30def2c946c0199029fe1653ab39201cc9ec2e8ea4a66b9818e", func := "goit/goitlaw12.GainNames", spec := "gainNames", inPlace := ["math/bits.Add64"], named := ["math/bits.divideError", "math/bits.overflowError"], apart := false, narrowed := true }
def GainNamesUptoSaid : Prop := gainNamesUptoRow.holds Try.pinned (OpenSpec.upto gainNamesSpec)

/-- 'goitlaw12.GainAll', WHERE WHAT IT READS IS OF BULK AT MOST 1048576: true; the input reads as it did. -/
def gainAllUptoRow : OpenClaim := { program := "ytnffoiocejfppaa", sum := "ec0aef7c9a99a30def2c946c0199029fe1653ab39201cc9ec2e8ea4a66b9818e", func := "goit/goitlaw12.GainAll", spec := "gainAll", inPlace := ["math/bits.Add64"], named := ["math/bits.divideError", "math/bits.overflowError"], apart := false, narrowed := true }
def GainAllUptoSaid : Prop := gainAllUptoRow.holds Try.pinned (OpenSpec.upto gainAllSpec)

/-- 'goitlaw14.ModeNext', WHERE WHAT IT READS IS OF BULK AT MOST 1048576: true; the input reads as it did. -/
def modeNextUptoRow : OpenClaim := { program := "ytnffoiocejfppaa", sum := "ec0aef7c9a99a30def2c946c0199029fe1653ab39201cc9ec2e8ea4a66b9818e", func := "goit/goitlaw14.ModeNext", spec := "modeNext", named := ["math/bits.divideError", "math/bits.overflowError"], apart := false, narrowed := true }
def ModeNextUptoSaid : Prop := modeNextUptoRow.holds Try.pinned (OpenSpec.upto modeNextSpec)

/-- 'goitlaw14.ModeArrows', WHERE WHAT IT READS IS OF BULK AT MOST 1048576: true; the input reads as it did. -/
def modeArrowsUptoRow : OpenClaim := { program := "ytnffoiocejfppaa", sum := "ec0aef7c9a99a30def2c946c0199029fe1653ab39201cc9ec2e8ea4a66b9818e", func := "goit/goitlaw14.ModeArrows", spec := "modeArrows", named := ["math/bits.divideError", "math/bits.overflowError"], apart := false, narrowed := true }
def ModeArrowsUptoSaid : Prop := modeArrowsUptoRow.holds Try.pinned (OpenSpec.upto modeArrowsSpec)

/-- 'goitlaw14.ModeQuiet', WHERE WHAT IT READS IS OF BULK AT MOST 1048576: true; the input reads as it did. -/
def modeQuietUptoRow : OpenClaim := { program := "ytnffoiocejfppaa", sum := "ec0aef7c9a99a30def2c946c0199029fe1653ab39201cc9ec2e8ea4a66b9818e", func := "goit/goitlaw14.ModeQuiet", spec := "modeQuiet", named := ["math/bits.divideError", "math/bits.overflowError"], apart := false, narrowed := true }
def ModeQuietUptoSaid : Prop := modeQuietUptoRow.holds Try.pinned (OpenSpec.upto modeQuietSpec)

end Rows
end Go.Proofs.Ytnffoiocejfppaa
