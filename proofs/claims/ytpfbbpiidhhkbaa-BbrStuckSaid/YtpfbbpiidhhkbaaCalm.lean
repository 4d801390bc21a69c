/- Regions that draw, all of whose operations keep what is owned: each has one value in every world that owns these; whatever the order, the region ends in some world that owns them. -/
import Derived.Test.YtpfbbpiidhhkbaaKp
import Derived.Deep.Quiet
import Derived.Deep.QuietTactic
namespace Go.Proofs.Ytpfbbpiidhhkbaa
open Go.RowKit
theorem wp_region_calm {P : Program} {id : Nat} {Q : Exit → Act → World → Prop} {a : Act} {w : World} {l : List Oper} (ε : World) (L : List Asn) (hm : P.follows .mixedOrders = true) (hB : Region.lexB .any l.toArray = true) (H : Own ε w L)
    (h : wpQuiet P l.toArray (fun w' => Own ε w' L) (fun a' => ∀ w', Own ε w' L → Q .normal a' w') l a) : (Code.region id l.toArray true).wp P Q a w :=
  wp_region_quiet (C := fun w' => Own ε w' L) hm hB (H.drawn _) (by simpa using h)
theorem Below.of_alloc2 {w w' : World} {a : Obj} (h : Below w.heap.size (w.alloc a) w') : Below w.heap.size w w' := ((Below.refl _ _).alloc (Nat.le_refl _) _).trans h
theorem Below.drewN {B : Nat} {a w : World} (h : Below B a w) (n : Nat) : Below B a (w.drewN n) := ⟨h.os, h.tape, h.output, h.size, h.block⟩
end Go.Proofs.Ytpfbbpiidhhkbaa
