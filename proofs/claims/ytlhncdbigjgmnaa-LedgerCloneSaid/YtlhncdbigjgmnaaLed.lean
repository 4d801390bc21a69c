/- ledger: its entries, and itself, as plain data, and as what is owned. -/
import Derived.Test.YtlhncdbigjgmnaaRingL2
import Derived.Test.YtlhncdbigjgmnaaPk
namespace Go.Proofs.Ytlhncdbigjgmnaa
open Go.RowKit
/-- An entry: where it lies, its packet, and whether it is out. -/
structure En where
  b : Nat
  p : Pk
  o : Bool
def En.obj (e : En) : Obj := .cells #[.int .u64 e.p.n, .int .u64 e.p.size, .int .u64 e.p.sent, .int .u64 e.p.first, .int .u64 e.p.deliv, .int .u64 e.p.at', .bool e.p.lim, .bool e.o] 80 (0, 0)
/-- Entries, each in its own block. -/
def ents : List En → Asn
  | [] => emp
  | e :: l => sep (pts e.b e.obj) (ents l)
theorem emp_sep {A : Asn} {h : PH} (x : A h) : sep emp A h := ⟨fun _ => none, h, fun _ => rfl, x, fun _ => .inl rfl, fun k => by simp⟩
theorem ents_at : ∀ (l : List En) (i : Nat) (e : En), l[i]? = some e → ∀ h, ents l h → sep (pts e.b e.obj) (ents (l.eraseIdx i)) h
  | [], i, e, hi, _, _ => by simp at hi
  | x :: l, 0, e, hi, h, H => by
    obtain rfl : x = e := by simpa using hi
    exact H
  | x :: l, i + 1, e, hi, h, H => sep_left (sep_imp H (fun _ q => q) (fun h' q => ents_at l i e (by simpa using hi) h' q))
theorem ents_of : ∀ (l : List En) (i : Nat) (e : En), l[i]? = some e → ∀ h, sep (pts e.b e.obj) (ents (l.eraseIdx i)) h → ents l h
  | [], i, e, hi, _, _ => by simp at hi
  | x :: l, 0, e, hi, h, H => by
    obtain rfl : x = e := by simpa using hi
    exact H
  | x :: l, i + 1, e, hi, h, H => sep_imp (sep_left (show sep (pts e.b e.obj) (sep (pts x.b x.obj) (ents (l.eraseIdx i))) h from H)) (fun _ q => q) (fun h' q => ents_of l i e (by simpa using hi) h' q)
section
variable {ε w : World} {R : List Asn}
theorem Own.ents_at {l : List En} {i : Nat} {e : En} (H : Own ε w (ents l :: R)) (hi : l[i]? = some e) : Own ε w (pts e.b e.obj :: ents (l.eraseIdx i) :: R) := (H.imp fun _ => Go.Proofs.Ytlhncdbigjgmnaa.ents_at l i e hi _).split
theorem Own.ents_set {l : List En} {i : Nat} {e' : En} (hi : i < l.length) (H : Own ε w (pts e'.b e'.obj :: ents (l.eraseIdx i) :: R)) : Own ε w (ents (l.set i e') :: R) :=
  H.join.imp fun _ q => ents_of (l.set i e') i e' (by simp [hi]) _ (by rw [List.eraseIdx_set_eq]; exact q)
theorem Own.ents_back {l : List En} {i : Nat} {e : En} (hi : l[i]? = some e) (H : Own ε w (pts e.b e.obj :: ents (l.eraseIdx i) :: R)) : Own ε w (ents l :: R) :=
  H.join.imp fun _ q => ents_of l i e hi _ q
theorem Own.ents_snoc {l : List En} {e : En} (H : Own ε w (pts e.b e.obj :: ents l :: R)) : Own ε w (ents (l ++ [e]) :: R) :=
  H.join.imp fun _ q => ents_of (l ++ [e]) l.length e (by simp) _ (by rw [List.eraseIdx_append_of_length_le (Nat.le_refl _)]; simpa using q)
theorem Own.ents_tail {l : List En} {e : En} (H : Own ε w (ents (e :: l) :: R)) : Own ε w (ents l :: R) := (H.imp fun _ q => (show sep (pts e.b e.obj) (ents l) _ from q)).split.tail
theorem Own.ents_nil (H : Own ε w R) : Own ε w (ents [] :: R) := H.map fun _ x => emp_sep x
end
/-- A ledger. -/
structure Led where
  re : Int
  next : Int
  top : Int
  some : Bool
  row : List En
abbrev ledN (b rb : Nat) (s : Led) : Asn := pts b (.cells #[.pointer (some ⟨rb, 0, none⟩), .int .u64 s.re, .int .u64 s.next, .int .u64 s.top, .bool s.some] 77 (0, 0))
abbrev blks (l : List En) : List Nat := l.map (·.b)
def led (b : Nat) (s : Led) : Asn := exA fun rb : Nat => sep (ledN b rb s) (sep (ringL rb (blks s.row)) (ents s.row))
section
variable {ε w : World} {R : List Asn} {b : Nat} {s : Led}
theorem Own.led_open (H : Own ε w (led b s :: R)) : ∃ rb, Own ε w (ledN b rb s :: ringL rb (blks s.row) :: ents s.row :: R) := by
  obtain ⟨rb, H⟩ := H.ex
  exact ⟨rb, H.split.under fun _ q => sep_assoc2 q⟩
theorem Own.led_mk {rb : Nat} (H : Own ε w (ledN b rb s :: ringL rb (blks s.row) :: ents s.row :: R)) : Own ε w (led b s :: R) :=
  Own.ex_mk rb (Own.join (Own.under (L' := sep (ringL rb (blks s.row)) (ents s.row) :: R) H fun _ q => sep_assoc1 q))
end
/-- Those that are out. -/
def outs (l : List En) : List Pk := (l.filter (·.o)).map (·.p)
/-- Those that are taken: they are out, and something is so. -/
def taken (is : Pk → Bool) (l : List En) : List Pk := (l.filter fun e => e.o && is e.p).map (·.p)
def En.mark (is : Pk → Bool) (e : En) : En := { e with o := e.o && !is e.p }
def marked (is : Pk → Bool) (l : List En) : List En := l.map (En.mark is)
def Led.take (is : Pk → Bool) (s : Led) : Led := { s with row := (marked is s.row).dropWhile (fun e => !e.o) }
end Go.Proofs.Ytlhncdbigjgmnaa
