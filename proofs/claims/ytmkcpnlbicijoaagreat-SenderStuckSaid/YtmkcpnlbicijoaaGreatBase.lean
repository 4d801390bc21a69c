/- The words of separation used by all texts of this seat: a world owns a list of assertions on separate blocks. -/
import Derived.WalkKit
import Derived.Lib.Hide
import Derived.BigQuiet
import Derived.Deep.QuietTactic
import Derived.OrdersHeld
import Derived.KernelRfl
import Derived.StillTailTactics
namespace Go.Proofs.YtmkcpnlbicijoaaGreat
open Go.RowKit

abbrev PH := Nat → Option Obj
def Asn := PH → Prop
def emp : Asn := fun h => ∀ k, h k = none
def pts (b : Nat) (o : Obj) : Asn := fun h => ∀ k, h k = if k = b then some o else none
def sep (A B : Asn) : Asn := fun h => ∃ h1 h2 : PH, A h1 ∧ B h2 ∧ (∀ k, h1 k = none ∨ h2 k = none) ∧ ∀ k, h k = (h1 k).or (h2 k)
def lift (p : Prop) (A : Asn) : Asn := fun h => p ∧ A h
def exA {α : Sort _} (A : α → Asn) : Asn := fun h => ∃ a, A a h
def old (w0 : World) : Asn := fun h => ∀ k, h k = w0.heap[k]?

theorem sep_comm {A B : Asn} {h : PH} (x : sep A B h) : sep B A h := by
 obtain ⟨h1, h2, a, b, d, e⟩ := x
 refine ⟨h2, h1, b, a, fun k => (d k).symm, fun k => ?_⟩
 rw [e k]
 rcases d k with q | q <;> rw [q] <;> simp
theorem sep_imp {A A' B B' : Asn} {h : PH} (x : sep A B h) (f : ∀ h, A h → A' h) (g : ∀ h, B h → B' h) : sep A' B' h := by
 obtain ⟨h1, h2, a, b, d, e⟩ := x
 exact ⟨h1, h2, f _ a, g _ b, d, e⟩
theorem sep_assoc1 {A B C : Asn} {h : PH} (x : sep A (sep B C) h) : sep (sep A B) C h := by
 obtain ⟨h1, h2, a, ⟨h3, h4, b, c, d', e'⟩, d, e⟩ := x
 refine ⟨fun k => (h1 k).or (h3 k), h4, ⟨h1, h3, a, b, fun k => ?_, fun _ => rfl⟩, c, fun k => ?_, fun k => ?_⟩
 ·rcases d k with q | q
  ·exact .inl q
  ·rw [e' k] at q
   cases q1 : h3 k with
   | none => exact .inr rfl
   | some _ => rw [q1] at q; simp at q
 ·rcases d k with q | q
  ·rcases d' k with r | r
   ·left; show (h1 k).or (h3 k) = none; rw [q, r]; rfl
   ·exact .inr r
  ·rw [e' k] at q
   cases q1 : h4 k with
   | none => exact .inr rfl
   | some _ =>
    rcases d' k with r | r
    ·rw [q1, r] at q; simp at q
    ·rw [q1] at r; cases r
 ·rw [e k, e' k]; show _ = ((h1 k).or (h3 k)).or (h4 k); cases h1 k <;> simp
theorem sep_left {A B C : Asn} {h : PH} (x : sep A (sep B C) h) : sep B (sep A C) h := by
 have y := sep_comm x
 obtain ⟨h1, h2, ⟨h3, h4, b, c, d', e'⟩, a, d, e⟩ := y
 have z : sep (sep B C) A h := ⟨h1, h2, ⟨h3, h4, b, c, d', e'⟩, a, d, e⟩
 have z2 := sep_comm (sep_assoc1 (sep_comm (sep_imp z (fun _ => sep_comm) (fun _ q => q))))
 exact sep_imp z2 (fun _ q => q) (fun _ q => q)

def star : List Asn → Asn
 | [] => fun _ => True
 | A :: L => sep A (star L)
def Own (ε w : World) (L : List Asn) : Prop := (w.os = ε.os ∧ w.tape = ε.tape ∧ w.output = ε.output) ∧ ∃ h : PH, star L h ∧ ∀ k o, h k = some o → w.heap[k]? = some o

section
variable {ε w : World} {A B C D E F G : Asn} {R : List Asn}
theorem Own.map {L L' : List Asn} (H : Own ε w L) (f : ∀ h, star L h → star L' h) : Own ε w L' := ⟨H.1, let ⟨h, a, b⟩ := H.2; ⟨h, f h a, b⟩⟩
theorem Own.imp (H : Own ε w (A :: R)) (f : ∀ h, A h → B h) : Own ε w (B :: R) := H.map fun _ x => sep_imp x f (fun _ q => q)
theorem Own.r2 (H : Own ε w (A :: B :: R)) : Own ε w (B :: A :: R) := H.map fun _ x => sep_left x
theorem Own.r3 (H : Own ε w (A :: B :: C :: R)) : Own ε w (C :: A :: B :: R) := H.map fun _ x => sep_left (sep_imp x (fun _ q => q) (fun _ y => sep_left y))
theorem Own.under {L L' : List Asn} (H : Own ε w (A :: L)) (f : ∀ h, star L h → star L' h) : Own ε w (A :: L') := H.map fun _ x => sep_imp x (fun _ q => q) f
theorem star_r2 {h : PH} (x : star (A :: B :: R) h) : star (B :: A :: R) h := sep_left x
theorem star_in {L L' : List Asn} (f : ∀ h, star L h → star L' h) {h : PH} (x : star (A :: L) h) : star (A :: L') h := sep_imp x (fun _ q => q) f
theorem star_r3 {h : PH} (x : star (A :: B :: C :: R) h) : star (C :: A :: B :: R) h := star_r2 (star_in (fun _ y => star_r2 y) x)
theorem star_r4 {h : PH} (x : star (A :: B :: C :: D :: R) h) : star (D :: A :: B :: C :: R) h := star_r2 (star_in (fun _ y => star_r3 y) x)
theorem star_r5 {h : PH} (x : star (A :: B :: C :: D :: E :: R) h) : star (E :: A :: B :: C :: D :: R) h := star_r2 (star_in (fun _ y => star_r4 y) x)
theorem star_r6 {h : PH} (x : star (A :: B :: C :: D :: E :: F :: R) h) : star (F :: A :: B :: C :: D :: E :: R) h := star_r2 (star_in (fun _ y => star_r5 y) x)
theorem star_r7 {h : PH} (x : star (A :: B :: C :: D :: E :: F :: G :: R) h) : star (G :: A :: B :: C :: D :: E :: F :: R) h := star_r2 (star_in (fun _ y => star_r6 y) x)
theorem Own.r4 (H : Own ε w (A :: B :: C :: D :: R)) : Own ε w (D :: A :: B :: C :: R) := H.map fun _ x => star_r4 x
theorem Own.r5 (H : Own ε w (A :: B :: C :: D :: E :: R)) : Own ε w (E :: A :: B :: C :: D :: R) := H.map fun _ x => star_r5 x
theorem Own.r6 (H : Own ε w (A :: B :: C :: D :: E :: F :: R)) : Own ε w (F :: A :: B :: C :: D :: E :: R) := H.map fun _ x => star_r6 x
theorem Own.r7 (H : Own ε w (A :: B :: C :: D :: E :: F :: G :: R)) : Own ε w (G :: A :: B :: C :: D :: E :: F :: R) := H.map fun _ x => star_r7 x
theorem Own.l2 (H : Own ε w (A :: B :: R)) : Own ε w (B :: A :: R) := H.r2
theorem star_l3 {h : PH} (x : star (A :: B :: C :: R) h) : star (B :: C :: A :: R) h := star_in (fun _ y => star_r2 y) (star_r2 x)
theorem star_l4 {h : PH} (x : star (A :: B :: C :: D :: R) h) : star (B :: C :: D :: A :: R) h := star_in (fun _ y => star_l3 y) (star_r2 x)
theorem star_l5 {h : PH} (x : star (A :: B :: C :: D :: E :: R) h) : star (B :: C :: D :: E :: A :: R) h := star_in (fun _ y => star_l4 y) (star_r2 x)
theorem star_l6 {h : PH} (x : star (A :: B :: C :: D :: E :: F :: R) h) : star (B :: C :: D :: E :: F :: A :: R) h := star_in (fun _ y => star_l5 y) (star_r2 x)
theorem Own.l3 (H : Own ε w (A :: B :: C :: R)) : Own ε w (B :: C :: A :: R) := H.map fun _ x => star_l3 x
theorem Own.l4 (H : Own ε w (A :: B :: C :: D :: R)) : Own ε w (B :: C :: D :: A :: R) := H.map fun _ x => star_l4 x
theorem Own.l6 (H : Own ε w (A :: B :: C :: D :: E :: F :: R)) : Own ε w (B :: C :: D :: E :: F :: A :: R) := H.map fun _ x => star_l6 x
theorem Own.tail (H : Own ε w (A :: R)) : Own ε w R := by
 obtain ⟨e, h, ⟨h1, h2, _, b, d, q⟩, s⟩ := H
 refine ⟨e, h2, b, fun k o hk => s k o ?_⟩
 rw [q k]
 rcases d k with r | r
 ·rw [r]; simpa using hk
 ·rw [r] at hk; cases hk
theorem Own.of_heap {w' : World} {L : List Asn} (H : Own ε w L) (h : w'.heap = w.heap) (h1 : w'.os = w.os) (h2 : w'.tape = w.tape) (h3 : w'.output = w.output) : Own ε w' L := by
 obtain ⟨⟨a, b, c⟩, x, y, z⟩ := H
 exact ⟨⟨h1.trans a, h2.trans b, h3.trans c⟩, x, y, by rw [h]; exact z⟩
theorem Own.drewN {L : List Asn} (H : Own ε w L) (n : Nat) : Own ε (w.drewN n) L := H.of_heap rfl rfl rfl rfl
theorem Own.drew {L : List Asn} (H : Own ε w L) : Own ε w.drew L := H.of_heap rfl rfl rfl rfl
theorem Own.drawn {L : List Asn} (H : Own ε w L) (n : Nat) : Own ε { w with drawn := n } L := H.of_heap rfl rfl rfl rfl

theorem Own.blk {b : Nat} {o : Obj} (H : Own ε w (pts b o :: R)) : w.heap[b]? = some o := by
 obtain ⟨_, h, ⟨h1, h2, a, _, _, q⟩, s⟩ := H
 refine s b o ?_
 rw [q b, a b, if_pos rfl]; rfl
theorem Own.cells {b : Nat} {cs : Array Value} {T : TypeId} (H : Own ε w (pts b (.cells cs T (0, 0)) :: R)) : (∀ i, w.cell? ⟨b, i, none⟩ = cs[i]?) ∧ ∀ i, w.frozen? ⟨b, i, none⟩ = false := by
 have hb := H.blk
 exact ⟨fun i => cell_of_row w b i _ _ _ hb, fun i => by simp [World.frozen?, hb]⟩
theorem Own.lt {b : Nat} {o : Obj} (H : Own ε w (pts b o :: R)) : b < w.heap.size := (Array.getElem?_eq_some_iff.1 H.blk).1
theorem Own.put {b : Nat} {o o' : Obj} {w' : World} (H : Own ε w (pts b o :: R)) (h1 : w'.os = w.os) (h2 : w'.tape = w.tape) (h3 : w'.output = w.output)
  (hb : w'.heap[b]? = some o') (hk : ∀ k, k < w.heap.size → k ≠ b → w'.heap[k]? = w.heap[k]?) : Own ε w' (pts b o' :: R) := by
 obtain ⟨⟨ea, eb, ec⟩, h, ⟨p1, p2, a, r, d, q⟩, s⟩ := H
 refine ⟨⟨h1.trans ea, h2.trans eb, h3.trans ec⟩, fun k => if k = b then some o' else p2 k, ⟨fun k => if k = b then some o' else none, p2, fun _ => rfl, r, fun k => ?_, fun k => ?_⟩, fun k x hx => ?_⟩
 ·by_cases e : k = b
  ·subst e
   rcases d k with t | t
   ·rw [a k, if_pos rfl] at t; cases t
   ·exact .inr t
  ·left; show (if k = b then some o' else none) = none; rw [if_neg e]
 ·show (if k = b then some o' else p2 k) = (if k = b then some o' else none).or (p2 k)
  by_cases e : k = b
  ·rw [if_pos e, if_pos e]; rfl
  ·rw [if_neg e, if_neg e]; rfl
 ·replace hx : (if k = b then some o' else p2 k) = some x := hx
  by_cases e : k = b
  ·rw [if_pos e] at hx; cases hx; rw [e]; exact hb
  ·rw [if_neg e] at hx
   have hh : h k = some x := by rw [q k, a k, if_neg e]; simpa using hx
   have hw := s k x hh
   rw [hk k (Array.getElem?_eq_some_iff.1 hw).1 e]; exact hw
theorem Own.set {b : Nat} {cs : Array Value} {T : TypeId} {f : Nat × Nat} (H : Own ε w (pts b (.cells cs T f) :: R)) (i : Nat) (v : Value) :
  Own ε (w.setCell ⟨b, i, none⟩ v) (pts b (.cells (cs.setIfInBounds i v) T f) :: R) := by
 refine H.put rfl rfl rfl ?_ (fun k _ hk => Below.heap_setCell w ⟨b, i, none⟩ v k hk)
 have hb := H.blk
 simp only [World.setCell, Array.getElem?_modify]
 rw [if_pos trivial, hb]
 rfl
theorem Own.fresh {w' : World} {L : List Asn} {o : Obj} (H : Own ε w L) (h1 : w'.os = w.os) (h2 : w'.tape = w.tape) (h3 : w'.output = w.output)
  (hb : w'.heap[w.heap.size]? = some o) (hk : ∀ k, k < w.heap.size → w'.heap[k]? = w.heap[k]?) : Own ε w' (pts w.heap.size o :: L) := by
 obtain ⟨⟨ea, eb, ec⟩, h, r, s⟩ := H
 have hn : h w.heap.size = none := by
  cases e : h w.heap.size with
  | none => rfl
  | some x => have := (Array.getElem?_eq_some_iff.1 (s _ _ e)).1; omega
 refine ⟨⟨h1.trans ea, h2.trans eb, h3.trans ec⟩, fun k => if k = w.heap.size then some o else h k, ⟨fun k => if k = w.heap.size then some o else none, h, fun _ => rfl, r, fun k => ?_, fun k => ?_⟩, fun k x hx => ?_⟩
 ·by_cases e : k = w.heap.size
  ·rw [e]; exact .inr hn
  ·left; show (if k = w.heap.size then some o else none) = none; rw [if_neg e]
 ·show (if k = w.heap.size then some o else h k) = (if k = w.heap.size then some o else none).or (h k)
  by_cases e : k = w.heap.size
  ·rw [if_pos e, if_pos e]; rfl
  ·rw [if_neg e, if_neg e]; rfl
 ·replace hx : (if k = w.heap.size then some o else h k) = some x := hx
  by_cases e : k = w.heap.size
  ·rw [if_pos e] at hx; cases hx; rw [e]; exact hb
  ·rw [if_neg e] at hx
   have hw := s k x hx
   rw [hk k (Array.getElem?_eq_some_iff.1 hw).1]; exact hw
theorem Own.alloc {L : List Asn} (H : Own ε w L) (o : Obj) : Own ε (w.alloc o) (pts w.heap.size o :: L) :=
 H.fresh rfl rfl rfl (by show (w.heap.push o)[w.heap.size]? = some o; simp) (fun k hk => Below.heap_alloc w o k hk)
theorem Own.grown {w' : World} {L : List Asn} (H : Own ε w L) (h1 : w'.os = w.os) (h2 : w'.tape = w.tape) (h3 : w'.output = w.output) (hk : ∀ k, k < w.heap.size → w'.heap[k]? = w.heap[k]?) : Own ε w' L := by
 obtain ⟨⟨ea, eb, ec⟩, h, r, s⟩ := H
 exact ⟨⟨h1.trans ea, h2.trans eb, h3.trans ec⟩, h, r, fun k x hx => by have hw := s k x hx; rw [hk k (Array.getElem?_eq_some_iff.1 hw).1]; exact hw⟩
theorem Own.below {w' : World} {L : List Asn} (H : Own ε w L) (hb : Below w.heap.size w w') : Own ε w' L := H.grown hb.os hb.tape hb.output hb.block

theorem Own.ne {b b' : Nat} {o o' : Obj} (H : Own ε w (pts b o :: pts b' o' :: R)) : b ≠ b' := by
 obtain ⟨_, h, ⟨h1, h2, a, ⟨h3, h4, c, _, _, q'⟩, d, _⟩, _⟩ := H
 intro e
 subst e
 rcases d b with t | t
 ·rw [a b, if_pos rfl] at t; cases t
 ·rw [q' b, c b, if_pos rfl] at t; cases t
theorem Own.init (w : World) : Own w w [old w] := ⟨⟨rfl, rfl, rfl⟩, fun k => w.heap[k]?, ⟨fun k => w.heap[k]?, fun _ => none, fun _ => rfl, trivial, fun _ => .inr rfl, fun k => by simp⟩, fun _ _ h => h⟩
theorem Own.old_at {w0 : World} (H : Own ε w (old w0 :: R)) (k : Nat) (hk : k < w0.heap.size) : w.heap[k]? = w0.heap[k]? := by
 obtain ⟨_, h, ⟨h1, h2, a, _, _, q⟩, s⟩ := H
 have h0 : w0.heap[k]? = some w0.heap[k] := Array.getElem?_eq_getElem hk
 rw [h0]
 refine s k _ ?_
 rw [q k, a k, h0]; rfl
theorem Own.old_size {w0 : World} (H : Own ε w (old w0 :: R)) : w0.heap.size ≤ w.heap.size := by
 rcases Nat.lt_or_ge w.heap.size w0.heap.size with h | h
 ·have := H.old_at w.heap.size h
  rw [Array.getElem?_eq_none (Nat.le_refl _), Array.getElem?_eq_getElem h] at this
  cases this
 ·exact h
theorem Own.old_below {w0 : World} (H : Own w0 w (old w0 :: R)) : Below w0.heap.size w0 w := ⟨H.1.1, H.1.2.1, H.1.2.2, H.old_size, fun k hk => H.old_at k hk⟩
theorem Own.old_cell {w0 : World} (H : Own ε w (old w0 :: R)) {a : Addr} {v : Value} (h : w0.cell? a = some v) : w.cell? a = some v := by
 have hb := World.block_lt_of_cell? w0 a h
 rw [← h]; exact World.cell?_of_block (w := w0) (H.old_at a.block hb)
theorem Own.ex {α : Sort _} {P : α → Asn} (H : Own ε w (exA P :: R)) : ∃ a, Own ε w (P a :: R) := by
 obtain ⟨e, h, ⟨h1, h2, ⟨a, ha⟩, b, d, q⟩, s⟩ := H
 exact ⟨a, e, h, ⟨h1, h2, ha, b, d, q⟩, s⟩
theorem Own.ex_mk {α : Sort _} {P : α → Asn} (a : α) (H : Own ε w (P a :: R)) : Own ε w (exA P :: R) := H.imp fun _ x => ⟨a, x⟩
theorem Own.lift {p : Prop} (H : Own ε w (lift p A :: R)) : p ∧ Own ε w (A :: R) := by
 obtain ⟨e, h, ⟨h1, h2, ⟨a, ha⟩, b, d, q⟩, s⟩ := H
 exact ⟨a, e, h, ⟨h1, h2, ha, b, d, q⟩, s⟩
theorem Own.lift_mk {p : Prop} (hp : p) (H : Own ε w (A :: R)) : Own ε w (Go.Proofs.YtmkcpnlbicijoaaGreat.lift p A :: R) := H.imp fun _ x => ⟨hp, x⟩
theorem sep_assoc2 {A B C : Asn} {h : PH} (x : sep (sep A B) C h) : sep A (sep B C) h :=
 sep_imp (sep_comm (sep_assoc1 (sep_imp (sep_comm x) (fun _ q => q) (fun _ q => sep_comm q)))) (fun _ q => q) (fun _ q => sep_comm q)
theorem Own.split (H : Own ε w (sep A B :: R)) : Own ε w (A :: B :: R) := H.map fun _ x => sep_assoc2 x
theorem Own.join (H : Own ε w (A :: B :: R)) : Own ε w (sep A B :: R) := H.map fun _ x => sep_assoc1 x
end
theorem quiet_c {P : Program} {f : FuncId} {args : Array Value} {w : World} {n : Nat} {v : Value} (h : Calls P f args (w.drewN n) fun e w' => e = .returned v ∧ w.drewN n = w') :
  Calls P f args (w.drewN n) fun e w'' => e = .returned v ∧ ∃ m, w'' = w.drewN m := h.mono fun _ _ ⟨he, hm⟩ => ⟨he, n, hm.symm⟩
theorem cell_new (w : World) (cs : Array Value) (T : TypeId) (i : Nat) : (w.alloc (.cells cs T (0, 0))).cell? ⟨w.heap.size, i, none⟩ = cs[i]? :=
 cell_of_row _ _ _ cs T (0, 0) (by show (w.heap.push _)[w.heap.size]? = _; simp)
def Is (a b : Act) : Prop := a = b
theorem Is.rfl {a : Act} : Is a a := Eq.refl a
end Go.Proofs.YtmkcpnlbicijoaaGreat
