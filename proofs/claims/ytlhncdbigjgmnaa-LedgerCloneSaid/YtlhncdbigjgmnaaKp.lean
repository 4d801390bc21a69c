/- Owned things in any order: the order of a list of assertions does not matter, and some may be left out; worlds that keep what is owned. -/
import Derived.Test.YtlhncdbigjgmnaaBase
namespace Go.Proofs.Ytlhncdbigjgmnaa
open Go.RowKit
theorem star_ext {L : List Asn} : ∀ {h1 h2 h : PH}, star L h2 → (∀ k, h1 k = none ∨ h2 k = none) → (∀ k, h k = (h1 k).or (h2 k)) → star L h := by
  induction L with
  | nil => intro _ _ _ _ _ _; trivial
  | cons A L ih =>
    rintro h1 h2 h ⟨ha, hb, a, b, d, e⟩ hd he
    refine ⟨ha, fun k => (h1 k).or (hb k), a, ih b (fun k => ?_) (fun _ => rfl), fun k => ?_, fun k => ?_⟩
    · rcases hd k with q | q
      · exact .inl q
      · right
        rw [e k] at q
        rcases d k with r | r
        · rw [r] at q; simpa using q
        · exact r
    · rcases hd k with q | q
      · rcases d k with r | r
        · exact .inl r
        · right; show (h1 k).or (hb k) = none; rw [q, r]; rfl
      · left
        rw [e k] at q
        cases r : ha k with
        | none => rfl
        | some x => rw [r] at q; cases q
    · show h k = (ha k).or ((h1 k).or (hb k))
      rw [he k, e k]
      rcases hd k with q | q
      · rw [q]; simp
      · rw [e k] at q
        cases r : ha k with
        | none => simp
        | some x => rw [r] at q; cases q
def Pm (L L' : List Asn) : Prop := ∀ h, star L h → star L' h
section
variable {A B C D E F G J : Asn} {L L' : List Asn}
theorem Pm.refl (L : List Asn) : Pm L L := fun _ x => x
theorem Pm.nil (L : List Asn) : Pm L [] := fun _ _ => trivial
theorem Pm.here (f : Pm L L') : Pm (A :: L) (A :: L') := fun _ x => star_in f x
theorem Pm.at2 (f : Pm (B :: L) L') : Pm (B :: A :: L) (A :: L') := fun _ x => star_in f (star_r2 x)
theorem Pm.at3 (f : Pm (B :: C :: L) L') : Pm (B :: C :: A :: L) (A :: L') := fun _ x => star_in f (star_r3 x)
theorem Pm.at4 (f : Pm (B :: C :: D :: L) L') : Pm (B :: C :: D :: A :: L) (A :: L') := fun _ x => star_in f (star_r4 x)
theorem Pm.at5 (f : Pm (B :: C :: D :: E :: L) L') : Pm (B :: C :: D :: E :: A :: L) (A :: L') := fun _ x => star_in f (star_r5 x)
theorem Pm.at6 (f : Pm (B :: C :: D :: E :: F :: L) L') : Pm (B :: C :: D :: E :: F :: A :: L) (A :: L') := fun _ x => star_in f (star_r6 x)
theorem Pm.at7 (f : Pm (B :: C :: D :: E :: F :: G :: L) L') : Pm (B :: C :: D :: E :: F :: G :: A :: L) (A :: L') := fun _ x => star_in f (star_r7 x)
theorem star_r8 {R : List Asn} {h : PH} (x : star (A :: B :: C :: D :: E :: F :: G :: J :: R) h) : star (J :: A :: B :: C :: D :: E :: F :: G :: R) h := star_r2 (star_in (fun _ y => star_r7 y) x)
theorem Pm.at8 (f : Pm (B :: C :: D :: E :: F :: G :: J :: L) L') : Pm (B :: C :: D :: E :: F :: G :: J :: A :: L) (A :: L') := fun _ x => star_in f (star_r8 x)
theorem Pm.skip (f : Pm L L') : Pm (A :: L) L' := fun h x => by
  obtain ⟨h1, h2, _, b, d, e⟩ := x
  exact f h (star_ext b d e)
end
theorem Own.pm {ε w : World} {L L' : List Asn} (H : Own ε w L) (f : Pm L L') : Own ε w L' := H.map f
/-- What is owned in one world is owned in the other. -/
def Kp (w w' : World) : Prop := ∀ ε L, Own ε w L → Own ε w' L
theorem Kp.same {w w' : World} (h : w = w') : Kp w w' := fun _ _ H => h ▸ H
theorem Kp.drew {w w' : World} (h : ∃ n, w' = w.drewN n) : Kp w w' := fun _ _ H => by
  obtain ⟨n, rfl⟩ := h
  exact H.drewN n
theorem Kp.below {w w' : World} (h : Below w.heap.size w w') : Kp w w' := fun _ _ H => H.below h
theorem Below.of_drewN (w : World) (n : Nat) : Below w.heap.size w (w.drewN n) := ⟨rfl, rfl, rfl, Nat.le_refl _, fun _ _ => rfl⟩
theorem Below.of_drewN_alloc (w : World) (n : Nat) (o : Obj) : Below w.heap.size w ((w.alloc o).drewN n) := ⟨rfl, rfl, rfl, by show _ ≤ (w.heap.push o).size; simp, fun k hk => by show (w.heap.push o)[k]? = _; rw [Array.getElem?_push, if_neg (by omega)]⟩
end Go.Proofs.Ytlhncdbigjgmnaa
