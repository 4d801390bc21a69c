/- Items of several cells, as they stand behind a slice. -/
import Derived.Test.YtlhncdbigjgmnaaEv
import Derived.Test.YtlhncdbigjgmnaaRow
import Derived.Test.YtlhncdbigjgmnaaRingC
namespace Go.Proofs.Ytlhncdbigjgmnaa
open Go.RowKit
/-- Items, as they stand in a world. -/
def itAt {α : Type} (enc : α → List Value) (sz : Nat) (w : World) (A : Option Addr) (n : Nat) (l : List α) : Prop := l.length = n ∧ ∀ i, ∀ h : i < l.length, ∃ g off, A = some ⟨g, off, none⟩ ∧ ∀ j u, (enc l[i])[j]? = some u → w.cell? ⟨g, off + i * sz + j, none⟩ = some u
def encs {α : Type} (enc : α → List Value) (l : List α) : List Value := (l.map enc).flatten
section
variable {α : Type} {enc : α → List Value} {sz : Nat}
theorem encs_snoc (l : List α) (x : α) : encs enc (l ++ [x]) = encs enc l ++ enc x := by simp [encs]
theorem encs_cons (l : List α) (x : α) : encs enc (x :: l) = enc x ++ encs enc l := by simp [encs]
theorem encs_nil : encs enc [] = [] := rfl
theorem encs_len (he : ∀ x, (enc x).length = sz) (l : List α) : (encs enc l).length = l.length * sz := by
  unfold encs
  rw [flat_len (sz := sz) _ (by intro c hc; obtain ⟨p, _, rfl⟩ := List.mem_map.1 hc; exact he p), List.length_map]
theorem encs_one (h1 : ∀ x, ∀ u ∈ enc x, u.oneCell' = true) (l : List α) : ∀ u ∈ encs enc l, u.oneCell' = true := by
  intro u hu
  obtain ⟨c, hc, hu⟩ := List.mem_flatten.1 hu
  obtain ⟨p, _, rfl⟩ := List.mem_map.1 hc
  exact h1 p u hu
theorem itAt.get {w : World} {A : Option Addr} {n : Nat} {l : List α} (h : itAt enc sz w A n l) {i : Nat} (hi : i < n) : ∃ g off x, A = some ⟨g, off, none⟩ ∧ l[i]? = some x ∧ ∀ j u, (enc x)[j]? = some u → w.cell? ⟨g, off + i * sz + j, none⟩ = some u := by
  obtain ⟨hl, h⟩ := h
  obtain ⟨g, off, e, hc⟩ := h i (by omega)
  exact ⟨g, off, l[i]'(by omega), e, List.getElem?_eq_getElem (by omega), hc⟩
theorem Own.slc_it {ε w : World} {R : List Asn} {T : TypeId} {v : Value} {l : List α} (he : ∀ x, (enc x).length = sz) (hz : 0 < sz) (H : Own ε w (slc T sz v (encs enc l) :: R)) : ∃ A n cap, v = .slice A n cap ∧ n ≤ cap ∧ cap ≤ maxLen ∧ itAt enc sz w A n l := by
  rcases H.slc_val with ⟨rfl, h⟩ | ⟨g, n, cap, rfl, h1, h2, h3, h4, _⟩
  · have hl : l = [] := by
      have := encs_len he l
      rw [h] at this
      simp only [List.length_nil] at this
      refine List.eq_nil_of_length_eq_zero ?_
      rcases Nat.eq_zero_or_pos l.length with q | q
      · exact q
      · have := Nat.mul_pos q hz; omega
    subst hl
    exact ⟨none, 0, 0, rfl, Nat.le_refl _, Nat.zero_le _, rfl, fun i hi => by simp at hi⟩
  · rw [encs_len he] at h3
    have hl : l.length = n := Nat.eq_of_mul_eq_mul_right hz h3
    refine ⟨_, n, cap, rfl, h1, h2, hl, fun i hi => ⟨g, 0, rfl, fun j u hu => ?_⟩⟩
    rw [Nat.zero_add]
    refine h4 _ _ ?_
    have hj : j < sz := by
      rcases Nat.lt_or_ge j sz with q | q
      · exact q
      · rw [List.getElem?_eq_none (by rw [he]; exact q)] at hu; cases hu
    unfold encs
    rw [flat_at (sz := sz) (l.map enc) (by intro c hc; obtain ⟨p, _, rfl⟩ := List.mem_map.1 hc; exact he p) i j (enc l[i]) (by simp [hi]) hj]
    exact hu
/-- What is read of a law's argument. -/
theorem itAt_rd {β : Type} {Rd' : Rd β} {w : World} {A : Option Addr} {len cap : Nat} {xs : List β} (f : β → α) (hf : ∀ c x, Rd' w c x → c = enc (f x)) (hr : rdSlice Rd' sz w [.slice A len cap] xs) : itAt enc sz w A len (xs.map f) ∧ len ≤ 9223372036854775807 := by
  obtain ⟨hl, hm, hx⟩ := rdSlice_cases hr
  refine ⟨⟨by simpa using hl, fun i hi => ?_⟩, hm⟩
  have hi' : i < xs.length := by simpa using hi
  rcases hx with hz | ⟨ab, off, rfl, hx⟩
  · omega
  · obtain ⟨c, _, hcell, hR⟩ := hx i hi'
    refine ⟨ab, off, rfl, fun j u hu => ?_⟩
    have e := hf _ _ hR
    have e2 : (xs.map f)[i] = f xs[i] := by simp
    rw [e2, ← e] at hu
    exact hcell j u hu
theorem itAt.old {ε w wx : World} {R : List Asn} {A : Option Addr} {n : Nat} {l : List α} (h : itAt enc sz w A n l) (H : Own ε wx (old w :: R)) : itAt enc sz wx A n l := ⟨h.1, fun i hi => by
  obtain ⟨g, off, e, hc⟩ := h.2 i hi
  exact ⟨g, off, e, fun j u hu => H.old_cell (hc j u hu)⟩⟩
end
end Go.Proofs.Ytlhncdbigjgmnaa
