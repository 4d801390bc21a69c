/- seqs: what a search finds, and what a put does with it, in plain Lean. -/
import Derived.Test.YtlhncdbigjgmnaaSeqD
namespace Go.Proofs.Ytlhncdbigjgmnaa
structure Found (l : List Rg) (n : Int) (i : Nat) : Prop where
  le : i ≤ l.length
  lo : ∀ r ∈ l.take i, r.2 < n
  hi : ∀ r ∈ l.drop i, n ≤ r.2
theorem apart_rise {l : List Rg} (hl : apart l) {h : Nat} {y : Rg} (hy : l[h]? = some y) : (∀ r ∈ l.take (h + 1), r.2 ≤ y.2) ∧ ∀ r ∈ l.drop h, y.2 ≤ r.2 := by
  obtain ⟨hh, rfl⟩ := List.getElem?_eq_some_iff.1 hy
  obtain ⟨h1, h2⟩ := hl
  constructor
  · intro r hr
    obtain ⟨j, hj, rfl⟩ := List.getElem_of_mem hr
    rw [List.getElem_take]
    rw [List.length_take] at hj
    rcases Nat.lt_or_ge j h with q | q
    · have a := List.pairwise_iff_getElem.1 h2 j h (by omega) hh q
      have b := h1 _ (List.getElem_mem hh)
      omega
    · have e : j = h := by omega
      subst e
      exact Int.le_refl _
  · intro r hr
    obtain ⟨j, hj, rfl⟩ := List.getElem_of_mem hr
    rw [List.getElem_drop]
    rw [List.length_drop] at hj
    rcases Nat.eq_zero_or_pos j with q | q
    · subst q
      exact Int.le_refl _
    · have a := List.pairwise_iff_getElem.1 h2 h (h + j) hh (by omega) (by omega)
      have b := h1 _ (List.getElem_mem (show h + j < l.length by omega))
      omega
theorem Found.left {l : List Rg} (hl : apart l) {n : Int} {h : Nat} {y : Rg} (hy : l[h]? = some y) (hn : y.2 < n) : ∀ r ∈ l.take (h + 1), r.2 < n := fun r hr => by
  have := (apart_rise hl hy).1 r hr
  omega
theorem Found.right {l : List Rg} (hl : apart l) {n : Int} {h : Nat} {y : Rg} (hy : l[h]? = some y) (hn : ¬ y.2 < n) : ∀ r ∈ l.drop h, n ≤ r.2 := fun r hr => by
  have := (apart_rise hl hy).2 r hr
  omega
theorem putL_take {x : Rg} : ∀ (l : List Rg) (k : Nat), (∀ r ∈ l.take k, r.2 + 1 < x.1) → putL x l = l.take k ++ putL x (l.drop k)
  | l, 0, _ => by simp
  | [], k + 1, _ => by simp
  | y :: l, k + 1, h => by
    have h0 := h y (by rw [List.take_succ_cons]; exact List.mem_cons_self ..)
    rw [List.take_succ_cons, List.drop_succ_cons, List.cons_append, ← putL_take l k (fun r hr => h r (by rw [List.take_succ_cons]; exact List.mem_cons_of_mem _ hr))]
    conv => lhs; unfold putL
    rw [if_pos h0]
theorem putL_merge {z y : Rg} {l : List Rg} (h1 : ¬ y.2 + 1 < z.1) (h2 : ¬ z.2 + 1 < y.1) : putL z (y :: l) = putL (min z.1 y.1, max z.2 y.2) l := by
  conv => lhs; unfold putL
  rw [if_neg h1, if_neg h2]
theorem putL_stop {z y : Rg} {l : List Rg} (h1 : ¬ y.2 + 1 < z.1) (h2 : z.2 + 1 < y.1) : putL z (y :: l) = z :: y :: l := by
  conv => lhs; unfold putL
  rw [if_neg h1, if_pos h2]
theorem putL_end (z : Rg) : putL z [] = [z] := rfl
/-- Where a put begins: at the range ahead of the found one, if that one touches. -/
theorem from_touch {l : List Rg} (hl : apart l) {x : Rg} {i : Nat} {y : Rg} (hy : l[i]? = some y) (ht : y.2 + 1 = x.1) :
    putL x l = l.take i ++ putL x (l.drop i) ∧ ∀ r ∈ l.drop i, ¬ r.2 + 1 < x.1 := by
  refine ⟨putL_take l i (fun r hr => ?_), fun r hr => ?_⟩
  · obtain ⟨hh, rfl⟩ := List.getElem?_eq_some_iff.1 hy
    obtain ⟨j, hj, rfl⟩ := List.getElem_of_mem hr
    rw [List.getElem_take]
    rw [List.length_take] at hj
    have a := List.pairwise_iff_getElem.1 hl.2 j i (by omega) hh (by omega)
    have b := hl.1 _ (List.getElem_mem hh)
    omega
  · have := (apart_rise hl hy).2 r hr
    omega
theorem from_here {l : List Rg} (hl : apart l) {x : Rg} {i : Nat} (hf : Found l x.1 i) (ht : ∀ j y, i = j + 1 → l[j]? = some y → y.2 + 1 ≠ x.1) :
    putL x l = l.take i ++ putL x (l.drop i) ∧ ∀ r ∈ l.drop i, ¬ r.2 + 1 < x.1 := by
  have hle := hf.le
  refine ⟨putL_take l i (fun r hr => ?_), fun r hr => ?_⟩
  · have h0 := hf.lo r hr
    obtain ⟨j, hj, rfl⟩ := List.getElem_of_mem hr
    rw [List.getElem_take] at h0 ⊢
    rw [List.length_take] at hj
    rcases Nat.lt_or_ge (j + 1) i with q | q
    · have a := List.pairwise_iff_getElem.1 hl.2 j (j + 1) (by omega) (by omega) (by omega)
      have b := hf.lo (l[j + 1]'(by omega)) (List.mem_iff_getElem.2 ⟨j + 1, by rw [List.length_take]; omega, by rw [List.getElem_take]⟩)
      have c := hl.1 _ (List.getElem_mem (show j + 1 < l.length by omega))
      omega
    · have := ht j _ (by omega) (List.getElem?_eq_getElem (show j < l.length by omega))
      omega
  · have := hf.hi r hr
    omega
end Go.Proofs.Ytlhncdbigjgmnaa
