/- Rings of items of several cells, in plain words. -/
import Derived.Test.YtlhncdbigjgmnaaRing
import Derived.Test.YtlhncdbigjgmnaaMix2
import Derived.Test.YtlhncdbigjgmnaaSet
namespace Go.Proofs.Ytlhncdbigjgmnaa
open Go.RowKit
section
variable {ε w : World} {R : List Asn} {T : TypeId} {sz g n cap : Nat} {xs : List Value}
theorem Own.slc_setsW (H : Own ε w (slc T sz (.slice (some ⟨g, 0, none⟩) n cap) xs :: R)) (o : Nat) (vs : List Value) :
    Own ε (setsW w g o vs) (slc T sz (.slice (some ⟨g, 0, none⟩) n cap) (setsL xs o vs) :: R) := by
  induction vs generalizing w xs o with
  | nil => exact H
  | cons v vs ih => exact ih (H.slc_set o v) (o + 1)
theorem RingOk.item {sz P f : Nat} {pl items : List (List Value)} (h : RingOk sz P f pl items) {k : Nat} (hk : k < items.length) : items[k].length = sz ∧ ∀ u ∈ items[k], u.oneCell' = true := by
  have h1 := h.hold k hk
  have h2 := List.mem_of_getElem? h1
  exact ⟨h.wide _ h2, h.one _ h2⟩
/-- A place: its cells are there, and can be written. -/
theorem placeAt {P f : Nat} {pl items : List (List Value)} (h : RingOk sz P f pl items) (H : Own ε w (slc T sz (.slice (some ⟨g, 0, none⟩) P cap) pl.flatten :: R)) (p : Nat) (hp : p < P) :
    (∃ c, pl[p]? = some c ∧ c.length = sz ∧ (∀ u ∈ c, u.oneCell' = true) ∧ ∀ j, j < sz → w.cell? ⟨g, p * sz + j, none⟩ = c[j]?) ∧ (∀ i, w.frozen? ⟨g, i, none⟩ = false) ∧
    ∀ vs, vs.length = sz → Own ε (setsW w g (p * sz) vs) (slc T sz (.slice (some ⟨g, 0, none⟩) P cap) (pl.set p vs).flatten :: R) := by
  rcases H.slc_val with ⟨e, _⟩ | ⟨_, _, _, e, _, _, hl, hv, hf⟩
  · cases e
  cases e
  have hpl : p < pl.length := by rw [h.len]; exact hp
  have hc : pl[p]? = some pl[p] := List.getElem?_eq_getElem hpl
  have hlen := h.wide pl[p] (List.getElem_mem hpl)
  refine ⟨⟨pl[p], hc, hlen, h.one _ (List.getElem_mem hpl), fun j hj => ?_⟩, hf, fun vs hvs => ?_⟩
  · have h1 := flat_at (sz := sz) pl h.wide p j _ hc hj
    have h2 : pl[p][j]? = some (pl[p][j]'(by omega)) := List.getElem?_eq_getElem _
    rw [h2] at h1 ⊢
    exact hv _ _ h1
  · have hfl := flat_len pl h.wide
    have hle : p * sz + vs.length ≤ pl.flatten.length := by
      rw [hfl, hvs, ← Nat.succ_mul]
      exact Nat.mul_le_mul_right sz hpl
    rw [flat_set pl h.wide p hpl vs hvs, ← setsL_eq _ _ _ hle]
    exact H.slc_setsW (p * sz) vs
end
/-- Two results, the first one in a block of its own. -/
theorem bodyPost_cell {P : Program} {fn : Func} {K : Ending → World → Prop} {a : Act} {w ε : World} {R : List Asn} {p u : Tmp} {ty : TypeId} {g : Nat} {cs : Array Value} {T : TypeId} {d : TypeDesc} {v : Value} (h : fn.results = #[.cell p ty, .tmp u]) (hp : a.tmps.getD p undef = .pointer (some ⟨g, 0, none⟩)) (hu : a.tmps.getD u undef = v)
    (hd : a.defers = []) (hty : P.underlying ty = some d) (hagg : (match d with | .struct _ | .array _ _ => true | _ => false) = true) (hi : (P.info? ty).map (·.size) = some cs.size) (H : Own ε w (pts g (.cells cs T (0, 0)) :: R)) (hR : K (.returned (.tuple #[.agg cs, v])) w) : bodyPost P fn K .ret a w := by
  refine bodyPost_ret (v := .tuple #[.agg cs, v]) ?_ hd hR
  rw [results_cell_tmp h, hp, hu]
  simp [asAddr, run_loadVar_row (P := P) w g T ty cs (0, 0) d H.blk hty hagg hi]
/-- The item at a place, or none (z). -/
def atC (z : List Value) (l : List (List Value)) (i : Int) : List Value × Bool := if 0 ≤ i ∧ i < l.length then (l.getD i.toNat z, true) else (z, false)
theorem atC_in {z : List Value} {l : List (List Value)} {k : Nat} (hk : k < l.length) : atC z l k = (l[k], true) := by
  rw [atC, if_pos (by omega)]; simp [hk]
theorem atC_out {z : List Value} {l : List (List Value)} {i : Int} (h : i < 0 ∨ (l.length : Int) ≤ i) : atC z l i = (z, false) := if_neg (by omega)
theorem len_two {c : List Value} (h : c.length = 2) : ∃ a0 a1, c = [a0, a1] := by
  match c, h with
  | [a, b], _ => exact ⟨a, b, rfl⟩
theorem len_seven {c : List Value} (h : c.length = 7) : ∃ a0 a1 a2 a3 a4 a5 a6, c = [a0, a1, a2, a3, a4, a5, a6] := by
  match c, h with
  | [a, b, c, d, e, f, g], _ => exact ⟨a, b, c, d, e, f, g, rfl⟩
theorem len_eight {c : List Value} (h : c.length = 8) : ∃ a0 a1 a2 a3 a4 a5 a6 a7, c = [a0, a1, a2, a3, a4, a5, a6, a7] := by
  match c, h with
  | [a, b, c, d, e, f, g, k], _ => exact ⟨a, b, c, d, e, f, g, k, rfl⟩
end Go.Proofs.Ytlhncdbigjgmnaa
