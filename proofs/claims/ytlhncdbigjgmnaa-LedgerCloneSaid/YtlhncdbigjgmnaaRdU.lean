/- Rows of uint64 numbers: as they stand, and owned. -/
import Derived.Test.YtlhncdbigjgmnaaSpec
import Derived.Test.YtlhncdbigjgmnaaSlc
import Derived.Test.YtlhncdbigjgmnaaRow
namespace Go.Proofs.Ytlhncdbigjgmnaa
open Go.RowKit
theorem ite_max (a b : Int) : (if a < b then b else a) = max a b := by split <;> omega
/-- The numbers of a slice, as they stand. -/
theorem rdInts_U {w : World} {A : Option Addr} {len cap : Nat} {xs : List Int} (h : rdSlice (rdInt .u64) 1 w [.slice A len cap] xs) : ∀ x ∈ xs, U x := by
  intro x hx
  obtain ⟨A', len', cap', e, hl, hc, hm, h⟩ := h
  obtain ⟨i, hi, rfl⟩ := List.getElem_of_mem hx
  obtain ⟨b, off, _, c, _, _, _, h2⟩ := h i hi
  exact U_of_wf h2
theorem rdInts_cell {w : World} {A : Option Addr} {len cap : Nat} {xs : List Int} (h : rdSlice (rdInt .u64) 1 w [.slice A len cap] xs) :
    xs.length = len ∧ len ≤ 9223372036854775807 ∧ (len ≤ 0 ∨ ∃ b off, A = some ⟨b, off, none⟩ ∧ ∀ i, ∀ h : i < xs.length, w.cell? ⟨b, off + i, none⟩ = some (.int .u64 xs[i]) ∧ U xs[i]) := by
  have hU := rdInts_U h
  obtain ⟨h1, h2, h3⟩ := rdSlice_cases h
  refine ⟨h1, h2, h3.imp id fun ⟨b, off, e, hx⟩ => ⟨b, off, e, fun i hi => ?_⟩⟩
  obtain ⟨c, _, hcell, hR⟩ := hx i hi
  obtain ⟨rfl, _⟩ := hR
  exact ⟨by simpa using hcell 0 _ rfl, hU _ (List.getElem_mem hi)⟩
theorem rdInts_mk {w : World} {b off len cap : Nat} {xs : List Int} (hl : xs.length = len) (hlc : len ≤ cap) (hcap : cap ≤ maxLen) (hU : ∀ x ∈ xs, (Lit.int .u64 x).wf = true)
    (h : ∀ i, ∀ h : i < xs.length, w.cell? ⟨b, off + i, none⟩ = some (.int .u64 xs[i])) : rdSlice (rdInt .u64) 1 w [.slice (some ⟨b, off, none⟩) len cap] xs :=
  ⟨_, _, _, rfl, hl, hlc, hcap, fun i hi => ⟨b, off, rfl, [.int .u64 xs[i]], rfl, fun j u hj => by
    cases j with
    | zero => simp at hj; subst hj; simpa using h i hi
    | succ j => simp at hj, rfl, hU _ (List.getElem_mem hi)⟩⟩
theorem wf_of_U {x : Int} (h : U x) : (Lit.int .u64 x).wf = true := by
  obtain ⟨h1, h2⟩ := h
  simp only [Lit.wf, IntKind.min, IntKind.max, IntKind.signed, IntKind.bits]
  simp
  omega
theorem rdInts_pts {ε w : World} {g : Nat} {T : TypeId} {xs : List Int} {cur : Array Value} {R : List Asn} (H : Own ε w (pts g (.cells cur T (0, 0)) :: R)) (hc : cur = (xs.map (Value.int .u64)).toArray) (n : Nat) (hn : xs.length = n) (hm : n ≤ maxLen) (hU : ∀ x ∈ xs, U x) :
    rdSlice (rdInt .u64) 1 w [.slice (some ⟨g, 0, none⟩) n n] xs := rdInts_mk hn (Nat.le_refl _) hm (fun x hx => wf_of_U (hU x hx)) (fun i hi => by
      subst hc
      rw [H.cells.1, Nat.zero_add]
      simp [hi])
theorem rdSlice_drew {α : Type} {R : Rd α} (hR : RdMono R) {sz : Nat} {w : World} {cs : List Value} {xs : List α} (h : rdSlice R sz w cs xs) : rdSlice R sz w.drew cs xs := mono_slice hR sz w w.drew cs xs (fun _ _ h => h) h
def nums (l : List Int) : List Value := l.map (Value.int .u64)
theorem nums_one (l : List Int) : ∀ u ∈ nums l, u.oneCell' = true := by
  intro u h
  obtain ⟨x, _, rfl⟩ := List.mem_map.1 h
  rfl
/-- A row of numbers that is owned. -/
def own64 (v : Value) (l : List Int) : Asn := slc 29 1 v (nums l)
theorem Own.nums_rd {ε w : World} {v : Value} {l : List Int} {R : List Asn} (H : Own ε w (own64 v l :: R)) (hU : ∀ x ∈ l, U x) : ∃ A n cap, v = .slice A n cap ∧ rdSlice (rdInt .u64) 1 w [.slice A n cap] l := by
  rcases H.slc_val with ⟨rfl, h⟩ | ⟨g, n, cap, rfl, h1, h2, h3, h4, _⟩
  · have hl : l = [] := by simpa [nums] using h
    subst hl
    exact ⟨none, 0, 0, rfl, none, 0, 0, rfl, rfl, Nat.le_refl _, Nat.zero_le _, fun i hi => by simp at hi⟩
  · have hl : l.length = n := by simpa [nums] using h3
    refine ⟨_, n, cap, rfl, rdInts_mk hl h1 h2 (fun x hx => wf_of_U (hU x hx)) (fun i hi => ?_)⟩
    rw [Nat.zero_add]
    exact h4 i _ (by simp [nums, hi])
theorem srcAt_rd {w : World} {A : Option Addr} {n cap : Nat} {l : List Int} (h : rdSlice (rdInt .u64) 1 w [.slice A n cap] l) : srcAt w A n 1 (nums l) := by
  obtain ⟨h1, _, h3⟩ := rdInts_cell h
  refine ⟨by simp [nums, h1], h3.imp (by omega) fun ⟨b, off, e, hx⟩ => ⟨b, off, e, fun j u hj => ?_⟩⟩
  have hjl : j < l.length := by
    rcases Nat.lt_or_ge j l.length with q | q
    · exact q
    · rw [List.getElem?_eq_none (by simpa [nums] using q)] at hj; cases hj
  rw [(hx j hjl).1, ← hj]
  simp [nums, hjl]
end Go.Proofs.Ytlhncdbigjgmnaa
