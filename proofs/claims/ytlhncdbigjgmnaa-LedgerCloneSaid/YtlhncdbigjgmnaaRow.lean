/- How a law's arguments are read into plain data, and the step from a law's walk to its row. -/
import Derived.Test.YtlhncdbigjgmnaaRows
import Derived.Test.YtlhncdbigjgmnaaBase
import Derived.Test.YtlhncdbigjgmnaaSpec
import Derived.ProofKit
import Derived.OpenShut
import Derived.ShutString
import Derived.ChangeOld
import Derived.Deep.Slices
namespace Go.Proofs.Ytlhncdbigjgmnaa
open Go.ChangeShapes Go.WideShapes Go.ChangeAt Go.RowKit

/-- What cells say in a world. -/
abbrev Rd (α : Type) := World → List Value → α → Prop
def rdInt (k : IntKind) : Rd Int := fun _ cs x => cs = [.int k x] ∧ (Lit.int k x).wf = true
def rdBool : Rd Bool := fun _ cs x => cs = [.bool x]
def rdStr : Rd ByteArray := fun _ cs x => cs = [.string x] ∧ x.size ≤ maxLen
def rdUnit : Rd Unit := fun _ cs _ => cs = []
def rdPair {α β : Type} (R : Rd α) (S : Rd β) : Rd (α × β) := fun w cs p => ∃ c1 c2, cs = c1 ++ c2 ∧ R w c1 p.1 ∧ S w c2 p.2
def rdSlice {α : Type} (R : Rd α) (sz : Nat) : Rd (List α) := fun w cs xs => ∃ A len cap, cs = [.slice A len cap] ∧ xs.length = len ∧ len ≤ cap ∧ cap ≤ maxLen ∧
  ∀ i, ∀ h : i < xs.length, ∃ b off, A = some ⟨b, off, none⟩ ∧ ∃ c, c.length = sz ∧ (∀ j u, c[j]? = some u → w.cell? ⟨b, off + i * sz + j, none⟩ = some u) ∧ R w c xs[i]
/-- What is read stays so where every cell that was there does. -/
def RdMono {α : Type} (R : Rd α) : Prop := ∀ w w' cs x, (∀ a v, w.cell? a = some v → w'.cell? a = some v) → R w cs x → R w' cs x
theorem mono_int (k : IntKind) : RdMono (rdInt k) := fun _ _ _ _ _ h => h
theorem mono_bool : RdMono rdBool := fun _ _ _ _ _ h => h
theorem mono_str : RdMono rdStr := fun _ _ _ _ _ h => h
theorem mono_unit : RdMono rdUnit := fun _ _ _ _ _ h => h
theorem mono_pair {α β : Type} {R : Rd α} {S : Rd β} (hR : RdMono R) (hS : RdMono S) : RdMono (rdPair R S) := fun w w' _ _ hw ⟨c1, c2, e, h1, h2⟩ => ⟨c1, c2, e, hR w w' _ _ hw h1, hS w w' _ _ hw h2⟩
theorem mono_slice {α : Type} {R : Rd α} (hR : RdMono R) (sz : Nat) : RdMono (rdSlice R sz) := fun w w' _ _ hw ⟨A, len, cap, e, h1, h2, h3, h4⟩ =>
  ⟨A, len, cap, e, h1, h2, h3, fun i hi => let ⟨b, off, ea, c, hc, hcell, hr⟩ := h4 i hi; ⟨b, off, ea, c, hc, fun j u hj => hw _ _ (hcell j u hj), hR w w' _ _ hw hr⟩⟩

section
variable {H : Type} (enc : TypeId × Value → H) (P : Program) (w : World)
def Opens {α : Type} (t : TypeId) (R : Rd α) : Prop := ∀ spare n cs d, DataW.trod enc P w 0 spare true n t cs = some d → ∃ x, R w cs x
def OpensF {α : Type} (total : Nat) (fs : List Field) (o : Nat) (R : Rd α) : Prop :=
  ∀ (spare : Nat → Bool) (n : Nat) (cs : List Value), cs.length = total → (∀ f ∈ fs, ∃ y, DataW.trod enc P w 0 spare true n f.type ((cs.drop f.offset).take (P.cellsOf f.type)) = some y) → ∃ x, R w (cs.drop o) x
variable {enc P w}
theorem opens_int {t : TypeId} {k : IntKind} (ht : P.underlying t = some (.int k)) : Opens enc P w t (rdInt k) := fun _ _ _ _ h =>
  let ⟨n, e, _, hw⟩ := DataW.trod_int ht h; ⟨n, e, hw⟩
theorem opens_bool {t : TypeId} (ht : P.underlying t = some .bool) : Opens enc P w t rdBool := fun _ _ _ _ h =>
  let ⟨b, e, _⟩ := DataW.trod_bool ht h; ⟨b, e⟩
theorem opens_str {t : TypeId} (ht : P.underlying t = some .string) : Opens enc P w t rdStr := fun _ _ _ _ h =>
  let ⟨s, e, _, hs⟩ := DataW.trod_string ht h; ⟨s, e, hs⟩
theorem opensF_nil {total : Nat} : OpensF enc P w total [] total rdUnit := fun _ _ cs hl _ => ⟨(), by rw [List.drop_of_length_le (by omega)]; rfl⟩
theorem opensF_cons {α β : Type} {R : Rd α} {S : Rd β} {total o : Nat} {f : Field} {fs : List Field} (n : Nat) (hn : P.cellsOf f.type = n) (ho : f.offset = o) (h : Opens enc P w f.type R) (hs : OpensF enc P w total fs (o + n) S) :
    OpensF enc P w total (f :: fs) o (rdPair R S) := fun spare m cs hl hall => by
  obtain ⟨y, hy⟩ := hall f (by simp)
  obtain ⟨x, hx⟩ := h _ _ _ _ hy
  obtain ⟨z, hz⟩ := hs spare m cs hl (fun g hg => hall g (by simp [hg]))
  refine ⟨(x, z), _, _, ?_, hx, hz⟩
  rw [ho, hn, ← List.drop_drop, List.take_append_drop]
theorem opens_struct {α : Type} {R : Rd α} {t : TypeId} {fs : Array Field} (total : Nat) (ht : P.underlying t = some (.struct fs)) (hl : P.cellsOf t = total) (h : OpensF enc P w total fs.toList 0 R) : Opens enc P w t R := fun spare n cs d hd => by
  obtain ⟨xs, m, _, _, hlen, hx, hf⟩ := DataW.trod_struct ht hd
  have := h spare m cs (by rw [hlen, hl]) (fun f hf' => by
    obtain ⟨i, hi, rfl⟩ := List.getElem_of_mem hf'
    have hi' : i < fs.size := by simpa using hi
    have := hf i fs[i] (Array.getElem?_eq_getElem hi')
    rw [List.getElem?_eq_getElem (by omega)] at this
    exact ⟨_, by simpa using this⟩)
  simpa using this
def OpensA {α : Type} (e : TypeId) (sz total i n : Nat) (R : Rd α) : Prop :=
  ∀ (spare : Nat → Bool) (m : Nat) (cs : List Value), cs.length = total → (∀ j, j < n → ∃ y, DataW.trod enc P w 0 spare true m e ((cs.drop (j * sz)).take sz) = some y) → ∃ x, R w (cs.drop (i * sz)) x
theorem opensA_nil {e : TypeId} {sz total n : Nat} (h : total ≤ n * sz) : OpensA (enc := enc) (P := P) (w := w) e sz total n n rdUnit := fun _ _ cs hl _ => ⟨(), by rw [List.drop_of_length_le (by omega)]; rfl⟩
theorem opensA_cons {α β : Type} {R : Rd α} {S : Rd β} {e : TypeId} {sz total i n : Nat} (hi : i < n) (h : Opens enc P w e R) (hs : OpensA (enc := enc) (P := P) (w := w) e sz total (i + 1) n S) :
    OpensA (enc := enc) (P := P) (w := w) e sz total i n (rdPair R S) := fun spare m cs hl hall => by
  obtain ⟨y, hy⟩ := hall i hi
  obtain ⟨x, hx⟩ := h _ _ _ _ hy
  obtain ⟨z, hz⟩ := hs spare m cs hl hall
  refine ⟨(x, z), _, _, ?_, hx, hz⟩
  rw [Nat.add_mul, Nat.one_mul, ← List.drop_drop, List.take_append_drop]
theorem opens_array {α : Type} {R : Rd α} {t e : TypeId} (n sz : Nat) (ht : P.underlying t = some (.array n e)) (hl : P.cellsOf t = n * sz) (hsz : P.cellsOf e = sz) (h : OpensA (enc := enc) (P := P) (w := w) e sz (n * sz) 0 n R) : Opens enc P w t R := fun spare k cs d hd => by
  obtain ⟨xs, m, _, _, hlen, hx, hf⟩ := DataW.trod_array ht hd
  have := h spare m cs (by rw [hlen, hl]) (fun j hj => by
    have := hf j hj
    rw [hsz, List.getElem?_eq_getElem (by omega)] at this
    exact ⟨_, this⟩)
  simpa using this
theorem list_of_lt {α : Type} {p : Nat → α → Prop} {n : Nat} (h : ∀ i, i < n → ∃ x, p i x) : ∃ xs : List α, xs.length = n ∧ ∀ i (h : i < xs.length), p i xs[i] := by
  induction n with
  | zero => exact ⟨[], rfl, fun i h => absurd h (Nat.not_lt_zero _)⟩
  | succ n ih =>
    obtain ⟨xs, hl, hxs⟩ := ih (fun i hi => h i (by omega))
    obtain ⟨x, hx⟩ := h n (by omega)
    refine ⟨xs ++ [x], by simp [hl], fun i hi => ?_⟩
    rcases Nat.lt_or_ge i n with q | q
    · rw [List.getElem_append_left (by omega)]; exact hxs i (by omega)
    · have hi' : i = n := by simp [hl] at hi; omega
      subst hi'
      rw [List.getElem_append_right (by omega)]
      simpa [hl] using hx
theorem opens_slice {α : Type} {R : Rd α} {t e : TypeId} (sz : Nat) (hpos : 0 < sz) (ht : P.underlying t = some (.slice e)) (hsz : P.cellsOf e = sz) (he : Opens enc P w e R) : Opens enc P w t (rdSlice R sz) := fun spare n cs d hd => by
  rcases Deep.open_slice ht hd with ⟨rfl, _⟩ | ⟨a, len, cap, m, n', D, Pl, rfl, _, hlc, hcap, hm, _, hx⟩
  · exact ⟨[], none, 0, 0, rfl, rfl, Nat.le_refl _, Nat.zero_le _, fun i hi => absurd hi (Nat.not_lt_zero _)⟩
  · have hml : len ≤ m := by rw [hm]; split <;> omega
    have key : ∀ i, i < len → ∃ x : α, ∃ c, w.cells? 0 (a.add (i * sz)) sz = some c ∧ R w c x := fun i hi => by
      obtain ⟨cs', h1, h2⟩ := hx i (by omega)
      rw [hsz] at h1
      obtain ⟨x, hx'⟩ := he _ _ _ _ h2
      exact ⟨x, cs', h1, hx'⟩
    have key2 := list_of_lt (p := fun i x => ∃ c, w.cells? 0 (a.add (i * sz)) sz = some c ∧ R w c x) key
    obtain ⟨xs, hl, hxs⟩ := key2
    refine ⟨xs, some a, len, cap, rfl, hl, hlc, hcap, fun i hi => ?_⟩
    have hz := hxs 0 (by omega)
    obtain ⟨c, h1, h2⟩ := hxs i hi
    obtain ⟨_, hlen, hcell⟩ := World.cells?_some h1
    have hadd : ∀ j, (a.add (i * sz)).add j = a.add (i * sz + j) := fun j => Deep.add_add a _ _
    obtain ⟨ab, ao, sp⟩ := a
    have hspot : sp = none := by
      obtain ⟨c', h1', _⟩ := hz
      obtain ⟨_, hlen', hcell'⟩ := World.cells?_some h1'
      have h0 := hcell' 0 (by omega)
      have hc0 : c'[0]? = some c'[0] := List.getElem?_eq_getElem (by omega)
      rw [hc0] at h0
      have := World.cell?_spot h0
      simpa [Addr.add] using this
    subst hspot
    refine ⟨ab, ao, rfl, c, hlen, fun j u hj => ?_, h2⟩
    have hj' : j < sz := by
      rcases Nat.lt_or_ge j sz with q | q
      · exact q
      · rw [List.getElem?_eq_none (by omega)] at hj; cases hj
    have := hcell j hj'
    rw [hadd, hj] at this
    rw [← this]
    congr 1
    unfold Addr.add
    split <;> simp_all [Nat.add_assoc]
end
theorem okWide_arr {P : Program} {w : World} {r : Reach} {base : Nat} {t : TypeId} {v : Value} {n : Nat} {e : TypeId} (ht : P.underlying t = some (.array n e)) (h : Value.okWide P w r base t v) : ∃ cs, v = .agg cs ∧ cs.size = P.cellsOf t := by
  simp only [Value.okWide, ht] at h
  obtain ⟨cs, h1, h2, _⟩ := h
  exact ⟨cs, h1, h2⟩
theorem arr_of_list {cs : Array Value} {l : List Value} (h : cs.toList = l) : cs = l.toArray := by subst h; simp
/-- A slice's cells, element by element: or it has none. -/
theorem rdSlice_cases {α : Type} {R : Rd α} {sz : Nat} {w : World} {A : Option Addr} {len cap : Nat} {xs : List α} (h : rdSlice R sz w [.slice A len cap] xs) :
    xs.length = len ∧ len ≤ 9223372036854775807 ∧ (len ≤ 0 ∨ ∃ b off, A = some ⟨b, off, none⟩ ∧ ∀ i, ∀ h : i < xs.length, ∃ c, c.length = sz ∧ (∀ j u, c[j]? = some u → w.cell? ⟨b, off + i * sz + j, none⟩ = some u) ∧ R w c xs[i]) := by
  obtain ⟨A', len', cap', e, hl, hc, hm, hx⟩ := h
  simp only [List.cons.injEq, Value.slice.injEq, and_true] at e
  obtain ⟨rfl, rfl, rfl⟩ := e
  refine ⟨hl, by unfold maxLen at hm; omega, ?_⟩
  rcases Nat.eq_zero_or_pos len with h0 | h0
  · exact .inl (by omega)
  · right
    obtain ⟨b, off, e, _⟩ := hx 0 (by omega)
    refine ⟨b, off, e, fun i hi => ?_⟩
    obtain ⟨b', off', e', r⟩ := hx i hi
    rw [e] at e'
    cases e'
    exact r
end Go.Proofs.Ytlhncdbigjgmnaa
