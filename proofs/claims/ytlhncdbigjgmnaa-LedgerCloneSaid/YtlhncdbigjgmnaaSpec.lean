/- Plain functions on whole numbers: what fix, and its reference, compute. -/
import Derived.IntWalk
namespace Go.Proofs.Ytlhncdbigjgmnaa
/-- A sum that does not run over. -/
def sadd (a b : Int) : Int := if 18446744073709551615 < a + b then 18446744073709551615 else a + b
def ssub (a b : Int) : Int := if a < b then 0 else a - b
def smul (a b : Int) : Int := if 18446744073709551615 < a * b then 18446744073709551615 else a * b
/-- In the range of a uint64. -/
def U (a : Int) : Prop := 0 ≤ a ∧ a ≤ 18446744073709551615
instance (a : Int) : Decidable (U a) := inferInstanceAs (Decidable (_ ∧ _))
def ssum (l : List Int) : Int := l.foldl sadd 0
def sless (a : Int) (l : List Int) : Int := l.foldl ssub a
theorem U_of_wf {x : Int} (h : (Lit.int .u64 x).wf = true) : U x := by
  simp [Lit.wf, IntKind.min, IntKind.max, IntKind.signed, IntKind.bits] at h
  unfold U; omega
theorem U_sadd {a b : Int} (ha : U a) (hb : U b) : U (sadd a b) := by unfold U sadd at *; split <;> omega
theorem U_ssub {a b : Int} (ha : U a) (hb : U b) : U (ssub a b) := by unfold U ssub at *; split <;> omega
theorem U_smul {a b : Int} (ha : U a) (hb : U b) : U (smul a b) := by
  have := Int.mul_nonneg ha.1 hb.1
  unfold U smul at *; split <;> omega
theorem U_zero : U 0 := by unfold U; omega
theorem U_foldl {l : List Int} : ∀ {a : Int}, U a → (∀ x ∈ l, U x) → U (l.foldl sadd a) := by
  induction l with
  | nil => intro a ha _; exact ha
  | cons x l ih => intro a ha h; exact ih (U_sadd ha (h x (by simp))) (fun y hy => h y (by simp [hy]))
theorem U_ssum {l : List Int} (h : ∀ x ∈ l, U x) : U (ssum l) := U_foldl U_zero h
theorem sadd_zero {a : Int} (h : U a) : sadd 0 a = a := by unfold U sadd at *; split <;> omega
theorem ssum_two {a b : Int} (ha : U a) : ssum [a, b] = sadd a b := by simp [ssum, sadd_zero ha]
theorem ssum_three {a b c : Int} (ha : U a) : ssum [a, b, c] = sadd (sadd a b) c := by simp [ssum, sadd_zero ha]
theorem ssum_snoc (l : List Int) (x : Int) : ssum (l ++ [x]) = sadd (ssum l) x := by simp [ssum]
theorem take_snoc_getD (l : List Int) (k : Nat) (h : k < l.length) : l.take (k + 1) = l.take k ++ [l.getD k 0] := by
  rw [List.take_succ_eq_append_getElem h]; simp [List.getD, h]
theorem foldl_most {l : List Int} (h : ∀ x ∈ l, U x) : l.foldl sadd 18446744073709551615 = 18446744073709551615 := by
  induction l with
  | nil => rfl
  | cons x l ih =>
    have hx := h x (by simp)
    have e : sadd 18446744073709551615 x = 18446744073709551615 := by unfold U at hx; unfold sadd; split <;> omega
    rw [List.foldl_cons, e]
    exact ih (fun y hy => h y (by simp [hy]))
theorem ssum_great {l : List Int} (h : ∀ x ∈ l, U x) {k : Nat} (hk : k < l.length) (hs : 18446744073709551615 < ssum (l.take k) + l.getD k 0) : ssum l = 18446744073709551615 := by
  have e : l = l.take k ++ l.getD k 0 :: l.drop (k + 1) := by
    rw [List.getD, List.getElem?_eq_getElem hk, Option.getD_some, ← List.drop_eq_getElem_cons hk, List.take_append_drop]
  have e2 : ssum l = (l.drop (k + 1)).foldl sadd (sadd (ssum (l.take k)) (l.getD k 0)) := by
    conv => lhs; rw [e]
    unfold ssum
    rw [List.foldl_append, List.foldl_cons]
  rw [e2, show sadd (ssum (l.take k)) (l.getD k 0) = 18446744073709551615 from by unfold sadd; rw [if_pos hs]]
  exact foldl_most (fun x hx => h x (List.mem_of_mem_drop hx))
end Go.Proofs.Ytlhncdbigjgmnaa
