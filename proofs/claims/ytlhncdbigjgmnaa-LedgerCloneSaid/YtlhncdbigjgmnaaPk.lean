/- Packets, as plain data; lists of them as cells. -/
import Derived.Test.YtlhncdbigjgmnaaRingC
import Derived.Test.YtlhncdbigjgmnaaSpec
import Derived.Test.YtlhncdbigjgmnaaRow
import Derived.Laws.StructEq
namespace Go.Proofs.Ytlhncdbigjgmnaa
open Go.RowKit
/-- A packet: number, size, and its stamp. -/
structure Pk where
  n : Int
  size : Int
  sent : Int
  first : Int
  deliv : Int
  at' : Int
  lim : Bool
deriving DecidableEq
def Pk.zero : Pk := ⟨0, 0, 0, 0, 0, 0, false⟩
def Pk.bare (n size : Int) : Pk := ⟨n, size, 0, 0, 0, 0, false⟩
def Pk.cells (p : Pk) : List Value := [.int .u64 p.n, .int .u64 p.size, .int .u64 p.sent, .int .u64 p.first, .int .u64 p.deliv, .int .u64 p.at', .bool p.lim]
def Pk.Ok (p : Pk) : Prop := U p.n ∧ U p.size ∧ U p.sent ∧ U p.first ∧ U p.deliv ∧ U p.at'
instance instPkOk (p : Pk) : Decidable p.Ok := inferInstanceAs (Decidable (_ ∧ _ ∧ _ ∧ _ ∧ _ ∧ _))
theorem Pk.one (p : Pk) : ∀ u ∈ p.cells, u.oneCell' = true := by
  intro u h
  simp only [Pk.cells, List.mem_cons, List.not_mem_nil, or_false] at h
  rcases h with h | h | h | h | h | h | h <;> (rw [h]; rfl)
theorem Pk.inj {p q : Pk} (h : p.cells = q.cells) : p = q := by
  obtain ⟨a, b, c, d, e, f, g⟩ := p
  obtain ⟨a', b', c', d', e', f', g'⟩ := q
  simp only [Pk.cells, List.cons.injEq, Value.int.injEq, Value.bool.injEq, true_and, and_true] at h
  obtain ⟨rfl, rfl, rfl, rfl, rfl, rfl, rfl⟩ := h
  rfl
/-- Lists of packets, as rows of cells. -/
def pks (l : List Pk) : List (List Value) := l.map Pk.cells
/-- The first one, or none. -/
def headP (l : List Pk) : Pk × Bool := match l with
  | [] => (Pk.zero, false)
  | p :: _ => (p, true)
theorem pks_len (l : List Pk) : (pks l).length = l.length := List.length_map ..
theorem flat_pks_len (l : List Pk) : (pks l).flatten.length = l.length * 7 := by
  rw [flat_len (sz := 7) _ (by intro c hc; obtain ⟨p, _, rfl⟩ := List.mem_map.1 hc; rfl), pks_len]
theorem flat_pks_one (l : List Pk) : ∀ u ∈ (pks l).flatten, u.oneCell' = true := by
  intro u hu
  obtain ⟨c, hc, hu⟩ := List.mem_flatten.1 hu
  obtain ⟨p, _, rfl⟩ := List.mem_map.1 hc
  exact p.one u hu
theorem pks_append (l m : List Pk) : pks (l ++ m) = pks l ++ pks m := List.map_append ..
theorem pks_snoc (l : List Pk) (p : Pk) : pks (l ++ [p]) = pks l ++ [p.cells] := by rw [pks_append]; rfl
theorem flat_pks_snoc (l : List Pk) (p : Pk) : (pks (l ++ [p])).flatten = (pks l).flatten ++ p.cells := by rw [pks_snoc]; simp
theorem flat_pks_cons (l : List Pk) (p : Pk) : (pks (p :: l)).flatten = p.cells ++ (pks l).flatten := rfl
theorem pks_drop (l : List Pk) (n : Nat) : (pks l).drop n = pks (l.drop n) := by simp [pks, List.map_drop]
theorem atC_pks (l : List Pk) : atC [.int .u64 0, .int .u64 0, .int .u64 0, .int .u64 0, .int .u64 0, .int .u64 0, .bool false] (pks l) 0 = ((headP l).1.cells, (headP l).2) := by
  cases l with
  | nil => rfl
  | cons p l => rw [show (0 : Int) = ((0 : Nat) : Int) from rfl, atC_in (by simp [pks])]; rfl
theorem headP_ok {l : List Pk} (h : ∀ p ∈ l, p.Ok) : (headP l).1.Ok := by
  cases l with
  | nil => decide
  | cons p l => exact h p (by simp)
/-- A row of packets that is owned. -/
abbrev slcP (v : Value) (l : List Pk) : Asn := slc 50 7 v (pks l).flatten
theorem flat_pks_at (l : List Pk) (i j : Nat) (hi : i < l.length) (u : Value) (hu : l[i].cells[j]? = some u) : (pks l).flatten[i * 7 + j]? = some u := by
  have hj : j < 7 := by
    rcases Nat.lt_or_ge j 7 with h | h
    · exact h
    · rw [List.getElem?_eq_none (by simpa [Pk.cells] using h)] at hu; cases hu
  rw [flat_at (sz := 7) (pks l) (by intro c hc; obtain ⟨p, _, rfl⟩ := List.mem_map.1 hc; rfl) i j l[i].cells (by simp [pks, hi]) hj]
  exact hu
/-- Are two packets one? (A word that the walk's simp leaves as it is.) -/
def Pk.beq (p q : Pk) : Bool := decide (p = q)
theorem Pk.beq_true {p q : Pk} (h : p = q) : p.beq q = true := decide_eq_true h
theorem Pk.beq_false {p q : Pk} (h : ¬ p = q) : p.beq q = false := decide_eq_false h
/-- Equal, cell by cell. -/
theorem run_eqI_pk (a0 a1 a2 a3 a4 a5 b0 b1 b2 b3 b4 b5 : Int) (a6 b6 : Bool) (w : World) : (Op.equalIn 10000 50 (.agg #[.int .u64 a0, .int .u64 a1, .int .u64 a2, .int .u64 a3, .int .u64 a4, .int .u64 a5, .bool a6]) (.agg #[.int .u64 b0, .int .u64 b1, .int .u64 b2, .int .u64 b3, .int .u64 b4, .int .u64 b5, .bool b6])).run Try.prog w = .ok (Pk.beq ⟨a0, a1, a2, a3, a4, a5, a6⟩ ⟨b0, b1, b2, b3, b4, b5, b6⟩) w := by
  unfold Pk.beq
  have u1 := Try.underlying50
  have u2 := Try.underlying45
  have u3 := Try.underlying29
  have u4 := Try.underlying4
  have s1 := Try.isAgg50
  have s2 := Try.isAgg45
  have s3 := Try.isAgg29
  have s4 := Try.isAgg4
  have z1 := Try.sizeOf50
  have z2 := Try.sizeOf45
  rw [show (10000 : Nat) = 9999 + 1 from rfl, run_equalIn_agg _ _ _ _ _ (by kernel_rfl) (by kernel_rfl)]
  simp only [Program.fieldsOf, u1]
  go_simp
  (repeat' split) <;> simp_all
@[go_sem ↓] theorem run_eql_pk (a0 a1 a2 a3 a4 a5 b0 b1 b2 b3 b4 b5 : Int) (a6 b6 : Bool) (w : World) : (binOp .eql 50 (.agg #[.int .u64 a0, .int .u64 a1, .int .u64 a2, .int .u64 a3, .int .u64 a4, .int .u64 a5, .bool a6]) (.agg #[.int .u64 b0, .int .u64 b1, .int .u64 b2, .int .u64 b3, .int .u64 b4, .int .u64 b5, .bool b6])).run Try.prog w = .ok (.bool (Pk.beq ⟨a0, a1, a2, a3, a4, a5, a6⟩ ⟨b0, b1, b2, b3, b4, b5, b6⟩)) w := by
  rw [run_eql_struct, run_eqI_pk]; rfl
@[go_sem ↓] theorem run_neq_pk (a0 a1 a2 a3 a4 a5 b0 b1 b2 b3 b4 b5 : Int) (a6 b6 : Bool) (w : World) : (binOp .neq 50 (.agg #[.int .u64 a0, .int .u64 a1, .int .u64 a2, .int .u64 a3, .int .u64 a4, .int .u64 a5, .bool a6]) (.agg #[.int .u64 b0, .int .u64 b1, .int .u64 b2, .int .u64 b3, .int .u64 b4, .int .u64 b5, .bool b6])).run Try.prog w = .ok (.bool (!Pk.beq ⟨a0, a1, a2, a3, a4, a5, a6⟩ ⟨b0, b1, b2, b3, b4, b5, b6⟩)) w := by
  rw [run_neq_struct, run_eqI_pk]; rfl
/-- Packets, as they stand in a world. -/
def pkAt (w : World) (A : Option Addr) (n : Nat) (l : List Pk) : Prop := l.length = n ∧ ∀ i, ∀ h : i < l.length, ∃ g off, A = some ⟨g, off, none⟩ ∧ ∀ j u, l[i].cells[j]? = some u → w.cell? ⟨g, off + i * 7 + j, none⟩ = some u
theorem pkAt.drewN {w : World} {A : Option Addr} {n : Nat} {l : List Pk} (h : pkAt w A n l) (m : Nat) : pkAt (w.drewN m) A n l := h
theorem Own.slcP_val {ε w : World} {R : List Asn} {v : Value} {l : List Pk} (H : Own ε w (slcP v l :: R)) : ∃ A n cap, v = .slice A n cap ∧ n ≤ cap ∧ cap ≤ maxLen ∧ pkAt w A n l := by
  rcases H.slc_val with ⟨rfl, h⟩ | ⟨g, n, cap, rfl, h1, h2, h3, h4, _⟩
  · have hl : l = [] := by
      have := flat_pks_len l
      rw [h] at this
      refine List.eq_nil_of_length_eq_zero ?_
      simp only [List.length_nil] at this
      omega
    subst hl
    exact ⟨none, 0, 0, rfl, Nat.le_refl _, Nat.zero_le _, rfl, fun i hi => by simp at hi⟩
  · rw [flat_pks_len] at h3
    have hl : l.length = n := Nat.eq_of_mul_eq_mul_right (by decide) h3
    exact ⟨_, n, cap, rfl, h1, h2, hl, fun i hi => ⟨g, 0, rfl, fun j u hu => by rw [Nat.zero_add]; exact h4 _ _ (flat_pks_at l i j hi u hu)⟩⟩
theorem pkAt.cells {w : World} {A : Option Addr} {n : Nat} {l : List Pk} (h : pkAt w A n l) {i : Nat} (hi : i < n) : ∃ g off p, A = some ⟨g, off, none⟩ ∧ l[i]? = some p ∧ (w.cell? ⟨g, off + i * 7, none⟩ = some (.int .u64 p.n) ∧ w.cell? ⟨g, off + i * 7 + 1, none⟩ = some (.int .u64 p.size) ∧ w.cell? ⟨g, off + i * 7 + 2, none⟩ = some (.int .u64 p.sent) ∧ w.cell? ⟨g, off + i * 7 + 3, none⟩ = some (.int .u64 p.first) ∧ w.cell? ⟨g, off + i * 7 + 4, none⟩ = some (.int .u64 p.deliv) ∧ w.cell? ⟨g, off + i * 7 + 5, none⟩ = some (.int .u64 p.at') ∧ w.cell? ⟨g, off + i * 7 + 6, none⟩ = some (.bool p.lim)) := by
  obtain ⟨hl, h⟩ := h
  obtain ⟨g, off, e, hc⟩ := h i (by omega)
  exact ⟨g, off, l[i]'(by omega), e, List.getElem?_eq_getElem (by omega), hc 0 _ rfl, hc 1 _ rfl, hc 2 _ rfl, hc 3 _ rfl, hc 4 _ rfl, hc 5 _ rfl, hc 6 _ rfl⟩
end Go.Proofs.Ytlhncdbigjgmnaa
