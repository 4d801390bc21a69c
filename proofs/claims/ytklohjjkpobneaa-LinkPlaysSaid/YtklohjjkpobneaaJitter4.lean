/- jitter: JitterLate. -/
import Derived.Test.YtklohjjkpobneaaJitter3
namespace Go.Proofs.Ytklohjjkpobneaa
open Go.RowKit
/-- What is true behind each act. -/
structure JLate (delay jit nw : Int) (nx k : Nat) (s : Bo) : Prop where
  ok : s.Ok
  d : s.delay = delay
  j : s.jit = jit
  len : nx + s.l.length = k
  num : ∀ j x, s.l[j]? = some x → x.p.n = ((nx + j : Nat) : Int)
  last : s.last ≤ nw + delay + jit
  due : ∀ x ∈ s.l, x.t ≤ nw + delay + jit
theorem JLate.new {delay jit : Int} (h1 : U delay) (h2 : U jit) : JLate delay jit 0 0 0 (Bo.new delay jit) :=
  ⟨Bo.ok_new h1 h2, rfl, rfl, rfl, fun j x h => by simp [Bo.new] at h, by have := h1.1; have := h2.1; show 0 ≤ _; omega, fun x h => by cases h⟩
theorem JLate.dueIn {delay jit nw : Int} {nx k : Nat} {s : Bo} (h : JLate delay jit nw nx k s) {m c : Int} (hm : nw ≤ m) (h0 : 0 ≤ m) (h1 : m ≤ 1099511627776) (hc : 0 ≤ c) (hd : delay ≤ 1099511627776) (hj : jit ≤ 1099511627776) : m + delay ≤ s.due m c ∧ s.due m c ≤ m + delay + jit := by
  have hd0 := h.ok.delay
  have hj0 := h.ok.jit
  have hl := h.last
  rw [h.d] at hd0
  rw [h.j] at hj0
  unfold U at hd0 hj0
  unfold Bo.due
  rw [h.d, h.j]
  have e1 : sadd m delay = m + delay := by unfold sadd; rw [if_neg (by omega)]
  have e2 : sadd (m + delay) (min c jit) = m + delay + min c jit := by unfold sadd; rw [if_neg (by omega)]
  rw [e1, e2]
  omega
theorem JLate.put {delay jit nw : Int} {nx k : Nat} {s : Bo} (h : JLate delay jit nw nx k s) {m c : Int} (hm : nw ≤ m) (h0 : 0 ≤ m) (h1 : m ≤ 1099511627776) (hc : U c) (hd : delay ≤ 1099511627776) (hj : jit ≤ 1099511627776) : JLate delay jit m nx (k + 1) (s.put (Pk.bare k 0) m c) := by
  obtain ⟨a, b⟩ := h.dueIn hm h0 h1 hc.1 hd hj
  have hl := h.len
  refine ⟨Bo.ok_put h.ok (by unfold U; omega) hc, h.d, h.j, ?_, ?_, b, ?_⟩
  · show nx + (s.l ++ _).length = _
    rw [List.length_append]; simp; omega
  · intro j x hx
    rcases Nat.lt_or_ge j s.l.length with hlt | hge
    · exact h.num j x (by have hx : (s.l ++ _)[j]? = some x := hx; rwa [List.getElem?_append_left hlt] at hx)
    · have hx : (s.l ++ [(⟨Pk.bare k 0, s.due m c⟩ : Du)])[j]? = some x := hx
      rw [List.getElem?_append_right hge] at hx
      have hj0 : j - s.l.length = 0 := by
        rcases Nat.eq_zero_or_pos (j - s.l.length) with h | h
        · exact h
        · rw [List.getElem?_eq_none (by simp; omega)] at hx; cases hx
      rw [hj0] at hx
      have hx := Option.some.inj hx
      subst hx
      show (k : Int) = _
      congr 1; omega
  · intro x hx
    rcases List.mem_append.1 hx with hx | hx
    · have := h.due x hx; omega
    · rw [List.mem_singleton.1 hx]; exact b
theorem Bo.out_take (now : Int) (l : List Du) : ∃ q, q ≤ l.length ∧ Bo.outL now l = (l.take q).map Du.p ∧ Bo.restL now l = l.drop q := by
  induction l with
  | nil => exact ⟨0, Nat.le_refl _, rfl, rfl⟩
  | cons d l ih =>
    obtain ⟨q, h1, h2, h3⟩ := ih
    by_cases hd : d.t ≤ now
    · refine ⟨q + 1, by simp; omega, ?_, ?_⟩
      · rw [((Bo.out_cons now d l).1 hd).1, h2]; rfl
      · rw [((Bo.out_cons now d l).1 hd).2, h3]; rfl
    · exact ⟨0, Nat.zero_le _, ((Bo.out_cons now d l).2 hd).1, ((Bo.out_cons now d l).2 hd).2⟩
theorem Bo.out_all (now : Int) (l : List Du) (h : ∀ d ∈ l, d.t ≤ now) : Bo.outL now l = l.map Du.p ∧ Bo.restL now l = [] := by
  induction l with
  | nil => exact ⟨rfl, rfl⟩
  | cons d l ih =>
    obtain ⟨h1, h2⟩ := ih fun x hx => h x (List.mem_cons_of_mem _ hx)
    have hd := (Bo.out_cons now d l).1 (h d (List.mem_cons_self ..))
    exact ⟨by rw [hd.1, h1]; rfl, by rw [hd.2, h2]⟩
theorem JLate.out {delay jit nw : Int} {nx k : Nat} {s : Bo} (h : JLate delay jit nw nx k s) (now : Int) : (∀ j p, (s.out now).1[j]? = some p → p.n = ((nx + j : Nat) : Int)) ∧ JLate delay jit nw (nx + (s.out now).1.length) k (s.out now).2 := by
  obtain ⟨q, hq, ho, hr⟩ := Bo.out_take now s.l
  have ho2 : (s.out now).1 = (s.l.take q).map Du.p := ho
  have hr2 : (s.out now).2.l = s.l.drop q := hr
  have hl := h.len
  have hlen : (s.out now).1.length = q := by rw [ho2, List.length_map, List.length_take]; omega
  constructor
  · intro j p hp
    rw [ho2, List.getElem?_map] at hp
    cases hx : (s.l.take q)[j]? with
    | none => rw [hx] at hp; cases hp
    | some x =>
      rw [hx] at hp
      have hp := Option.some.inj hp
      subst hp
      refine h.num j x ?_
      have hj : j < q := by
        rcases Nat.lt_or_ge j q with h | h
        · exact h
        · rw [List.getElem?_eq_none (by rw [List.length_take]; omega)] at hx; cases hx
      rwa [List.getElem?_take_of_lt hj] at hx
  · rw [hlen]
    refine ⟨Bo.ok_out h.ok, h.d, h.j, ?_, ?_, h.last, ?_⟩
    · rw [hr2, List.length_drop]; omega
    · intro j x hx
      rw [hr2, List.getElem?_drop] at hx
      rw [h.num (q + j) x hx, Nat.add_assoc]
    · intro x hx
      rw [hr2] at hx
      exact h.due x (List.mem_of_mem_drop hx)
theorem JLate.done {delay jit nw : Int} {nx k : Nat} {s : Bo} (h : JLate delay jit nw nx k s) (hw : nw ≤ 1099511627776) (hd : delay ≤ 1099511627776) (hj : jit ≤ 1099511627776) : (s.out 4398046511104).1.length = s.l.length ∧ (s.out 4398046511104).2.l = [] := by
  obtain ⟨h1, h2⟩ := Bo.out_all 4398046511104 s.l fun d hd => by have := h.due d hd; omega
  exact ⟨by show (Bo.outL _ _).length = _; rw [h1, List.length_map], h2⟩
section
variable (w : World)
end
end Go.Proofs.Ytklohjjkpobneaa
