/- ledger: the document's ledger, in plain words, and what ties them. -/
import Derived.Test.YtlhncdbigjgmnaaLed10
namespace Go.Proofs.Ytlhncdbigjgmnaa
open Go.RowKit
/-- Packets, and whether each is out. -/
def fg (l : List En) : List (Pk × Bool) := l.map fun e => (e.p, e.o)
theorem fg_app (l m : List En) : fg (l ++ m) = fg l ++ fg m := List.map_append ..
theorem taken_fg (is : Pk → Bool) (l : List En) : taken is l = ((fg l).filter fun x => x.2 && is x.1).map Prod.fst := by
  unfold taken fg
  rw [List.filter_map, List.map_map]
  rfl
theorem outs_fg (l : List En) : outs l = ((fg l).filter fun x => x.2).map Prod.fst := by
  unfold outs fg
  rw [List.filter_map, List.map_map]
  rfl
theorem marked_fg (is : Pk → Bool) (l : List En) : fg (marked is l) = (fg l).map fun x => (x.1, x.2 && !is x.1) := by
  unfold marked fg
  rw [List.map_map, List.map_map]
  rfl
theorem none_out {d : List En} (h : ∀ e ∈ d, e.o = false) (is : Pk → Bool) : taken is d = [] ∧ outs d = [] ∧ ∀ e ∈ marked is d, e.o = false := by
  refine ⟨?_, ?_, ?_⟩
  · unfold taken
    rw [List.filter_eq_nil_iff.2 (fun e he => by rw [h e he]; simp)]
    rfl
  · unfold outs
    rw [List.filter_eq_nil_iff.2 (fun e he => by rw [h e he]; simp)]
    rfl
  · intro e he
    obtain ⟨x, hx, rfl⟩ := List.mem_map.1 he
    simp [En.mark, h x hx]
theorem taken_app (is : Pk → Bool) (l m : List En) : taken is (l ++ m) = taken is l ++ taken is m := by unfold taken; simp
theorem outs_app (l m : List En) : outs (l ++ m) = outs l ++ outs m := by unfold outs; simp
/-- The document's ledger. -/
structure RLd where
  re : Int
  q : List En
  top : Int
  some : Bool
def inB (xs : List Rg) (p : Pk) : Bool := xs.any fun r => decide (r.1 ≤ p.n) && decide (p.n ≤ r.2)
def topOf (t : Int) (l : List Pk) : Int := l.foldl (fun t p => max t p.n) t
def RLd.ack (m : RLd) (xs : List Rg) : List Pk × Int × RLd :=
  if xs.any badR then ([], 1, m) else (taken (inB xs) m.q, 0, ⟨m.re, marked (inB xs) m.q, topOf m.top (taken (inB xs) m.q), m.some || !(taken (inB xs) m.q).isEmpty⟩)
def RLd.lost (m : RLd) (now delay limit : Int) : List Pk × RLd := (taken (lostB m.re m.top m.some now delay limit) m.q, ⟨m.re, marked (lostB m.re m.top m.some now delay limit) m.q, m.top, m.some⟩)
def RLd.send (m : RLd) (size q1 q2 q3 q4 : Int) (q5 : Bool) : RLd := ⟨m.re, m.q ++ [⟨0, ⟨m.q.length, size, q1, q2, q3, q4, q5⟩, true⟩], m.top, m.some⟩
theorem inB_has (xs : List Rg) (p : Pk) : inB xs p = true ↔ hasR xs p.n := by
  unfold inB hasR
  rw [List.any_eq_true]
  refine exists_congr fun r => and_congr_right fun _ => ?_
  simp
theorem ackB_in {xs : List Rg} (hU : ∀ x ∈ xs, U x.1 ∧ U x.2) (hb : xs.any badR = false) : ackB (putsL [] xs) = inB xs := by
  have hin := putsL_in xs [] 0 (sqIn_nil 0) hU hb
  have hrise : ∀ x ∈ xs, x.1 ≤ x.2 := fun x hx => by
    have h := List.any_eq_false.1 hb x hx
    have hb' : badR x = false := by simpa using h
    exact ((sqIn_nil 0).put hb' (hU x hx).1.1 (hU x hx).2).2.1
  funext p
  have hh := putsL_has p.n xs [] apart_nil hrise
  have h2 := inB_has xs p
  unfold ackB
  by_cases h : hasR (putsL [] xs) p.n
  · rw [h2.2 ((hh.1 h).resolve_right (hasR_nil _))]
    obtain ⟨r, hr, h3, h4⟩ := h
    rw [gapL_some hin.ap hr ⟨h3, h4⟩]
    simp; omega
  · rw [gapL_none h]
    have h5 : ¬ inB xs p = true := fun q => h (hh.2 (.inl (h2.1 q)))
    simp [h5]
theorem nums_rise : ∀ (l : List En) (b : Nat), NumsFrom b l → l.Pairwise fun x y => x.p.n < y.p.n
  | [], _, _ => List.Pairwise.nil
  | e :: l, b, h => by
    obtain ⟨h1, h2⟩ := h.cons
    refine List.pairwise_cons.2 ⟨fun x hx => ?_, nums_rise l (b + 1) h2⟩
    obtain ⟨i, hi, rfl⟩ := List.getElem_of_mem hx
    rw [h1, h2 i l[i] (List.getElem?_eq_getElem hi)]
    omega
theorem taken_rise {is : Pk → Bool} {l : List En} (h : NumsFrom 0 l) : (taken is l).Pairwise fun x y => x.n < y.n := by
  unfold taken
  rw [List.pairwise_map]
  exact (nums_rise l 0 h).sublist List.filter_sublist
theorem topOf_last : ∀ (l : List Pk) (t : Int), (l.Pairwise fun x y => x.n < y.n) → topOf t l = match l.getLast? with
    | none => t
    | some p => max t p.n
  | [], t, _ => rfl
  | [p], t, _ => rfl
  | p :: p2 :: l, t, h => by
    obtain ⟨h1, h2⟩ := List.pairwise_cons.1 h
    have h3 := topOf_last (p2 :: l) (max t p.n) h2
    rw [show topOf t (p :: p2 :: l) = topOf (max t p.n) (p2 :: l) from rfl, h3, List.getLast?_cons_cons]
    cases hl : (p2 :: l).getLast? with
    | none => simp at hl
    | some x =>
      have := h1 x (List.mem_of_getLast? hl)
      simp only
      omega
theorem tw_all : ∀ (l : List En) (e : En), e ∈ l.takeWhile (fun e => !e.o) → e.o = false
  | [], e, h => by simp at h
  | x :: l, e, h => by
    cases hx : x.o with
    | true => rw [List.takeWhile_cons_of_neg (by simp [hx])] at h; simp at h
    | false =>
      rw [List.takeWhile_cons_of_pos (by simp [hx])] at h
      rcases List.mem_cons.1 h with rfl | h
      · exact hx
      · exact tw_all l e h
/-- A ledger, and the document's. -/
structure Tie (s : Led) (m : RLd) : Prop where
  re : s.re = m.re
  top : s.top = m.top
  some : s.some = m.some
  next : s.next = (m.q.length : Int)
  row : ∃ d : List En, (∀ e ∈ d, e.o = false) ∧ fg m.q = fg (d ++ s.row)
  num : NumsFrom 0 m.q
  ok : ∀ e ∈ m.q, e.p.Ok
section
variable {s : Led} {m : RLd}
theorem Tie.none (re : Int) : Tie ⟨re, 0, 0, false, []⟩ ⟨re, [], 0, false⟩ := ⟨rfl, rfl, rfl, rfl, ⟨[], fun _ h => absurd h List.not_mem_nil, rfl⟩, fun _ _ h => by simp at h, fun _ h => absurd h List.not_mem_nil⟩
theorem Tie.taken (h : Tie s m) (is : Pk → Bool) : taken is s.row = taken is m.q := by
  obtain ⟨d, h1, h2⟩ := h.row
  rw [taken_fg is m.q, h2, ← taken_fg, taken_app, (none_out h1 is).1, List.nil_append]
theorem Tie.outs (h : Tie s m) : outs s.row = outs m.q := by
  obtain ⟨d, h1, h2⟩ := h.row
  rw [outs_fg m.q, h2, ← outs_fg, outs_app, (none_out h1 (fun _ => true)).2.1, List.nil_append]
theorem Tie.len (h : Tie s m) : s.row.length ≤ m.q.length := by
  obtain ⟨d, _, h2⟩ := h.row
  have := congrArg List.length h2
  simp [fg] at this
  omega
theorem fg_mem {l l' : List En} (h : fg l = fg l') {e : En} (he : e ∈ l') : ∃ x ∈ l, x.p = e.p := by
  have h1 : (e.p, e.o) ∈ fg l := by rw [h]; exact List.mem_map_of_mem he
  obtain ⟨x, hx, hxe⟩ := List.mem_map.1 h1
  exact ⟨x, hx, (Prod.mk.inj hxe).1⟩
theorem Tie.rowOk (h : Tie s m) : ∀ e ∈ s.row, e.p.Ok := by
  intro e he
  obtain ⟨d, _, h2⟩ := h.row
  obtain ⟨x, hx, hxe⟩ := fg_mem h2 (e := e) (List.mem_append_right d he)
  rw [← hxe]
  exact h.ok x hx
theorem marked_len (is : Pk → Bool) (l : List En) : (marked is l).length = l.length := List.length_map ..
theorem marked_ok1 {is : Pk → Bool} {l : List En} (h : ∀ e ∈ l, e.p.Ok) : ∀ e ∈ marked is l, e.p.Ok := by
  intro e he
  obtain ⟨x, hx, rfl⟩ := List.mem_map.1 he
  exact h x hx
theorem Tie.marks (h : Tie s m) (is : Pk → Bool) (top : Int) (sm : Bool) : Tie { s.take is with top := top, some := sm } ⟨m.re, marked is m.q, top, sm⟩ := by
  obtain ⟨d, h1, h2⟩ := h.row
  refine ⟨h.re, rfl, rfl, by rw [marked_len]; exact h.next, ⟨marked is d ++ (marked is s.row).takeWhile (fun e => !e.o), ?_, ?_⟩, h.num.marked, marked_ok1 h.ok⟩
  · intro e he
    rcases List.mem_append.1 he with he | he
    · exact (none_out h1 is).2.2 e he
    · exact tw_all _ e he
  · rw [marked_fg, h2, ← marked_fg]
    simp only [Led.take]
    rw [List.append_assoc, List.takeWhile_append_dropWhile]
    unfold marked
    rw [List.map_append]
theorem Tie.lost (h : Tie s m) (now delay limit : Int) : (s.lost now delay limit).1 = (m.lost now delay limit).1 ∧ Tie (s.lost now delay limit).2 (m.lost now delay limit).2 := by
  unfold Led.lost RLd.lost
  rw [← h.re, ← h.top, ← h.some]
  refine ⟨h.taken _, ?_⟩
  have := h.marks (lostB s.re s.top s.some now delay limit) s.top s.some
  rw [← h.re] at this
  exact this
theorem Tie.ack (h : Tie s m) {xs : List Rg} (hU : ∀ x ∈ xs, U x.1 ∧ U x.2) : (s.ack xs).1 = (m.ack xs).1 ∧ (s.ack xs).2.1 = (m.ack xs).2.1 ∧ Tie (s.ack xs).2.2 (m.ack xs).2.2 := by
  unfold Led.ack RLd.ack
  cases hb : xs.any badR with
  | true => exact ⟨rfl, rfl, h⟩
  | false =>
    simp only [Bool.false_eq_true, if_false]
    rw [ackB_in hU hb]
    have ht := h.taken (inB xs)
    refine ⟨ht, trivial, ?_⟩
    have hr := topOf_last (Go.Proofs.Ytlhncdbigjgmnaa.taken (inB xs) m.q) m.top (taken_rise h.num)
    rw [ht, hr]
    unfold Led.ackTop
    cases hl : (Go.Proofs.Ytlhncdbigjgmnaa.taken (inB xs) m.q).getLast? with
    | none =>
      have he : Go.Proofs.Ytlhncdbigjgmnaa.taken (inB xs) m.q = [] := by simpa using hl
      rw [he]
      have := h.marks (inB xs) m.top m.some
      rw [show { s.take (inB xs) with top := m.top, some := m.some } = s.take (inB xs) by unfold Led.take; rw [← h.top, ← h.some]] at this
      simpa using this
    | some p =>
      have he : (Go.Proofs.Ytlhncdbigjgmnaa.taken (inB xs) m.q).isEmpty = false := by
        cases hq : Go.Proofs.Ytlhncdbigjgmnaa.taken (inB xs) m.q with
        | nil => rw [hq] at hl; simp at hl
        | cons _ _ => rfl
      rw [he]
      have := h.marks (inB xs) (max m.top p.n) true
      simp only [Bool.not_false, Bool.or_true]
      have e1 : (s.take (inB xs)).top = m.top := h.top
      rw [← e1] at this ⊢
      exact this
theorem Tie.send (h : Tie s m) (hl : m.q.length ≤ 1000000) (eb : Nat) (size q1 q2 q3 q4 : Int) (q5 : Bool) (u1 : U size) (u2 : U q1) (u3 : U q2) (u4 : U q3) (u5 : U q4) :
    Tie { s with next := s.next + 1, row := s.row ++ [⟨eb, ⟨s.next, size, q1, q2, q3, q4, q5⟩, true⟩] } (m.send size q1 q2 q3 q4 q5) := by
  obtain ⟨d, h1, h2⟩ := h.row
  refine ⟨h.re, h.top, h.some, ?_, ⟨d, h1, ?_⟩, ?_, ?_⟩
  · simp only [RLd.send, List.length_append, List.length_cons, List.length_nil]
    rw [h.next]; omega
  · simp only [RLd.send]
    rw [← List.append_assoc, fg_app, h2, fg_app (d ++ s.row), h.next]
    rfl
  · intro i e he
    simp only [RLd.send] at he
    rcases Nat.lt_or_ge i m.q.length with hi | hi
    · exact h.num i e (by rwa [List.getElem?_append_left hi] at he)
    · rw [List.getElem?_append_right hi] at he
      have h0 : i - m.q.length = 0 := by
        rcases Nat.eq_zero_or_pos (i - m.q.length) with q | q
        · exact q
        · rw [List.getElem?_eq_none (by simp; omega)] at he; cases he
      rw [h0] at he
      obtain rfl := (Option.some.inj he).symm
      simp only
      omega
  · intro e he
    simp only [RLd.send] at he
    rcases List.mem_append.1 he with he | he
    · exact h.ok e he
    · rw [List.mem_singleton.1 he]
      refine ⟨?_, u1, u2, u3, u4, u5⟩
      simp only
      unfold U
      omega
end
/-- Another ledger with the same packets. -/
theorem Tie.copy {s s' : Led} {m : RLd} (h : Tie s m) (h1 : s'.re = s.re) (h2 : s'.next = s.next) (h3 : s'.top = s.top) (h4 : s'.some = s.some) (h5 : fg s'.row = fg s.row) : Tie s' m := by
  obtain ⟨d, h6, h7⟩ := h.row
  exact ⟨h1.trans h.re, h3.trans h.top, h4.trans h.some, h2.trans h.next, ⟨d, h6, by rw [fg_app, h5, ← fg_app]; exact h7⟩, h.num, h.ok⟩
theorem Tie.len_ack {m : RLd} (xs : List Rg) : (m.ack xs).2.2.q.length = m.q.length := by
  unfold RLd.ack
  split
  · rfl
  · exact marked_len _ _
theorem Tie.len_lost {m : RLd} (now delay limit : Int) : (m.lost now delay limit).2.q.length = m.q.length := marked_len _ _
end Go.Proofs.Ytlhncdbigjgmnaa
