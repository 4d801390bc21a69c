/- ledger: no packet is taken twice, in plain words. -/
import Derived.Test.YtlhncdbigjgmnaaLed9
namespace Go.Proofs.Ytlhncdbigjgmnaa
open Go.RowKit
def setG (g : List Bool) (p : Pk) : List Bool := g.set p.n.toNat true
def setsG (g : List Bool) (l : List Pk) : List Bool := l.foldl setG g
def goneOf (l : List En) : List Bool := l.map fun e => !e.o
/-- Numbers that rise by one from base on. -/
def NumsFrom (base : Nat) (l : List En) : Prop := ∀ i e, l[i]? = some e → e.p.n = ((base + i : Nat) : Int)
theorem NumsFrom.cons {base : Nat} {e : En} {l : List En} (h : NumsFrom base (e :: l)) : e.p.n = (base : Int) ∧ NumsFrom (base + 1) l := by
  refine ⟨by simpa using h 0 e rfl, fun i x hx => ?_⟩
  have := h (i + 1) x (by simpa using hx)
  rw [this]
  congr 1; omega
theorem set_mid (P : List Bool) (x : Bool) (r : List Bool) (b : Nat) (hb : P.length = b) : (P ++ x :: r).set b true = P ++ true :: r := by
  subst hb
  rw [List.set_append_right _ _ (Nat.le_refl _)]
  simp
theorem taken_cons (is : Pk → Bool) (e : En) (l : List En) : taken is (e :: l) = if e.o && is e.p then e.p :: taken is l else taken is l := by
  unfold taken
  cases h : e.o && is e.p <;> simp [h]
theorem gone_taken (is : Pk → Bool) : ∀ (l : List En) (base : Nat) (P : List Bool), P.length = base → NumsFrom base l → setsG (P ++ goneOf l) (taken is l) = P ++ goneOf (marked is l)
  | [], _, P, _, _ => rfl
  | e :: l, base, P, hP, hn => by
    obtain ⟨hb, hl⟩ := hn.cons
    have hx : goneOf (e :: l) = (!e.o) :: goneOf l := rfl
    have hm : goneOf (marked is (e :: l)) = (!(e.mark is).o) :: goneOf (marked is l) := rfl
    rw [taken_cons, hx, hm]
    cases h : e.o && is e.p with
    | true =>
      have h2 : (!(e.mark is).o) = true := by
        simp only [Bool.and_eq_true] at h
        simp [En.mark, h.1, h.2]
      rw [if_pos rfl, h2]
      have h3 : setG (P ++ (!e.o) :: goneOf l) e.p = (P ++ [true]) ++ goneOf l := by
        unfold setG
        rw [hb, Int.toNat_natCast, set_mid P _ _ base hP]
        simp
      have := gone_taken is l (base + 1) (P ++ [true]) (by simp [hP]) hl
      rw [show setsG (P ++ (!e.o) :: goneOf l) (e.p :: taken is l) = setsG (setG (P ++ (!e.o) :: goneOf l) e.p) (taken is l) from rfl, h3, this]
      simp
    | false =>
      have h2 : e.mark is = e := mark_same h
      rw [if_neg (by decide), h2]
      have := gone_taken is l (base + 1) (P ++ [!e.o]) (by simp [hP]) hl
      rw [show P ++ (!e.o) :: goneOf l = (P ++ [!e.o]) ++ goneOf l by simp, this]
      simp
theorem taken_new (is : Pk → Bool) : ∀ (l : List En) (base : Nat) (P : List Bool), P.length = base → NumsFrom base l → ∀ (k : Nat) (p : Pk), (taken is l)[k]? = some p →
    ∃ q : Nat, p.n = (q : Int) ∧ q < base + l.length ∧ (setsG (P ++ goneOf l) ((taken is l).take k))[q]? = some false
  | [], _, P, _, _, k, p, h => by simp [taken] at h
  | e :: l, base, P, hP, hn, k, p, h => by
    obtain ⟨hb, hl⟩ := hn.cons
    have hx : goneOf (e :: l) = (!e.o) :: goneOf l := rfl
    rw [taken_cons] at h ⊢
    rw [hx]
    cases hq : e.o && is e.p with
    | true =>
      rw [hq, if_pos rfl] at h
      rw [if_pos rfl]
      cases k with
      | zero =>
        obtain rfl : e.p = p := by simpa using h
        refine ⟨base, hb, by simp, ?_⟩
        simp only [Bool.and_eq_true] at hq
        rw [List.take_zero, show setsG (P ++ (!e.o) :: goneOf l) [] = P ++ (!e.o) :: goneOf l from rfl, List.getElem?_append_right (by omega), hP]
        simp [hq.1]
      | succ k =>
        have h3 : setG (P ++ (!e.o) :: goneOf l) e.p = (P ++ [true]) ++ goneOf l := by
          unfold setG
          rw [hb, Int.toNat_natCast, set_mid P _ _ base hP]
          simp
        obtain ⟨q, h4, h5, h6⟩ := taken_new is l (base + 1) (P ++ [true]) (by simp [hP]) hl k p (by simpa using h)
        refine ⟨q, h4, by simp; omega, ?_⟩
        rw [List.take_succ_cons, show setsG (P ++ (!e.o) :: goneOf l) (e.p :: (taken is l).take k) = setsG (setG (P ++ (!e.o) :: goneOf l) e.p) ((taken is l).take k) from rfl, h3]
        exact h6
    | false =>
      rw [hq, if_neg (by decide)] at h
      rw [if_neg (by decide)]
      obtain ⟨q, h4, h5, h6⟩ := taken_new is l (base + 1) (P ++ [!e.o]) (by simp [hP]) hl k p h
      refine ⟨q, h4, by simp; omega, ?_⟩
      rw [show P ++ (!e.o) :: goneOf l = (P ++ [!e.o]) ++ goneOf l by simp]
      exact h6
theorem outs_marked (is : Pk → Bool) (l : List En) : (outs (marked is l)).length + (taken is l).length = (outs l).length := by
  induction l with
  | nil => rfl
  | cons e l ih =>
    rw [taken_cons]
    have hm : marked is (e :: l) = e.mark is :: marked is l := rfl
    have ho : ∀ (x : En) (r : List En), (outs (x :: r)).length = (if x.o then 1 else 0) + (outs r).length := fun x r => by
      unfold outs
      cases h : x.o <;> simp [h]; omega
    rw [hm, ho, ho, ← ih]
    cases h1 : e.o <;> cases h2 : is e.p <;> simp [En.mark, h1, h2] <;> omega
theorem NumsFrom.marked {is : Pk → Bool} {base : Nat} {l : List En} (h : NumsFrom base l) : NumsFrom base (marked is l) := by
  intro i e he
  unfold Go.Proofs.Ytlhncdbigjgmnaa.marked at he
  rw [List.getElem?_map] at he
  obtain ⟨x, hx, rfl⟩ := Option.map_eq_some_iff.1 he
  exact h i x hx
theorem drop_out : ∀ (l : List En) (base : Nat) (P : List Bool), P = List.replicate base true → NumsFrom base l →
    ∃ b2 : Nat, P ++ goneOf l = List.replicate b2 true ++ goneOf (l.dropWhile (fun e => !e.o)) ∧ NumsFrom b2 (l.dropWhile (fun e => !e.o)) ∧ b2 + (l.dropWhile (fun e => !e.o)).length = base + l.length ∧ outs (l.dropWhile (fun e => !e.o)) = outs l
  | [], base, P, hP, hn => ⟨base, by rw [hP]; rfl, hn, rfl, rfl⟩
  | e :: l, base, P, hP, hn => by
    obtain ⟨hb, hl⟩ := hn.cons
    cases ho : e.o with
    | true =>
      rw [List.dropWhile_cons_of_neg (by simp [ho])]
      exact ⟨base, by rw [hP], hn, rfl, rfl⟩
    | false =>
      rw [List.dropWhile_cons_of_pos (by simp [ho])]
      obtain ⟨b2, h1, h2, h3, h4⟩ := drop_out l (base + 1) (P ++ [true]) (by rw [hP]; exact List.replicate_succ'.symm) hl
      refine ⟨b2, ?_, h2, by simp; omega, ?_⟩
      · rw [← h1, show goneOf (e :: l) = (!e.o) :: goneOf l from rfl, ho]
        simp
      · rw [h4]
        unfold outs
        simp [ho]
/-- Each packet that was sent is gone, once, or out. -/
structure Once (s : Led) (gone : List Bool) (n : Nat) : Prop where
  row : ∃ base : Nat, gone = List.replicate base true ++ goneOf s.row ∧ NumsFrom base s.row
  next : s.next = (gone.length : Int)
  num : n + (outs s.row).length = gone.length
  ok : ∀ e ∈ s.row, e.p.Ok
theorem Once.none (re : Int) : Once ⟨re, 0, 0, false, []⟩ [] 0 := ⟨⟨0, rfl, fun _ _ h => by simp at h⟩, rfl, rfl, fun _ h => absurd h List.not_mem_nil⟩
theorem Once.len {s : Led} {gone : List Bool} {n : Nat} (h : Once s gone n) : s.row.length ≤ gone.length ∧ n ≤ gone.length := by
  obtain ⟨base, h1, _⟩ := h.row
  refine ⟨?_, by have := h.num; omega⟩
  rw [h1]
  simp [goneOf]
theorem Once.send {s : Led} {gone : List Bool} {n : Nat} (h : Once s gone n) (hl : gone.length ≤ 1000000) (eb : Nat) (size sent : Int) (h1 : U size) (h2 : U sent) :
    Once { s with next := s.next + 1, row := s.row ++ [⟨eb, ⟨s.next, size, sent, 0, 0, 0, false⟩, true⟩] } (gone ++ [false]) n := by
  obtain ⟨base, hg, hn⟩ := h.row
  have hnx := h.next
  refine ⟨⟨base, ?_, ?_⟩, ?_, ?_, ?_⟩
  · rw [hg]; simp [goneOf]
  · intro i e he
    rcases Nat.lt_or_ge i s.row.length with hi | hi
    · exact hn i e (by rwa [List.getElem?_append_left hi] at he)
    · rw [List.getElem?_append_right hi] at he
      have h0 : i - s.row.length = 0 := by
        rcases Nat.eq_zero_or_pos (i - s.row.length) with q | q
        · exact q
        · rw [List.getElem?_eq_none (by simp; omega)] at he; cases he
      rw [h0] at he
      obtain rfl := (Option.some.inj he).symm
      simp only
      rw [hnx, hg]
      simp [goneOf]
      omega
  · simp [hnx]
  · have := h.num
    have h3 : (outs (s.row ++ [⟨eb, ⟨s.next, size, sent, 0, 0, 0, false⟩, true⟩])).length = (outs s.row).length + 1 := by
      unfold outs; simp
    simp only
    rw [h3, List.length_append]
    simp
    omega
  · intro e he
    rcases List.mem_append.1 he with he | he
    · exact h.ok e he
    · rw [List.mem_singleton.1 he]
      refine ⟨?_, h1, h2, U_zero, U_zero, U_zero⟩
      simp only
      unfold U
      omega
theorem marked_ok {is : Pk → Bool} {l : List En} (h : ∀ e ∈ l, e.p.Ok) : ∀ e ∈ (marked is l).dropWhile (fun e => !e.o), e.p.Ok := by
  intro e he
  have h1 := (List.dropWhile_sublist (fun e : En => !e.o)).subset he
  obtain ⟨x, hx, rfl⟩ := List.mem_map.1 h1
  exact h x hx
theorem setsG_len (l : List Pk) (g : List Bool) : (setsG g l).length = g.length := by
  induction l generalizing g with
  | nil => rfl
  | cons p l ih => rw [show setsG g (p :: l) = setsG (setG g p) l from rfl, ih]; simp [setG]
theorem Once.take {s : Led} {gone : List Bool} {n : Nat} (h : Once s gone n) (is : Pk → Bool) : Once (s.take is) (setsG gone (taken is s.row)) (n + (taken is s.row).length) ∧
    ∀ k p, (taken is s.row)[k]? = some p → ∃ q : Nat, p.n = (q : Int) ∧ q < gone.length ∧ (setsG gone ((taken is s.row).take k))[q]? = some false := by
  obtain ⟨base, hg, hn⟩ := h.row
  have h1 := gone_taken is s.row base (List.replicate base true) (by simp) hn
  have h2 := taken_new is s.row base (List.replicate base true) (by simp) hn
  obtain ⟨b2, h3, h4, _, h6⟩ := drop_out (marked is s.row) base (List.replicate base true) rfl hn.marked
  have hlen : gone.length = base + s.row.length := by rw [hg]; simp [goneOf]
  rw [← hg] at h1 h2
  refine ⟨⟨⟨b2, by rw [h1, h3]; rfl, h4⟩, by rw [setsG_len]; exact h.next, ?_, marked_ok h.ok⟩, ?_⟩
  · rw [setsG_len]
    have h7 := outs_marked is s.row
    have h8 := h.num
    rw [show (s.take is).row = (marked is s.row).dropWhile (fun e => !e.o) from rfl, h6]
    omega
  · rw [hlen]; exact h2
theorem Once.top {s : Led} {gone : List Bool} {n : Nat} (h : Once s gone n) (l : List Pk) : Once (s.ackTop l) gone n := by
  unfold Led.ackTop
  split
  · exact h
  · exact ⟨h.row, h.next, h.num, h.ok⟩
/-- Behind an act: what was taken, and what it leaves. -/
structure Mid (s : Led) (gone : List Bool) (n : Nat) (tk : List Pk) : Prop where
  new : ∀ k p, tk[k]? = some p → ∃ q : Nat, p.n = (q : Int) ∧ q < gone.length ∧ (setsG gone (tk.take k))[q]? = some false
  once : Once s (setsG gone tk) (n + tk.length)
theorem Mid.of_none {s : Led} {gone : List Bool} {n : Nat} (h : Once s gone n) : Mid s gone n [] := ⟨fun _ _ h => by simp at h, h⟩
theorem Mid.ack {s : Led} {gone : List Bool} {n : Nat} (h : Once s gone n) (xs : List Rg) : Mid (s.ack xs).2.2 gone n (s.ack xs).1 := by
  unfold Led.ack
  split
  · exact Mid.of_none h
  · obtain ⟨h1, h2⟩ := h.take (ackB (putsL [] xs))
    exact ⟨h2, h1.top _⟩
theorem Mid.lost {s : Led} {gone : List Bool} {n : Nat} (h : Once s gone n) (now delay limit : Int) : Mid (s.lost now delay limit).2 gone n (s.lost now delay limit).1 := by
  obtain ⟨h1, h2⟩ := h.take (lostB s.re s.top s.some now delay limit)
  exact ⟨h2, h1⟩
theorem Once.left {s : Led} {gone : List Bool} {n : Nat} (h : Once s gone n) : ∀ (k : Nat) (p : Pk), (outs s.row)[k]? = some p → ∃ q : Nat, p.n = (q : Int) ∧ q < gone.length ∧ gone[q]? = some false := by
  intro k p hk
  obtain ⟨base, hg, hn⟩ := h.row
  obtain ⟨e, he, rfl⟩ := List.mem_map.1 (List.mem_of_getElem? hk)
  obtain ⟨he, ho⟩ := List.mem_filter.1 he
  obtain ⟨i, hi, hie⟩ := List.getElem_of_mem he
  have hie2 : s.row[i]? = some e := by rw [← hie]; exact List.getElem?_eq_getElem hi
  refine ⟨base + i, hn i e hie2, by rw [hg]; simp [goneOf]; exact hi, ?_⟩
  rw [hg, List.getElem?_append_right (by simp)]
  have : goneOf s.row = s.row.map (fun e => !e.o) := rfl
  rw [this, List.getElem?_map]
  simp [hie2, ho]
theorem ack_re (s : Led) (xs : List Rg) : (s.ack xs).2.2.re = s.re := by
  unfold Led.ack Led.ackTop
  split
  · rfl
  · simp only
    split <;> rfl
end Go.Proofs.Ytlhncdbigjgmnaa
