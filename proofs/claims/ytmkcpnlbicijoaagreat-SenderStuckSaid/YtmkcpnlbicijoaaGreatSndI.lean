/- sender: what stays so of a sender, in plain words. -/
import Derived.Test.YtmkcpnlbicijoaaGreatCalm
import Derived.Test.YtmkcpnlbicijoaaGreatSndD
namespace Go.Proofs.YtmkcpnlbicijoaaGreat
open Go.RowKit
def setG (g : List Bool) (p : Pk) : List Bool := g.set p.n.toNat true
def setsG (g : List Bool) (l : List Pk) : List Bool := l.foldl setG g
def goneOf (l : List En) : List Bool := l.map fun e => !e.o
def NumsFrom (base : Nat) (l : List En) : Prop := ∀ i e, l[i]? = some e → e.p.n = ((base + i : Nat) : Int)
theorem NumsFrom.cons {base : Nat} {e : En} {l : List En} (h : NumsFrom base (e :: l)) : e.p.n = (base : Int) ∧ NumsFrom (base + 1) l := by
 refine ⟨by simpa using h 0 e rfl, fun i x hx => ?_⟩
 have := h (i + 1) x (by simpa using hx)
 rw [this]
 congr 1; omega
theorem set_mid (P : List Bool) (x : Bool) (r : List Bool) (b : Nat) (hb : P.length = b) : (P ++ x :: r).set b true = P ++ true :: r := by
 subst hb
 rw [List.set_append_right _ _ (Nat.le_refl _)]
 simp
theorem taken_cons (is : Pk → Bool) (e : En) (l : List En) : taken is (e :: l) = if e.o && is e.p then e.p :: taken is l else taken is l := by
 unfold taken
 cases h : e.o && is e.p <;> simp [h]
theorem gone_taken (is : Pk → Bool) : ∀ (l : List En) (base : Nat) (P : List Bool), P.length = base → NumsFrom base l → setsG (P ++ goneOf l) (taken is l) = P ++ goneOf (marked is l)
 | [], _, P, _, _ => rfl
 | e :: l, base, P, hP, hn => by
  obtain ⟨hb, hl⟩ := hn.cons
  have hx : goneOf (e :: l) = (!e.o) :: goneOf l := rfl
  have hm : goneOf (marked is (e :: l)) = (!(e.mark is).o) :: goneOf (marked is l) := rfl
  rw [taken_cons, hx, hm]
  cases h : e.o && is e.p with
  | true =>
   have h2 : (!(e.mark is).o) = true := by
    simp only [Bool.and_eq_true] at h
    simp [En.mark, h.1, h.2]
   rw [if_pos rfl, h2]
   have h3 : setG (P ++ (!e.o) :: goneOf l) e.p = (P ++ [true]) ++ goneOf l := by
    unfold setG
    rw [hb, Int.toNat_natCast, set_mid P _ _ base hP]
    simp
   have := gone_taken is l (base + 1) (P ++ [true]) (by simp [hP]) hl
   rw [show setsG (P ++ (!e.o) :: goneOf l) (e.p :: taken is l) = setsG (setG (P ++ (!e.o) :: goneOf l) e.p) (taken is l) from rfl, h3, this]
   simp
  | false =>
   have h2 : e.mark is = e := mark_same h
   rw [if_neg (by decide), h2]
   have := gone_taken is l (base + 1) (P ++ [!e.o]) (by simp [hP]) hl
   rw [show P ++ (!e.o) :: goneOf l = (P ++ [!e.o]) ++ goneOf l by simp, this]
   simp
theorem taken_new (is : Pk → Bool) : ∀ (l : List En) (base : Nat) (P : List Bool), P.length = base → NumsFrom base l → ∀ (k : Nat) (p : Pk), (taken is l)[k]? = some p →
  ∃ q : Nat, p.n = (q : Int) ∧ q < base + l.length ∧ (setsG (P ++ goneOf l) ((taken is l).take k))[q]? = some false
 | [], _, P, _, _, k, p, h => by simp [taken] at h
 | e :: l, base, P, hP, hn, k, p, h => by
  obtain ⟨hb, hl⟩ := hn.cons
  have hx : goneOf (e :: l) = (!e.o) :: goneOf l := rfl
  rw [taken_cons] at h ⊢
  rw [hx]
  cases hq : e.o && is e.p with
  | true =>
   rw [hq, if_pos rfl] at h
   rw [if_pos rfl]
   cases k with
   | zero =>
    obtain rfl : e.p = p := by simpa using h
    refine ⟨base, hb, by simp, ?_⟩
    simp only [Bool.and_eq_true] at hq
    rw [List.take_zero, show setsG (P ++ (!e.o) :: goneOf l) [] = P ++ (!e.o) :: goneOf l from rfl, List.getElem?_append_right (by omega), hP]
    simp [hq.1]
   | succ k =>
    have h3 : setG (P ++ (!e.o) :: goneOf l) e.p = (P ++ [true]) ++ goneOf l := by
     unfold setG
     rw [hb, Int.toNat_natCast, set_mid P _ _ base hP]
     simp
    obtain ⟨q, h4, h5, h6⟩ := taken_new is l (base + 1) (P ++ [true]) (by simp [hP]) hl k p (by simpa using h)
    refine ⟨q, h4, by simp; omega, ?_⟩
    rw [List.take_succ_cons, show setsG (P ++ (!e.o) :: goneOf l) (e.p :: (taken is l).take k) = setsG (setG (P ++ (!e.o) :: goneOf l) e.p) ((taken is l).take k) from rfl, h3]
    exact h6
  | false =>
   rw [hq, if_neg (by decide)] at h
   rw [if_neg (by decide)]
   obtain ⟨q, h4, h5, h6⟩ := taken_new is l (base + 1) (P ++ [!e.o]) (by simp [hP]) hl k p h
   refine ⟨q, h4, by simp; omega, ?_⟩
   rw [show P ++ (!e.o) :: goneOf l = (P ++ [!e.o]) ++ goneOf l by simp]
   exact h6
theorem outs_marked (is : Pk → Bool) (l : List En) : (outs (marked is l)).length + (taken is l).length = (outs l).length := by
 induction l with
 | nil => rfl
 | cons e l ih =>
  rw [taken_cons]
  have hm : marked is (e :: l) = e.mark is :: marked is l := rfl
  have ho : ∀ (x : En) (r : List En), (outs (x :: r)).length = (if x.o then 1 else 0) + (outs r).length := fun x r => by
   unfold outs
   cases h : x.o <;> simp [h]; omega
  rw [hm, ho, ho, ← ih]
  cases h1 : e.o <;> cases h2 : is e.p <;> simp [En.mark, h1, h2] <;> omega
theorem NumsFrom.marked {is : Pk → Bool} {base : Nat} {l : List En} (h : NumsFrom base l) : NumsFrom base (marked is l) := by
 intro i e he
 unfold Go.Proofs.YtmkcpnlbicijoaaGreat.marked at he
 rw [List.getElem?_map] at he
 obtain ⟨x, hx, rfl⟩ := Option.map_eq_some_iff.1 he
 exact h i x hx
theorem drop_out : ∀ (l : List En) (base : Nat) (P : List Bool), P = List.replicate base true → NumsFrom base l →
  ∃ b2 : Nat, P ++ goneOf l = List.replicate b2 true ++ goneOf (l.dropWhile (fun e => !e.o)) ∧ NumsFrom b2 (l.dropWhile (fun e => !e.o)) ∧ b2 + (l.dropWhile (fun e => !e.o)).length = base + l.length ∧ outs (l.dropWhile (fun e => !e.o)) = outs l
 | [], base, P, hP, hn => ⟨base, by rw [hP]; rfl, hn, rfl, rfl⟩
 | e :: l, base, P, hP, hn => by
  obtain ⟨hb, hl⟩ := hn.cons
  cases ho : e.o with
  | true =>
   rw [List.dropWhile_cons_of_neg (by simp [ho])]
   exact ⟨base, by rw [hP], hn, rfl, rfl⟩
  | false =>
   rw [List.dropWhile_cons_of_pos (by simp [ho])]
   obtain ⟨b2, h1, h2, h3, h4⟩ := drop_out l (base + 1) (P ++ [true]) (by rw [hP]; exact List.replicate_succ'.symm) hl
   refine ⟨b2, ?_, h2, by simp; omega, ?_⟩
   ·rw [← h1, show goneOf (e :: l) = (!e.o) :: goneOf l from rfl, ho]
    simp
   ·rw [h4]
    unfold outs
    simp [ho]
structure Once (s : Led) (gone : List Bool) (n : Nat) : Prop where
 row : ∃ base : Nat, gone = List.replicate base true ++ goneOf s.row ∧ NumsFrom base s.row
 next : s.next = (gone.length : Int)
 num : n + (outs s.row).length = gone.length
 ok : ∀ e ∈ s.row, e.p.Ok
theorem Once.none (re : Int) : Once ⟨re, 0, 0, false, []⟩ [] 0 := ⟨⟨0, rfl, fun _ _ h => by simp at h⟩, rfl, rfl, fun _ h => absurd h List.not_mem_nil⟩
theorem Once.len {s : Led} {gone : List Bool} {n : Nat} (h : Once s gone n) : s.row.length ≤ gone.length ∧ n ≤ gone.length := by
 obtain ⟨base, h1, _⟩ := h.row
 refine ⟨?_, by have := h.num; omega⟩
 rw [h1]
 simp [goneOf]
theorem marked_ok {is : Pk → Bool} {l : List En} (h : ∀ e ∈ l, e.p.Ok) : ∀ e ∈ (marked is l).dropWhile (fun e => !e.o), e.p.Ok := by
 intro e he
 have h1 := (List.dropWhile_sublist (fun e : En => !e.o)).subset he
 obtain ⟨x, hx, rfl⟩ := List.mem_map.1 h1
 exact h x hx
theorem setsG_len (l : List Pk) (g : List Bool) : (setsG g l).length = g.length := by
 induction l generalizing g with
 | nil => rfl
 | cons p l ih => rw [show setsG g (p :: l) = setsG (setG g p) l from rfl, ih]; simp [setG]
theorem Once.take {s : Led} {gone : List Bool} {n : Nat} (h : Once s gone n) (is : Pk → Bool) : Once (s.take is) (setsG gone (taken is s.row)) (n + (taken is s.row).length) ∧
  ∀ k p, (taken is s.row)[k]? = some p → ∃ q : Nat, p.n = (q : Int) ∧ q < gone.length ∧ (setsG gone ((taken is s.row).take k))[q]? = some false := by
 obtain ⟨base, hg, hn⟩ := h.row
 have h1 := gone_taken is s.row base (List.replicate base true) (by simp) hn
 have h2 := taken_new is s.row base (List.replicate base true) (by simp) hn
 obtain ⟨b2, h3, h4, _, h6⟩ := drop_out (marked is s.row) base (List.replicate base true) rfl hn.marked
 have hlen : gone.length = base + s.row.length := by rw [hg]; simp [goneOf]
 rw [← hg] at h1 h2
 refine ⟨⟨⟨b2, by rw [h1, h3]; rfl, h4⟩, by rw [setsG_len]; exact h.next, ?_, marked_ok h.ok⟩, ?_⟩
 ·rw [setsG_len]
  have h7 := outs_marked is s.row
  have h8 := h.num
  rw [show (s.take is).row = (marked is s.row).dropWhile (fun e => !e.o) from rfl, h6]
  omega
 ·rw [hlen]; exact h2
theorem Once.top {s : Led} {gone : List Bool} {n : Nat} (h : Once s gone n) (l : List Pk) : Once (s.ackTop l) gone n := by
 unfold Led.ackTop
 split
 ·exact h
 ·exact ⟨h.row, h.next, h.num, h.ok⟩
structure Mid (s : Led) (gone : List Bool) (n : Nat) (tk : List Pk) : Prop where
 new : ∀ k p, tk[k]? = some p → ∃ q : Nat, p.n = (q : Int) ∧ q < gone.length ∧ (setsG gone (tk.take k))[q]? = some false
 once : Once s (setsG gone tk) (n + tk.length)
theorem Mid.of_none {s : Led} {gone : List Bool} {n : Nat} (h : Once s gone n) : Mid s gone n [] := ⟨fun _ _ h => by simp at h, h⟩
theorem Mid.ack {s : Led} {gone : List Bool} {n : Nat} (h : Once s gone n) (xs : List Rg) : Mid (s.ack xs).2.2 gone n (s.ack xs).1 := by
 unfold Led.ack
 split
 ·exact Mid.of_none h
 ·obtain ⟨h1, h2⟩ := h.take (ackB (putsL [] xs))
  exact ⟨h2, h1.top _⟩
theorem Mid.lost {s : Led} {gone : List Bool} {n : Nat} (h : Once s gone n) (now delay limit : Int) : Mid (s.lost now delay limit).2 gone n (s.lost now delay limit).1 := by
 obtain ⟨h1, h2⟩ := h.take (lostB s.re s.top s.some now delay limit)
 exact ⟨h2, h1⟩
theorem Once.left {s : Led} {gone : List Bool} {n : Nat} (h : Once s gone n) : ∀ (k : Nat) (p : Pk), (outs s.row)[k]? = some p → ∃ q : Nat, p.n = (q : Int) ∧ q < gone.length ∧ gone[q]? = some false := by
 intro k p hk
 obtain ⟨base, hg, hn⟩ := h.row
 obtain ⟨e, he, rfl⟩ := List.mem_map.1 (List.mem_of_getElem? hk)
 obtain ⟨he, ho⟩ := List.mem_filter.1 he
 obtain ⟨i, hi, hie⟩ := List.getElem_of_mem he
 have hie2 : s.row[i]? = some e := by rw [← hie]; exact List.getElem?_eq_getElem hi
 refine ⟨base + i, hn i e hie2, by rw [hg]; simp [goneOf]; exact hi, ?_⟩
 rw [hg, List.getElem?_append_right (by simp)]
 have : goneOf s.row = s.row.map (fun e => !e.o) := rfl
 rw [this, List.getElem?_map]
 simp [hie2, ho]
end Go.Proofs.YtmkcpnlbicijoaaGreat
namespace Go.Proofs.YtmkcpnlbicijoaaGreat
def total : List Pk → Int
 | [] => 0
 | p :: l => p.size + total l
theorem total_app (l m : List Pk) : total (l ++ m) = total l + total m := by
 induction l with
 | nil => simp [total]
 | cons p l ih => simp only [List.cons_append, total, ih]; omega
theorem total_pos {l : List Pk} (h : ∀ p ∈ l, 0 ≤ p.size) : 0 ≤ total l := by
 induction l with
 | nil => exact Int.le_refl _
 | cons p l ih =>
  have h1 := h p (List.mem_cons_self ..)
  have h2 := ih fun q hq => h q (List.mem_cons_of_mem _ hq)
  simp only [total]; omega
theorem bytesP_from : ∀ (l : List Pk) (a : Int), (∀ p ∈ l, 0 ≤ p.size) → a + total l ≤ 18446744073709551615 → l.foldl (fun n p => sadd n p.size) a = a + total l
 | [], a, _, _ => by simp [total]
 | p :: l, a, h, hm => by
  have h1 := h p (List.mem_cons_self ..)
  have h3 : ∀ q ∈ l, 0 ≤ q.size := fun q hq => h q (List.mem_cons_of_mem _ hq)
  have h2 := total_pos h3
  simp only [total] at hm
  have e : sadd a p.size = a + p.size := by unfold sadd; rw [if_neg (by omega)]
  rw [List.foldl_cons, e, bytesP_from l (a + p.size) h3 (by omega)]
  simp only [total]; omega
theorem bytesP_total {l : List Pk} (h : ∀ p ∈ l, 0 ≤ p.size) (hm : total l ≤ 18446744073709551615) : bytesP l = total l := by
 have := bytesP_from l 0 h (by omega)
 rw [Int.zero_add] at this
 exact this
theorem bytesP_snoc (l : List Pk) (p : Pk) : bytesP (l ++ [p]) = sadd (bytesP l) p.size := by unfold bytesP; rw [List.foldl_append]; rfl
theorem outs_cons (e : En) (l : List En) : outs (e :: l) = if e.o = true then e.p :: outs l else outs l := by
 unfold outs
 cases h : e.o <;> simp [h]
theorem total_marked (is : Pk → Bool) (l : List En) : total (outs (marked is l)) + total (taken is l) = total (outs l) := by
 induction l with
 | nil => rfl
 | cons e l ih =>
  rw [taken_cons, outs_cons, show marked is (e :: l) = e.mark is :: marked is l from rfl, outs_cons]
  cases h1 : e.o <;> cases h2 : is e.p <;> simp [En.mark, h1, h2, total] <;> omega
theorem outs_drop : ∀ (l : List En), outs (l.dropWhile fun e => !e.o) = outs l
 | [] => rfl
 | e :: l => by
  cases h : e.o with
  | true => rw [List.dropWhile_cons_of_neg (by simp [h])]
  | false => rw [List.dropWhile_cons_of_pos (by simp [h]), outs_drop l, outs_cons, h]; rfl
theorem total_take (s : Led) (is : Pk → Bool) : total (outs (s.take is).row) + total (taken is s.row) = total (outs s.row) := by
 rw [show (s.take is).row = (marked is s.row).dropWhile (fun e => !e.o) from rfl, outs_drop]
 exact total_marked is s.row
theorem take_len (s : Led) (is : Pk → Bool) : (s.take is).row.length ≤ s.row.length := by
 have h1 := (List.dropWhile_sublist (l := marked is s.row) (fun e => !e.o)).length_le
 have h2 : (marked is s.row).length = s.row.length := List.length_map ..
 exact Nat.le_trans h1 (Nat.le_of_eq h2)
theorem taken_ok {l : List En} (h : ∀ e ∈ l, e.p.Ok) (is : Pk → Bool) : ∀ p ∈ taken is l, p.Ok := by
 intro p hp
 obtain ⟨e, he, rfl⟩ := List.mem_map.1 hp
 exact h e (List.mem_filter.1 he).1
def Snd.all (s : Snd) : Int := s.wait + total (outs s.l.row)
structure Snd.In (c0 : Cnf) (N M : Nat) (x : Snd) : Prop where
 c : x.c = c0
 k : x.k.Ok
 re : U x.l.re
 row : ∀ e ∈ x.l.row, e.p.Ok
 few : x.l.row.length ≤ N
 n0 : 0 ≤ x.l.next
 nN : x.l.next ≤ (N : Int)
 t : x.t.Ok
 s : x.s.Ok
 e : x.e.At c0 M
 cw : 4 * c0.mss ≤ x.e.cwnd
 p : x.p.Ok
 pn : x.p.now ≤ x.k.t
 cr : x.p.cr ≤ x.p.qu * 1000000
 qu : x.p.qu ≤ 64 * c0.mss
 w : 0 ≤ x.wait
 all : x.all ≤ x.k.n
section
variable {c : Cnf} {N M : Nat} {s : Snd}
theorem Snd.In.outs0 (h : s.In c N M) : ∀ p ∈ outs s.l.row, 0 ≤ p.size := fun p hp => (outs_ok h.row p hp).2.1.1
theorem Snd.In.tot (h : s.In c N M) : 0 ≤ total (outs s.l.row) ∧ total (outs s.l.row) ≤ 72057594037927936 ∧ s.wait ≤ 72057594037927936 ∧ s.infl = total (outs s.l.row) ∧ U s.infl ∧ U s.wait := by
 have h1 := total_pos h.outs0
 have h2 := h.all
 obtain ⟨_, _, _, h3⟩ := h.k
 have h4 := h.w
 unfold Snd.all at h2
 have h5 : s.infl = total (outs s.l.row) := bytesP_total h.outs0 (by omega)
 refine ⟨h1, by omega, by omega, h5, ?_, ?_⟩
 ·rw [h5]; unfold U; omega
 ·unfold U; omega
theorem Snd.In.fresh (hc : c.Ok) (hr : c.right = true) : (Snd.fresh c).In c 0 0 := by
 have hf := Cnf.first_eq hr
 exact { c := rfl, k := Clk.ok_zero, re := hc.reorder, row := fun _ he => absurd he List.not_mem_nil, few := Nat.le_refl _, n0 := Int.le_refl _, nN := Int.le_refl _, t := Rtt.ok_zero, s := ⟨U_zero, U_zero, U_zero, U_zero⟩, e := ⟨{ c := hc, p := ⟨U_zero, Int.le_refl _, show (0 : Int) ≤ 3 by decide⟩, bd := ⟨show U 18446744073709551615 by decide, show U 18446744073709551615 by decide, show U 18446744073709551615 by decide⟩, st0 := Int.le_refl _, st6 := show (0 : Int) ≤ 6 by decide, since := U_zero, rounds := U_zero, f := ⟨hc.window, U_zero, fun _ hr => absurd hr (List.not_mem_nil)⟩, r := ⟨U_zero, U_zero⟩, rn := U_zero, k1 := U_zero, k2 := U_zero, acked := U_zero, lost := U_zero, cwnd := Cnf.U_first hc, kept := U_zero, ended := U_zero }, rfl, Nat.le_refl _⟩, cw := hf.2.1, p := Pac.ok_zero, pn := Int.le_refl _, cr := Int.le_refl _, qu := by have := Cnf.right_in hr; show (0 : Int) ≤ _; omega, w := Int.le_refl _, all := Int.le_refl _ }
theorem Snd.In.more (h : s.In c N M) {N' M' : Nat} (h1 : N ≤ N') (h2 : M ≤ M') : s.In c N' M' := { h with few := Nat.le_trans h.few h1, nN := by have := h.nN; omega, e := ⟨h.e.1, h.e.2.1, Nat.le_trans h.e.2.2 h2⟩ }
theorem count_t (k : Clk) (n : Int) : (k.count n).2.t = k.t := by
 unfold Clk.count
 repeat' split
 all_goals rfl
theorem to_t (k : Clk) (t : Int) : k.t ≤ (k.to t).2.t := by
 unfold Clk.to
 split
 ·exact Int.le_refl _
 ·split
  ·exact Int.le_refl _
  ·split
   ·exact Int.le_refl _
   ·simp only; omega
theorem Snd.In.write (h : s.In c N M) {n : Int} (hn : U n) : (s.write n).2.In c N M ∧ ((s.write n).2.all = s.all ∨ (s.write n).2.all = s.all + n) := by
 have hk := Clk.ok_count (n := n) hn.1 h.k
 have ha := h.all
 have ht := h.tot
 by_cases h0 : (s.k.count n).1 = 0
 ·have e1 : (s.k.count n).2.n = s.k.n + n := by
   unfold Clk.count at h0 ⊢
   split at h0
   ·simp at h0
   ·split at h0
    ·simp at h0
    ·rename_i q1 q2
     rw [if_neg q1, if_neg q2]
  have hk2 := hk.2.2.2
  have e2 : (s.write n).2 = { s with k := (s.k.count n).2, wait := s.wait + n } := by
   unfold Snd.write
   simp only
   rw [if_pos h0]
   have : sadd s.wait n = s.wait + n := by
    unfold sadd
    rw [if_neg]
    unfold Snd.all at ha
    omega
   rw [this]
  rw [e2]
  have et := count_t s.k n
  refine ⟨{ h with k := hk, pn := by simp only; rw [et]; exact h.pn, w := ?_, all := ?_ }, .inr ?_⟩
  ·have := h.w; have := hn.1; simp only; omega
  ·unfold Snd.all at ha ⊢
   simp only
   rw [e1]; omega
  ·unfold Snd.all; simp only; omega
 ·have e2 : (s.write n).2 = { s with k := (s.k.count n).2 } := by
   unfold Snd.write
   simp only
   rw [if_neg h0]
  rw [e2]
  have e1 : s.k.n ≤ (s.k.count n).2.n := by
   unfold Clk.count
   split
   ·exact Int.le_refl _
   ·split
    ·exact Int.le_refl _
    ·show s.k.n ≤ s.k.n + n; have := hn.1; omega
  have et := count_t s.k n
  exact ⟨{ h with k := hk, pn := by simp only; rw [et]; exact h.pn, all := Int.le_trans ha e1 }, .inl rfl⟩
theorem Snd.In.clock (h : s.In c N M) (t : Int) : (s.clock t).In c N M := by
 have e1 : (s.k.to t).2.n = s.k.n := by
  unfold Clk.to
  repeat' split
  all_goals rfl
 have e2 := to_t s.k t
 exact { h with k := Clk.ok_to h.k, pn := Int.le_trans h.pn e2, all := by have := h.all; unfold Snd.all at this ⊢; unfold Snd.clock; simp only; rw [e1]; exact this }
theorem Snd.In.goneOk (h : s.In c N M) : (∀ p ∈ s.gone, p.Ok) ∧ total (outs s.left.row) + total s.gone = total (outs s.l.row) ∧ bytesP s.gone = total s.gone ∧ U (bytesP s.gone) ∧ 0 ≤ total s.gone := by
 have h1 : ∀ p ∈ s.gone, p.Ok := taken_ok h.row _
 have h2 : total (outs s.left.row) + total s.gone = total (outs s.l.row) := total_take s.l _
 have h3 := total_pos (fun p hp => (h1 p hp).2.1.1)
 have h6 : 0 ≤ total (outs s.left.row) := total_pos fun p hp => (outs_ok (marked_ok h.row) p hp).2.1.1
 have h4 := h.tot
 have h5 : bytesP s.gone = total s.gone := bytesP_total (fun p hp => (h1 p hp).2.1.1) (by omega)
 exact ⟨h1, h2, h5, by rw [h5]; unfold U; omega, h3⟩
theorem Snd.In.lose (h : s.In c N M) : s.lose.In c N M ∧ s.lose.all = s.all := by
 obtain ⟨g1, g2, g3, g4, g5⟩ := h.goneOk
 have ht := h.tot
 have h6 : 0 ≤ total (outs s.left.row) := total_pos fun p hp => (outs_ok (marked_ok h.row) p hp).2.1.1
 have e1 : sadd s.wait (bytesP s.gone) = s.wait + total s.gone := by
  rw [g3]; unfold sadd
  have := h.all
  have := h.k.2.2.2
  unfold Snd.all at *
  rw [if_neg (by omega)]
 have e2 : s.lose.all = s.all := by
  unfold Snd.all Snd.lose
  simp only
  rw [e1]; omega
 refine ⟨{ h with re := h.re, row := marked_ok h.row, few := Nat.le_trans (take_len _ _) h.few, n0 := h.n0, nN := h.nN, t := ?_, w := ?_, all := by rw [e2]; exact h.all }, e2⟩
 ·unfold Snd.lose
  simp only
  split
  ·exact Rtt.ok_double h.t
  ·exact h.t
 ·unfold Snd.lose
  simp only
  rw [e1]
  have := h.w
  omega
theorem Snd.In.told (h : s.In c N M) (hr : c.right = true) {x : Evt} (hx : x.Ok) : (s.told x).In c N (M + 1) ∧ (s.told x).all = s.all := by
 have h1 := h.e.on hx
 have h2 := h.e.fine hr hx
 exact ⟨{ h with e := h1, cw := h2.1.1 }, rfl⟩
theorem Snd.In.pace (h : s.In c N M) (hr : c.right = true) {now : Int} (hn : U now) (hkt : s.k.t = now) : (s.pace now).In c N M ∧ (s.pace now).all = s.all ∧ (s.pace now).p.qu = s.e.quantum ∧ (s.pace now).p.rate = s.e.pace ∧ (s.pace now).p.now = now := by
 have hk : s.p.now ≤ now := by rw [← hkt]; exact h.pn
 have hr' : s.e.c.right = true := by rw [h.e.2.1]; exact hr
 have hq := Eng.quantum_in hr'
 have hp := Eng.pace_in hr'
 rw [h.e.2.1] at hq hp
 have hm := Cnf.right_in hr
 have hU1 : U s.e.pace := by unfold U; omega
 have hU2 : U s.e.quantum := by unfold U; omega
 have e1 : (s.p.tick now s.e.pace s.e.quantum).2 = ⟨now, min (sadd s.p.cr (smul s.e.pace (now - s.p.now))) (smul s.e.quantum 1000000), s.e.pace, s.e.quantum⟩ := by
  unfold Pac.tick
  rw [if_neg (by omega)]
 have e2 : smul s.e.quantum 1000000 = s.e.quantum * 1000000 := smul_in (by omega)
 refine ⟨{ h with p := Pac.ok_tick h.p hn hU1 hU2, pn := ?_, cr := ?_, qu := ?_ }, rfl, ?_, ?_, ?_⟩
 ·unfold Snd.pace
  simp only [e1]
  omega
 ·unfold Snd.pace
  simp only [e1]
  rw [e2]; omega
 ·unfold Snd.pace
  simp only [e1]
  exact hq.2
 ·unfold Snd.pace; simp only [e1]
 ·unfold Snd.pace; simp only [e1]
 ·unfold Snd.pace; simp only [e1]
end
end Go.Proofs.YtmkcpnlbicijoaaGreat
