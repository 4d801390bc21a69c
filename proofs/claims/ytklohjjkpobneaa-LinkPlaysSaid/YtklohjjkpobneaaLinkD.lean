/- link: a path with a bottleneck, in plain words. -/
import Derived.Test.YtklohjjkpobneaaBucket
import Derived.Test.YtklohjjkpobneaaQueue
import Derived.Test.YtklohjjkpobneaaJitter
namespace Go.Proofs.Ytklohjjkpobneaa
/-- A link: its path, time, counts, bucket, queue, and box. -/
structure Lnk where
  rate : Int
  delay : Int
  jit : Int
  buf : Int
  now : Int
  came : Int
  served : Int
  deliv : Int
  b : Bkt
  q : Que
  x : Bo
def sumF (n : Int) (l : List Pk) : Int := l.foldl (fun n p => sadd n p.size) n
def Lnk.new (rate delay jit buf : Int) : Lnk := ⟨rate, delay, jit, buf, 0, 0, 0, 0, Bkt.new rate, Que.new buf, Bo.new delay jit⟩
def Lnk.send1 (s : Lnk) (p : Pk) : Lnk := { s with came := sadd s.came p.size, q := (s.q.put p).2 }
def sendF (a : Lnk × Nat) (p : Pk) : Lnk × Nat := (a.1.send1 p, if (a.1.q.put p).1 then a.2 + 1 else a.2)
def Lnk.send (s : Lnk) (l : List Pk) : Lnk × Nat := l.foldl sendF (s, 0)
def Lnk.serve1 (s : Lnk) (p : Pk) (c : Int) : Lnk := { s with b := (s.b.take p.size).2, q := s.q.shift.2, served := sadd s.served p.size, x := s.x.put p s.now c }
def Lnk.serveN : Nat → List Int → Lnk → Lnk
  | 0, _, s => s
  | n + 1, ch, s => match s.q.l with
    | [] => s
    | p :: _ => if (s.b.take p.size).1 = true then Lnk.serveN n ch.tail (s.serve1 p (ch.headD 0)) else s
def Lnk.serve (s : Lnk) (ch : List Int) : Lnk := Lnk.serveN s.q.l.length ch s
def Lnk.begin (s : Lnk) (t : Int) : Lnk := { s with now := t, b := s.b.to t }
def Lnk.spill (s : Lnk) (w : Int) : Lnk := if s.q.l = [] then { s with b := (s.b.waste w).2 } else s
def Lnk.out (s : Lnk) (t : Int) : Lnk := { s with x := (s.x.out t).2, deliv := sumF s.deliv (s.x.out t).1 }
/-- A tick's middle: behind the serving. -/
def Lnk.mid (s : Lnk) (t w : Int) (ch : List Int) : Lnk := ((s.begin t).serve ch).spill w
def Lnk.tick (s : Lnk) (t w : Int) (ch : List Int) : Lnk := (s.mid t w ch).out t
def Lnk.outs (s : Lnk) (t w : Int) (ch : List Int) : List Pk := ((s.mid t w ch).x.out t).1
def Lnk.under (s : Lnk) : Int := sumF 0 (s.x.l.map Du.p)
structure Lnk.Ok (s : Lnk) : Prop where
  rate : U s.rate
  delay : U s.delay
  jit : U s.jit
  buf : U s.buf
  now : U s.now
  came : U s.came
  served : U s.served
  deliv : U s.deliv
  b : s.b.Ok
  q : s.q.Ok
  x : s.x.Ok
  ps : ∀ d ∈ s.x.l, d.p.Ok
theorem U_sumF {n : Int} {l : List Pk} (h : U n) (hl : ∀ p ∈ l, p.Ok) : U (sumF n l) := by
  induction l generalizing n with
  | nil => exact h
  | cons p l ih => exact ih (U_sadd h (hl p (List.mem_cons_self ..)).2.1) fun q hq => hl q (List.mem_cons_of_mem _ hq)
theorem Lnk.ok_new {rate delay jit buf : Int} (h1 : U rate) (h2 : U delay) (h3 : U jit) (h4 : U buf) : (Lnk.new rate delay jit buf).Ok :=
  ⟨h1, h2, h3, h4, U_zero, U_zero, U_zero, U_zero, Bkt.ok_new h1, Que.ok_new h4, Bo.ok_new h2 h3, fun d hd => by cases hd⟩
theorem Lnk.ok_send1 {s : Lnk} {p : Pk} (h : s.Ok) (hp : p.Ok) : (s.send1 p).Ok :=
  ⟨h.rate, h.delay, h.jit, h.buf, h.now, U_sadd h.came hp.2.1, h.served, h.deliv, h.b, Que.ok_put h.q hp, h.x, h.ps⟩
theorem sendF_ok {a : Lnk × Nat} {l : List Pk} (h : a.1.Ok) (hl : ∀ p ∈ l, p.Ok) : (l.foldl sendF a).1.Ok := by
  induction l generalizing a with
  | nil => exact h
  | cons p l ih => exact ih (Lnk.ok_send1 h (hl p (List.mem_cons_self ..))) fun q hq => hl q (List.mem_cons_of_mem _ hq)
theorem Lnk.ok_send {s : Lnk} {l : List Pk} (h : s.Ok) (hl : ∀ p ∈ l, p.Ok) : (s.send l).1.Ok := sendF_ok h hl
theorem Lnk.ok_serve1 {s : Lnk} {p : Pk} {c : Int} (h : s.Ok) (hp : p.Ok) (hc : U c) : (s.serve1 p c).Ok := by
  refine ⟨h.rate, h.delay, h.jit, h.buf, h.now, h.came, U_sadd h.served hp.2.1, h.deliv, Bkt.ok_take hp.2.1 h.b, Que.ok_shift h.q, Bo.ok_put h.x h.now hc, fun d hd => ?_⟩
  rcases List.mem_append.1 hd with hd | hd
  · exact h.ps d hd
  · rw [List.mem_singleton.1 hd]; exact hp
theorem U_headD {ch : List Int} (h : ∀ c ∈ ch, U c) : U (ch.headD 0) := by
  cases ch with
  | nil => exact U_zero
  | cons c ch => exact h c (List.mem_cons_self ..)
theorem Lnk.ok_serveN {n : Nat} {ch : List Int} {s : Lnk} (h : s.Ok) (hc : ∀ c ∈ ch, U c) : (Lnk.serveN n ch s).Ok := by
  induction n generalizing ch s with
  | zero => exact h
  | succ n ih =>
    unfold Lnk.serveN
    cases hq : s.q.l with
    | nil => exact h
    | cons p l =>
      simp only
      split
      · exact ih (Lnk.ok_serve1 h (h.q.all p (by rw [hq]; exact List.mem_cons_self ..)) (U_headD hc)) fun c hm => hc c (List.mem_of_mem_tail hm)
      · exact h
theorem Lnk.ok_begin {s : Lnk} {t : Int} (h : s.Ok) (ht : U t) : (s.begin t).Ok := ⟨h.rate, h.delay, h.jit, h.buf, ht, h.came, h.served, h.deliv, Bkt.ok_to ht h.b, h.q, h.x, h.ps⟩
theorem Lnk.ok_spill {s : Lnk} {w : Int} (h : s.Ok) (hw : U w) : (s.spill w).Ok := by
  unfold Lnk.spill; split
  · exact ⟨h.rate, h.delay, h.jit, h.buf, h.now, h.came, h.served, h.deliv, Bkt.ok_waste hw h.b, h.q, h.x, h.ps⟩
  · exact h
theorem outL_ok {t : Int} {l : List Du} (h : ∀ d ∈ l, d.p.Ok) : ∀ p ∈ Bo.outL t l, p.Ok := by
  intro p hp
  obtain ⟨d, hd, rfl⟩ := List.mem_map.1 hp
  exact h d ((List.takeWhile_sublist _).subset hd)
theorem Lnk.ok_out {s : Lnk} {t : Int} (h : s.Ok) : (s.out t).Ok :=
  ⟨h.rate, h.delay, h.jit, h.buf, h.now, h.came, h.served, U_sumF h.deliv (outL_ok h.ps), h.b, h.q, Bo.ok_out h.x, fun d hd => h.ps d ((List.dropWhile_sublist _).subset hd)⟩
theorem Lnk.ok_mid {s : Lnk} {t w : Int} {ch : List Int} (h : s.Ok) (ht : U t) (hw : U w) (hc : ∀ c ∈ ch, U c) : (s.mid t w ch).Ok := Lnk.ok_spill (Lnk.ok_serveN (Lnk.ok_begin h ht) hc) hw
theorem Lnk.ok_tick {s : Lnk} {t w : Int} {ch : List Int} (h : s.Ok) (ht : U t) (hw : U w) (hc : ∀ c ∈ ch, U c) : (s.tick t w ch).Ok := Lnk.ok_out (Lnk.ok_mid h ht hw hc)
/-- How many packets are in it. -/
def Lnk.len (s : Lnk) : Nat := s.q.l.length + s.x.l.length
theorem Lnk.len_send1 (s : Lnk) (p : Pk) : (s.send1 p).len ≤ s.len + 1 := by
  unfold Lnk.send1 Lnk.len Que.put
  split
  · simp only [List.length_append, List.length_singleton]; omega
  · simp only; omega
theorem sendF_len (a : Lnk × Nat) (l : List Pk) : (l.foldl sendF a).1.len ≤ a.1.len + l.length := by
  induction l generalizing a with
  | nil => exact Nat.le_refl _
  | cons p l ih =>
    refine Nat.le_trans (ih _) ?_
    have := Lnk.len_send1 a.1 p
    show (a.1.send1 p).len + l.length ≤ a.1.len + (l.length + 1)
    omega
theorem sendF_cnt (a : Lnk × Nat) (l : List Pk) : (l.foldl sendF a).2 ≤ a.2 + l.length := by
  induction l generalizing a with
  | nil => exact Nat.le_refl _
  | cons p l ih =>
    refine Nat.le_trans (ih _) ?_
    show (if (a.1.q.put p).1 then a.2 + 1 else a.2) + l.length ≤ a.2 + (l.length + 1)
    split <;> omega
theorem send_step {s : Lnk} {l : List Pk} {k : Nat} {p : Pk} (h : l[k]? = some p) : s.send (l.take (k + 1)) = sendF (s.send (l.take k)) p := by
  unfold Lnk.send
  rw [List.take_add_one, h]
  simp
theorem Lnk.len_serve1 {s : Lnk} {p : Pk} {l : List Pk} (c : Int) (h : s.q.l = p :: l) : (s.serve1 p c).len = s.len := by
  have h1 : (s.serve1 p c).q.l.length = l.length := by show (s.q.l.drop 1).length = _; rw [h]; rfl
  have h2 : (s.serve1 p c).x.l.length = s.x.l.length + 1 := by show (s.x.l ++ [_]).length = _; simp
  unfold Lnk.len
  rw [h1, h2, h, List.length_cons]; omega
theorem Lnk.len_serveN (n : Nat) (ch : List Int) (s : Lnk) : (Lnk.serveN n ch s).len = s.len := by
  induction n generalizing ch s with
  | zero => rfl
  | succ n ih =>
    unfold Lnk.serveN
    cases hq : s.q.l with
    | nil => rfl
    | cons p l =>
      simp only
      split
      · rw [ih, Lnk.len_serve1 _ hq]
      · rfl
theorem Lnk.len_spill (s : Lnk) (w : Int) : (s.spill w).len = s.len := by unfold Lnk.spill; split <;> rfl
theorem Lnk.len_mid (s : Lnk) (t w : Int) (ch : List Int) : (s.mid t w ch).len = s.len := by
  unfold Lnk.mid Lnk.serve; rw [Lnk.len_spill, Lnk.len_serveN]; rfl
theorem Lnk.len_tick (s : Lnk) (t w : Int) (ch : List Int) : (s.tick t w ch).len ≤ s.len := by
  have h1 := Lnk.len_mid s t w ch
  have h2 := (List.dropWhile_sublist (l := (s.mid t w ch).x.l) fun d => decide (d.t ≤ t)).length_le
  unfold Lnk.len at *
  show (s.mid t w ch).q.l.length + (Bo.restL t (s.mid t w ch).x.l).length ≤ _
  unfold Bo.restL
  omega
theorem serveN_step {n : Nat} {ch : List Int} {s : Lnk} {p : Pk} {l : List Pk} (h : s.q.l = p :: l) : Lnk.serveN (n + 1) ch s = if (s.b.take p.size).1 = true then Lnk.serveN n ch.tail (s.serve1 p (ch.headD 0)) else s := by
  conv => lhs; unfold Lnk.serveN
  rw [h]
theorem serveN_none {n : Nat} {ch : List Int} {s : Lnk} (h : s.q.l = []) : Lnk.serveN n ch s = s := by
  cases n with
  | zero => rfl
  | succ n => unfold Lnk.serveN; rw [h]
end Go.Proofs.Ytklohjjkpobneaa
