/- meter: what is run is in the envelope; what is in it is run; more waste. In plain words. -/
import Derived.Test.YtoimbdbajpjmjaaMeter5
namespace Go.Proofs.Ytoimbdbajpjmjaa
/-- Either nothing is in the queue, or there are no tokens. -/
def MRow.One (x : MRow) : Prop := x.queue = 0 ∨ x.tokens = 0
theorem MRow.next_spec (room : Int) (x : MRow) (t : MTurn) : ∃ inn sv v', x.next room t = ⟨x.g + t.g, x.c + t.c, x.d + (t.c - inn), x.s + sv, v'⟩ ∧ inn = min t.c (room - (x.c - x.d - x.s)) ∧ sv = min (x.c + t.c - (x.d + (t.c - inn)) - x.s) (x.g + t.g - x.s - x.v) ∧
    ((x.c + t.c - (x.d + (t.c - inn)) - (x.s + sv) = 0 ∧ v' = x.v + min t.v (x.g + t.g - (x.s + sv) - x.v)) ∨ (¬ x.c + t.c - (x.d + (t.c - inn)) - (x.s + sv) = 0 ∧ v' = x.v)) := by
  refine ⟨_, _, _, rfl, rfl, rfl, ?_⟩
  rcases Decidable.em (x.c + t.c - (x.d + (t.c - min t.c (room - x.queue))) - (x.s + min (x.c + t.c - (x.d + (t.c - min t.c (room - x.queue))) - x.s) (x.g + t.g - x.s - x.v)) = 0) with h | h
  · exact .inl ⟨h, if_pos h⟩
  · exact .inr ⟨h, if_neg h⟩
theorem One.next {room B : Int} {x : MRow} {t : MTurn} (h : x.In room B) (ht : t.Ok) : (x.next room t).One := by
  obtain ⟨inn, sv, v', e, h1, h2, h3⟩ := MRow.next_spec room x t
  rw [e]
  clear e
  obtain ⟨g0, gB, cB, d0, s0, v0, q0, qr, t0⟩ := h
  obtain ⟨⟨u1, _⟩, ⟨u2, _⟩, ⟨u3, _⟩⟩ := ht
  unfold MRow.One
  unfold MRow.queue MRow.tokens at *
  simp only
  omega
theorem mClause_next {room B : Int} {x : MRow} {t : MTurn} (h : x.In room B) (ho : x.One) (hf : t.few) (ht : t.Ok) : mClause room x (x.next room t) = 0 := by
  unfold MRow.One at ho
  obtain ⟨g0, gB, cB, d0, s0, v0, q0, qr, t0⟩ := h
  obtain ⟨f1, f2, f3⟩ := hf
  obtain ⟨⟨u1, _⟩, ⟨u2, _⟩, ⟨u3, _⟩⟩ := ht
  obtain ⟨x1, x2, x3, x4, x5⟩ := x
  obtain ⟨t1, t2, t3⟩ := t
  unfold MRow.queue MRow.tokens at *
  simp only at g0 gB cB d0 s0 v0 q0 qr t0 f1 f2 f3 u1 u2 u3 ho
  obtain ⟨inn, hinn⟩ : ∃ inn, min t2 (room - (x2 - x3 - x4)) = inn := ⟨_, rfl⟩
  obtain ⟨sv, hsv⟩ : ∃ sv, min (x2 + t2 - (x3 + (t2 - inn)) - x4) (x1 + t1 - x4 - x5) = sv := ⟨_, rfl⟩
  have hnx : MRow.next room ⟨x1, x2, x3, x4, x5⟩ ⟨t1, t2, t3⟩ = ⟨x1 + t1, x2 + t2, x3 + (t2 - inn), x4 + sv, if x2 + t2 - (x3 + (t2 - inn)) - (x4 + sv) = 0 then x5 + min t3 (x1 + t1 - (x4 + sv) - x5) else x5⟩ := by
    simp only [MRow.next, MRow.queue, hinn, hsv]
  rw [hnx]
  clear hnx
  obtain ⟨v', hv'⟩ : ∃ v', (if x2 + t2 - (x3 + (t2 - inn)) - (x4 + sv) = 0 then x5 + min t3 (x1 + t1 - (x4 + sv) - x5) else x5) = v' := ⟨_, rfl⟩
  rw [hv']
  have hf : MRow.falls ⟨x1, x2, x3, x4, x5⟩ ⟨x1 + t1, x2 + t2, x3 + (t2 - inn), x4 + sv, v'⟩ = false := by
    refine falls_of_all ?_ ?_ ?_ ?_ ?_ <;> (unfold mGrow; simp only [decide_eq_true_eq]; split at hv' <;> omega)
  unfold mClause
  split at hv' <;> rw [if_neg (by rw [hf]; decide), if_neg (by simp only; omega), if_neg (by simp only; omega), if_neg (by simp only; omega), if_neg (by simp only [MRow.queue, MRow.tokens]; omega)]
theorem mCheck_rows {room : Int} (ts : List MTurn) : ∀ (x : MRow) (B : Int) (k : Nat), x.In room B → x.One → (∀ t ∈ ts, t.few ∧ t.Ok) → mCheck room x k (mRows room x ts) = (0, 0) := by
  induction ts with
  | nil => intro x B k _ _ _; rfl
  | cons t ts ih =>
    intro x B k h ho hf
    have h1 := hf t (by simp)
    rw [mRows, mCheck, if_pos (mClause_next h ho h1.1 h1.2)]
    exact ih _ _ _ (MRow.in_next h h1.1 h1.2) (One.next h h1.2) (fun t ht => hf t (by simp [ht]))
/-- What is fine is the next row of its turn. -/
theorem next_turn {room B : Int} {a b : MRow} (h : a.In room B) (hb : b.Ok) (hc : mClause room a b = 0) : a.next room (a.turn b) = b ∧ (a.turn b).few ∧ (a.turn b).Ok := by
  have hf := mClause_zero_falls hc
  obtain ⟨⟨f1, f1'⟩, ⟨f2, f2'⟩, ⟨f3, f3'⟩, ⟨f4, f4'⟩, ⟨f5, f5'⟩⟩ := falls_false hf
  obtain ⟨g0, gB, cB, d0, s0, v0, q0, qr, t0⟩ := h
  obtain ⟨⟨o1, o1'⟩, ⟨o2, o2'⟩, ⟨o3, o3'⟩, ⟨o4, o4'⟩, ⟨o5, o5'⟩⟩ := hb
  obtain ⟨a1, a2, a3, a4, a5⟩ := a
  obtain ⟨b1, b2, b3, b4, b5⟩ := b
  unfold mClause at hc
  rw [if_neg (by rw [hf]; decide)] at hc
  unfold MRow.queue MRow.tokens at *
  simp only at f1 f1' f2 f2' f3 f3' f4 f4' f5 f5' g0 gB cB d0 s0 v0 q0 qr t0 hc o1 o1' o2 o2' o3 o3' o4 o4' o5 o5'
  have e1 : MRow.turn ⟨a1, a2, a3, a4, a5⟩ ⟨b1, b2, b3, b4, b5⟩ = ⟨b1 - a1, b2 - a2, b5 - a5⟩ := by
    simp only [MRow.turn, MTurn.mk.injEq]; omega
  rw [e1]
  clear e1
  have c2 : ¬ (b2 < b3 + a4 ∨ room < b2 - (b3 + a4)) := by
    intro h; rw [if_pos h] at hc; omega
  rw [if_neg c2] at hc
  have c3 : ¬ (a3 < b3 ∧ b2 - (b3 + a4) < room) := by
    intro h; rw [if_pos h] at hc; omega
  rw [if_neg c3] at hc
  have c4 : ¬ (b2 < b3 + b4 ∨ b1 < b4 + b5) := by
    intro h; rw [if_pos h] at hc; omega
  rw [if_neg c4] at hc
  have c5 : ¬ (0 < b2 - b3 - b4 ∧ (0 < b1 - b4 - b5 ∨ a5 < b5)) := by
    intro h; rw [if_pos h] at hc; omega
  clear hc hf
  refine ⟨?_, ⟨f1', f2', f5'⟩, ?_⟩
  · have hin : a3 + (b2 - a2 - min (b2 - a2) (room - (a2 - a3 - a4))) = b3 := by omega
    have hc' : a2 + (b2 - a2) = b2 := by omega
    have hg' : a1 + (b1 - a1) = b1 := by omega
    have hs' : a4 + min (b2 - b3 - a4) (b1 - a4 - a5) = b4 := by omega
    simp only [MRow.next, MRow.queue, hin, hc', hg', hs', MRow.mk.injEq, true_and]
    split <;> omega
  · unfold MTurn.Ok U
    simp only
    omega
theorem mRows_turns {room : Int} (l : List MRow) : ∀ (a : MRow) (B : Int) (k : Nat) (i : Int), a.In room B → (∀ b ∈ l, b.Ok) → mCheck room a k l = (i, 0) → mRows room a (mTurns a l) = l ∧ (∀ t ∈ mTurns a l, t.few ∧ t.Ok) := by
  induction l with
  | nil => intro a B k i _ _ _; exact ⟨rfl, by intro t ht; cases ht⟩
  | cons b l ih =>
    intro a B k i h hU hc
    rw [mCheck_cons] at hc
    have hz : mClause room a b = 0 := by
      by_cases hz : mClause room a b = 0
      · exact hz
      · rw [if_neg hz] at hc
        exact congrArg Prod.snd hc
    rw [if_pos hz] at hc
    obtain ⟨e1, e2, e3⟩ := next_turn h (hU b (by simp)) hz
    have hbin := MRow.in_next h e2 e3
    rw [e1] at hbin
    obtain ⟨h1, h2⟩ := ih b _ _ i hbin (fun x hx => hU x (by simp [hx])) hc
    refine ⟨by rw [mTurns, mRows, e1, h1], ?_⟩
    intro t ht
    rw [mTurns, List.mem_cons] at ht
    rcases ht with rfl | ht
    · exact ⟨e2, e3⟩
    · exact h2 t ht
theorem mRun_turns {room : Int} (hr : 0 ≤ room) {l : List MRow} {i : Int} (hU : ∀ b ∈ l, b.Ok) (hc : mChecked room l = (i, 0)) : mRun room (mTurns MRow.zero l) = (l, 0) := by
  unfold mChecked at hc
  split at hc
  · have := congrArg Prod.snd hc
    simp at this
  · rename_i hn
    obtain ⟨h1, h2⟩ := mRows_turns l MRow.zero 0 0 i (MRow.in_zero hr) hU hc
    have hl : (mTurns MRow.zero l).length = l.length := by
      have key : ∀ (a : MRow) (l : List MRow), (mTurns a l).length = l.length := by
        intro a l
        induction l generalizing a with
        | nil => rfl
        | cons b l ih => simp [mTurns, ih]
      exact key _ _
    rw [mRun_good, h1]
    rintro (h | h | h)
    · omega
    · rw [hl] at h; omega
    · exact h (fun t ht => (h2 t ht).1)
theorem mChecked_run {room : Int} (hr : 0 ≤ room) {ts : List MTurn} (hU : ∀ t ∈ ts, t.Ok) (h : (mRun room ts).2 = 0) : mChecked room (mRun room ts).1 = (0, 0) ∧ (mRun room ts).1.length = ts.length := by
  unfold mRun at h ⊢
  split at h
  · simp at h
  · rename_i hn
    rw [if_neg hn]
    simp only
    unfold mBad at hn
    have hf : ∀ t ∈ ts, t.few := Decidable.not_not.1 (fun h => hn (.inr (.inr h)))
    refine ⟨?_, mRows_len _ _ _⟩
    unfold mChecked
    rw [if_neg (by rw [mRows_len]; omega)]
    exact mCheck_rows ts MRow.zero 0 0 (MRow.in_zero hr) (.inl rfl) (fun t ht => ⟨hf t ht, hU t ht⟩)
/-- One row is of a link that wastes more than another one's. -/
structure MRow.Less (x y : MRow) : Prop where
  g : y.g = x.g
  c : y.c = x.c
  d : x.d ≤ y.d
  q : x.queue ≤ y.queue
  t : y.tokens ≤ x.tokens
  i : x.queue = 0 ∨ x.tokens = 0
  j : y.queue = 0 ∨ y.tokens = 0
theorem Less.next {room B : Int} {x y : MRow} {t : MTurn} {v : Int} (h : x.Less y) (hx : x.In room B) (hy : y.In room B) (ht : t.Ok) (hv : t.v ≤ v) : (x.next room t).Less (y.next room ⟨t.g, t.c, v⟩) := by
  obtain ⟨h1, h2, h3, h4, h5, h6, h7⟩ := h
  obtain ⟨_, _, _, _, _, _, q0, qr, t0⟩ := hx
  obtain ⟨_, _, _, _, _, _, r0, rr, u0⟩ := hy
  obtain ⟨⟨u1, _⟩, ⟨u2, _⟩, ⟨u3, _⟩⟩ := ht
  obtain ⟨x1, x2, x3, x4, x5⟩ := x
  obtain ⟨y1, y2, y3, y4, y5⟩ := y
  obtain ⟨t1, t2, t3⟩ := t
  unfold MRow.queue MRow.tokens at *
  simp only at *
  subst h1 h2
  obtain ⟨ix, hix⟩ : ∃ ix, min t2 (room - (y2 - x3 - x4)) = ix := ⟨_, rfl⟩
  obtain ⟨iy, hiy⟩ : ∃ iy, min t2 (room - (y2 - y3 - y4)) = iy := ⟨_, rfl⟩
  obtain ⟨sx, hsx⟩ : ∃ sx, min (y2 + t2 - (x3 + (t2 - ix)) - x4) (y1 + t1 - x4 - x5) = sx := ⟨_, rfl⟩
  obtain ⟨sy, hsy⟩ : ∃ sy, min (y2 + t2 - (y3 + (t2 - iy)) - y4) (y1 + t1 - y4 - y5) = sy := ⟨_, rfl⟩
  have ex : MRow.next room ⟨y1, y2, x3, x4, x5⟩ ⟨t1, t2, t3⟩ = ⟨y1 + t1, y2 + t2, x3 + (t2 - ix), x4 + sx, if y2 + t2 - (x3 + (t2 - ix)) - (x4 + sx) = 0 then x5 + min t3 (y1 + t1 - (x4 + sx) - x5) else x5⟩ := by
    simp only [MRow.next, MRow.queue, hix, hsx]
  have ey : MRow.next room ⟨y1, y2, y3, y4, y5⟩ ⟨t1, t2, v⟩ = ⟨y1 + t1, y2 + t2, y3 + (t2 - iy), y4 + sy, if y2 + t2 - (y3 + (t2 - iy)) - (y4 + sy) = 0 then y5 + min v (y1 + t1 - (y4 + sy) - y5) else y5⟩ := by
    simp only [MRow.next, MRow.queue, hiy, hsy]
  rw [ex, ey]
  clear ex ey
  obtain ⟨vx, hvx⟩ : ∃ vx, (if y2 + t2 - (x3 + (t2 - ix)) - (x4 + sx) = 0 then x5 + min t3 (y1 + t1 - (x4 + sx) - x5) else x5) = vx := ⟨_, rfl⟩
  obtain ⟨vy, hvy⟩ : ∃ vy, (if y2 + t2 - (y3 + (t2 - iy)) - (y4 + sy) = 0 then y5 + min v (y1 + t1 - (y4 + sy) - y5) else y5) = vy := ⟨_, rfl⟩
  rw [hvx, hvy]
  have hq : y2 + t2 - (x3 + (t2 - ix)) - (x4 + sx) ≤ y2 + t2 - (y3 + (t2 - iy)) - (y4 + sy) := by omega
  have hd : x3 + (t2 - ix) ≤ y3 + (t2 - iy) := by omega
  have hix2 : y2 + t2 - (x3 + (t2 - ix)) - (x4 + sx) = 0 ∨ y1 + t1 - (x4 + sx) - x5 = 0 := by omega
  have hiy2 : y2 + t2 - (y3 + (t2 - iy)) - (y4 + sy) = 0 ∨ y1 + t1 - (y4 + sy) - y5 = 0 := by omega
  have htk : y1 + t1 - (y4 + sy) - y5 ≤ y1 + t1 - (x4 + sx) - x5 := by omega
  have hq0 : 0 ≤ y2 + t2 - (x3 + (t2 - ix)) - (x4 + sx) := by omega
  have ht0 : 0 ≤ y1 + t1 - (y4 + sy) - y5 := by omega
  clear hix hiy hsx hsy h3 h4 h5 h6 h7 q0 qr t0 r0 rr u0
  refine ⟨rfl, rfl, hd, hq, ?_, ?_, ?_⟩ <;> simp only [MRow.queue, MRow.tokens] <;> split at hvx <;> split at hvy <;> omega
end Go.Proofs.Ytoimbdbajpjmjaa
