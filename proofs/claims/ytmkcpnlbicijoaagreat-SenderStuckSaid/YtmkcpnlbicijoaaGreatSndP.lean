/- sender: what an act lets go, and that a sender is never stuck, in plain words. -/
import Derived.Test.YtmkcpnlbicijoaaGreatSnd9
namespace Go.Proofs.YtmkcpnlbicijoaaGreat
def Led.Pos (l : Led) : Prop := ∀ e ∈ l.row, 0 < e.p.size
def Led.To (a b : Led) : Prop := b.next = a.next ∧ (a.Pos → b.Pos)
theorem Led.To.rfl {a : Led} : a.To a := ⟨Eq.refl _, id⟩
theorem Led.To.trans {a b c : Led} (h : a.To b) (h' : b.To c) : a.To c := ⟨h'.1.trans h.1, fun q => h'.2 (h.2 q)⟩
theorem Led.to_take (s : Led) (is : Pk → Bool) : s.To (s.take is) := by
 refine ⟨Eq.refl _, fun hp e he => ?_⟩
 have h1 : e ∈ marked is s.row := (List.dropWhile_sublist _).subset he
 obtain ⟨e', he', rfl⟩ := List.mem_map.1 h1
 exact hp e' he'
theorem Led.to_ack (s : Led) (xs : List Rg) : s.To (s.ack xs).2.2 := by
 unfold Led.ack
 split
 ·exact Led.To.rfl
 ·have h := Led.to_take s (ackB (putsL [] xs))
  show s.To (Led.ackTop _ _)
  unfold Led.ackTop
  split
  ·exact h
  ·exact h
theorem Led.to_gain (s : Snd) (now : Int) (tk : List Pk) : s.l.To (s.gain now tk).l := by
 cases tk with
 | nil => exact Led.To.rfl
 | cons p0 tk => exact Led.to_take s.l _
theorem Led.to_sack (s : Snd) (now : Int) (xs : List Rg) : s.l.To (s.ack now xs).2.l := by
 unfold Snd.ack
 split
 ·exact Led.To.rfl
 ·split
  ·exact Led.To.rfl
  ·split
   ·exact Led.To.rfl
   ·split
    ·exact Led.To.rfl
    ·exact (Led.to_ack s.l xs).trans (Led.to_gain _ _ _)
theorem Led.to_begin (s : Snd) (now : Int) : s.l.To (s.begin now).l := by
 have h : (s.begin now).l = (s.clock now).left := by
  unfold Snd.begin Snd.pace Snd.hurt
  simp only
  split <;> rfl
 rw [h]
 exact Led.to_take s.l _
theorem Sent.pos {s0 s : Snd} {l : List Pk} (h0 : s0.l.Pos) (h : Sent s0 l s) : s.l.Pos := by
 induction h with
 | zero => exact h0
 | @more l s eb _ hcan ih =>
  intro e he
  rcases List.mem_append.1 he with he | he
  ·exact ih e he
  ·rw [List.mem_singleton.1 he]
   exact (can_n hcan).1
structure Allow (c : Cnf) (s : Snd) (out : List Pk) (s' : Snd) : Prop where
 next : s'.l.next = s.l.next + (out.length : Int)
 each : ∀ (i : Nat) (p : Pk), out[i]? = some p → p.n = s.l.next + (i : Int) ∧ 0 < p.size ∧ p.size ≤ c.mss ∧ p.sent = s'.k.t
 qu : total out ≤ s'.e.quantum
 cw : out ≠ [] → s'.infl ≤ s'.e.cwnd
 len : out.length ≤ 65
 pos : s'.l.Pos
section
variable {c : Cnf} {N M : Nat} {s s' : Snd} {kd n now e : Int} {xs : List Rg} {out : List Pk}
theorem Allow.none (hr : c.right = true) (h : s'.In c N M) (hp : s.l.Pos) (ht : s.l.To s'.l) : Allow c s [] s' := by
 have hq := Eng.quantum_in (s := s'.e) (by rw [h.e.2.1]; exact hr)
 have hm := Cnf.right_in hr
 rw [h.e.2.1] at hq
 exact ⟨by rw [ht.1]; simp, fun i p q => by simp at q, by simp only [total]; omega, fun q => absurd rfl q, by simp, ht.2 hp⟩
theorem TickEnd.allow (hr : c.right = true) (hN : N ≤ 1000000) (h : s.In c N M) (hp : s.l.Pos) (hT : TickEnd s now out e s') : Allow c s out s' := by
 have hI := (hT.inn hr hN h).1
 rcases hT with ⟨_, rfl, _, rfl⟩ | ⟨hz, _, s2, hs, _, rfl⟩
 ·exact Allow.none hr hI hp Led.To.rfl
 ·obtain ⟨b1, b2, b3, b4, b5, b6, b7⟩ := h.begin hr hz
  have hS := hs.inn hr hN b1
  have hb := hS.bound hr b1
  have hto := Led.to_begin s now
  refine ⟨?_, ?_, ?_, ?_, hb.1, (hs.pos (hto.2 hp) : s2.l.Pos)⟩
  ·rw [← hto.1]; exact hS.next
  ·intro i p hip
   obtain ⟨q1, q2, q3, q4⟩ := hS.each i p hip
   rw [hto.1] at q1
   refine ⟨q1, q2, q3, ?_⟩
   rw [done_k, hS.k]; exact q4
  ·show total out ≤ s2.e.quantum
   rw [hS.e, ← b5]; exact hb.2
  ·exact hS.cwnd
theorem DoEnd.allow (hr : c.right = true) (hN : N ≤ 1000000) (h : s.In c N M) (hn : U n) (hp : s.l.Pos) (hD : DoEnd s kd n xs out s') : Allow c s out s' := by
 have hI := (hD.kept hr hN h hn).1
 cases hD with
 | write h5 => exact Allow.none hr hI hp Led.To.rfl
 | ack now h5 hU => exact Allow.none hr hI hp (Led.to_sack s now xs)
 | tick now e h0 h2 hT => exact hT.allow hr hN h hp
theorem total_le {c : Int} (hc : 0 ≤ c) : ∀ {l : List Pk}, (∀ p ∈ l, p.size ≤ c) → total l ≤ c * (l.length : Int)
 | [], _ => by simp [total]
 | p :: l, h => by
  have h1 := h p (List.mem_cons_self ..)
  have h2 := total_le hc fun q hq => h q (List.mem_cons_of_mem _ hq)
  simp only [total, List.length_cons]
  rw [show ((l.length + 1 : Nat) : Int) = (l.length : Int) + 1 from rfl, Int.mul_add, Int.mul_one]
  omega
theorem total_take_succ {l : List Pk} {j : Nat} {p : Pk} (h : l[j]? = some p) : total (l.take (j + 1)) = total (l.take j) + p.size := by
 rw [List.take_add_one, h, total_app]
 simp [total]
theorem sover_ceil' {a c : Int} (ha : 0 ≤ a) (ha' : a ≤ 10000000000000) (hc : 0 < c) : ∃ d, sover a 1 c = d ∧ 0 ≤ d ∧ d ≤ 10000000000000 ∧ a ≤ c * d ∧ c * d < a + c := by
 have hh : hi64 a 1 = 0 := by unfold hi64; omega
 have e := Int.mul_ediv_add_emod a c
 have q0 : 0 ≤ a / c := Int.ediv_nonneg ha (by omega)
 have r0 := Int.emod_nonneg a (show c ≠ 0 by omega)
 have r1 := Int.emod_lt_of_pos a hc
 have q1 : a / c ≤ a := Int.ediv_le_self c ha
 unfold sover
 rw [hh, if_neg (by omega), Int.mul_one]
 by_cases hr : 0 < a % c
 ·rw [if_pos hr]
  have hq2 : a / c + 1 ≤ a := by
   have : a / c < a := by
    have : c * (a / c) ≥ 1 * (a / c) := Int.mul_le_mul_of_nonneg_right (by omega) q0
    omega
   omega
  have es : sadd (a / c) 1 = a / c + 1 := by unfold sadd; rw [if_neg (by omega)]
  rw [es]
  refine ⟨_, rfl, by omega, by omega, ?_, ?_⟩
  ·rw [Int.mul_add]; omega
  ·rw [Int.mul_add]; omega
 ·rw [if_neg hr]
  exact ⟨_, rfl, by omega, by omega, by omega, by omega⟩
theorem next_may {p : Pac} {n : Int} (h0 : 0 ≤ p.now) (h1 : p.now ≤ 4398046511104) (c0 : 0 ≤ p.cr) (c1 : p.cr ≤ p.qu * 1000000) (q1 : p.qu ≤ 4194240) (r0 : 0 < p.rate) (r1 : p.rate ≤ 1099511627776) (n0 : 0 ≤ n) (n1 : n ≤ p.qu) :
  ∃ t, p.next n = (t, true) ∧ p.now ≤ t ∧ U t ∧ ((p.tick t p.rate p.qu).2.take n).1 = true := by
 have em : smul n 1000000 = n * 1000000 := smul_in (by omega)
 have eq : smul p.qu 1000000 = p.qu * 1000000 := smul_in (by omega)
 unfold Pac.next
 rw [if_neg (by omega), em]
 by_cases c2 : ssub (n * 1000000) p.cr = 0
 ·rw [if_pos c2]
  refine ⟨_, rfl, Int.le_refl _, by unfold U; omega, ?_⟩
  have c3 : n * 1000000 ≤ p.cr := by
   unfold ssub at c2; split at c2 <;> omega
  unfold Pac.tick
  rw [if_neg (Int.lt_irrefl _), Int.sub_self]
  have e0 : smul p.rate 0 = 0 := by unfold smul; simp
  have e1 : sadd p.cr 0 = p.cr := by unfold sadd; rw [if_neg (by omega)]; omega
  rw [e0, e1, eq]
  unfold Pac.take
  rw [em, if_neg (by show ¬ min p.cr (p.qu * 1000000) < n * 1000000; omega)]
 ·rw [if_neg c2]
  have c3 : p.cr < n * 1000000 := by
   rcases Int.lt_or_le p.cr (n * 1000000) with h | h
   ·exact h
   ·exfalso
    apply c2
    unfold ssub
    split
    ·rfl
    ·omega
  have e2 : ssub (n * 1000000) p.cr = n * 1000000 - p.cr := by
   unfold ssub
   rw [if_neg (by omega)]
  rw [e2, if_neg (by omega)]
  obtain ⟨d, ed, d0, d1, d2, d4⟩ := sover_ceil' (a := n * 1000000 - p.cr) (c := p.rate) (by omega) (by omega) (by omega)
  rw [ed]
  have es : sadd p.now d = p.now + d := by unfold sadd; rw [if_neg (by omega)]
  rw [es]
  refine ⟨_, rfl, by omega, by unfold U; omega, ?_⟩
  unfold Pac.tick
  rw [if_neg (by omega), show p.now + d - p.now = d by omega]
  have e3 : smul p.rate d = p.rate * d := by unfold smul; rw [if_neg (by omega)]
  have e4 : sadd p.cr (p.rate * d) = p.cr + p.rate * d := by unfold sadd; rw [if_neg (by omega)]
  rw [e3, e4, eq]
  unfold Pac.take
  rw [em, if_neg (by show ¬ min (p.cr + p.rate * d) (p.qu * 1000000) < n * 1000000; omega)]
theorem outs_none {l : List En} (h : ∀ e ∈ l, 0 < e.p.size) (h0 : total (outs l) = 0) : ∀ e ∈ l, e.o = false := by
 induction l with
 | nil => intro e he; simp at he
 | cons a l ih =>
  have hl : ∀ e ∈ l, 0 < e.p.size := fun e he => h e (List.mem_cons_of_mem _ he)
  have hn : 0 ≤ total (outs l) := total_pos fun p hp => by
   obtain ⟨e, he, rfl⟩ := List.mem_map.1 hp
   have := hl e (List.mem_filter.1 he).1
   omega
  rw [outs_cons] at h0
  intro e he
  cases ha : a.o with
  | true =>
   rw [ha] at h0
   simp only [if_true, total] at h0
   have := h a (List.mem_cons_self ..)
   omega
  | false =>
   rw [ha] at h0
   rcases List.mem_cons.1 he with rfl | he
   ·exact ha
   ·exact ih hl h0 e he
theorem taken_none {l : List En} {is : Pk → Bool} (h : ∀ e ∈ l, e.o = false) : taken is l = [] := by
 unfold taken
 rw [List.filter_eq_nil_iff.2 fun e he => by simp [h e he]]
 rfl
theorem Snd.In.stuck (hr : c.right = true) (hN : N ≤ 900000) (h : s.In c N M) (hp : s.l.Pos) {s1 : Snd} (hT : TickEnd s s.k.t out e s1) (hw : 0 < s1.wait) (h0 : s1.infl = 0) (hpa : s1.k.past = false) :
  ∃ t, s1.next = (t, true) ∧ s1.k.t ≤ t ∧ U t ∧ ∀ (out2 : List Pk) (e2 : Int) (s2 : Snd), t ≤ 4398046511104 → TickEnd s1 t out2 e2 s2 → e2 = 0 ∧ out2 ≠ [] := by
 have hm := Cnf.right_in hr
 have hI := (hT.inn hr (by omega) h).1
 have hP := (hT.allow hr (by omega) h hp).pos
 rcases hT with ⟨hz, _, _, rfl⟩ | ⟨hz, _, s2, hs, _, rfl⟩
 ·exfalso
  have hk := h.k
  unfold Clk.Ok at hk
  have hpa' : (s.k.to s.k.t).2.past = false := hpa
  unfold Clk.to at hz hpa'
  split at hz
  ·rename_i q
   rw [if_pos q] at hpa'
   rw [q] at hpa'
   cases hpa'
  ·rw [if_neg (by omega), if_neg (by omega)] at hz
   exact absurd rfl hz
 ·obtain ⟨b1, b2, b3, b4, b5, b6, b7⟩ := h.begin hr hz
  have hS := hs.inn hr (by omega) b1
  obtain ⟨s1, hs1⟩ : ∃ s1, s1 = s2.done := ⟨_, rfl⟩
  rw [← hs1] at hw h0 hpa hI hP ⊢
  have r1 : s1.p.rate = s1.e.pace := by
   rw [hs1]; show s2.p.rate = s2.e.pace
   rw [hS.rate, hS.e, b6]
  have r2 : s1.p.qu = s1.e.quantum := by
   rw [hs1]; show s2.p.qu = s2.e.quantum
   rw [hS.qu, hS.e, b5]
  have r3 : s1.p.now = s1.k.t := by
   rw [hs1]; show s2.p.now = s2.k.t
   rw [hS.pnow, hS.k, b4, b7]
  clear hs hS hz b1 b2 b3 b4 b5 b6 b7 hs1
  have hpr : s1.e.c.right = true := by rw [hI.e.2.1]; exact hr
  have hpi := Eng.pace_in hpr
  have hqi := Eng.quantum_in hpr
  rw [hI.e.2.1] at hpi hqi
  have hn1 : s1.n = min c.mss s1.wait := by unfold Snd.n; rw [hI.c]
  have hcw := hI.cw
  have hk := hI.k
  unfold Clk.Ok at hk
  have hcr := hI.cr
  have hcr0 := hI.p.2.1.1
  have hfit : s1.fits = true := by
   unfold Snd.fits
   rw [h0]
   have : sadd 0 s1.n = s1.n := by unfold sadd; rw [if_neg (by omega)]; omega
   rw [this]
   simp only [Bool.and_eq_true, decide_eq_true_eq]
   omega
  obtain ⟨t, ht, ht1, ht2, ht3⟩ := next_may (p := s1.p) (n := s1.n) (by omega) (by omega) hcr0 hcr (by omega) (by omega) (by omega) (by omega) (by omega)
  refine ⟨t, ?_, by omega, ht2, ?_⟩
  ·unfold Snd.next
   rw [hpa, if_neg (by decide), hfit, if_pos rfl]
   exact ht
  ·intro out2 e2 s3 hth hT2
   have hz : (s1.k.to t).1 = 0 := by
    unfold Clk.to
    rw [hpa, if_neg (by decide), if_neg (by omega), if_neg (by omega)]
   rcases hT2 with ⟨hz2, _⟩ | ⟨_, rfl, s4, hs4, hc4, rfl⟩
   ·exact absurd hz hz2
   ·refine ⟨rfl, ?_⟩
    rintro rfl
    have hs5 : s4 = s1.begin t := by
     generalize hg : s1.begin t = s0 at hs4
     generalize ho : ([] : List Pk) = o at hs4
     cases hs4 with
     | zero => rfl
     | more eb _ _ => simp at ho
    subst hs5
    -- nothing is lost
    have hg : (s1.clock t).gone = [] := taken_none (outs_none hP (by show total (outs s1.l.row) = 0; rw [← hI.tot.2.2.2.1]; exact h0))
    have hh : (s1.clock t).hurt t = (s1.clock t).lose := by unfold Snd.hurt; rw [hg]; rfl
    have hkt : (s1.k.to t).2.t = t := (to_zero hz).1
    have hbe : s1.begin t = (s1.clock t).lose.pace t := by unfold Snd.begin; rw [hh]
    have e1 : (s1.begin t).wait = s1.wait := by
     rw [hbe]
     show sadd s1.wait (bytesP (s1.clock t).gone) = s1.wait
     rw [hg]
     have := hI.tot
     show sadd s1.wait 0 = s1.wait
     unfold sadd; rw [if_neg (by omega)]; omega
    have e2 : (s1.begin t).e = s1.e := by rw [hbe]; rfl
    have e3 : (s1.begin t).c = s1.c := by rw [hbe]; rfl
    have e4 : (s1.begin t).n = s1.n := by unfold Snd.n; rw [e1, e3]
    have e5 : (s1.begin t).infl = 0 := by
     obtain ⟨g1, g2, g3, g4, g5⟩ := (hI.clock t).goneOk
     have hb1 := (hI.begin hr hz).1
     have hb2 := hb1.tot
     have : total (outs (s1.begin t).l.row) = total (outs (s1.clock t).left.row) := by rw [hbe]; rfl
     have h6 := hI.tot.2.2.2.1
     have h7 : total (outs (s1.clock t).l.row) = total (outs s1.l.row) := rfl
     omega
    have e6 : (s1.begin t).p = (s1.p.tick t s1.p.rate s1.p.qu).2 := by
     rw [hbe, r1, r2]; rfl
    have hcan : (s1.begin t).can = true := by
     unfold Snd.can Snd.fits
     rw [e4, e5, e2, e6, ht3]
     have : sadd 0 s1.n = s1.n := by unfold sadd; rw [if_neg (by omega)]; omega
     rw [this]
     simp only [Bool.and_eq_true, decide_eq_true_eq, and_true]
     omega
    rw [hcan] at hc4
    cases hc4
end
end Go.Proofs.YtmkcpnlbicijoaaGreat
