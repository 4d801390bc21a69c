/- link: acts, the wait, and serving in two steps, in plain words. -/
import Derived.Test.YtklohjjkpobneaaLinkE
import Derived.Test.YtklohjjkpobneaaFixP
namespace Go.Proofs.Ytklohjjkpobneaa
/-- An act. -/
structure LAct where
  tick : Bool
  sizes : List Int
  after : Int
  waste : Int
  ch : List Int
def LAct.Ok (a : LAct) : Prop := U a.after ∧ U a.waste ∧ (∀ x ∈ a.sizes, U x) ∧ (∀ x ∈ a.ch, U x)
def LAct.few (a : LAct) : Prop := a.sizes.length ≤ 60 ∧ a.ch.length ≤ 60
def LAct.small (a : LAct) : Prop := a.after ≤ 1073741824 ∧ ∀ x ∈ a.sizes, x ≤ 1073741824
def Lnk.act (s : Lnk) (frm : Nat) (a : LAct) : Lnk := if a.tick then s.tick (s.now + a.after) a.waste a.ch else (s.send (mkPks frm a.sizes)).1
def actFrm (frm : Nat) (a : LAct) : Nat := if a.tick then frm else frm + a.sizes.length
/-- What a law's round leaves. -/
structure LRel (rate delay jit buf : Int) (k frm : Nat) (s : Lnk) : Prop where
  inv : rate ≤ 1048576 → LInv rate buf (k * 1073741824) (k * 64424509440) frm s
  zero : k = 0 → s = Lnk.new rate delay jit buf
  ok : s.Ok
  len : s.len ≤ frm
  few : frm ≤ 60 * k
theorem LRel.new {rate delay jit buf : Int} (h1 : 1 ≤ rate) (h2 : U rate) (h3 : U delay) (h4 : U jit) (h5 : U buf) : LRel rate delay jit buf 0 0 (Lnk.new rate delay jit buf) :=
  ⟨fun h => by simpa using LInv.new h1 h h3 h4 h5, fun _ => rfl, Lnk.ok_new h2 h3 h4 h5, Nat.le_refl _, Nat.le_refl _⟩
section
variable {rate delay jit buf : Int} {k frm : Nat} {s : Lnk} {a : LAct}
theorem LRel.act (h : LRel rate delay jit buf k frm s) (hk : k < 60) (ha : a.Ok) (hf : a.few) (hs : a.small) (hr : rate ≤ 1048576) : LRel rate delay jit buf (k + 1) (actFrm frm a) (s.act frm a) := by
  obtain ⟨u1, u2, u3, u4⟩ := ha
  have hI := h.inv hr
  have hfew := h.few
  have hlen := h.len
  have hn := hI.now
  have hn0 := hI.bounds.1
  have e1 : (k : Int) * 1073741824 + a.after ≤ ((k + 1 : Nat) : Int) * 1073741824 := by have := hs.1; omega
  have hsz : (a.sizes.length : Int) ≤ 60 := by have := hf.1; omega
  have e2 : (k : Int) * 64424509440 + a.sizes.length * 1073741824 ≤ ((k + 1 : Nat) : Int) * 64424509440 := by omega
  have hlt : U (s.now + a.after) := by have h1 := u1; have h2 := hs.1; unfold U at h1; exact ⟨by omega, by omega⟩
  unfold Lnk.act actFrm
  cases a.tick with
  | true =>
    simp only [if_true]
    refine ⟨fun _ => ((hI.tick (by omega) u1.1 (by omega) u2 u4).1).mono e1 (by omega), fun h0 => absurd h0 (by omega), Lnk.ok_tick h.ok hlt u2 u4, Nat.le_trans (Lnk.len_tick _ _ _ _) hlen, by omega⟩
  | false =>
    simp only [Bool.false_eq_true, if_false]
    have hln := sendF_len (s, 0) (mkPks frm a.sizes)
    rw [mkPks_len] at hln
    have h60 := hf.1
    refine ⟨fun _ => (hI.send (by omega) (fun x hx => ⟨(u3 x hx).1, hs.2 x hx⟩) (by omega)).mono (by omega) e2, fun h0 => absurd h0 (by omega), Lnk.ok_send h.ok (mkPks_ok (by omega) u3), ?_, by omega⟩
    unfold Lnk.send
    simp only at hln
    omega
/-- Serving. -/
theorem serveN_ge {n : Nat} {ch : List Int} (h : s.Ok) (hch : ∀ x ∈ ch, U x) : s.served ≤ (Lnk.serveN n ch s).served := by
  induction n generalizing ch s with
  | zero => exact Int.le_refl _
  | succ n ih =>
    cases hq : s.q.l with
    | nil => rw [serveN_none hq]; exact Int.le_refl _
    | cons p l =>
      rw [serveN_step hq]
      have hp := h.q.all p (by rw [hq]; exact List.mem_cons_self ..)
      split
      · refine Int.le_trans ?_ (ih (Lnk.ok_serve1 h hp (U_headD hch)) fun x hx => hch x (List.mem_of_mem_tail hx))
        show s.served ≤ sadd s.served p.size
        have h1 := h.served
        have h2 := hp.2.1
        unfold U at h1 h2; unfold sadd; split <;> omega
      · exact Int.le_refl _
theorem serveN_all {n : Nat} {ch : List Int} {l ex : List Pk} (h : s.Ok) (hch : ∀ x ∈ ch, U x) (hq : s.q.l = l ++ ex) (ht : psum l * 1000000 ≤ s.b.tok) (hs : s.served + psum l ≤ 18446744073709551615) (hn : l.length ≤ n) : s.served + psum l ≤ (Lnk.serveN n ch s).served := by
  induction l generalizing n ch s with
  | nil => have := serveN_ge (n := n) h hch; show s.served + 0 ≤ _; omega
  | cons p l ih =>
    cases n with
    | zero => simp at hn
    | succ n =>
      have hq2 : s.q.l = p :: (l ++ ex) := hq
      have hp := h.q.all p (by rw [hq2]; exact List.mem_cons_self ..)
      have hl0 : 0 ≤ psum l := psum_nonneg fun q hm => h.q.all q (by rw [hq2]; exact List.mem_cons_of_mem _ (List.mem_append_left _ hm))
      rw [psum_cons] at ht hs ⊢
      have hp0 := hp.2.1.1
      have htU := h.b.2.2.1.2
      have em : smul p.size 1000000 = p.size * 1000000 := by unfold smul; rw [if_neg (by omega)]
      have htk : (s.b.take p.size) = (true, ⟨s.b.rate, s.b.now, s.b.tok - p.size * 1000000, s.b.was⟩) := by unfold Bkt.take; rw [em, if_neg (by omega)]
      have es : sadd s.served p.size = s.served + p.size := by unfold sadd; rw [if_neg (by omega)]
      rw [serveN_step hq2, htk, if_pos rfl]
      have hok := Lnk.ok_serve1 (c := ch.headD 0) h hp (U_headD hch)
      have r1 : (s.serve1 p (ch.headD 0)).q.l = l ++ ex := by show s.q.l.drop 1 = _; rw [hq2]; rfl
      have r2 : (s.serve1 p (ch.headD 0)).b.tok = s.b.tok - p.size * 1000000 := by show (s.b.take p.size).2.tok = _; rw [htk]
      have r3 : (s.serve1 p (ch.headD 0)).served = s.served + p.size := es
      have := ih (n := n) (s := s.serve1 p (ch.headD 0)) hok (fun x hx => hch x (List.mem_of_mem_tail hx)) r1 (by rw [r2]; omega) (by rw [r3]; omega) (by simp at hn; omega)
      rw [r3] at this
      omega
theorem sendF_keep (x : Lnk × Nat) (l : List Pk) : ∃ ex, (l.foldl sendF x).1.q.l = x.1.q.l ++ ex ∧ (l.foldl sendF x).1.b = x.1.b ∧ (l.foldl sendF x).1.served = x.1.served ∧ (l.foldl sendF x).1.now = x.1.now := by
  induction l generalizing x with
  | nil => exact ⟨[], by simp, rfl, rfl, rfl⟩
  | cons p l ih =>
    obtain ⟨ex, h1, h2, h3, h4⟩ := ih (sendF x p)
    have e : ∃ ex0, (sendF x p).1.q.l = x.1.q.l ++ ex0 := by
      show ∃ ex0, (x.1.q.put p).2.l = _
      unfold Que.put
      split
      · exact ⟨[p], rfl⟩
      · exact ⟨[], by simp⟩
    obtain ⟨ex0, e⟩ := e
    exact ⟨ex0 ++ ex, by rw [List.foldl_cons, h1, e, List.append_assoc], h2, h3, h4⟩
theorem tick_served (s : Lnk) (t w : Int) (ch : List Int) : (s.tick t w ch).served = ((s.begin t).serve ch).served := by
  show (((s.begin t).serve ch).spill w).served = _
  unfold Lnk.spill; split <;> rfl
/-- How long what is in the queue waits. -/
def waitOf (rate bytes : Int) : Int := (bytes * 1000000 + rate - 1) / rate
theorem wait_nonneg {rate bytes : Int} (h1 : 1 ≤ rate) (h0 : 0 ≤ bytes) : 0 ≤ waitOf rate bytes := Int.ediv_nonneg (by omega) (by omega)
theorem wait_le {rate bytes : Int} (h1 : 1 ≤ rate) (_h0 : 0 ≤ bytes) : bytes * 1000000 ≤ rate * waitOf rate bytes ∧ rate * waitOf rate bytes ≤ bytes * 1000000 + rate - 1 := by
  unfold waitOf
  have e := Int.mul_ediv_add_emod (bytes * 1000000 + rate - 1) rate
  have m0 := Int.emod_nonneg (bytes * 1000000 + rate - 1) (show rate ≠ 0 by omega)
  have m1 := Int.emod_lt_of_pos (bytes * 1000000 + rate - 1) (show 0 < rate by omega)
  omega
theorem wait_full {rate bytes : Int} {b2 : Int} (h1 : 1 ≤ rate) (hr : U rate) (h0 : 0 ≤ bytes) (hb : bytes ≤ b2) (hc : bytes ≤ 8796093022208) (hb2 : U b2) : waitOf rate bytes ≤ sover b2 1000000 rate := by
  have hbU : U bytes := ⟨h0, by omega⟩
  have hm : U 1000000 := by decide
  refine Int.le_trans ?_ (rise_over hbU hm hb2 hm hr.1 (by omega) (Int.le_refl _))
  obtain ⟨w1, w2⟩ := wait_le h1 h0
  have w0 := wait_nonneg h1 h0
  have hw : waitOf rate bytes ≤ bytes * 1000000 := by
    have : waitOf rate bytes ≤ rate * waitOf rate bytes := by
      have := Int.mul_le_mul_of_nonneg_right h1 w0
      rw [Int.one_mul] at this; exact this
    by_cases hz : bytes = 0
    · subst hz
      unfold waitOf
      rw [Int.zero_mul, Int.zero_add, Int.ediv_eq_zero_of_lt (by omega) (by omega)]
      omega
    · rcases Int.lt_or_le (bytes * 1000000) (waitOf rate bytes) with q | q
      · have q1 : rate * (bytes * 1000000 + 1) ≤ rate * waitOf rate bytes := Int.mul_le_mul_of_nonneg_left (by omega) (by omega)
        rw [Int.mul_add, Int.mul_one] at q1
        have q2 : 1 * (bytes * 1000000) ≤ rate * (bytes * 1000000) := Int.mul_le_mul_of_nonneg_right h1 (by omega)
        omega
      · exact q
  by_cases hlt : hi64 bytes 1000000 < rate
  · rcases over_val hbU hm hlt with ⟨e, _⟩ | ⟨e1, _, _⟩
    · rw [e]; omega
    · generalize sover bytes 1000000 rate = q at e1 ⊢
      rcases Int.lt_or_le q (waitOf rate bytes) with g | g
      · have g1 : rate * (q + 1) ≤ rate * waitOf rate bytes := Int.mul_le_mul_of_nonneg_left (by omega) (by omega)
        rw [Int.mul_add, Int.mul_one, Int.mul_comm] at g1
        omega
      · exact g
  · have e : sover bytes 1000000 rate = 18446744073709551615 := by unfold sover; rw [if_pos (by omega)]
    rw [e]; omega
theorem LInv.wait {t c : Int} {l : List Pk} (h : LInv rate buf t c frm s) (ht : t ≤ 68719476736) (hc : c ≤ 8796093022208) (hl : ∀ p ∈ l, p.Ok) : s.served + s.q.bytes ≤ ((s.send l).1.tick ((s.send l).1.now + waitOf rate s.q.bytes) 0 []).served := by
  obtain ⟨b1, b2, b3, b4, b5, b6, b7, b8⟩ := h.bounds
  have hce := h.came
  have hcl := h.cle
  have htk := h.tok
  have hn := h.now
  have r1 := rate_now h.rate1 h.rate2 b1 (by omega)
  obtain ⟨w1, w2⟩ := wait_le h.rate1 b3
  have w0 := wait_nonneg h.rate1 b3
  have hr1 := h.rate1
  have hr2 := h.rate2
  have hok := Lnk.ok_send h.ok hl
  have hkp : ∃ ex, (s.send l).1.q.l = s.q.l ++ ex ∧ (s.send l).1.b = s.b ∧ (s.send l).1.served = s.served ∧ (s.send l).1.now = s.now := sendF_keep (s, 0) l
  obtain ⟨ex, k1, k2, k3, k4⟩ := hkp
  rw [tick_served]
  generalize (s.send l).1 = s1 at *
  have hwt : waitOf rate s.q.bytes ≤ 18446744073709551615 - 68719476736 := by
    have : waitOf rate s.q.bytes ≤ rate * waitOf rate s.q.bytes := by
      have := Int.mul_le_mul_of_nonneg_right hr1 w0
      rw [Int.one_mul] at this; exact this
    omega
  generalize waitOf rate s.q.bytes = wt at *
  have hok2 := Lnk.ok_begin (t := s1.now + wt) hok ⟨by omega, by omega⟩
  have hb : (s1.begin (s1.now + wt)).b = s1.b.to (s1.now + wt) := rfl
  have htok : s.q.bytes * 1000000 ≤ (s1.begin (s1.now + wt)).b.tok := by
    rw [hb, k2, k4]
    unfold Bkt.to
    split
    · rename_i hle
      rw [h.bnow] at hle
      have : wt = 0 := by omega
      subst this
      rw [Int.mul_zero] at w1
      omega
    · show _ ≤ sadd s.b.tok (smul s.b.rate (s.now + wt - s.b.now))
      rw [h.brate, h.bnow, show s.now + wt - s.now = wt by omega]
      have e1 : smul rate wt = rate * wt := by unfold smul; rw [if_neg (by omega)]
      have e2 : sadd s.b.tok (rate * wt) = s.b.tok + rate * wt := by unfold sadd; rw [if_neg (by omega)]
      rw [e1, e2]; omega
  have hsum := h.ok.q.sum
  have := serveN_all (n := (s1.begin (s1.now + wt)).q.l.length) (ch := []) (s := s1.begin (s1.now + wt)) (l := s.q.l) (ex := ex) hok2 (by simp) k1 (by rw [← hsum]; exact htok) (by show s1.served + _ ≤ _; rw [k3, ← hsum]; omega) (by show _ ≤ s1.q.l.length; rw [k1, List.length_append]; omega)
  have e3 : (s1.begin (s1.now + wt)).served = s.served := k3
  rw [e3, ← hsum] at this
  exact this
/-- Serving, its tokens and bytes alone. -/
def srv : List Pk → Int → Int → Int × List Pk × Int
  | [], tok, sv => (tok, [], sv)
  | p :: l, tok, sv => if tok < smul p.size 1000000 then (tok, p :: l, sv) else srv l (tok - smul p.size 1000000) (sadd sv p.size)
theorem serveN_srv (n : Nat) (ch : List Int) (s : Lnk) (hn : s.q.l.length ≤ n) : ((Lnk.serveN n ch s).b.tok, (Lnk.serveN n ch s).q.l, (Lnk.serveN n ch s).served) = srv s.q.l s.b.tok s.served ∧ (Lnk.serveN n ch s).q.gone = s.q.gone := by
  induction n generalizing ch s with
  | zero =>
    have : s.q.l = [] := List.eq_nil_of_length_eq_zero (by omega)
    rw [serveN_none this, this]
    exact ⟨rfl, rfl⟩
  | succ n ih =>
    cases hq : s.q.l with
    | nil => rw [serveN_none hq, hq]; exact ⟨rfl, rfl⟩
    | cons p l =>
      rw [serveN_step hq]
      unfold srv
      by_cases ht : s.b.tok < smul p.size 1000000
      · rw [if_pos ht, if_neg (by unfold Bkt.take; rw [if_pos ht]; exact Bool.noConfusion), hq]
        exact ⟨rfl, rfl⟩
      · have htk : s.b.take p.size = (true, ⟨s.b.rate, s.b.now, s.b.tok - smul p.size 1000000, s.b.was⟩) := by unfold Bkt.take; rw [if_neg ht]
        rw [if_neg ht, if_pos (by rw [htk])]
        have r1 : (s.serve1 p (ch.headD 0)).q.l = l := by show s.q.l.drop 1 = _; rw [hq]; rfl
        have r2 : (s.serve1 p (ch.headD 0)).b.tok = s.b.tok - smul p.size 1000000 := by show (s.b.take p.size).2.tok = _; rw [htk]
        obtain ⟨i1, i2⟩ := ih ch.tail (s.serve1 p (ch.headD 0)) (by rw [r1]; rw [hq] at hn; simp at hn; omega)
        rw [r1, r2] at i1
        exact ⟨i1, i2⟩
theorem srv_two (l : List Pk) (tok sv d : Int) (hd : 0 ≤ d) : srv l (tok + d) sv = srv (srv l tok sv).2.1 ((srv l tok sv).1 + d) (srv l tok sv).2.2 := by
  induction l generalizing tok sv with
  | nil => rfl
  | cons p l ih =>
    by_cases ht : tok < smul p.size 1000000
    · have e : srv (p :: l) tok sv = (tok, p :: l, sv) := by unfold srv; rw [if_pos ht]
      rw [e]
    · have e : srv (p :: l) tok sv = srv l (tok - smul p.size 1000000) (sadd sv p.size) := by conv => lhs; unfold srv; rw [if_neg ht]
      have e2 : srv (p :: l) (tok + d) sv = srv l (tok - smul p.size 1000000 + d) (sadd sv p.size) := by
        conv => lhs; unfold srv; rw [if_neg (by omega)]
        rw [show tok + d - smul p.size 1000000 = tok - smul p.size 1000000 + d by omega]
      rw [e, e2]
      exact ih _ _
theorem spill_zero (h : s.Ok) : s.spill 0 = s := by
  unfold Lnk.spill
  split
  · have h1 := h.b.2.2.1.1
    have h2 := h.b.2.2.2
    unfold Bkt.waste
    rw [if_pos h1]
    have e : sadd s.b.was 0 = s.b.was := by unfold U at h2; unfold sadd; rw [if_neg (by omega)]; omega
    obtain ⟨_, _, _, _, _, _, _, _, ⟨_, _, _, _⟩, _, _⟩ := s
    simp only at e ⊢
    rw [e, Int.sub_zero]
  · rfl
theorem tick_zero (h : s.Ok) {t : Int} (ht : U t) : (s.tick t 0 []).b = ((s.begin t).serve []).b ∧ (s.tick t 0 []).q = ((s.begin t).serve []).q ∧ (s.tick t 0 []).served = ((s.begin t).serve []).served ∧ (s.tick t 0 []).now = ((s.begin t).serve []).now := by
  have e : s.mid t 0 [] = (s.begin t).serve [] := spill_zero (Lnk.ok_serveN (Lnk.ok_begin h ht) (by simp))
  unfold Lnk.tick
  rw [e]
  exact ⟨rfl, rfl, rfl, rfl⟩
theorem LInv.two {t c x y : Int} (h : LInv rate buf t c frm s) (hc : c ≤ 8796093022208) (hx : 0 ≤ x) (hy : 0 ≤ y) (ht : t + x + y ≤ 68719476736) :
    let s1 := s.tick (s.now + x + y) 0 []
    let s2 := (s.tick (s.now + x) 0 []).tick (s.now + x + y) 0 []
    s1.served = s2.served ∧ s1.q.bytes = s2.q.bytes ∧ s1.q.gone = s2.q.gone ∧ s1.b.tok = s2.b.tok ∧ s1.b.was = s2.b.was := by
  have b1 := h.bounds.1
  have hn := h.now
  have tU1 : U (s.now + x) := ⟨by omega, by omega⟩
  have tU2 : U (s.now + x + y) := ⟨by omega, by omega⟩
  have z0 : U 0 := U_zero
  have hch : ∀ q ∈ ([] : List Int), U q := by simp
  have hY := (h.tick (a := x) (w := 0) (ch := []) hc hx (by omega) z0 hch).1
  obtain ⟨y1, y2, y3, y4⟩ := tick_zero h.ok tU1
  have hok1 := hY.ok
  have yn : (s.tick (s.now + x) 0 []).now = s.now + x := by rw [y4]; exact (serveN_was _ _ _).2
  obtain ⟨a1, a2, a3, a4⟩ := tick_zero h.ok tU2
  have hA := h.begin (a := x + y) (by omega) (by omega)
  rw [← Int.add_assoc s.now x y] at hA
  have hB := h.begin (a := x) hx (by omega)
  have hC := hY.begin (a := y) hy (by omega)
  rw [yn] at hC
  generalize hz : s.tick (s.now + x) 0 [] = z at *
  obtain ⟨c1, c2, c3, c4⟩ := tick_zero (s := z) hok1 tU2
  intro s1 s2
  have S1 := serveN_srv s.q.l.length [] (s.begin (s.now + x + y)) (Nat.le_refl _)
  have S2 := serveN_srv s.q.l.length [] (s.begin (s.now + x)) (Nat.le_refl _)
  have S3 := serveN_srv z.q.l.length [] (z.begin (s.now + x + y)) (Nat.le_refl _)
  have W1 := serveN_was s.q.l.length [] (s.begin (s.now + x + y))
  have W2 := serveN_was s.q.l.length [] (s.begin (s.now + x))
  have W3 := serveN_was z.q.l.length [] (z.begin (s.now + x + y))
  have k1 := hA.tok
  have k2 := hB.tok
  have k3 := hC.tok
  have k4 := hY.tok
  have k5 := h.tok
  rw [show (s.begin (s.now + x + y)).now = s.now + x + y from rfl] at k1
  rw [show (s.begin (s.now + x)).now = s.now + x from rfl] at k2
  rw [show (z.begin (s.now + x + y)).now = s.now + x + y from rfl] at k3
  rw [yn] at k4
  have ws : ∀ (q : Lnk) (tt : Int), (q.begin tt).b.was = q.b.was := fun q tt => to_was _ _
  rw [ws] at k1 k2 k3
  rw [show (s.begin (s.now + x + y)).served = s.served from rfl] at k1
  rw [show (s.begin (s.now + x)).served = s.served from rfl] at k2
  rw [show (z.begin (s.now + x + y)).served = z.served from rfl] at k3
  have d1 : rate * (s.now + x + y) = rate * (s.now + x) + rate * y := Int.mul_add _ _ _
  have q1 : (s.begin (s.now + x + y)).b.tok = (s.begin (s.now + x)).b.tok + rate * y := by omega
  have q2 : (z.begin (s.now + x + y)).b.tok = z.b.tok + rate * y := by omega
  have ry : 0 ≤ rate * y := Int.mul_nonneg (by have := h.rate1; omega) hy
  have hq1 : (s.begin (s.now + x + y)).q.l = s.q.l := rfl
  have hq2 : (s.begin (s.now + x)).q.l = s.q.l := rfl
  have hq3 : (z.begin (s.now + x + y)).q.l = z.q.l := rfl
  obtain ⟨S1a, S1b⟩ := S1
  obtain ⟨S2a, S2b⟩ := S2
  obtain ⟨S3a, S3b⟩ := S3
  rw [q1, hq1] at S1a
  rw [hq2] at S2a
  rw [q2, hq3] at S3a
  have two := srv_two s.q.l (s.begin (s.now + x)).b.tok s.served (rate * y) ry
  have S1c : srv s.q.l ((s.begin (s.now + x)).b.tok + rate * y) (s.begin (s.now + x + y)).served = srv s.q.l ((s.begin (s.now + x)).b.tok + rate * y) s.served := rfl
  have S2c : srv s.q.l (s.begin (s.now + x)).b.tok (s.begin (s.now + x)).served = srv s.q.l (s.begin (s.now + x)).b.tok s.served := rfl
  rw [S1c, two, ← S2c, ← S2a] at S1a
  simp only at S1a
  have Y1 : z.b = (Lnk.serveN s.q.l.length [] (s.begin (s.now + x))).b := y1
  have Y2 : z.q = (Lnk.serveN s.q.l.length [] (s.begin (s.now + x))).q := y2
  have Y3 : z.served = (Lnk.serveN s.q.l.length [] (s.begin (s.now + x))).served := y3
  rw [← Y1, ← Y2, ← Y3] at S1a
  have S3c : (z.begin (s.now + x + y)).served = z.served := rfl
  rw [S3c] at S3a
  have key := S1a.trans S3a.symm
  have A1 : s1.b = (Lnk.serveN s.q.l.length [] (s.begin (s.now + x + y))).b := a1
  have A2 : s1.q = (Lnk.serveN s.q.l.length [] (s.begin (s.now + x + y))).q := a2
  have A3 : s1.served = (Lnk.serveN s.q.l.length [] (s.begin (s.now + x + y))).served := a3
  have C1 : s2.b = (Lnk.serveN z.q.l.length [] (z.begin (s.now + x + y))).b := c1
  have C2 : s2.q = (Lnk.serveN z.q.l.length [] (z.begin (s.now + x + y))).q := c2
  have C3 : s2.served = (Lnk.serveN z.q.l.length [] (z.begin (s.now + x + y))).served := c3
  rw [← A1, ← A2, ← A3, ← C1, ← C2, ← C3] at key
  simp only [Prod.mk.injEq] at key
  obtain ⟨e1, e2, e3⟩ := key
  have o1 : s1.q.Ok := (Lnk.ok_tick h.ok tU2 z0 hch).q
  have o2 : s2.q.Ok := (Lnk.ok_tick hok1 tU2 z0 hch).q
  refine ⟨e3, by rw [o1.sum, o2.sum, e2], ?_, e1, ?_⟩
  · rw [A2, C2, S1b, S3b]
    show s.q.gone = z.q.gone
    rw [Y2, S2b]; rfl
  · rw [A1, C1, W1.1, W3.1, ws, ws, Y1, W2.1, ws]
/-- A new one has nothing to serve. -/
theorem new_two {x y : Int} (h1 : U rate) (h3 : U delay) (h4 : U jit) (h5 : U buf) (hx : 0 ≤ x) (hy : 0 ≤ y) (hx2 : x ≤ 1073741824) (hy2 : y ≤ 1073741824) :
    let s := Lnk.new rate delay jit buf
    let s1 := s.tick (s.now + x + y) 0 []
    let s2 := (s.tick (s.now + x) 0 []).tick (s.now + x + y) 0 []
    s1.served = s2.served ∧ s1.q.bytes = s2.q.bytes ∧ s1.q.gone = s2.q.gone ∧ s1.b.tok = s2.b.tok ∧ s1.b.was = s2.b.was := by
  intro s s1 s2
  have hok : s.Ok := Lnk.ok_new h1 h3 h4 h5
  have hn : s.now = 0 := rfl
  have tU1 : U (s.now + x) := ⟨by omega, by omega⟩
  have tU2 : U (s.now + x + y) := ⟨by omega, by omega⟩
  obtain ⟨a1, a2, a3, _⟩ := tick_zero hok tU2
  obtain ⟨y1, y2, y3, _⟩ := tick_zero hok tU1
  have hok1 : (s.tick (s.now + x) 0 []).Ok := Lnk.ok_tick hok tU1 U_zero (by simp)
  have hs0 : ∀ (q : Lnk) (t : Int), q.q.l = [] → (q.begin t).serve [] = q.begin t := fun q t hq => serveN_none hq
  rw [hs0 s _ rfl] at a1 a2 a3 y1 y2 y3
  have hq : (s.tick (s.now + x) 0 []).q.l = [] := by rw [y2]; rfl
  obtain ⟨c1, c2, c3, _⟩ := tick_zero hok1 tU2
  rw [hs0 _ _ hq] at c1 c2 c3
  have A1 : s1.b = s.b.to (s.now + x + y) := a1
  have A2 : s1.q = s.q := a2
  have A3 : s1.served = s.served := a3
  have C1 : s2.b = (s.tick (s.now + x) 0 []).b.to (s.now + x + y) := c1
  have C2 : s2.q = (s.tick (s.now + x) 0 []).q := c2
  have C3 : s2.served = (s.tick (s.now + x) 0 []).served := c3
  have Y1 : (s.tick (s.now + x) 0 []).b = s.b.to (s.now + x) := y1
  have Y2 : (s.tick (s.now + x) 0 []).q = s.q := y2
  have Y3 : (s.tick (s.now + x) 0 []).served = s.served := y3
  rw [A1, A2, A3, C1, C2, C3, Y1, Y2, Y3]
  refine ⟨rfl, rfl, rfl, ?_, by rw [to_was, to_was, to_was]⟩
  have hb : s.b = ⟨rate, 0, 0, 0⟩ := rfl
  rw [hb, hn, Int.zero_add]
  unfold U at h1
  have m1 : 0 ≤ rate * x := Int.mul_nonneg h1.1 hx
  have m2 : 0 ≤ rate * y := Int.mul_nonneg h1.1 hy
  have d1 : rate * (x + y) = rate * x + rate * y := Int.mul_add _ _ _
  by_cases x0 : x = 0
  · subst x0
    simp [Bkt.to]
  · by_cases y0 : y = 0
    · subst y0
      rw [Int.add_zero]
      have e4 : (⟨rate, 0, 0, 0⟩ : Bkt).to x = ⟨rate, x, sadd 0 (smul rate x), 0⟩ := by unfold Bkt.to; rw [if_neg (by simp only; omega)]; simp
      rw [e4]
      unfold Bkt.to
      rw [if_pos (Int.le_refl _)]
    · have e1 : (⟨rate, 0, 0, 0⟩ : Bkt).to (x + y) = ⟨rate, x + y, sadd 0 (smul rate (x + y)), 0⟩ := by unfold Bkt.to; rw [if_neg (by simp only; omega)]; simp
      have e2 : (⟨rate, 0, 0, 0⟩ : Bkt).to x = ⟨rate, x, sadd 0 (smul rate x), 0⟩ := by unfold Bkt.to; rw [if_neg (by simp only; omega)]; simp
      have e3 : ∀ T, (⟨rate, x, T, 0⟩ : Bkt).to (x + y) = ⟨rate, x + y, sadd T (smul rate y), 0⟩ := fun T => by unfold Bkt.to; rw [if_neg (by simp only; omega)]; simp only; rw [show x + y - x = y by omega]
      rw [e1, e2, e3]
      simp only
      unfold sadd smul
      rw [d1]
      repeat' split
      all_goals omega
end
end Go.Proofs.Ytklohjjkpobneaa
