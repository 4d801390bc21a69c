/- goitref15: an engine reads an event: written by mkplays.py. -/
import Derived.Deep.CutBlock
import Derived.Test.YtpfbbpiidhhkbaaGreatPlays1
namespace Go.Proofs.YtpfbbpiidhhkbaaGreat
open Go.RowKit
theorem Own.asE {ε w : World} {L L' : List Asn} (h : Own ε w L) (e : L = L') : Own ε w L' := e ▸ h
theorem Eng.read_k (s : Eng) (x : Evt) : (s.read x).k = if x.some = true then (s.k.ack (ssub x.deliv x.sd) x.deliv).2 else s.k := by
  unfold Eng.read Eng.sampled
  split <;> rfl
theorem Eng.read_r (s : Eng) (x : Evt) : (s.read x).r = if x.some = true then s.rates x else s.r := by
  unfold Eng.read Eng.sampled
  split <;> rfl
theorem Eng.read_p (s : Eng) (x : Evt) : (s.read x).p = if x.some = true then s.p.put (s.rates x).best (s.tells x) x.slim else s.p := by
  unfold Eng.tells Eng.overs Eng.read Eng.sampled
  cases hs : x.some
  · rfl
  · rfl
theorem Eng.read_eq (s : Eng) (x : Evt) : s.read x = { s with acked := sadd s.acked x.acked, lost := sadd s.lost x.lost, f := (s.read x).f, r := (s.read x).r, k := (s.read x).k, p := (s.read x).p } := by
  unfold Eng.read Eng.sampled
  split <;> rfl
theorem Eng.past_eq (s : Eng) (x : Evt) : s.past x = { s with acked := if s.tells x = true then 0 else sadd s.acked x.acked, lost := if s.tells x = true then 0 else sadd s.lost x.lost, rounds := if s.tells x = true then IntKind.u64.wrap (s.rounds + 1) else s.rounds, f := (s.read x).f, r := (s.read x).r, k := (s.read x).k, p := (s.read x).p } := by
  unfold Eng.past
  split
  · rw [Eng.read_eq]; rfl
  · rw [Eng.read_eq]
theorem Eng.read_lossy (s : Eng) (x : Evt) : (s.read x).isLossy = decide (smul s.c.loss (sadd (sadd s.acked x.acked) (sadd s.lost x.lost)) < smul (sadd s.lost x.lost) 1000) := by
  unfold Eng.read Eng.sampled
  split <;> rfl
theorem RRel.put_l0 {N K : Nat} {s : Eng} {m : Fil} {mm : Nat} {l1 l0 : List Int} (h : RRel N K s m mm l1 l0) {x : Evt} (hx : x.Ok) {l : List Int} (hl : l = if x.some = true ∧ (x.slim = false ∨ s.r.best ≤ x.sr) then l0 ++ [x.sr] else l0) :
    (s.read x).r.b0 = maxL l ∧ (s.read x).r.b1 = maxL l1 ∧ (s.read x).r.n = s.r.n ∧ (∀ y ∈ l, U y) ∧ l.length ≤ N + 1 := by
  rw [Eng.read_r]
  unfold Eng.rates
  by_cases h1 : x.some = true
  · rw [if_pos h1]
    by_cases h2 : x.slim = false ∨ s.r.best ≤ x.sr
    · rw [if_pos h2]
      rw [if_pos ⟨h1, h2⟩] at hl
      subst hl
      refine ⟨?_, h.b1, rfl, fun y hy => ?_, by rw [List.length_append]; exact Nat.succ_le_succ h.n0⟩
      · show max s.r.b0 (maxL [x.sr]) = _
        rw [maxL_append, h.b0]
      · rcases List.mem_append.1 hy with hy | hy
        · exact h.u0 y hy
        · rw [List.mem_singleton.1 hy]; exact hx.sr
    · rw [if_neg h2]
      rw [if_neg (fun q => h2 q.2)] at hl
      subst hl
      exact ⟨h.b0, h.b1, rfl, h.u0, Nat.le_succ_of_le h.n0⟩
  · rw [if_neg h1]
    rw [if_neg (fun q => h1 q.1)] at hl
    subst hl
    exact ⟨h.b0, h.b1, rfl, h.u0, Nat.le_succ_of_le h.n0⟩
theorem RRel.read {N K : Nat} {s : Eng} {m : Fil} {mm : Nat} {l1 l0 : List Int} (h : RRel N K s m mm l1 l0) {x : Evt} (hx : x.Ok) {l : List Int} (hl : l = if x.some = true ∧ (x.slim = false ∨ s.r.best ≤ x.sr) then l0 ++ [x.sr] else l0)
    {m' : Fil} (hm : m' = if x.some = true then ((m.rto x.now).2.rput x.now x.rtt).2 else (m.rto x.now).2) : RRel (N + 1) K (s.past x) m' mm l1 l := by
  obtain ⟨a1, a2, a3, a4, a5⟩ := h.put_l0 hx hl
  have hc1 := (h.f.to hx.now).2
  have hlt : (m.rto x.now).2.l.length ≤ N := by unfold Fil.rto; split <;> exact h.fl
  have hcr : CRel (s.read x).f m' ∧ m'.l.length ≤ N + 1 := by
    subst hm
    unfold Eng.read Eng.sampled
    by_cases h1 : x.some = true
    · rw [if_pos h1, if_pos h1]
      refine ⟨(hc1.put hx.now hx.rtt).2, ?_⟩
      unfold Fil.rput
      split
      · exact Nat.le_succ_of_le hlt
      · show ((m.rto x.now).2.l ++ [(x.now, x.rtt)]).length ≤ _
        rw [List.length_append]; exact Nat.succ_le_succ hlt
    · rw [if_neg h1, if_neg h1]
      exact ⟨hc1, Nat.le_succ_of_le hlt⟩
  have hrd : (s.past x).rounds ≤ (N : Int) + 1 := by
    rw [Eng.past_eq]
    show (if s.tells x = true then IntKind.u64.wrap (s.rounds + 1) else s.rounds) ≤ _
    have h1 := h.rd
    have h2 := h.ok.rounds.1
    rw [IntKind.wrap_u64]
    split <;> omega
  have hr : (s.past x).r = (s.read x).r := by rw [Eng.past_eq]
  have hc : (s.past x).c = s.c := by rw [Eng.past_eq]
  exact { ok := Eng.ok_past h.ok hx, right := (by rw [hc]; exact h.right), f := (by rw [Eng.f_past]; exact hcr.1), fl := hcr.2, sl := (by rw [Eng.f_past]; exact Nat.le_trans (Eng.len_read s x) (Nat.succ_le_succ h.sl)), b0 := (by rw [hr]; exact a1), b1 := (by rw [hr]; exact a2), n := (by rw [hr, a3]; exact h.n), m1 := h.m1, mK := h.mK, u0 := a4, u1 := h.u1, n0 := a5, rd := hrd }
section
variable (ε w : World) (R : List Asn) (b yb : Nat)
theorem rFTo_c (s : Eng) (m : Fil) (v : Value) (t : Int) (H : Own ε w (pts b (.cells #[.int .u64 s.c.mss, .int .u64 s.c.init, .int .u64 s.c.reorder, .int .u64 s.c.window, .int .u64 s.c.probe, .int .u64 s.c.loss, .int .i64 s.st, .int .u64 s.since, .int .u64 s.rounds, .int .u64 m.win, .bool m.least, .int .u64 m.now, v, .pointer (some ⟨yb, 0, none⟩), .int .u64 s.k.mark, .int .u64 s.k.n, .int .u64 s.p.best, .int .i64 s.p.n, .int .u64 s.bd.hi, .int .u64 s.bd.lo, .int .u64 s.bd.bw, .int .u64 s.acked, .int .u64 s.lost, .int .u64 s.cwnd, .int .u64 s.kept, .int .u64 s.ended] 76 (0, 0)) :: slc 151 2 v (encs encR m.l) :: R)) :
    Calls Tryz.prog 90 #[.pointer (some ⟨b, 9, none⟩), .int .u64 t] w fun e w' => ∃ v', e = .returned (.int .i64 (m.rto t).1) ∧ Own ε w' (pts b (.cells #[.int .u64 s.c.mss, .int .u64 s.c.init, .int .u64 s.c.reorder, .int .u64 s.c.window, .int .u64 s.c.probe, .int .u64 s.c.loss, .int .i64 s.st, .int .u64 s.since, .int .u64 s.rounds, .int .u64 (m.rto t).2.win, .bool (m.rto t).2.least, .int .u64 (m.rto t).2.now, v', .pointer (some ⟨yb, 0, none⟩), .int .u64 s.k.mark, .int .u64 s.k.n, .int .u64 s.p.best, .int .i64 s.p.n, .int .u64 s.bd.hi, .int .u64 s.bd.lo, .int .u64 s.bd.bw, .int .u64 s.acked, .int .u64 s.lost, .int .u64 s.cwnd, .int .u64 s.kept, .int .u64 s.ended] 76 (0, 0)) :: slc 151 2 v' (encs encR (m.rto t).2.l) :: R) := by
  refine (rfilETo_c (XE s yb) ε w _ b m t (Own.rfilE_mk (XE s yb) ε w _ b (v := v) H)).mono ?_
  rintro e w' ⟨rfl, H2⟩
  obtain ⟨v', H3⟩ := H2.rfilE_open
  exact ⟨v', rfl, H3⟩
theorem rFPut_c (s : Eng) (m : Fil) (v : Value) (t x : Int) (hl : m.l.length ≤ 1000000) (H : Own ε w (pts b (.cells #[.int .u64 s.c.mss, .int .u64 s.c.init, .int .u64 s.c.reorder, .int .u64 s.c.window, .int .u64 s.c.probe, .int .u64 s.c.loss, .int .i64 s.st, .int .u64 s.since, .int .u64 s.rounds, .int .u64 m.win, .bool m.least, .int .u64 m.now, v, .pointer (some ⟨yb, 0, none⟩), .int .u64 s.k.mark, .int .u64 s.k.n, .int .u64 s.p.best, .int .i64 s.p.n, .int .u64 s.bd.hi, .int .u64 s.bd.lo, .int .u64 s.bd.bw, .int .u64 s.acked, .int .u64 s.lost, .int .u64 s.cwnd, .int .u64 s.kept, .int .u64 s.ended] 76 (0, 0)) :: slc 151 2 v (encs encR m.l) :: R)) :
    Calls Tryz.prog 91 #[.pointer (some ⟨b, 9, none⟩), .int .u64 t, .int .u64 x] w fun e w' => ∃ v', e = .returned (.int .i64 (m.rput t x).1) ∧ Own ε w' (pts b (.cells #[.int .u64 s.c.mss, .int .u64 s.c.init, .int .u64 s.c.reorder, .int .u64 s.c.window, .int .u64 s.c.probe, .int .u64 s.c.loss, .int .i64 s.st, .int .u64 s.since, .int .u64 s.rounds, .int .u64 (m.rput t x).2.win, .bool (m.rput t x).2.least, .int .u64 (m.rput t x).2.now, v', .pointer (some ⟨yb, 0, none⟩), .int .u64 s.k.mark, .int .u64 s.k.n, .int .u64 s.p.best, .int .i64 s.p.n, .int .u64 s.bd.hi, .int .u64 s.bd.lo, .int .u64 s.bd.bw, .int .u64 s.acked, .int .u64 s.lost, .int .u64 s.cwnd, .int .u64 s.kept, .int .u64 s.ended] 76 (0, 0)) :: slc 151 2 v' (encs encR (m.rput t x).2.l) :: R) := by
  refine (rfilEPut_c (XE s yb) ε w _ b m t x hl (Own.rfilE_mk (XE s yb) ε w _ b (v := v) H)).mono ?_
  rintro e w' ⟨rfl, H2⟩
  obtain ⟨v', H3⟩ := H2.rfilE_open
  exact ⟨v', rfl, H3⟩
def XA (s : Eng) (m : Fil) (v : Value) (yb : Nat) (i : Nat) : Value := if i = 9 then .int .u64 m.win else if i = 10 then .bool m.least else if i = 11 then .int .u64 m.now else if i = 12 then v else XE s yb i
theorem rNAck_c (s : Eng) (m : Fil) (v : Value) (x y : Int) (H : Own ε w (pts b (.cells #[.int .u64 s.c.mss, .int .u64 s.c.init, .int .u64 s.c.reorder, .int .u64 s.c.window, .int .u64 s.c.probe, .int .u64 s.c.loss, .int .i64 s.st, .int .u64 s.since, .int .u64 s.rounds, .int .u64 m.win, .bool m.least, .int .u64 m.now, v, .pointer (some ⟨yb, 0, none⟩), .int .u64 s.k.mark, .int .u64 s.k.n, .int .u64 s.p.best, .int .i64 s.p.n, .int .u64 s.bd.hi, .int .u64 s.bd.lo, .int .u64 s.bd.bw, .int .u64 s.acked, .int .u64 s.lost, .int .u64 s.cwnd, .int .u64 s.kept, .int .u64 s.ended] 76 (0, 0)) :: R)) :
    Calls Tryz.prog 92 #[.pointer (some ⟨b, 14, none⟩), .int .u64 x, .int .u64 y] w fun e w' => e = .returned (.bool (s.k.ack x y).1) ∧ Own ε w' (pts b (.cells #[.int .u64 s.c.mss, .int .u64 s.c.init, .int .u64 s.c.reorder, .int .u64 s.c.window, .int .u64 s.c.probe, .int .u64 s.c.loss, .int .i64 s.st, .int .u64 s.since, .int .u64 s.rounds, .int .u64 m.win, .bool m.least, .int .u64 m.now, v, .pointer (some ⟨yb, 0, none⟩), .int .u64 (s.k.ack x y).2.mark, .int .u64 (s.k.ack x y).2.n, .int .u64 s.p.best, .int .i64 s.p.n, .int .u64 s.bd.hi, .int .u64 s.bd.lo, .int .u64 s.bd.bw, .int .u64 s.acked, .int .u64 s.lost, .int .u64 s.cwnd, .int .u64 s.kept, .int .u64 s.ended] 76 (0, 0)) :: R) :=
  rctrEAck_c (XA s m v yb) ε w R b s.k x y H
theorem rPPut_c (s : Eng) (m : Fil) (v : Value) (x : Int) (r l : Bool) (hx : U x) (hs : s.p.Ok) (H : Own ε w (pts b (.cells #[.int .u64 s.c.mss, .int .u64 s.c.init, .int .u64 s.c.reorder, .int .u64 s.c.window, .int .u64 s.c.probe, .int .u64 s.c.loss, .int .i64 s.st, .int .u64 s.since, .int .u64 s.rounds, .int .u64 m.win, .bool m.least, .int .u64 m.now, v, .pointer (some ⟨yb, 0, none⟩), .int .u64 s.k.mark, .int .u64 s.k.n, .int .u64 s.p.best, .int .i64 s.p.n, .int .u64 s.bd.hi, .int .u64 s.bd.lo, .int .u64 s.bd.bw, .int .u64 s.acked, .int .u64 s.lost, .int .u64 s.cwnd, .int .u64 s.kept, .int .u64 s.ended] 76 (0, 0)) :: R)) :
    Calls Tryz.prog 96 #[.pointer (some ⟨b, 16, none⟩), .int .u64 x, .bool r, .bool l] w fun e w' => e = .returned (.tuple #[]) ∧ Own ε w' (pts b (.cells #[.int .u64 s.c.mss, .int .u64 s.c.init, .int .u64 s.c.reorder, .int .u64 s.c.window, .int .u64 s.c.probe, .int .u64 s.c.loss, .int .i64 s.st, .int .u64 s.since, .int .u64 s.rounds, .int .u64 m.win, .bool m.least, .int .u64 m.now, v, .pointer (some ⟨yb, 0, none⟩), .int .u64 s.k.mark, .int .u64 s.k.n, .int .u64 (s.p.put x r l).best, .int .i64 (s.p.put x r l).n, .int .u64 s.bd.hi, .int .u64 s.bd.lo, .int .u64 s.bd.bw, .int .u64 s.acked, .int .u64 s.lost, .int .u64 s.cwnd, .int .u64 s.kept, .int .u64 s.ended] 76 (0, 0)) :: R) :=
  rpipEPut_c (XA s m v yb) ε w R b s.p x r l hx hs H
set_option maxRecDepth 100000 in
set_option maxHeartbeats 12800000 in
theorem rRead_c {N K : Nat} {s : Eng} {m : Fil} {mm : Nat} {l1 l0 : List Int} (hR : RRel N K s m mm l1 l0) (v : Value) (hN : N ≤ 1000) (x : Evt) (hx : x.Ok) (H : Own ε w (pts b (.cells #[.int .u64 s.c.mss, .int .u64 s.c.init, .int .u64 s.c.reorder, .int .u64 s.c.window, .int .u64 s.c.probe, .int .u64 s.c.loss, .int .i64 s.st, .int .u64 s.since, .int .u64 s.rounds, .int .u64 m.win, .bool m.least, .int .u64 m.now, v, .pointer (some ⟨yb, 0, none⟩), .int .u64 s.k.mark, .int .u64 s.k.n, .int .u64 s.p.best, .int .i64 s.p.n, .int .u64 s.bd.hi, .int .u64 s.bd.lo, .int .u64 s.bd.bw, .int .u64 s.acked, .int .u64 s.lost, .int .u64 s.cwnd, .int .u64 s.kept, .int .u64 s.ended] 76 (0, 0)) :: slc 151 2 v (encs encR m.l) :: rcyc yb mm l1 l0 :: R)) :
    Calls Tryz.prog 43 #[.pointer (some ⟨b, 0, none⟩), x.v] w fun e w' => ∃ m' l0' v', ∃ _ : RRel (N + 1) K (s.past x) m' mm l1 l0', e = .returned (.tuple #[.bool (s.tells x), .bool (s.loses x)]) ∧ Own ε w' (pts b (.cells #[.int .u64 (s.past x).c.mss, .int .u64 (s.past x).c.init, .int .u64 (s.past x).c.reorder, .int .u64 (s.past x).c.window, .int .u64 (s.past x).c.probe, .int .u64 (s.past x).c.loss, .int .i64 (s.past x).st, .int .u64 (s.past x).since, .int .u64 (s.past x).rounds, .int .u64 m'.win, .bool m'.least, .int .u64 m'.now, v', .pointer (some ⟨yb, 0, none⟩), .int .u64 (s.past x).k.mark, .int .u64 (s.past x).k.n, .int .u64 (s.past x).p.best, .int .i64 (s.past x).p.n, .int .u64 (s.past x).bd.hi, .int .u64 (s.past x).bd.lo, .int .u64 (s.past x).bd.bw, .int .u64 (s.past x).acked, .int .u64 (s.past x).lost, .int .u64 (s.past x).cwnd, .int .u64 (s.past x).kept, .int .u64 (s.past x).ended] 76 (0, 0)) :: slc 151 2 v' (encs encR m'.l) :: rcyc yb mm l1 l0' :: R) := by
  have HH := Lib.hid H; clear H
  obtain ⟨l2, hl2⟩ : ∃ l, l = if x.some = true ∧ (x.slim = false ∨ s.r.best ≤ x.sr) then l0 ++ [x.sr] else l0 := ⟨_, rfl⟩
  obtain ⟨m2, hm2⟩ : ∃ m', m' = if x.some = true then ((m.rto x.now).2.rput x.now x.rtt).2 else (m.rto x.now).2 := ⟨_, rfl⟩
  have hR2 := hR.read hx hl2 hm2
  have hpast := Eng.past_eq s x
  rw [Eng.read_k, Eng.read_p] at hpast
  have htl : s.tells x = (x.some && (s.k.ack (ssub x.deliv x.sd) x.deliv).1) := rfl
  have hls : s.loses x = (s.tells x && decide (smul s.c.loss (sadd (sadd s.acked x.acked) (sadd s.lost x.lost)) < smul (sadd s.lost x.lost) 1000)) := by unfold Eng.loses; rw [Eng.read_lossy]
  have hb2 := hR2.rb
  have hrr : (s.past x).r = if x.some = true then s.rates x else s.r := by rw [Eng.past_eq]; exact Eng.read_r s x
  rw [hrr] at hb2
  clear hrr
  have hbU : U (s.rates x).best := Cyc.U_best (Eng.ok_rates hR.ok hx).1
  obtain ⟨kA, hkA⟩ : ∃ y, (if x.some = true then (s.k.ack (ssub x.deliv x.sd) x.deliv).2 else s.k) = y := ⟨_, rfl⟩
  rw [hkA] at hpast
  obtain ⟨tl, etl⟩ : ∃ y, s.tells x = y := ⟨_, rfl⟩
  obtain ⟨ls, els⟩ : ∃ y, s.loses x = y := ⟨_, rfl⟩
  rw [etl] at hpast hls ⊢
  rw [els]
  obtain ⟨aB, haB⟩ : ∃ y, (if tl = true then (0 : Int) else sadd s.acked x.acked) = y := ⟨_, rfl⟩
  obtain ⟨bB, hbB⟩ : ∃ y, (if tl = true then (0 : Int) else sadd s.lost x.lost) = y := ⟨_, rfl⟩
  obtain ⟨rB, hrB⟩ : ∃ y, (if tl = true then IntKind.u64.wrap (s.rounds + 1) else s.rounds) = y := ⟨_, rfl⟩
  obtain ⟨pA, hpA⟩ : ∃ y, (if x.some = true then s.p.put (s.rates x).best tl x.slim else s.p) = y := ⟨_, rfl⟩
  rw [haB, hbB, hrB, hpA] at hpast
  obtain ⟨sP, esP⟩ : ∃ y, s.past x = y := ⟨_, rfl⟩
  rw [esP] at hpast hR2 ⊢
  have hrd : sadd s.rounds 1 = IntKind.u64.wrap (s.rounds + 1) := by
    have h1 := hR.rd
    have h2 := hR.ok.rounds.1
    rw [IntKind.wrap_u64]
    unfold sadd
    rw [if_neg (by omega)]
    omega
  have hml : (m.rto x.now).2.l.length ≤ 1000000 := by
    have h1 := hR.fl
    unfold Fil.rto
    split
    · exact Nat.le_trans h1 (by omega)
    · exact Nat.le_trans h1 (by omega)
  have hlb : l0.length + 1 ≤ 1000000 := by have := hR.n0; omega
  have u1 := Lib.hid hR.ok.acked
  have u2 := Lib.hid hR.ok.lost
  have u3 := Lib.hid hR.ok.c.loss
  have u4 := Lib.hid hR.ok.rounds
  have u5 := Lib.hid (U_sadd hR.ok.acked hx.acked)
  have u6 := Lib.hid (U_sadd hR.ok.lost hx.lost)
  have u7 := Lib.hid (U_sadd u5.out u6.out)
  have hpk := Lib.hid hR.ok.p
  have hr1 := Lib.hid hR.rb
  have hu0 := Lib.hid hR.u0
  have hu1 := Lib.hid hR.u1
  have hv2 := Lib.hid hR2.u0
  replace hR2 := Lib.hid hR2
  replace hx := Lib.hid hx
  replace hl2 := Lib.hid hl2
  replace hm2 := Lib.hid hm2
  replace hpast := Lib.hid hpast
  replace htl := Lib.hid htl
  replace hls := Lib.hid hls
  replace hb2 := Lib.hid hb2
  replace hbU := Lib.hid hbU
  replace hkA := Lib.hid hkA
  replace etl := Lib.hid etl
  replace els := Lib.hid els
  replace haB := Lib.hid haB
  replace hbB := Lib.hid hbB
  replace hrB := Lib.hid hrB
  replace hpA := Lib.hid hpA
  replace esP := Lib.hid esP
  replace hrd := Lib.hid hrd
  replace hml := Lib.hid hml
  replace hlb := Lib.hid hlb
  clear hR hN
  unfold Evt.v
  go_enter Tryz.func43, Tryz.ntmps43
  go_wp2_with (with_reducible refine stop_bx ?_)
  refine Stop.go ?_
  refine wpList_box_own HH.out [_, _, _, _, _, _, _, _, _, _, _] rfl ?_
  intro g w1_ H9_
  replace HH := Lib.hid H9_
  clear H9_
  replace HH := Lib.hid ((Own.pm (HH.out) (by with_reducible repeat (first | exact .refl _ | exact .nil _ | refine .here ?_ | refine .at2 ?_ | refine .at3 ?_ | refine .at4 ?_ | refine .at5 ?_ | refine .at6 ?_ | refine .at7 ?_ | refine .at8 ?_ | refine .skip ?_))) : Own ε _ (pts b (.cells #[.int .u64 s.c.mss, .int .u64 s.c.init, .int .u64 s.c.reorder, .int .u64 s.c.window, .int .u64 s.c.probe, .int .u64 s.c.loss, .int .i64 s.st, .int .u64 s.since, .int .u64 s.rounds, .int .u64 m.win, .bool m.least, .int .u64 m.now, v, .pointer (some ⟨yb, 0, none⟩), .int .u64 s.k.mark, .int .u64 s.k.n, .int .u64 s.p.best, .int .i64 s.p.n, .int .u64 s.bd.hi, .int .u64 s.bd.lo, .int .u64 s.bd.bw, .int .u64 s.acked, .int .u64 s.lost, .int .u64 s.cwnd, .int .u64 s.kept, .int .u64 s.ended] 76 (0, 0)) :: slc 151 2 v (encs encR m.l) :: rcyc yb mm l1 l0 :: pts g (.cells #[.int .u64 x.now, .int .u64 x.sd, .int .u64 x.si, .int .u64 x.sr, .int .u64 x.rtt, .bool x.slim, .bool x.some, .int .u64 x.deliv, .int .u64 x.acked, .int .u64 x.lost, .int .u64 x.fl] 41 (0, 0)) :: R))
  go_wp2_with fail
  go_wp2_with fail
  refine wp_region_reg (some 10) HH.out (by kernel_rfl) ?_
  intro wm H9_
  replace HH := Lib.hid H9_
  clear H9_
  refine reg_p (i := 0) rfl (by kernel_rfl) (fun _ _ _ _ h => h) HH.out (fun K hK => ?_)
  go_simp
  (first | refine hK _ ?_ | (apply Exists.intro; refine ⟨?_, hK _ ?_⟩; focus intro wx; first | (go_simp; rfl) | rfl)); clear hK K
  refine reg_p (i := 1) rfl (by kernel_rfl) (fun _ _ _ _ h => h) HH.out (fun K hK => ?_)
  go_simp
  (first | refine hK _ ?_ | (apply Exists.intro; refine ⟨?_, hK _ ?_⟩; focus intro wx; first | (go_simp; rfl) | rfl)); clear hK K
  refine reg_p (i := 2) rfl (by kernel_rfl) (fun _ _ _ _ h => h) HH.out (fun K hK => ?_)
  go_simp
  (first | refine hK _ ?_ | (apply Exists.intro; refine ⟨?_, hK _ ?_⟩; focus intro wx; first | (go_simp; rfl) | rfl)); clear hK K
  refine reg_p (i := 3) rfl (by kernel_rfl) (fun _ _ _ _ h => h) HH.out (fun K hK => ?_)
  go_simp
  (first | refine hK _ ?_ | (apply Exists.intro; refine ⟨?_, hK _ ?_⟩; focus intro wx; first | (go_simp; rfl) | rfl)); clear hK K
  refine mixk_q (i := 4) rfl (by kernel_rfl) (fun _ _ _ _ h => h) HH.out (fun K hK => ?_)
  go_simp
  (first | refine hK _ ?_ | (apply Exists.intro; refine ⟨?_, hK _ ?_⟩; focus intro wx hx; have x1_ := hx.cells; have x4_ := hx.r4.cells; first | (go_simp; first | rfl | exact ⟨rfl, rfl⟩) | rfl | exact ⟨rfl, rfl⟩)); clear hK K
  refine reg_p (i := 5) rfl (by kernel_rfl) (fun _ _ _ _ h => h) HH.out (fun K hK => ?_)
  go_simp
  (first | refine hK _ ?_ | (apply Exists.intro; refine ⟨?_, hK _ ?_⟩; focus intro wx; first | (go_simp; rfl) | rfl)); clear hK K
  refine mixk_q (i := 6) rfl (by kernel_rfl) (fun _ _ _ _ h => h) HH.out (fun K hK => ?_)
  go_simp
  (first | refine hK _ ?_ | (apply Exists.intro; refine ⟨?_, hK _ ?_⟩; focus intro wx hx; have x1_ := hx.cells; have x4_ := hx.r4.cells; first | (go_simp; first | rfl | exact ⟨rfl, rfl⟩) | rfl | exact ⟨rfl, rfl⟩)); clear hK K
  refine reg_l (some 10) (i := 7) rfl (by kernel_rfl) (fun wn hk K hK => ?_)
  replace HH := Lib.hid (hk _ _ HH.out)
  clear hk
  go_simp
  refine (refAdd_c wn s.acked x.acked u1.out hx.out.acked).mono ?_
  rintro e wm ⟨rfl, hbel⟩
  replace HH := Lib.hid ((by first | exact .same hbel | exact .drew hbel | exact .below hbel : Kp wn wm) _ _ HH.out)
  clear hbel
  refine hK _ _ _ HH.out (.inr ⟨rfl, fun _ h => h⟩) ?_
  clear hK K
  refine reg_p (i := 8) rfl (by kernel_rfl) (fun _ _ _ _ h => h) HH.out (fun K hK => ?_)
  go_simp
  (first | refine hK _ ?_ | (apply Exists.intro; refine ⟨?_, hK _ ?_⟩; focus intro wx; first | (go_simp; rfl) | rfl)); clear hK K
  refine reg_p (i := 9) rfl (by kernel_rfl) (fun _ _ _ _ h => h) HH.out (fun K hK => ?_)
  go_simp
  (first | refine hK _ ?_ | (apply Exists.intro; refine ⟨?_, hK _ ?_⟩; focus intro wx; first | (go_simp; rfl) | rfl)); clear hK K
  refine reg_l none (i := 10) rfl (by kernel_rfl) (fun wn hk K hK => ?_)
  replace HH := Lib.hid (hk _ _ HH.out)
  clear hk
  have hx := HH.out
  have x1_ := hx.cells
  have x4_ := hx.r4.cells
  go_simp
  replace HH := Lib.hid (HH.out.set 21 (.int .u64 (sadd s.acked x.acked)))
  simp only [List.setIfInBounds_toArray, List.set_cons_succ, List.set_cons_zero] at HH
  generalize wn.setCell ⟨b, 21, none⟩ (.int .u64 (sadd s.acked x.acked)) = wm at *
  clear hx x1_ x4_
  refine hK _ _ _ HH.out (.inl (by kernel_rfl)) ?_
  clear hK K
  refine mixk_done (by kernel_rfl) (fun w2_ hk => ?_) _
  replace HH := Lib.hid (hk _ _ HH.out)
  clear hk
  replace HH := Lib.hid ((Own.pm (HH.out) (by with_reducible repeat (first | exact .refl _ | exact .nil _ | refine .here ?_ | refine .at2 ?_ | refine .at3 ?_ | refine .at4 ?_ | refine .at5 ?_ | refine .at6 ?_ | refine .at7 ?_ | refine .at8 ?_ | refine .skip ?_))) : Own _ _ (pts b (.cells #[.int .u64 s.c.mss, .int .u64 s.c.init, .int .u64 s.c.reorder, .int .u64 s.c.window, .int .u64 s.c.probe, .int .u64 s.c.loss, .int .i64 s.st, .int .u64 s.since, .int .u64 s.rounds, .int .u64 m.win, .bool m.least, .int .u64 m.now, v, .pointer (some ⟨yb, 0, none⟩), .int .u64 s.k.mark, .int .u64 s.k.n, .int .u64 s.p.best, .int .i64 s.p.n, .int .u64 s.bd.hi, .int .u64 s.bd.lo, .int .u64 s.bd.bw, .int .u64 (sadd s.acked x.acked), .int .u64 s.lost, .int .u64 s.cwnd, .int .u64 s.kept, .int .u64 s.ended] 76 (0, 0)) :: slc 151 2 v (encs encR m.l) :: rcyc yb mm l1 l0 :: pts g (.cells #[.int .u64 x.now, .int .u64 x.sd, .int .u64 x.si, .int .u64 x.sr, .int .u64 x.rtt, .bool x.slim, .bool x.some, .int .u64 x.deliv, .int .u64 x.acked, .int .u64 x.lost, .int .u64 x.fl] 41 (0, 0)) :: R))
  (try clear cc1_); (try clear cc2_); (try clear cc3_); (try clear cc4_); (try clear cc5_); (try clear cc6_); (try clear cc7_)
  have cc1_ := HH.out.cells
  have cc4_ := HH.out.r4.cells
  go_wp2_with fail
  go_wp2_with fail
  refine wp_region_reg (some 10) HH.out (by kernel_rfl) ?_
  intro wm H9_
  replace HH := Lib.hid H9_
  clear H9_
  refine reg_p (i := 0) rfl (by kernel_rfl) (fun _ _ _ _ h => h) HH.out (fun K hK => ?_)
  go_simp
  (first | refine hK _ ?_ | (apply Exists.intro; refine ⟨?_, hK _ ?_⟩; focus intro wx; first | (go_simp; rfl) | rfl)); clear hK K
  refine reg_p (i := 1) rfl (by kernel_rfl) (fun _ _ _ _ h => h) HH.out (fun K hK => ?_)
  go_simp
  (first | refine hK _ ?_ | (apply Exists.intro; refine ⟨?_, hK _ ?_⟩; focus intro wx; first | (go_simp; rfl) | rfl)); clear hK K
  refine reg_p (i := 2) rfl (by kernel_rfl) (fun _ _ _ _ h => h) HH.out (fun K hK => ?_)
  go_simp
  (first | refine hK _ ?_ | (apply Exists.intro; refine ⟨?_, hK _ ?_⟩; focus intro wx; first | (go_simp; rfl) | rfl)); clear hK K
  refine reg_p (i := 3) rfl (by kernel_rfl) (fun _ _ _ _ h => h) HH.out (fun K hK => ?_)
  go_simp
  (first | refine hK _ ?_ | (apply Exists.intro; refine ⟨?_, hK _ ?_⟩; focus intro wx; first | (go_simp; rfl) | rfl)); clear hK K
  refine mixk_q (i := 4) rfl (by kernel_rfl) (fun _ _ _ _ h => h) HH.out (fun K hK => ?_)
  go_simp
  (first | refine hK _ ?_ | (apply Exists.intro; refine ⟨?_, hK _ ?_⟩; focus intro wx hx; have x1_ := hx.cells; have x4_ := hx.r4.cells; first | (go_simp; first | rfl | exact ⟨rfl, rfl⟩) | rfl | exact ⟨rfl, rfl⟩)); clear hK K
  refine reg_p (i := 5) rfl (by kernel_rfl) (fun _ _ _ _ h => h) HH.out (fun K hK => ?_)
  go_simp
  (first | refine hK _ ?_ | (apply Exists.intro; refine ⟨?_, hK _ ?_⟩; focus intro wx; first | (go_simp; rfl) | rfl)); clear hK K
  refine mixk_q (i := 6) rfl (by kernel_rfl) (fun _ _ _ _ h => h) HH.out (fun K hK => ?_)
  go_simp
  (first | refine hK _ ?_ | (apply Exists.intro; refine ⟨?_, hK _ ?_⟩; focus intro wx hx; have x1_ := hx.cells; have x4_ := hx.r4.cells; first | (go_simp; first | rfl | exact ⟨rfl, rfl⟩) | rfl | exact ⟨rfl, rfl⟩)); clear hK K
  refine reg_l (some 10) (i := 7) rfl (by kernel_rfl) (fun wn hk K hK => ?_)
  replace HH := Lib.hid (hk _ _ HH.out)
  clear hk
  go_simp
  refine (refAdd_c wn s.lost x.lost u2.out hx.out.lost).mono ?_
  rintro e wm ⟨rfl, hbel⟩
  replace HH := Lib.hid ((by first | exact .same hbel | exact .drew hbel | exact .below hbel : Kp wn wm) _ _ HH.out)
  clear hbel
  refine hK _ _ _ HH.out (.inr ⟨rfl, fun _ h => h⟩) ?_
  clear hK K
  refine reg_p (i := 8) rfl (by kernel_rfl) (fun _ _ _ _ h => h) HH.out (fun K hK => ?_)
  go_simp
  (first | refine hK _ ?_ | (apply Exists.intro; refine ⟨?_, hK _ ?_⟩; focus intro wx; first | (go_simp; rfl) | rfl)); clear hK K
  refine reg_p (i := 9) rfl (by kernel_rfl) (fun _ _ _ _ h => h) HH.out (fun K hK => ?_)
  go_simp
  (first | refine hK _ ?_ | (apply Exists.intro; refine ⟨?_, hK _ ?_⟩; focus intro wx; first | (go_simp; rfl) | rfl)); clear hK K
  refine reg_l none (i := 10) rfl (by kernel_rfl) (fun wn hk K hK => ?_)
  replace HH := Lib.hid (hk _ _ HH.out)
  clear hk
  have hx := HH.out
  have x1_ := hx.cells
  have x4_ := hx.r4.cells
  go_simp
  replace HH := Lib.hid (HH.out.set 22 (.int .u64 (sadd s.lost x.lost)))
  simp only [List.setIfInBounds_toArray, List.set_cons_succ, List.set_cons_zero] at HH
  generalize wn.setCell ⟨b, 22, none⟩ (.int .u64 (sadd s.lost x.lost)) = wm at *
  clear hx x1_ x4_
  refine hK _ _ _ HH.out (.inl (by kernel_rfl)) ?_
  clear hK K
  refine mixk_done (by kernel_rfl) (fun w3_ hk => ?_) _
  replace HH := Lib.hid (hk _ _ HH.out)
  clear hk
  replace HH := Lib.hid ((Own.pm (HH.out) (by with_reducible repeat (first | exact .refl _ | exact .nil _ | refine .here ?_ | refine .at2 ?_ | refine .at3 ?_ | refine .at4 ?_ | refine .at5 ?_ | refine .at6 ?_ | refine .at7 ?_ | refine .at8 ?_ | refine .skip ?_))) : Own _ _ (pts b (.cells #[.int .u64 s.c.mss, .int .u64 s.c.init, .int .u64 s.c.reorder, .int .u64 s.c.window, .int .u64 s.c.probe, .int .u64 s.c.loss, .int .i64 s.st, .int .u64 s.since, .int .u64 s.rounds, .int .u64 m.win, .bool m.least, .int .u64 m.now, v, .pointer (some ⟨yb, 0, none⟩), .int .u64 s.k.mark, .int .u64 s.k.n, .int .u64 s.p.best, .int .i64 s.p.n, .int .u64 s.bd.hi, .int .u64 s.bd.lo, .int .u64 s.bd.bw, .int .u64 (sadd s.acked x.acked), .int .u64 (sadd s.lost x.lost), .int .u64 s.cwnd, .int .u64 s.kept, .int .u64 s.ended] 76 (0, 0)) :: slc 151 2 v (encs encR m.l) :: rcyc yb mm l1 l0 :: pts g (.cells #[.int .u64 x.now, .int .u64 x.sd, .int .u64 x.si, .int .u64 x.sr, .int .u64 x.rtt, .bool x.slim, .bool x.some, .int .u64 x.deliv, .int .u64 x.acked, .int .u64 x.lost, .int .u64 x.fl] 41 (0, 0)) :: R))
  (try clear cc1_); (try clear cc2_); (try clear cc3_); (try clear cc4_); (try clear cc5_); (try clear cc6_); (try clear cc7_)
  have cc1_ := HH.out.cells
  have cc4_ := HH.out.r4.cells
  go_wp2_with fail
  go_wp2_with fail
  refine wp_region_reg (some 5) HH.out (by kernel_rfl) ?_
  intro wm H9_
  replace HH := Lib.hid H9_
  clear H9_
  refine reg_p (i := 0) rfl (by kernel_rfl) (fun _ _ _ _ h => h) HH.out (fun K hK => ?_)
  go_simp
  (first | refine hK _ ?_ | (apply Exists.intro; refine ⟨?_, hK _ ?_⟩; focus intro wx; first | (go_simp; rfl) | rfl)); clear hK K
  refine reg_p (i := 1) rfl (by kernel_rfl) (fun _ _ _ _ h => h) HH.out (fun K hK => ?_)
  go_simp
  (first | refine hK _ ?_ | (apply Exists.intro; refine ⟨?_, hK _ ?_⟩; focus intro wx; first | (go_simp; rfl) | rfl)); clear hK K
  refine reg_p (i := 2) rfl (by kernel_rfl) (fun _ _ _ _ h => h) HH.out (fun K hK => ?_)
  go_simp
  (first | refine hK _ ?_ | (apply Exists.intro; refine ⟨?_, hK _ ?_⟩; focus intro wx; first | (go_simp; rfl) | rfl)); clear hK K
  refine reg_p (i := 3) rfl (by kernel_rfl) (fun _ _ _ _ h => h) HH.out (fun K hK => ?_)
  go_simp
  (first | refine hK _ ?_ | (apply Exists.intro; refine ⟨?_, hK _ ?_⟩; focus intro wx; first | (go_simp; rfl) | rfl)); clear hK K
  refine mixk_q (i := 4) rfl (by kernel_rfl) (fun _ _ _ _ h => h) HH.out (fun K hK => ?_)
  go_simp
  (first | refine hK _ ?_ | (apply Exists.intro; refine ⟨?_, hK _ ?_⟩; focus intro wx hx; have x1_ := hx.cells; have x4_ := hx.r4.cells; first | (go_simp; first | rfl | exact ⟨rfl, rfl⟩) | rfl | exact ⟨rfl, rfl⟩)); clear hK K
  refine reg_l none (i := 5) rfl (by kernel_rfl) (fun wn hk K hK => ?_)
  replace HH := Lib.hid (hk _ _ HH.out)
  clear hk
  go_simp
  refine (rFTo_c ε wn _ b yb { s with acked := sadd s.acked x.acked, lost := sadd s.lost x.lost } m v x.now HH.out).mono ?_
  rintro e wm ⟨v1, rfl, H9_⟩
  replace HH := Lib.hid H9_
  clear H9_
  refine hK _ _ _ HH.out (.inl (by kernel_rfl)) ?_
  clear hK K
  refine mixk_done (by kernel_rfl) (fun w4_ hk => ?_) _
  replace HH := Lib.hid (hk _ _ HH.out)
  clear hk
  replace HH := Lib.hid ((Own.pm (HH.out) (by with_reducible repeat (first | exact .refl _ | exact .nil _ | refine .here ?_ | refine .at2 ?_ | refine .at3 ?_ | refine .at4 ?_ | refine .at5 ?_ | refine .at6 ?_ | refine .at7 ?_ | refine .at8 ?_ | refine .skip ?_))) : Own _ _ (pts b (.cells #[.int .u64 s.c.mss, .int .u64 s.c.init, .int .u64 s.c.reorder, .int .u64 s.c.window, .int .u64 s.c.probe, .int .u64 s.c.loss, .int .i64 s.st, .int .u64 s.since, .int .u64 s.rounds, .int .u64 (m.rto x.now).2.win, .bool (m.rto x.now).2.least, .int .u64 (m.rto x.now).2.now, v1, .pointer (some ⟨yb, 0, none⟩), .int .u64 s.k.mark, .int .u64 s.k.n, .int .u64 s.p.best, .int .i64 s.p.n, .int .u64 s.bd.hi, .int .u64 s.bd.lo, .int .u64 s.bd.bw, .int .u64 (sadd s.acked x.acked), .int .u64 (sadd s.lost x.lost), .int .u64 s.cwnd, .int .u64 s.kept, .int .u64 s.ended] 76 (0, 0)) :: slc 151 2 v1 (encs encR (m.rto x.now).2.l) :: rcyc yb mm l1 l0 :: pts g (.cells #[.int .u64 x.now, .int .u64 x.sd, .int .u64 x.si, .int .u64 x.sr, .int .u64 x.rtt, .bool x.slim, .bool x.some, .int .u64 x.deliv, .int .u64 x.acked, .int .u64 x.lost, .int .u64 x.fl] 41 (0, 0)) :: R))
  obtain ⟨m1, em1⟩ : ∃ y, (m.rto x.now).2 = y := ⟨_, rfl⟩
  rw [em1] at hm2 hml HH
  replace em1 := Lib.hid em1
  (try clear cc1_); (try clear cc2_); (try clear cc3_); (try clear cc4_); (try clear cc5_); (try clear cc6_); (try clear cc7_)
  have cc4_ := HH.out.r4.cells
  go_upto_if 35 with (fail)
  go_cut [1, 6] from 8 (fun _ v6 wc => ∃ v', v6 = .bool tl ∧ Own ε wc (pts b (.cells #[.int .u64 s.c.mss, .int .u64 s.c.init, .int .u64 s.c.reorder, .int .u64 s.c.window, .int .u64 s.c.probe, .int .u64 s.c.loss, .int .i64 s.st, .int .u64 s.since, .int .u64 s.rounds, .int .u64 m2.win, .bool m2.least, .int .u64 m2.now, v', .pointer (some ⟨yb, 0, none⟩), .int .u64 kA.mark, .int .u64 kA.n, .int .u64 s.p.best, .int .i64 s.p.n, .int .u64 s.bd.hi, .int .u64 s.bd.lo, .int .u64 s.bd.bw, .int .u64 (sadd s.acked x.acked), .int .u64 (sadd s.lost x.lost), .int .u64 s.cwnd, .int .u64 s.kept, .int .u64 s.ended] 76 (0, 0)) :: slc 151 2 v' (encs encR m2.l) :: rcyc yb mm l1 l2 :: pts g (.cells #[.int .u64 x.now, .int .u64 x.sd, .int .u64 x.si, .int .u64 x.sr, .int .u64 x.rtt, .bool x.slim, .bool x.some, .int .u64 x.deliv, .int .u64 x.acked, .int .u64 x.lost, .int .u64 x.fl] 41 (0, 0)) :: R))
  case first =>
    cases hsm : x.some
    · have e1 : tl = false := by rw [← etl.out, htl.out, hsm]; rfl
      have e2 : kA = s.k := by rw [← hkA.out, if_neg (by rw [hsm]; decide)]
      have e3 : m2 = m1 := by rw [hm2.out, if_neg (by rw [hsm]; decide)]
      have e4 : l2 = l0 := by rw [hl2.out, if_neg (by rw [hsm]; exact fun q => absurd q.1 (by decide))]
      go_wp2_with fail
      go_meet
      case rel => exact ⟨v1, by rw [e1], by rw [e2, e3, e4]; exact HH.out⟩
    · have e1 : (s.k.ack (ssub x.deliv x.sd) x.deliv).1 = tl := by rw [← etl.out, htl.out, hsm]; rfl
      have e2 : kA = (s.k.ack (ssub x.deliv x.sd) x.deliv).2 := by rw [← hkA.out, if_pos hsm]
      have e3 : m2 = (m1.rput x.now x.rtt).2 := by rw [hm2.out, if_pos hsm]
      replace e1 := Lib.hid e1
      replace e2 := Lib.hid e2
      replace e3 := Lib.hid e3
      go_wp2_with fail
      go_wp2_with fail
      refine wp_region_reg (some 8) HH.out (by kernel_rfl) ?_
      intro wm H9_
      replace HH := Lib.hid H9_
      clear H9_
      refine reg_p (i := 0) rfl (by kernel_rfl) (fun _ _ _ _ h => h) HH.out (fun K hK => ?_)
      go_simp
      (first | refine hK _ ?_ | (apply Exists.intro; refine ⟨?_, hK _ ?_⟩; focus intro wx; first | (go_simp; rfl) | rfl)); clear hK K
      refine reg_p (i := 1) rfl (by kernel_rfl) (fun _ _ _ _ h => h) HH.out (fun K hK => ?_)
      go_simp
      (first | refine hK _ ?_ | (apply Exists.intro; refine ⟨?_, hK _ ?_⟩; focus intro wx; first | (go_simp; rfl) | rfl)); clear hK K
      refine reg_p (i := 2) rfl (by kernel_rfl) (fun _ _ _ _ h => h) HH.out (fun K hK => ?_)
      go_simp
      (first | refine hK _ ?_ | (apply Exists.intro; refine ⟨?_, hK _ ?_⟩; focus intro wx; first | (go_simp; rfl) | rfl)); clear hK K
      refine reg_p (i := 3) rfl (by kernel_rfl) (fun _ _ _ _ h => h) HH.out (fun K hK => ?_)
      go_simp
      (first | refine hK _ ?_ | (apply Exists.intro; refine ⟨?_, hK _ ?_⟩; focus intro wx; first | (go_simp; rfl) | rfl)); clear hK K
      refine mixk_q (i := 4) rfl (by kernel_rfl) (fun _ _ _ _ h => h) HH.out (fun K hK => ?_)
      go_simp
      (first | refine hK _ ?_ | (apply Exists.intro; refine ⟨?_, hK _ ?_⟩; focus intro wx hx; have x1_ := hx.cells; have x4_ := hx.r4.cells; first | (go_simp; first | rfl | exact ⟨rfl, rfl⟩) | rfl | exact ⟨rfl, rfl⟩)); clear hK K
      refine reg_p (i := 5) rfl (by kernel_rfl) (fun _ _ _ _ h => h) HH.out (fun K hK => ?_)
      go_simp
      (first | refine hK _ ?_ | (apply Exists.intro; refine ⟨?_, hK _ ?_⟩; focus intro wx; first | (go_simp; rfl) | rfl)); clear hK K
      refine reg_p (i := 6) rfl (by kernel_rfl) (fun _ _ _ _ h => h) HH.out (fun K hK => ?_)
      go_simp
      (first | refine hK _ ?_ | (apply Exists.intro; refine ⟨?_, hK _ ?_⟩; focus intro wx; first | (go_simp; rfl) | rfl)); clear hK K
      refine mixk_q (i := 7) rfl (by kernel_rfl) (fun _ _ _ _ h => h) HH.out (fun K hK => ?_)
      go_simp
      (first | refine hK _ ?_ | (apply Exists.intro; refine ⟨?_, hK _ ?_⟩; focus intro wx hx; have x1_ := hx.cells; have x4_ := hx.r4.cells; first | (go_simp; first | rfl | exact ⟨rfl, rfl⟩) | rfl | exact ⟨rfl, rfl⟩)); clear hK K
      refine reg_l none (i := 8) rfl (by kernel_rfl) (fun wn hk K hK => ?_)
      replace HH := Lib.hid (hk _ _ HH.out)
      clear hk
      go_simp
      refine (rFPut_c ε wn _ b yb { s with acked := sadd s.acked x.acked, lost := sadd s.lost x.lost } m1 v1 x.now x.rtt hml.out HH.out).mono ?_
      rintro e wm ⟨v2, rfl, H9_⟩
      replace HH := Lib.hid H9_
      clear H9_
      refine hK _ _ _ HH.out (.inl (by kernel_rfl)) ?_
      clear hK K
      refine mixk_done (by kernel_rfl) (fun w5_ hk => ?_) _
      replace HH := Lib.hid (hk _ _ HH.out)
      clear hk
      replace HH := Lib.hid ((Own.pm (HH.out) (by with_reducible repeat (first | exact .refl _ | exact .nil _ | refine .here ?_ | refine .at2 ?_ | refine .at3 ?_ | refine .at4 ?_ | refine .at5 ?_ | refine .at6 ?_ | refine .at7 ?_ | refine .at8 ?_ | refine .skip ?_))) : Own _ _ (pts b (.cells #[.int .u64 s.c.mss, .int .u64 s.c.init, .int .u64 s.c.reorder, .int .u64 s.c.window, .int .u64 s.c.probe, .int .u64 s.c.loss, .int .i64 s.st, .int .u64 s.since, .int .u64 s.rounds, .int .u64 (m1.rput x.now x.rtt).2.win, .bool (m1.rput x.now x.rtt).2.least, .int .u64 (m1.rput x.now x.rtt).2.now, v2, .pointer (some ⟨yb, 0, none⟩), .int .u64 s.k.mark, .int .u64 s.k.n, .int .u64 s.p.best, .int .i64 s.p.n, .int .u64 s.bd.hi, .int .u64 s.bd.lo, .int .u64 s.bd.bw, .int .u64 (sadd s.acked x.acked), .int .u64 (sadd s.lost x.lost), .int .u64 s.cwnd, .int .u64 s.kept, .int .u64 s.ended] 76 (0, 0)) :: slc 151 2 v2 (encs encR (m1.rput x.now x.rtt).2.l) :: rcyc yb mm l1 l0 :: pts g (.cells #[.int .u64 x.now, .int .u64 x.sd, .int .u64 x.si, .int .u64 x.sr, .int .u64 x.rtt, .bool x.slim, .bool x.some, .int .u64 x.deliv, .int .u64 x.acked, .int .u64 x.lost, .int .u64 x.fl] 41 (0, 0)) :: R))
      replace HH := Lib.hid (Own.asE HH.out (show _ = pts b (.cells #[.int .u64 s.c.mss, .int .u64 s.c.init, .int .u64 s.c.reorder, .int .u64 s.c.window, .int .u64 s.c.probe, .int .u64 s.c.loss, .int .i64 s.st, .int .u64 s.since, .int .u64 s.rounds, .int .u64 m2.win, .bool m2.least, .int .u64 m2.now, v2, .pointer (some ⟨yb, 0, none⟩), .int .u64 s.k.mark, .int .u64 s.k.n, .int .u64 s.p.best, .int .i64 s.p.n, .int .u64 s.bd.hi, .int .u64 s.bd.lo, .int .u64 s.bd.bw, .int .u64 (sadd s.acked x.acked), .int .u64 (sadd s.lost x.lost), .int .u64 s.cwnd, .int .u64 s.kept, .int .u64 s.ended] 76 (0, 0)) :: slc 151 2 v2 (encs encR m2.l) :: rcyc yb mm l1 l0 :: pts g (.cells #[.int .u64 x.now, .int .u64 x.sd, .int .u64 x.si, .int .u64 x.sr, .int .u64 x.rtt, .bool x.slim, .bool x.some, .int .u64 x.deliv, .int .u64 x.acked, .int .u64 x.lost, .int .u64 x.fl] 41 (0, 0)) :: R from by rw [e3.out]))
      (try clear cc1_); (try clear cc2_); (try clear cc3_); (try clear cc4_); (try clear cc5_); (try clear cc6_); (try clear cc7_)
      have cc4_ := HH.out.r4.cells
      go_wp2_with fail
      go_wp2_with fail
      refine wp_region_reg (some 11) HH.out (by kernel_rfl) ?_
      intro wm H9_
      replace HH := Lib.hid H9_
      clear H9_
      refine reg_p (i := 0) rfl (by kernel_rfl) (fun _ _ _ _ h => h) HH.out (fun K hK => ?_)
      go_simp
      (first | refine hK _ ?_ | (apply Exists.intro; refine ⟨?_, hK _ ?_⟩; focus intro wx; first | (go_simp; rfl) | rfl)); clear hK K
      refine reg_p (i := 1) rfl (by kernel_rfl) (fun _ _ _ _ h => h) HH.out (fun K hK => ?_)
      go_simp
      (first | refine hK _ ?_ | (apply Exists.intro; refine ⟨?_, hK _ ?_⟩; focus intro wx; first | (go_simp; rfl) | rfl)); clear hK K
      refine reg_p (i := 2) rfl (by kernel_rfl) (fun _ _ _ _ h => h) HH.out (fun K hK => ?_)
      go_simp
      (first | refine hK _ ?_ | (apply Exists.intro; refine ⟨?_, hK _ ?_⟩; focus intro wx; first | (go_simp; rfl) | rfl)); clear hK K
      refine reg_p (i := 3) rfl (by kernel_rfl) (fun _ _ _ _ h => h) HH.out (fun K hK => ?_)
      go_simp
      (first | refine hK _ ?_ | (apply Exists.intro; refine ⟨?_, hK _ ?_⟩; focus intro wx; first | (go_simp; rfl) | rfl)); clear hK K
      refine mixk_q (i := 4) rfl (by kernel_rfl) (fun _ _ _ _ h => h) HH.out (fun K hK => ?_)
      go_simp
      (first | refine hK _ ?_ | (apply Exists.intro; refine ⟨?_, hK _ ?_⟩; focus intro wx hx; have x1_ := hx.cells; have x4_ := hx.r4.cells; first | (go_simp; first | rfl | exact ⟨rfl, rfl⟩) | rfl | exact ⟨rfl, rfl⟩)); clear hK K
      refine reg_p (i := 5) rfl (by kernel_rfl) (fun _ _ _ _ h => h) HH.out (fun K hK => ?_)
      go_simp
      (first | refine hK _ ?_ | (apply Exists.intro; refine ⟨?_, hK _ ?_⟩; focus intro wx; first | (go_simp; rfl) | rfl)); clear hK K
      refine reg_p (i := 6) rfl (by kernel_rfl) (fun _ _ _ _ h => h) HH.out (fun K hK => ?_)
      go_simp
      (first | refine hK _ ?_ | (apply Exists.intro; refine ⟨?_, hK _ ?_⟩; focus intro wx; first | (go_simp; rfl) | rfl)); clear hK K
      refine mixk_q (i := 7) rfl (by kernel_rfl) (fun _ _ _ _ h => h) HH.out (fun K hK => ?_)
      go_simp
      (first | refine hK _ ?_ | (apply Exists.intro; refine ⟨?_, hK _ ?_⟩; focus intro wx hx; have x1_ := hx.cells; have x4_ := hx.r4.cells; first | (go_simp; first | rfl | exact ⟨rfl, rfl⟩) | rfl | exact ⟨rfl, rfl⟩)); clear hK K
      refine reg_p (i := 9) rfl (by kernel_rfl) (fun _ _ _ _ h => h) HH.out (fun K hK => ?_)
      go_simp
      (first | refine hK _ ?_ | (apply Exists.intro; refine ⟨?_, hK _ ?_⟩; focus intro wx; first | (go_simp; rfl) | rfl)); clear hK K
      refine mixk_q (i := 10) rfl (by kernel_rfl) (fun _ _ _ _ h => h) HH.out (fun K hK => ?_)
      go_simp
      (first | refine hK _ ?_ | (apply Exists.intro; refine ⟨?_, hK _ ?_⟩; focus intro wx hx; have x1_ := hx.cells; have x4_ := hx.r4.cells; first | (go_simp; first | rfl | exact ⟨rfl, rfl⟩) | rfl | exact ⟨rfl, rfl⟩)); clear hK K
      refine reg_l (some 11) (i := 8) rfl (by kernel_rfl) (fun wn hk K hK => ?_)
      replace HH := Lib.hid (hk _ _ HH.out)
      clear hk
      go_simp
      refine (refSub_c wn x.deliv x.sd hx.out.deliv hx.out.sd).mono ?_
      rintro e wm ⟨rfl, hbel⟩
      replace HH := Lib.hid ((by first | exact .same hbel | exact .drew hbel | exact .below hbel : Kp wn wm) _ _ HH.out)
      clear hbel
      refine hK _ _ _ HH.out (.inr ⟨rfl, fun _ h => h⟩) ?_
      clear hK K
      refine reg_l none (i := 11) rfl (by kernel_rfl) (fun wn hk K hK => ?_)
      replace HH := Lib.hid (hk _ _ HH.out)
      clear hk
      go_simp
      refine (rNAck_c ε wn _ b yb { s with acked := sadd s.acked x.acked, lost := sadd s.lost x.lost } m2 v2 (ssub x.deliv x.sd) x.deliv HH.out).mono ?_
      rw [e1.out]
      rintro e wm ⟨rfl, H9_⟩
      replace HH := Lib.hid H9_
      clear H9_
      refine hK _ _ _ HH.out (.inl (by kernel_rfl)) ?_
      clear hK K
      refine reg_p (i := 12) rfl (by kernel_rfl) (fun _ _ _ _ h => h) HH.out (fun K hK => ?_)
      go_simp
      (first | refine hK _ ?_ | (apply Exists.intro; refine ⟨?_, hK _ ?_⟩; focus intro wx; first | (go_simp; rfl) | rfl)); clear hK K
      refine mixk_done (by kernel_rfl) (fun w6_ hk => ?_) _
      replace HH := Lib.hid (hk _ _ HH.out)
      clear hk
      replace HH := Lib.hid ((Own.pm (HH.out) (by with_reducible repeat (first | exact .refl _ | exact .nil _ | refine .here ?_ | refine .at2 ?_ | refine .at3 ?_ | refine .at4 ?_ | refine .at5 ?_ | refine .at6 ?_ | refine .at7 ?_ | refine .at8 ?_ | refine .skip ?_))) : Own _ _ (pts b (.cells #[.int .u64 s.c.mss, .int .u64 s.c.init, .int .u64 s.c.reorder, .int .u64 s.c.window, .int .u64 s.c.probe, .int .u64 s.c.loss, .int .i64 s.st, .int .u64 s.since, .int .u64 s.rounds, .int .u64 m2.win, .bool m2.least, .int .u64 m2.now, v2, .pointer (some ⟨yb, 0, none⟩), .int .u64 (s.k.ack (ssub x.deliv x.sd) x.deliv).2.mark, .int .u64 (s.k.ack (ssub x.deliv x.sd) x.deliv).2.n, .int .u64 s.p.best, .int .i64 s.p.n, .int .u64 s.bd.hi, .int .u64 s.bd.lo, .int .u64 s.bd.bw, .int .u64 (sadd s.acked x.acked), .int .u64 (sadd s.lost x.lost), .int .u64 s.cwnd, .int .u64 s.kept, .int .u64 s.ended] 76 (0, 0)) :: slc 151 2 v2 (encs encR m2.l) :: rcyc yb mm l1 l0 :: pts g (.cells #[.int .u64 x.now, .int .u64 x.sd, .int .u64 x.si, .int .u64 x.sr, .int .u64 x.rtt, .bool x.slim, .bool x.some, .int .u64 x.deliv, .int .u64 x.acked, .int .u64 x.lost, .int .u64 x.fl] 41 (0, 0)) :: R))
      replace HH := Lib.hid (Own.asE HH.out (show _ = pts b (.cells #[.int .u64 s.c.mss, .int .u64 s.c.init, .int .u64 s.c.reorder, .int .u64 s.c.window, .int .u64 s.c.probe, .int .u64 s.c.loss, .int .i64 s.st, .int .u64 s.since, .int .u64 s.rounds, .int .u64 m2.win, .bool m2.least, .int .u64 m2.now, v2, .pointer (some ⟨yb, 0, none⟩), .int .u64 kA.mark, .int .u64 kA.n, .int .u64 s.p.best, .int .i64 s.p.n, .int .u64 s.bd.hi, .int .u64 s.bd.lo, .int .u64 s.bd.bw, .int .u64 (sadd s.acked x.acked), .int .u64 (sadd s.lost x.lost), .int .u64 s.cwnd, .int .u64 s.kept, .int .u64 s.ended] 76 (0, 0)) :: slc 151 2 v2 (encs encR m2.l) :: rcyc yb mm l1 l0 :: pts g (.cells #[.int .u64 x.now, .int .u64 x.sd, .int .u64 x.si, .int .u64 x.sr, .int .u64 x.rtt, .bool x.slim, .bool x.some, .int .u64 x.deliv, .int .u64 x.acked, .int .u64 x.lost, .int .u64 x.fl] 41 (0, 0)) :: R from by rw [e2.out]))
      (try clear cc1_); (try clear cc2_); (try clear cc3_); (try clear cc4_); (try clear cc5_); (try clear cc6_); (try clear cc7_)
      have cc1_ := HH.out.cells
      have cc4_ := HH.out.r4.cells
      cases hsl : x.slim
      · have e4 : l2 = l0 ++ [x.sr] := by rw [hl2.out, if_pos ⟨hsm, .inl hsl⟩]
        replace e4 := Lib.hid e4
        go_wp2_with fail
        go_wp2_with fail
        refine wp_region_reg none HH.out (by kernel_rfl) ?_
        intro wm H9_
        replace HH := Lib.hid H9_
        clear H9_
        refine reg_p (i := 0) rfl (by kernel_rfl) (fun _ _ _ _ h => h) HH.out (fun K hK => ?_)
        go_simp
        (first | refine hK _ ?_ | (apply Exists.intro; refine ⟨?_, hK _ ?_⟩; focus intro wx; first | (go_simp; rfl) | rfl)); clear hK K
        refine reg_p (i := 1) rfl (by kernel_rfl) (fun _ _ _ _ h => h) HH.out (fun K hK => ?_)
        go_simp
        (first | refine hK _ ?_ | (apply Exists.intro; refine ⟨?_, hK _ ?_⟩; focus intro wx; first | (go_simp; rfl) | rfl)); clear hK K
        refine mixk_q (i := 2) rfl (by kernel_rfl) (fun _ _ _ _ h => h) HH.out (fun K hK => ?_)
        go_simp
        (first | refine hK _ ?_ | (apply Exists.intro; refine ⟨?_, hK _ ?_⟩; focus intro wx hx; have x1_ := hx.cells; have x4_ := hx.r4.cells; first | (go_simp; first | rfl | exact ⟨rfl, rfl⟩) | rfl | exact ⟨rfl, rfl⟩)); clear hK K
        refine reg_p (i := 3) rfl (by kernel_rfl) (fun _ _ _ _ h => h) HH.out (fun K hK => ?_)
        go_simp
        (first | refine hK _ ?_ | (apply Exists.intro; refine ⟨?_, hK _ ?_⟩; focus intro wx; first | (go_simp; rfl) | rfl)); clear hK K
        refine reg_p (i := 4) rfl (by kernel_rfl) (fun _ _ _ _ h => h) HH.out (fun K hK => ?_)
        go_simp
        (first | refine hK _ ?_ | (apply Exists.intro; refine ⟨?_, hK _ ?_⟩; focus intro wx; first | (go_simp; rfl) | rfl)); clear hK K
        refine reg_p (i := 5) rfl (by kernel_rfl) (fun _ _ _ _ h => h) HH.out (fun K hK => ?_)
        go_simp
        (first | refine hK _ ?_ | (apply Exists.intro; refine ⟨?_, hK _ ?_⟩; focus intro wx; first | (go_simp; rfl) | rfl)); clear hK K
        refine reg_p (i := 6) rfl (by kernel_rfl) (fun _ _ _ _ h => h) HH.out (fun K hK => ?_)
        go_simp
        (first | refine hK _ ?_ | (apply Exists.intro; refine ⟨?_, hK _ ?_⟩; focus intro wx; first | (go_simp; rfl) | rfl)); clear hK K
        refine mixk_q (i := 7) rfl (by kernel_rfl) (fun _ _ _ _ h => h) HH.out (fun K hK => ?_)
        go_simp
        (first | refine hK _ ?_ | (apply Exists.intro; refine ⟨?_, hK _ ?_⟩; focus intro wx hx; have x1_ := hx.cells; have x4_ := hx.r4.cells; first | (go_simp; first | rfl | exact ⟨rfl, rfl⟩) | rfl | exact ⟨rfl, rfl⟩)); clear hK K
        refine reg_p (i := 8) rfl (by kernel_rfl) (fun _ _ _ _ h => h) HH.out (fun K hK => ?_)
        go_simp
        (first | refine hK _ ?_ | (apply Exists.intro; refine ⟨?_, hK _ ?_⟩; focus intro wx; first | (go_simp; rfl) | rfl)); clear hK K
        refine reg_p (i := 9) rfl (by kernel_rfl) (fun _ _ _ _ h => h) HH.out (fun K hK => ?_)
        go_simp
        (first | refine hK _ ?_ | (apply Exists.intro; refine ⟨?_, hK _ ?_⟩; focus intro wx; first | (go_simp; rfl) | rfl)); clear hK K
        refine reg_p (i := 10) rfl (by kernel_rfl) (fun _ _ _ _ h => h) HH.out (fun K hK => ?_)
        go_simp
        (first | refine hK _ ?_ | (apply Exists.intro; refine ⟨?_, hK _ ?_⟩; focus intro wx; first | (go_simp; rfl) | rfl)); clear hK K
        refine mixk_q (i := 11) rfl (by kernel_rfl) (fun _ _ _ _ h => h) HH.out (fun K hK => ?_)
        go_simp
        (first | refine hK _ ?_ | (apply Exists.intro; refine ⟨?_, hK _ ?_⟩; focus intro wx hx; have x1_ := hx.cells; have x4_ := hx.r4.cells; first | (go_simp; first | rfl | exact ⟨rfl, rfl⟩) | rfl | exact ⟨rfl, rfl⟩)); clear hK K
        refine reg_l none (i := 12) rfl (by kernel_rfl) (fun wn hk K hK => ?_)
        replace HH := Lib.hid (hk _ _ HH.out)
        clear hk
        go_simp
        refine hK _ _ _ HH.out (.inr ⟨rfl, fun _ h => h⟩) ?_
        clear hK K
        refine reg_p (i := 13) rfl (by kernel_rfl) (fun _ _ _ _ h => h) HH.out (fun K hK => ?_)
        go_simp
        (first | refine hK _ ?_ | (apply Exists.intro; refine ⟨?_, hK _ ?_⟩; focus intro wx; first | (go_simp; rfl) | rfl)); clear hK K
        refine reg_p (i := 14) rfl (by kernel_rfl) (fun _ _ _ _ h => h) HH.out (fun K hK => ?_)
        go_simp
        (first | refine hK _ ?_ | (apply Exists.intro; refine ⟨?_, hK _ ?_⟩; focus intro wx; first | (go_simp; rfl) | rfl)); clear hK K
        refine mixk_done (by kernel_rfl) (fun w7_ hk => ?_) _
        replace HH := Lib.hid (hk _ _ HH.out)
        clear hk
        (try clear cc1_); (try clear cc2_); (try clear cc3_); (try clear cc4_); (try clear cc5_); (try clear cc6_); (try clear cc7_)
        have cc1_ := HH.out.cells
        have cc4_ := HH.out.r4.cells
        go_wp2_with fail
        go_wp2_with fail
        refine wp_region_reg (some 8) HH.out (by kernel_rfl) ?_
        intro wm H9_
        replace HH := Lib.hid H9_
        clear H9_
        refine reg_p (i := 0) rfl (by kernel_rfl) (fun _ _ _ _ h => h) HH.out (fun K hK => ?_)
        go_simp
        (first | refine hK _ ?_ | (apply Exists.intro; refine ⟨?_, hK _ ?_⟩; focus intro wx; first | (go_simp; rfl) | rfl)); clear hK K
        refine reg_p (i := 1) rfl (by kernel_rfl) (fun _ _ _ _ h => h) HH.out (fun K hK => ?_)
        go_simp
        (first | refine hK _ ?_ | (apply Exists.intro; refine ⟨?_, hK _ ?_⟩; focus intro wx; first | (go_simp; rfl) | rfl)); clear hK K
        refine reg_p (i := 2) rfl (by kernel_rfl) (fun _ _ _ _ h => h) HH.out (fun K hK => ?_)
        go_simp
        (first | refine hK _ ?_ | (apply Exists.intro; refine ⟨?_, hK _ ?_⟩; focus intro wx; first | (go_simp; rfl) | rfl)); clear hK K
        refine mixk_q (i := 3) rfl (by kernel_rfl) (fun _ _ _ _ h => h) HH.out (fun K hK => ?_)
        go_simp
        (first | refine hK _ ?_ | (apply Exists.intro; refine ⟨?_, hK _ ?_⟩; focus intro wx hx; have x1_ := hx.cells; have x4_ := hx.r4.cells; first | (go_simp; first | rfl | exact ⟨rfl, rfl⟩) | rfl | exact ⟨rfl, rfl⟩)); clear hK K
        refine reg_p (i := 4) rfl (by kernel_rfl) (fun _ _ _ _ h => h) HH.out (fun K hK => ?_)
        go_simp
        (first | refine hK _ ?_ | (apply Exists.intro; refine ⟨?_, hK _ ?_⟩; focus intro wx; first | (go_simp; rfl) | rfl)); clear hK K
        refine reg_p (i := 5) rfl (by kernel_rfl) (fun _ _ _ _ h => h) HH.out (fun K hK => ?_)
        go_simp
        (first | refine hK _ ?_ | (apply Exists.intro; refine ⟨?_, hK _ ?_⟩; focus intro wx; first | (go_simp; rfl) | rfl)); clear hK K
        refine mixk_q (i := 6) rfl (by kernel_rfl) (fun _ _ _ _ h => h) HH.out (fun K hK => ?_)
        go_simp
        (first | refine hK _ ?_ | (apply Exists.intro; refine ⟨?_, hK _ ?_⟩; focus intro wx hx; have x1_ := hx.cells; have x4_ := hx.r4.cells; first | (go_simp; first | rfl | exact ⟨rfl, rfl⟩) | rfl | exact ⟨rfl, rfl⟩)); clear hK K
        refine reg_l (some 8) (i := 7) rfl (by kernel_rfl) (fun wn hk K hK => ?_)
        replace HH := Lib.hid (hk _ _ HH.out)
        clear hk
        go_simp
        replace HH := Lib.hid (HH.out.alloc (.cells #[.int .u64 x.sr] 22))
        generalize wn.alloc (.cells #[.int .u64 x.sr] 22) = wm at *
        generalize wn.heap.size = sb at *
        refine hK _ _ _ HH.out (.inr ⟨rfl, fun _ h => h.tail⟩) ?_
        clear hK K
        refine reg_l none (i := 8) rfl (by kernel_rfl) (fun wn hk K hK => ?_)
        replace HH := Lib.hid (hk _ _ HH.out)
        clear hk
        go_simp
        refine (rcycPut_c ε wn _ yb mm l1 l0 [x.sr] _ 1 1 (fun wx Hx => rd1 hx.out.sr Hx) hu0.out hlb.out HH.out.r4).mono ?_
        rintro e wm ⟨rfl, H9_⟩
        replace HH := Lib.hid H9_
        clear H9_
        refine hK _ _ _ HH.out (.inl (by kernel_rfl)) ?_
        clear hK K
        refine mixk_done (by kernel_rfl) (fun w8_ hk => ?_) _
        replace HH := Lib.hid (hk _ _ HH.out)
        clear hk
        replace HH := Lib.hid ((Own.pm (HH.out) (by with_reducible repeat (first | exact .refl _ | exact .nil _ | refine .here ?_ | refine .at2 ?_ | refine .at3 ?_ | refine .at4 ?_ | refine .at5 ?_ | refine .at6 ?_ | refine .at7 ?_ | refine .at8 ?_ | refine .skip ?_))) : Own _ _ (pts b (.cells #[.int .u64 s.c.mss, .int .u64 s.c.init, .int .u64 s.c.reorder, .int .u64 s.c.window, .int .u64 s.c.probe, .int .u64 s.c.loss, .int .i64 s.st, .int .u64 s.since, .int .u64 s.rounds, .int .u64 m2.win, .bool m2.least, .int .u64 m2.now, v2, .pointer (some ⟨yb, 0, none⟩), .int .u64 kA.mark, .int .u64 kA.n, .int .u64 s.p.best, .int .i64 s.p.n, .int .u64 s.bd.hi, .int .u64 s.bd.lo, .int .u64 s.bd.bw, .int .u64 (sadd s.acked x.acked), .int .u64 (sadd s.lost x.lost), .int .u64 s.cwnd, .int .u64 s.kept, .int .u64 s.ended] 76 (0, 0)) :: slc 151 2 v2 (encs encR m2.l) :: rcyc yb mm l1 (l0 ++ [x.sr]) :: pts g (.cells #[.int .u64 x.now, .int .u64 x.sd, .int .u64 x.si, .int .u64 x.sr, .int .u64 x.rtt, .bool x.slim, .bool x.some, .int .u64 x.deliv, .int .u64 x.acked, .int .u64 x.lost, .int .u64 x.fl] 41 (0, 0)) :: R))
        go_wp2_with fail
        go_meet
        case rel => exact ⟨v2, rfl, by rw [e4.out]; exact HH.out⟩
      · by_cases hc : s.r.best ≤ x.sr
        · have e4 : l2 = l0 ++ [x.sr] := by rw [hl2.out, if_pos ⟨hsm, .inr hc⟩]
          replace e4 := Lib.hid e4
          go_wp2_with fail
          go_wp2_with fail
          refine wp_region_reg none HH.out (by kernel_rfl) ?_
          intro wm H9_
          replace HH := Lib.hid H9_
          clear H9_
          refine reg_p (i := 0) rfl (by kernel_rfl) (fun _ _ _ _ h => h) HH.out (fun K hK => ?_)
          go_simp
          (first | refine hK _ ?_ | (apply Exists.intro; refine ⟨?_, hK _ ?_⟩; focus intro wx; first | (go_simp; rfl) | rfl)); clear hK K
          refine reg_p (i := 1) rfl (by kernel_rfl) (fun _ _ _ _ h => h) HH.out (fun K hK => ?_)
          go_simp
          (first | refine hK _ ?_ | (apply Exists.intro; refine ⟨?_, hK _ ?_⟩; focus intro wx; first | (go_simp; rfl) | rfl)); clear hK K
          refine mixk_q (i := 2) rfl (by kernel_rfl) (fun _ _ _ _ h => h) HH.out (fun K hK => ?_)
          go_simp
          (first | refine hK _ ?_ | (apply Exists.intro; refine ⟨?_, hK _ ?_⟩; focus intro wx hx; have x1_ := hx.cells; have x4_ := hx.r4.cells; first | (go_simp; first | rfl | exact ⟨rfl, rfl⟩) | rfl | exact ⟨rfl, rfl⟩)); clear hK K
          refine reg_p (i := 3) rfl (by kernel_rfl) (fun _ _ _ _ h => h) HH.out (fun K hK => ?_)
          go_simp
          (first | refine hK _ ?_ | (apply Exists.intro; refine ⟨?_, hK _ ?_⟩; focus intro wx; first | (go_simp; rfl) | rfl)); clear hK K
          refine reg_p (i := 4) rfl (by kernel_rfl) (fun _ _ _ _ h => h) HH.out (fun K hK => ?_)
          go_simp
          (first | refine hK _ ?_ | (apply Exists.intro; refine ⟨?_, hK _ ?_⟩; focus intro wx; first | (go_simp; rfl) | rfl)); clear hK K
          refine reg_p (i := 5) rfl (by kernel_rfl) (fun _ _ _ _ h => h) HH.out (fun K hK => ?_)
          go_simp
          (first | refine hK _ ?_ | (apply Exists.intro; refine ⟨?_, hK _ ?_⟩; focus intro wx; first | (go_simp; rfl) | rfl)); clear hK K
          refine reg_p (i := 6) rfl (by kernel_rfl) (fun _ _ _ _ h => h) HH.out (fun K hK => ?_)
          go_simp
          (first | refine hK _ ?_ | (apply Exists.intro; refine ⟨?_, hK _ ?_⟩; focus intro wx; first | (go_simp; rfl) | rfl)); clear hK K
          refine mixk_q (i := 7) rfl (by kernel_rfl) (fun _ _ _ _ h => h) HH.out (fun K hK => ?_)
          go_simp
          (first | refine hK _ ?_ | (apply Exists.intro; refine ⟨?_, hK _ ?_⟩; focus intro wx hx; have x1_ := hx.cells; have x4_ := hx.r4.cells; first | (go_simp; first | rfl | exact ⟨rfl, rfl⟩) | rfl | exact ⟨rfl, rfl⟩)); clear hK K
          refine reg_p (i := 8) rfl (by kernel_rfl) (fun _ _ _ _ h => h) HH.out (fun K hK => ?_)
          go_simp
          (first | refine hK _ ?_ | (apply Exists.intro; refine ⟨?_, hK _ ?_⟩; focus intro wx; first | (go_simp; rfl) | rfl)); clear hK K
          refine reg_p (i := 9) rfl (by kernel_rfl) (fun _ _ _ _ h => h) HH.out (fun K hK => ?_)
          go_simp
          (first | refine hK _ ?_ | (apply Exists.intro; refine ⟨?_, hK _ ?_⟩; focus intro wx; first | (go_simp; rfl) | rfl)); clear hK K
          refine reg_p (i := 10) rfl (by kernel_rfl) (fun _ _ _ _ h => h) HH.out (fun K hK => ?_)
          go_simp
          (first | refine hK _ ?_ | (apply Exists.intro; refine ⟨?_, hK _ ?_⟩; focus intro wx; first | (go_simp; rfl) | rfl)); clear hK K
          refine mixk_q (i := 11) rfl (by kernel_rfl) (fun _ _ _ _ h => h) HH.out (fun K hK => ?_)
          go_simp
          (first | refine hK _ ?_ | (apply Exists.intro; refine ⟨?_, hK _ ?_⟩; focus intro wx hx; have x1_ := hx.cells; have x4_ := hx.r4.cells; first | (go_simp; first | rfl | exact ⟨rfl, rfl⟩) | rfl | exact ⟨rfl, rfl⟩)); clear hK K
          refine reg_l none (i := 12) rfl (by kernel_rfl) (fun wn hk K hK => ?_)
          replace HH := Lib.hid (hk _ _ HH.out)
          clear hk
          go_simp
          refine (rcycBest_c ε wn _ yb mm l1 l0 hu1.out hu0.out HH.out.r3).mono ?_
          rw [hr1.out]
          rintro e wm ⟨rfl, hbel⟩
          replace HH := Lib.hid ((by first | exact .same hbel | exact .drew hbel | exact .below hbel : Kp wn wm) _ _ HH.out)
          clear hbel
          refine hK _ _ _ HH.out (.inr ⟨rfl, fun _ h => h⟩) ?_
          clear hK K
          refine reg_p (i := 13) rfl (by kernel_rfl) (fun _ _ _ _ h => h) HH.out (fun K hK => ?_)
          go_simp
          (first | refine hK _ ?_ | (apply Exists.intro; refine ⟨?_, hK _ ?_⟩; focus intro wx; first | (go_simp; rfl) | rfl)); clear hK K
          refine reg_p (i := 14) rfl (by kernel_rfl) (fun _ _ _ _ h => h) HH.out (fun K hK => ?_)
          go_simp
          (first | refine hK _ ?_ | (apply Exists.intro; refine ⟨?_, hK _ ?_⟩; focus intro wx; first | (go_simp; rfl) | rfl)); clear hK K
          refine mixk_done (by kernel_rfl) (fun w9_ hk => ?_) _
          replace HH := Lib.hid (hk _ _ HH.out)
          clear hk
          (try clear cc1_); (try clear cc2_); (try clear cc3_); (try clear cc4_); (try clear cc5_); (try clear cc6_); (try clear cc7_)
          have cc1_ := HH.out.cells
          have cc4_ := HH.out.r4.cells
          go_wp2_with fail
          go_wp2_with fail
          refine wp_region_reg (some 8) HH.out (by kernel_rfl) ?_
          intro wm H9_
          replace HH := Lib.hid H9_
          clear H9_
          refine reg_p (i := 0) rfl (by kernel_rfl) (fun _ _ _ _ h => h) HH.out (fun K hK => ?_)
          go_simp
          (first | refine hK _ ?_ | (apply Exists.intro; refine ⟨?_, hK _ ?_⟩; focus intro wx; first | (go_simp; rfl) | rfl)); clear hK K
          refine reg_p (i := 1) rfl (by kernel_rfl) (fun _ _ _ _ h => h) HH.out (fun K hK => ?_)
          go_simp
          (first | refine hK _ ?_ | (apply Exists.intro; refine ⟨?_, hK _ ?_⟩; focus intro wx; first | (go_simp; rfl) | rfl)); clear hK K
          refine reg_p (i := 2) rfl (by kernel_rfl) (fun _ _ _ _ h => h) HH.out (fun K hK => ?_)
          go_simp
          (first | refine hK _ ?_ | (apply Exists.intro; refine ⟨?_, hK _ ?_⟩; focus intro wx; first | (go_simp; rfl) | rfl)); clear hK K
          refine mixk_q (i := 3) rfl (by kernel_rfl) (fun _ _ _ _ h => h) HH.out (fun K hK => ?_)
          go_simp
          (first | refine hK _ ?_ | (apply Exists.intro; refine ⟨?_, hK _ ?_⟩; focus intro wx hx; have x1_ := hx.cells; have x4_ := hx.r4.cells; first | (go_simp; first | rfl | exact ⟨rfl, rfl⟩) | rfl | exact ⟨rfl, rfl⟩)); clear hK K
          refine reg_p (i := 4) rfl (by kernel_rfl) (fun _ _ _ _ h => h) HH.out (fun K hK => ?_)
          go_simp
          (first | refine hK _ ?_ | (apply Exists.intro; refine ⟨?_, hK _ ?_⟩; focus intro wx; first | (go_simp; rfl) | rfl)); clear hK K
          refine reg_p (i := 5) rfl (by kernel_rfl) (fun _ _ _ _ h => h) HH.out (fun K hK => ?_)
          go_simp
          (first | refine hK _ ?_ | (apply Exists.intro; refine ⟨?_, hK _ ?_⟩; focus intro wx; first | (go_simp; rfl) | rfl)); clear hK K
          refine mixk_q (i := 6) rfl (by kernel_rfl) (fun _ _ _ _ h => h) HH.out (fun K hK => ?_)
          go_simp
          (first | refine hK _ ?_ | (apply Exists.intro; refine ⟨?_, hK _ ?_⟩; focus intro wx hx; have x1_ := hx.cells; have x4_ := hx.r4.cells; first | (go_simp; first | rfl | exact ⟨rfl, rfl⟩) | rfl | exact ⟨rfl, rfl⟩)); clear hK K
          refine reg_l (some 8) (i := 7) rfl (by kernel_rfl) (fun wn hk K hK => ?_)
          replace HH := Lib.hid (hk _ _ HH.out)
          clear hk
          go_simp
          replace HH := Lib.hid (HH.out.alloc (.cells #[.int .u64 x.sr] 22))
          generalize wn.alloc (.cells #[.int .u64 x.sr] 22) = wm at *
          generalize wn.heap.size = sb at *
          refine hK _ _ _ HH.out (.inr ⟨rfl, fun _ h => h.tail⟩) ?_
          clear hK K
          refine reg_l none (i := 8) rfl (by kernel_rfl) (fun wn hk K hK => ?_)
          replace HH := Lib.hid (hk _ _ HH.out)
          clear hk
          go_simp
          refine (rcycPut_c ε wn _ yb mm l1 l0 [x.sr] _ 1 1 (fun wx Hx => rd1 hx.out.sr Hx) hu0.out hlb.out HH.out.r4).mono ?_
          rintro e wm ⟨rfl, H9_⟩
          replace HH := Lib.hid H9_
          clear H9_
          refine hK _ _ _ HH.out (.inl (by kernel_rfl)) ?_
          clear hK K
          refine mixk_done (by kernel_rfl) (fun w10_ hk => ?_) _
          replace HH := Lib.hid (hk _ _ HH.out)
          clear hk
          replace HH := Lib.hid ((Own.pm (HH.out) (by with_reducible repeat (first | exact .refl _ | exact .nil _ | refine .here ?_ | refine .at2 ?_ | refine .at3 ?_ | refine .at4 ?_ | refine .at5 ?_ | refine .at6 ?_ | refine .at7 ?_ | refine .at8 ?_ | refine .skip ?_))) : Own _ _ (pts b (.cells #[.int .u64 s.c.mss, .int .u64 s.c.init, .int .u64 s.c.reorder, .int .u64 s.c.window, .int .u64 s.c.probe, .int .u64 s.c.loss, .int .i64 s.st, .int .u64 s.since, .int .u64 s.rounds, .int .u64 m2.win, .bool m2.least, .int .u64 m2.now, v2, .pointer (some ⟨yb, 0, none⟩), .int .u64 kA.mark, .int .u64 kA.n, .int .u64 s.p.best, .int .i64 s.p.n, .int .u64 s.bd.hi, .int .u64 s.bd.lo, .int .u64 s.bd.bw, .int .u64 (sadd s.acked x.acked), .int .u64 (sadd s.lost x.lost), .int .u64 s.cwnd, .int .u64 s.kept, .int .u64 s.ended] 76 (0, 0)) :: slc 151 2 v2 (encs encR m2.l) :: rcyc yb mm l1 (l0 ++ [x.sr]) :: pts g (.cells #[.int .u64 x.now, .int .u64 x.sd, .int .u64 x.si, .int .u64 x.sr, .int .u64 x.rtt, .bool x.slim, .bool x.some, .int .u64 x.deliv, .int .u64 x.acked, .int .u64 x.lost, .int .u64 x.fl] 41 (0, 0)) :: R))
          go_wp2_with fail
          go_meet
          case rel => exact ⟨v2, rfl, by rw [e4.out]; exact HH.out⟩
        · have e4 : l2 = l0 := by rw [hl2.out, if_neg (by rw [hsl]; rintro ⟨_, q | q⟩; exact absurd q (by decide); exact hc q)]
          replace e4 := Lib.hid e4
          go_wp2_with fail
          go_wp2_with fail
          refine wp_region_reg none HH.out (by kernel_rfl) ?_
          intro wm H9_
          replace HH := Lib.hid H9_
          clear H9_
          refine reg_p (i := 0) rfl (by kernel_rfl) (fun _ _ _ _ h => h) HH.out (fun K hK => ?_)
          go_simp
          (first | refine hK _ ?_ | (apply Exists.intro; refine ⟨?_, hK _ ?_⟩; focus intro wx; first | (go_simp; rfl) | rfl)); clear hK K
          refine reg_p (i := 1) rfl (by kernel_rfl) (fun _ _ _ _ h => h) HH.out (fun K hK => ?_)
          go_simp
          (first | refine hK _ ?_ | (apply Exists.intro; refine ⟨?_, hK _ ?_⟩; focus intro wx; first | (go_simp; rfl) | rfl)); clear hK K
          refine mixk_q (i := 2) rfl (by kernel_rfl) (fun _ _ _ _ h => h) HH.out (fun K hK => ?_)
          go_simp
          (first | refine hK _ ?_ | (apply Exists.intro; refine ⟨?_, hK _ ?_⟩; focus intro wx hx; have x1_ := hx.cells; have x4_ := hx.r4.cells; first | (go_simp; first | rfl | exact ⟨rfl, rfl⟩) | rfl | exact ⟨rfl, rfl⟩)); clear hK K
          refine reg_p (i := 3) rfl (by kernel_rfl) (fun _ _ _ _ h => h) HH.out (fun K hK => ?_)
          go_simp
          (first | refine hK _ ?_ | (apply Exists.intro; refine ⟨?_, hK _ ?_⟩; focus intro wx; first | (go_simp; rfl) | rfl)); clear hK K
          refine reg_p (i := 4) rfl (by kernel_rfl) (fun _ _ _ _ h => h) HH.out (fun K hK => ?_)
          go_simp
          (first | refine hK _ ?_ | (apply Exists.intro; refine ⟨?_, hK _ ?_⟩; focus intro wx; first | (go_simp; rfl) | rfl)); clear hK K
          refine reg_p (i := 5) rfl (by kernel_rfl) (fun _ _ _ _ h => h) HH.out (fun K hK => ?_)
          go_simp
          (first | refine hK _ ?_ | (apply Exists.intro; refine ⟨?_, hK _ ?_⟩; focus intro wx; first | (go_simp; rfl) | rfl)); clear hK K
          refine reg_p (i := 6) rfl (by kernel_rfl) (fun _ _ _ _ h => h) HH.out (fun K hK => ?_)
          go_simp
          (first | refine hK _ ?_ | (apply Exists.intro; refine ⟨?_, hK _ ?_⟩; focus intro wx; first | (go_simp; rfl) | rfl)); clear hK K
          refine mixk_q (i := 7) rfl (by kernel_rfl) (fun _ _ _ _ h => h) HH.out (fun K hK => ?_)
          go_simp
          (first | refine hK _ ?_ | (apply Exists.intro; refine ⟨?_, hK _ ?_⟩; focus intro wx hx; have x1_ := hx.cells; have x4_ := hx.r4.cells; first | (go_simp; first | rfl | exact ⟨rfl, rfl⟩) | rfl | exact ⟨rfl, rfl⟩)); clear hK K
          refine reg_p (i := 8) rfl (by kernel_rfl) (fun _ _ _ _ h => h) HH.out (fun K hK => ?_)
          go_simp
          (first | refine hK _ ?_ | (apply Exists.intro; refine ⟨?_, hK _ ?_⟩; focus intro wx; first | (go_simp; rfl) | rfl)); clear hK K
          refine reg_p (i := 9) rfl (by kernel_rfl) (fun _ _ _ _ h => h) HH.out (fun K hK => ?_)
          go_simp
          (first | refine hK _ ?_ | (apply Exists.intro; refine ⟨?_, hK _ ?_⟩; focus intro wx; first | (go_simp; rfl) | rfl)); clear hK K
          refine reg_p (i := 10) rfl (by kernel_rfl) (fun _ _ _ _ h => h) HH.out (fun K hK => ?_)
          go_simp
          (first | refine hK _ ?_ | (apply Exists.intro; refine ⟨?_, hK _ ?_⟩; focus intro wx; first | (go_simp; rfl) | rfl)); clear hK K
          refine mixk_q (i := 11) rfl (by kernel_rfl) (fun _ _ _ _ h => h) HH.out (fun K hK => ?_)
          go_simp
          (first | refine hK _ ?_ | (apply Exists.intro; refine ⟨?_, hK _ ?_⟩; focus intro wx hx; have x1_ := hx.cells; have x4_ := hx.r4.cells; first | (go_simp; first | rfl | exact ⟨rfl, rfl⟩) | rfl | exact ⟨rfl, rfl⟩)); clear hK K
          refine reg_l none (i := 12) rfl (by kernel_rfl) (fun wn hk K hK => ?_)
          replace HH := Lib.hid (hk _ _ HH.out)
          clear hk
          go_simp
          refine (rcycBest_c ε wn _ yb mm l1 l0 hu1.out hu0.out HH.out.r3).mono ?_
          rw [hr1.out]
          rintro e wm ⟨rfl, hbel⟩
          replace HH := Lib.hid ((by first | exact .same hbel | exact .drew hbel | exact .below hbel : Kp wn wm) _ _ HH.out)
          clear hbel
          refine hK _ _ _ HH.out (.inr ⟨rfl, fun _ h => h⟩) ?_
          clear hK K
          refine reg_p (i := 13) rfl (by kernel_rfl) (fun _ _ _ _ h => h) HH.out (fun K hK => ?_)
          go_simp
          (first | refine hK _ ?_ | (apply Exists.intro; refine ⟨?_, hK _ ?_⟩; focus intro wx; first | (go_simp; rfl) | rfl)); clear hK K
          refine reg_p (i := 14) rfl (by kernel_rfl) (fun _ _ _ _ h => h) HH.out (fun K hK => ?_)
          go_simp
          (first | refine hK _ ?_ | (apply Exists.intro; refine ⟨?_, hK _ ?_⟩; focus intro wx; first | (go_simp; rfl) | rfl)); clear hK K
          refine mixk_done (by kernel_rfl) (fun w11_ hk => ?_) _
          replace HH := Lib.hid (hk _ _ HH.out)
          clear hk
          go_wp2_with fail
          go_meet
          case rel => exact ⟨v2, rfl, by rw [e4.out]; exact HH.out⟩
  case rest =>
    clear HH
    obtain ⟨v2, rfl, HR⟩ := hcut
    have HH := Lib.hid HR
    clear HR
    (try clear cc1_); (try clear cc2_); (try clear cc3_); (try clear cc4_); (try clear cc5_); (try clear cc6_); (try clear cc7_)
    have cc1_ := HH.out.cells
    have cc4_ := HH.out.r4.cells
    go_upto_if 81 with (fail)
    go_cut [1, 7] from 8 (fun _ v7 wc => v7 = .bool ls ∧ Own ε wc (pts b (.cells #[.int .u64 s.c.mss, .int .u64 s.c.init, .int .u64 s.c.reorder, .int .u64 s.c.window, .int .u64 s.c.probe, .int .u64 s.c.loss, .int .i64 s.st, .int .u64 s.since, .int .u64 rB, .int .u64 m2.win, .bool m2.least, .int .u64 m2.now, v2, .pointer (some ⟨yb, 0, none⟩), .int .u64 kA.mark, .int .u64 kA.n, .int .u64 s.p.best, .int .i64 s.p.n, .int .u64 s.bd.hi, .int .u64 s.bd.lo, .int .u64 s.bd.bw, .int .u64 aB, .int .u64 bB, .int .u64 s.cwnd, .int .u64 s.kept, .int .u64 s.ended] 76 (0, 0)) :: slc 151 2 v2 (encs encR m2.l) :: rcyc yb mm l1 l2 :: pts g (.cells #[.int .u64 x.now, .int .u64 x.sd, .int .u64 x.si, .int .u64 x.sr, .int .u64 x.rtt, .bool x.slim, .bool x.some, .int .u64 x.deliv, .int .u64 x.acked, .int .u64 x.lost, .int .u64 x.fl] 41 (0, 0)) :: R))
    case first =>
      cases tl
      · have e5 : ls = false := by rw [← els.out, hls.out, Bool.false_and]
        have e6 : aB = sadd s.acked x.acked := by rw [← haB.out, if_neg (by decide)]
        have e7 : bB = sadd s.lost x.lost := by rw [← hbB.out, if_neg (by decide)]
        have e8 : rB = s.rounds := by rw [← hrB.out, if_neg (by decide)]
        go_wp2_with fail
        go_meet
        case rel => exact ⟨by rw [e5], by rw [e6, e7, e8]; exact HH.out⟩
      · have e5 : decide (smul s.c.loss (sadd (sadd s.acked x.acked) (sadd s.lost x.lost)) < smul (sadd s.lost x.lost) 1000) = ls := by rw [← els.out, hls.out, Bool.true_and]
        have e6 : aB = 0 := by rw [← haB.out, if_pos rfl]
        have e7 : bB = 0 := by rw [← hbB.out, if_pos rfl]
        have e8 : rB = IntKind.u64.wrap (s.rounds + 1) := by rw [← hrB.out, if_pos rfl]
        replace e6 := Lib.hid e6
        replace e7 := Lib.hid e7
        replace e8 := Lib.hid e8
        go_wp2_with fail
        go_wp2_with fail
        refine wp_region_reg none HH.out (by kernel_rfl) ?_
        intro wm H9_
        replace HH := Lib.hid H9_
        clear H9_
        refine reg_p (i := 0) rfl (by kernel_rfl) (fun _ _ _ _ h => h) HH.out (fun K hK => ?_)
        go_simp
        (first | refine hK _ ?_ | (apply Exists.intro; refine ⟨?_, hK _ ?_⟩; focus intro wx; first | (go_simp; rfl) | rfl)); clear hK K
        refine reg_p (i := 1) rfl (by kernel_rfl) (fun _ _ _ _ h => h) HH.out (fun K hK => ?_)
        go_simp
        (first | refine hK _ ?_ | (apply Exists.intro; refine ⟨?_, hK _ ?_⟩; focus intro wx; first | (go_simp; rfl) | rfl)); clear hK K
        refine reg_p (i := 2) rfl (by kernel_rfl) (fun _ _ _ _ h => h) HH.out (fun K hK => ?_)
        go_simp
        (first | refine hK _ ?_ | (apply Exists.intro; refine ⟨?_, hK _ ?_⟩; focus intro wx; first | (go_simp; rfl) | rfl)); clear hK K
        refine mixk_q (i := 3) rfl (by kernel_rfl) (fun _ _ _ _ h => h) HH.out (fun K hK => ?_)
        go_simp
        (first | refine hK _ ?_ | (apply Exists.intro; refine ⟨?_, hK _ ?_⟩; focus intro wx hx; have x1_ := hx.cells; first | (go_simp; first | rfl | exact ⟨rfl, rfl⟩) | rfl | exact ⟨rfl, rfl⟩)); clear hK K
        refine reg_p (i := 5) rfl (by kernel_rfl) (fun _ _ _ _ h => h) HH.out (fun K hK => ?_)
        go_simp
        (first | refine hK _ ?_ | (apply Exists.intro; refine ⟨?_, hK _ ?_⟩; focus intro wx; first | (go_simp; rfl) | rfl)); clear hK K
        refine reg_p (i := 6) rfl (by kernel_rfl) (fun _ _ _ _ h => h) HH.out (fun K hK => ?_)
        go_simp
        (first | refine hK _ ?_ | (apply Exists.intro; refine ⟨?_, hK _ ?_⟩; focus intro wx; first | (go_simp; rfl) | rfl)); clear hK K
        refine reg_p (i := 7) rfl (by kernel_rfl) (fun _ _ _ _ h => h) HH.out (fun K hK => ?_)
        go_simp
        (first | refine hK _ ?_ | (apply Exists.intro; refine ⟨?_, hK _ ?_⟩; focus intro wx; first | (go_simp; rfl) | rfl)); clear hK K
        refine reg_p (i := 8) rfl (by kernel_rfl) (fun _ _ _ _ h => h) HH.out (fun K hK => ?_)
        go_simp
        (first | refine hK _ ?_ | (apply Exists.intro; refine ⟨?_, hK _ ?_⟩; focus intro wx; first | (go_simp; rfl) | rfl)); clear hK K
        refine mixk_q (i := 9) rfl (by kernel_rfl) (fun _ _ _ _ h => h) HH.out (fun K hK => ?_)
        go_simp
        (first | refine hK _ ?_ | (apply Exists.intro; refine ⟨?_, hK _ ?_⟩; focus intro wx hx; have x1_ := hx.cells; first | (go_simp; first | rfl | exact ⟨rfl, rfl⟩) | rfl | exact ⟨rfl, rfl⟩)); clear hK K
        refine reg_p (i := 10) rfl (by kernel_rfl) (fun _ _ _ _ h => h) HH.out (fun K hK => ?_)
        go_simp
        (first | refine hK _ ?_ | (apply Exists.intro; refine ⟨?_, hK _ ?_⟩; focus intro wx; first | (go_simp; rfl) | rfl)); clear hK K
        refine reg_p (i := 11) rfl (by kernel_rfl) (fun _ _ _ _ h => h) HH.out (fun K hK => ?_)
        go_simp
        (first | refine hK _ ?_ | (apply Exists.intro; refine ⟨?_, hK _ ?_⟩; focus intro wx; first | (go_simp; rfl) | rfl)); clear hK K
        refine reg_p (i := 12) rfl (by kernel_rfl) (fun _ _ _ _ h => h) HH.out (fun K hK => ?_)
        go_simp
        (first | refine hK _ ?_ | (apply Exists.intro; refine ⟨?_, hK _ ?_⟩; focus intro wx; first | (go_simp; rfl) | rfl)); clear hK K
        refine mixk_q (i := 13) rfl (by kernel_rfl) (fun _ _ _ _ h => h) HH.out (fun K hK => ?_)
        go_simp
        (first | refine hK _ ?_ | (apply Exists.intro; refine ⟨?_, hK _ ?_⟩; focus intro wx hx; have x1_ := hx.cells; first | (go_simp; first | rfl | exact ⟨rfl, rfl⟩) | rfl | exact ⟨rfl, rfl⟩)); clear hK K
        refine reg_p (i := 14) rfl (by kernel_rfl) (fun _ _ _ _ h => h) HH.out (fun K hK => ?_)
        go_simp
        (first | refine hK _ ?_ | (apply Exists.intro; refine ⟨?_, hK _ ?_⟩; focus intro wx; first | (go_simp; rfl) | rfl)); clear hK K
        refine reg_p (i := 15) rfl (by kernel_rfl) (fun _ _ _ _ h => h) HH.out (fun K hK => ?_)
        go_simp
        (first | refine hK _ ?_ | (apply Exists.intro; refine ⟨?_, hK _ ?_⟩; focus intro wx; first | (go_simp; rfl) | rfl)); clear hK K
        refine reg_p (i := 16) rfl (by kernel_rfl) (fun _ _ _ _ h => h) HH.out (fun K hK => ?_)
        go_simp
        (first | refine hK _ ?_ | (apply Exists.intro; refine ⟨?_, hK _ ?_⟩; focus intro wx; first | (go_simp; rfl) | rfl)); clear hK K
        refine mixk_q (i := 17) rfl (by kernel_rfl) (fun _ _ _ _ h => h) HH.out (fun K hK => ?_)
        go_simp
        (first | refine hK _ ?_ | (apply Exists.intro; refine ⟨?_, hK _ ?_⟩; focus intro wx hx; have x1_ := hx.cells; first | (go_simp; first | rfl | exact ⟨rfl, rfl⟩) | rfl | exact ⟨rfl, rfl⟩)); clear hK K
        refine reg_l none (i := 4) rfl (by kernel_rfl) (fun wn hk K hK => ?_)
        replace HH := Lib.hid (hk _ _ HH.out)
        clear hk
        go_simp
        refine (refMul_c wn (sadd s.lost x.lost) 1000 u6.out (by decide)).mono ?_
        rintro e wm ⟨rfl, hbel⟩
        replace HH := Lib.hid ((by first | exact .same hbel | exact .drew hbel | exact .below hbel : Kp wn wm) _ _ HH.out)
        clear hbel
        refine hK _ _ _ HH.out (.inr ⟨rfl, fun _ h => h⟩) ?_
        clear hK K
        refine reg_l none (i := 18) rfl (by kernel_rfl) (fun wn hk K hK => ?_)
        replace HH := Lib.hid (hk _ _ HH.out)
        clear hk
        go_simp
        refine (refAdd_c wn (sadd s.acked x.acked) (sadd s.lost x.lost) u5.out u6.out).mono ?_
        rintro e wm ⟨rfl, hbel⟩
        replace HH := Lib.hid ((by first | exact .same hbel | exact .drew hbel | exact .below hbel : Kp wn wm) _ _ HH.out)
        clear hbel
        refine hK _ _ _ HH.out (.inr ⟨rfl, fun _ h => h⟩) ?_
        clear hK K
        refine reg_l none (i := 19) rfl (by kernel_rfl) (fun wn hk K hK => ?_)
        replace HH := Lib.hid (hk _ _ HH.out)
        clear hk
        go_simp
        refine (refMul_c wn s.c.loss (sadd (sadd s.acked x.acked) (sadd s.lost x.lost)) u3.out u7.out).mono ?_
        rintro e wm ⟨rfl, hbel⟩
        replace HH := Lib.hid ((by first | exact .same hbel | exact .drew hbel | exact .below hbel : Kp wn wm) _ _ HH.out)
        clear hbel
        refine hK _ _ _ HH.out (.inr ⟨rfl, fun _ h => h⟩) ?_
        clear hK K
        refine reg_p (i := 20) rfl (by kernel_rfl) (fun _ _ _ _ h => h) HH.out (fun K hK => ?_)
        go_simp
        (first | refine hK _ ?_ | (apply Exists.intro; refine ⟨?_, hK _ ?_⟩; focus intro wx; first | (go_simp; rfl) | rfl)); clear hK K
        refine reg_p (i := 21) rfl (by kernel_rfl) (fun _ _ _ _ h => h) HH.out (fun K hK => ?_)
        go_simp
        (first | refine hK _ ?_ | (apply Exists.intro; refine ⟨?_, hK _ ?_⟩; focus intro wx; first | (go_simp; rfl) | rfl)); clear hK K
        refine mixk_done (by kernel_rfl) (fun w12_ hk => ?_) _
        replace HH := Lib.hid (hk _ _ HH.out)
        clear hk
        go_wp2_with (with_reducible refine stop_st ?_)
        refine Stop.go ?_
        refine wpList_store1_own (v := .int .u64 0) (k := 21) rfl rfl HH.out (by kernel_rfl) (by simp) (by first | rfl | assumption) ?_
        intro w13_ H9_
        replace HH := Lib.hid H9_
        clear H9_
        simp only [List.setIfInBounds_toArray, List.set_cons_succ, List.set_cons_zero] at HH
        go_wp2_with (with_reducible refine stop_st ?_)
        refine Stop.go ?_
        refine wpList_store1_own (v := .int .u64 0) (k := 22) rfl rfl HH.out (by kernel_rfl) (by simp) (by first | rfl | assumption) ?_
        intro w14_ H9_
        replace HH := Lib.hid H9_
        clear H9_
        simp only [List.setIfInBounds_toArray, List.set_cons_succ, List.set_cons_zero] at HH
        (try clear cc1_); (try clear cc2_); (try clear cc3_); (try clear cc4_); (try clear cc5_); (try clear cc6_); (try clear cc7_)
        have cc1_ := HH.out.cells
        go_wp2_with fail
        refine (refAdd_c _ s.rounds 1 u4.out (by decide)).mono ?_
        rw [hrd.out]
        rintro e w15_ ⟨rfl, hbel⟩
        replace HH := Lib.hid ((by first | exact .same hbel | exact .drew hbel | exact .below hbel : Kp _ w15_) _ _ (by first | exact HH.out | exact HH.out.drewN _ | exact (HH.out.alloc _).tail | exact ((HH.out.alloc _).drewN _).tail | exact ((HH.out.alloc _).alloc _).tail.tail))
        clear hbel
        go_wp2_with (with_reducible refine stop_st ?_)
        refine Stop.go ?_
        refine wpList_store1_own (v := .int .u64 (IntKind.u64.wrap (s.rounds + 1))) (k := 8) rfl rfl HH.out (by kernel_rfl) (by simp) (by first | rfl | assumption) ?_
        intro w16_ H9_
        replace HH := Lib.hid H9_
        clear H9_
        simp only [List.setIfInBounds_toArray, List.set_cons_succ, List.set_cons_zero] at HH
        go_wp2_with fail
        go_meet
        case rel => exact ⟨rfl, by rw [e6.out, e7.out, e8.out]; exact (Own.pm (HH.out) (by with_reducible repeat (first | exact .refl _ | exact .nil _ | refine .here ?_ | refine .at2 ?_ | refine .at3 ?_ | refine .at4 ?_ | refine .at5 ?_ | refine .at6 ?_ | refine .at7 ?_ | refine .at8 ?_ | refine .skip ?_)))⟩
    case rest =>
      clear HH
      obtain ⟨rfl, HR⟩ := hcut
      have HH := Lib.hid HR
      clear HR
      (try clear cc1_); (try clear cc2_); (try clear cc3_); (try clear cc4_); (try clear cc5_); (try clear cc6_); (try clear cc7_)
      have cc1_ := HH.out.cells
      have cc4_ := HH.out.r4.cells
      cases hsm : x.some
      · have e9 : pA = s.p := by rw [← hpA.out, if_neg (by rw [hsm]; decide)]
        go_wp2_with fail
        go_ret2
        exact ⟨m2, l2, v2, hR2.out, rfl, by rw [hpast.out, e9]; exact (Own.pm (HH.out) (by with_reducible repeat (first | exact .refl _ | exact .nil _ | refine .here ?_ | refine .at2 ?_ | refine .at3 ?_ | refine .at4 ?_ | refine .at5 ?_ | refine .at6 ?_ | refine .at7 ?_ | refine .at8 ?_ | refine .skip ?_)))⟩
      · have e9 : pA = s.p.put (s.rates x).best tl x.slim := by rw [← hpA.out, if_pos hsm]
        have hb3 : rbest l1 l2 = (s.rates x).best := by have := hb2.out; rw [if_pos hsm] at this; exact this
        replace hb3 := Lib.hid hb3
        replace e9 := Lib.hid e9
        go_wp2_with fail
        go_wp2_with fail
        refine wp_region_reg (some 12) HH.out (by kernel_rfl) ?_
        intro wm H9_
        replace HH := Lib.hid H9_
        clear H9_
        refine reg_p (i := 0) rfl (by kernel_rfl) (fun _ _ _ _ h => h) HH.out (fun K hK => ?_)
        go_simp
        (first | refine hK _ ?_ | (apply Exists.intro; refine ⟨?_, hK _ ?_⟩; focus intro wx; first | (go_simp; rfl) | rfl)); clear hK K
        refine reg_p (i := 1) rfl (by kernel_rfl) (fun _ _ _ _ h => h) HH.out (fun K hK => ?_)
        go_simp
        (first | refine hK _ ?_ | (apply Exists.intro; refine ⟨?_, hK _ ?_⟩; focus intro wx; first | (go_simp; rfl) | rfl)); clear hK K
        refine reg_p (i := 2) rfl (by kernel_rfl) (fun _ _ _ _ h => h) HH.out (fun K hK => ?_)
        go_simp
        (first | refine hK _ ?_ | (apply Exists.intro; refine ⟨?_, hK _ ?_⟩; focus intro wx; first | (go_simp; rfl) | rfl)); clear hK K
        refine reg_p (i := 3) rfl (by kernel_rfl) (fun _ _ _ _ h => h) HH.out (fun K hK => ?_)
        go_simp
        (first | refine hK _ ?_ | (apply Exists.intro; refine ⟨?_, hK _ ?_⟩; focus intro wx; first | (go_simp; rfl) | rfl)); clear hK K
        refine reg_p (i := 4) rfl (by kernel_rfl) (fun _ _ _ _ h => h) HH.out (fun K hK => ?_)
        go_simp
        (first | refine hK _ ?_ | (apply Exists.intro; refine ⟨?_, hK _ ?_⟩; focus intro wx; first | (go_simp; rfl) | rfl)); clear hK K
        refine reg_p (i := 5) rfl (by kernel_rfl) (fun _ _ _ _ h => h) HH.out (fun K hK => ?_)
        go_simp
        (first | refine hK _ ?_ | (apply Exists.intro; refine ⟨?_, hK _ ?_⟩; focus intro wx; first | (go_simp; rfl) | rfl)); clear hK K
        refine mixk_q (i := 6) rfl (by kernel_rfl) (fun _ _ _ _ h => h) HH.out (fun K hK => ?_)
        go_simp
        (first | refine hK _ ?_ | (apply Exists.intro; refine ⟨?_, hK _ ?_⟩; focus intro wx hx; have x1_ := hx.cells; have x4_ := hx.r4.cells; first | (go_simp; first | rfl | exact ⟨rfl, rfl⟩) | rfl | exact ⟨rfl, rfl⟩)); clear hK K
        refine reg_p (i := 8) rfl (by kernel_rfl) (fun _ _ _ _ h => h) HH.out (fun K hK => ?_)
        go_simp
        (first | refine hK _ ?_ | (apply Exists.intro; refine ⟨?_, hK _ ?_⟩; focus intro wx; first | (go_simp; rfl) | rfl)); clear hK K
        refine reg_p (i := 9) rfl (by kernel_rfl) (fun _ _ _ _ h => h) HH.out (fun K hK => ?_)
        go_simp
        (first | refine hK _ ?_ | (apply Exists.intro; refine ⟨?_, hK _ ?_⟩; focus intro wx; first | (go_simp; rfl) | rfl)); clear hK K
        refine reg_p (i := 10) rfl (by kernel_rfl) (fun _ _ _ _ h => h) HH.out (fun K hK => ?_)
        go_simp
        (first | refine hK _ ?_ | (apply Exists.intro; refine ⟨?_, hK _ ?_⟩; focus intro wx; first | (go_simp; rfl) | rfl)); clear hK K
        refine mixk_q (i := 11) rfl (by kernel_rfl) (fun _ _ _ _ h => h) HH.out (fun K hK => ?_)
        go_simp
        (first | refine hK _ ?_ | (apply Exists.intro; refine ⟨?_, hK _ ?_⟩; focus intro wx hx; have x1_ := hx.cells; have x4_ := hx.r4.cells; first | (go_simp; first | rfl | exact ⟨rfl, rfl⟩) | rfl | exact ⟨rfl, rfl⟩)); clear hK K
        refine reg_l (some 12) (i := 7) rfl (by kernel_rfl) (fun wn hk K hK => ?_)
        replace HH := Lib.hid (hk _ _ HH.out)
        clear hk
        go_simp
        refine (rcycBest_c ε wn _ yb mm l1 l2 hu1.out hv2.out HH.out.r3).mono ?_
        rw [hb3.out]
        rintro e wm ⟨rfl, hbel⟩
        replace HH := Lib.hid ((by first | exact .same hbel | exact .drew hbel | exact .below hbel : Kp wn wm) _ _ HH.out)
        clear hbel
        refine hK _ _ _ HH.out (.inr ⟨rfl, fun _ h => h⟩) ?_
        clear hK K
        refine reg_l none (i := 12) rfl (by kernel_rfl) (fun wn hk K hK => ?_)
        replace HH := Lib.hid (hk _ _ HH.out)
        clear hk
        go_simp
        refine (rPPut_c ε wn _ b yb { s with acked := aB, lost := bB, rounds := rB, k := kA } m2 v2 (s.rates x).best tl x.slim hbU.out hpk.out HH.out).mono ?_
        rintro e wm ⟨rfl, H9_⟩
        replace HH := Lib.hid H9_
        clear H9_
        refine hK _ _ _ HH.out (.inl (by kernel_rfl)) ?_
        clear hK K
        refine mixk_done (by kernel_rfl) (fun w17_ hk => ?_) _
        replace HH := Lib.hid (hk _ _ HH.out)
        clear hk
        replace HH := Lib.hid ((Own.pm (HH.out) (by with_reducible repeat (first | exact .refl _ | exact .nil _ | refine .here ?_ | refine .at2 ?_ | refine .at3 ?_ | refine .at4 ?_ | refine .at5 ?_ | refine .at6 ?_ | refine .at7 ?_ | refine .at8 ?_ | refine .skip ?_))) : Own _ _ (pts b (.cells #[.int .u64 s.c.mss, .int .u64 s.c.init, .int .u64 s.c.reorder, .int .u64 s.c.window, .int .u64 s.c.probe, .int .u64 s.c.loss, .int .i64 s.st, .int .u64 s.since, .int .u64 rB, .int .u64 m2.win, .bool m2.least, .int .u64 m2.now, v2, .pointer (some ⟨yb, 0, none⟩), .int .u64 kA.mark, .int .u64 kA.n, .int .u64 (s.p.put (s.rates x).best tl x.slim).best, .int .i64 (s.p.put (s.rates x).best tl x.slim).n, .int .u64 s.bd.hi, .int .u64 s.bd.lo, .int .u64 s.bd.bw, .int .u64 aB, .int .u64 bB, .int .u64 s.cwnd, .int .u64 s.kept, .int .u64 s.ended] 76 (0, 0)) :: slc 151 2 v2 (encs encR m2.l) :: rcyc yb mm l1 l2 :: R))
        go_wp2_with fail
        go_ret2
        exact ⟨m2, l2, v2, hR2.out, rfl, by rw [hpast.out, e9.out]; exact HH.out⟩
end
end Go.Proofs.YtpfbbpiidhhkbaaGreat
