/- sender: as plain data. -/
import Derived.Test.YtmkcpnlbicijoaaGreatBbr3
import Derived.Test.YtmkcpnlbicijoaaGreatRttD
import Derived.Test.YtmkcpnlbicijoaaGreatCalm
import Derived.Test.YtmkcpnlbicijoaaGreatPacer
import Derived.Test.YtmkcpnlbicijoaaGreatRate3
namespace Go.Proofs.YtmkcpnlbicijoaaGreat
open Go.RowKit
theorem Eng.U_holds {s : Eng} (h : s.Ok) : U s.holds := by
 unfold Eng.holds flightI
 exact U_sover (Eng.U_best h) (Eng.U_least h.f)
theorem Bnd.U_room {s : Bnd} (h : s.Ok) : U s.room := by
 unfold Bnd.room
 split
 ·decide
 ·exact U_sshare h.1 (by decide)
theorem U_waitI {s c p : Int} (hp : U p) : U (waitI s c p) := by
 unfold waitI
 split
 ·unfold U; omega
 ·split
  ·exact hp
  ·exact U_zero
theorem Eng.U_uses {s : Eng} (h : s.Ok) : U s.uses := by
 unfold Eng.uses flightI
 exact U_sover (Eng.U_limit h) (Eng.U_least h.f)
theorem U_gWindow {s r : Int} (h : U r) : U (gWindow s r) := by
 unfold gWindow
 exact U_sover h (U_gAt s).2
theorem Cnf.U_quantum {c : Cnf} (h : c.Ok) {r : Int} (hr : U r) : U (c.quantum r) := by
 have h1 : U (smul 2 c.mss) := U_smul (by decide) h.mss
 have h2 : U (smul 64 c.mss) := U_smul (by decide) h.mss
 have h3 := hr
 unfold Cnf.quantum U at *
 omega
theorem Eng.U_pace {s : Eng} (h : s.Ok) : U s.pace := by
 have h1 : U s.c.least := Cnf.U_least h.c
 unfold Eng.pace U at *
 omega
end Go.Proofs.YtmkcpnlbicijoaaGreat
namespace Go.Proofs.YtmkcpnlbicijoaaGreat
open Go.RowKit
theorem Fil.okTo {s : Fil} {t : Int} (h : s.Ok) (ht : U t) : (s.to t).2.Ok := by
 unfold Fil.to
 split
 ·exact h
 ·exact ⟨h.1, ht, fun r hr => h.2.2 r ((List.dropWhile_sublist _).subset hr)⟩
theorem Fil.okPut {s : Fil} {t x : Int} (h : s.Ok) (ht : U t) (hx : U x) : (s.put t x).2.Ok := by
 unfold Fil.put
 split
 ·exact h
 ·refine ⟨h.1, ht, fun r hr => ?_⟩
  rcases List.mem_append.1 hr with hr | hr
  ·unfold Fil.worse at hr
   have h1 := (List.dropWhile_sublist _).subset (List.mem_reverse.1 hr)
   exact h.2.2 r ((List.dropWhile_sublist _).subset (List.mem_reverse.1 h1))
  ·rw [List.mem_singleton.1 hr]; exact ⟨ht, hx⟩
theorem Fil.lenTo (s : Fil) (t : Int) : (s.to t).2.l.length ≤ s.l.length := by
 unfold Fil.to
 split
 ·exact Nat.le_refl _
 ·exact (List.dropWhile_sublist _).length_le
theorem Fil.lenPut (s : Fil) (t x : Int) : (s.put t x).2.l.length ≤ s.l.length + 1 := by
 unfold Fil.put
 split
 ·exact Nat.le_succ _
 ·show (Fil.worse s.least x (Fil.old s.win t s.l) ++ [(t, x)]).length ≤ _
  rw [List.length_append, List.length_singleton]
  unfold Fil.worse
  rw [List.length_reverse]
  have h1 := (List.dropWhile_sublist (l := (Fil.old s.win t s.l).reverse) (fun r : Int × Int => !aheadOf s.least r.2 x)).length_le
  rw [List.length_reverse] at h1
  have h2 : (Fil.old s.win t s.l).length ≤ s.l.length := (List.dropWhile_sublist _).length_le
  omega
theorem U_wrapB (x : Int) : U (IntKind.u64.wrap x) := by unfold U; rw [IntKind.wrap_u64]; omega
theorem Ctr.okAck {s : Ctr} {x y : Int} (h1 : U s.mark) (h2 : U s.n) (hy : U y) : U (s.ack x y).2.mark ∧ U (s.ack x y).2.n := by
 unfold Ctr.ack
 split
 ·exact ⟨h1, h2⟩
 ·exact ⟨hy, U_wrapB _⟩
theorem Bnd.okLose {s : Bnd} (h : s.Ok) {x y z : Int} (hx : U x) (hy : U y) (hz : U z) : (s.lose x y z).Ok := ⟨h.1, U_max hx (U_cut (U_orI h.2.1 hz)), U_max hy (U_cut (U_orI h.2.2 hy))⟩
theorem Bnd.okPull {s : Bnd} (h : s.Ok) {x y : Int} (hx : U x) (hy : U y) : (s.pull x y).Ok := ⟨U_max hx (U_cut hy), h.2⟩
theorem Bnd.okPush {s : Bnd} (h : s.Ok) {x : Int} (hx : U x) : (s.push x).Ok := by
 unfold Bnd.push
 split
 ·exact h
 ·exact ⟨U_min (U_sadd h.1 hx) (by decide), h.2⟩
theorem Bnd.okShort {s : Bnd} (h : s.Ok) : s.short.Ok := ⟨h.1, show U 18446744073709551615 by decide, show U 18446744073709551615 by decide⟩
theorem nextI_in {s : Int} (x : Sig) (h0 : 0 ≤ s) (h6 : s ≤ 6) : 0 ≤ nextI s x ∧ nextI s x ≤ 6 := by
 unfold nextI nextBase
 repeat' split
 all_goals omega
theorem Eng.ok_hear {s : Eng} {x : Evt} (h : s.Ok) (hx : x.Ok) : (s.hear x).Ok := { h with acked := U_sadd h.acked hx.acked, lost := U_sadd h.lost hx.lost }
theorem Eng.ok_tos {s : Eng} {t : Int} (h : s.Ok) (ht : U t) : (s.tos t).Ok := { h with f := Fil.okTo h.f ht }
theorem Eng.ok_rates {s : Eng} {x : Evt} (h : s.Ok) (hx : x.Ok) : (s.rates x).Ok ∧ U (s.rates x).n := by
 unfold Eng.rates
 split
 ·exact ⟨Cyc.ok_put (by intro y hy; rw [List.mem_singleton.1 hy]; exact hx.sr) h.r, h.rn⟩
 ·exact ⟨h.r, h.rn⟩
theorem Eng.ok_sampled {s : Eng} {x : Evt} (h : s.Ok) (hx : x.Ok) : (s.sampled x).Ok := by
 unfold Eng.sampled
 split
 ·have hr := Eng.ok_rates h hx
  have hk := Ctr.okAck (x := ssub x.deliv x.sd) h.k1 h.k2 hx.deliv
  exact { h with f := Fil.okPut h.f hx.now hx.rtt, r := hr.1, rn := hr.2, k1 := hk.1, k2 := hk.2, p := Pip.ok_put (Cyc.U_best hr.1) h.p }
 ·exact h
theorem Eng.ok_calm {s : Eng} (h : s.Ok) : s.calm.Ok := { h with acked := U_zero, lost := U_zero, rounds := U_wrapB _ }
theorem Eng.ok_bounded {s : Eng} {x : Evt} {lz : Bool} (h : s.Ok) (hx : x.Ok) : (s.bounded x lz).Ok := by
 unfold Eng.bounded
 split
 ·split
  ·exact { h with bd := Bnd.okPull h.bd hx.fl (Eng.U_holds h) }
  ·exact { h with bd := Bnd.okLose h.bd hx.sd hx.sr h.cwnd }
 ·exact h
theorem Eng.ok_leave {s : Eng} {t n : Int} (h : s.Ok) (ht : U t) : (s.leave t n).Ok := by
 unfold Eng.leave
 split
 ·exact { h with ended := ht, cwnd := U_max h.cwnd h.kept }
 ·split
  ·exact { h with r := Cyc.ok_next h.r, rn := U_wrapB _ }
  ·exact h
theorem Eng.ok_enter {s : Eng} {n : Int} (h : s.Ok) : (s.enter n).Ok := by
 unfold Eng.enter
 split
 ·exact { h with bd := Bnd.okShort h.bd }
 ·split
  ·exact { h with kept := h.cwnd }
  ·exact h
theorem Eng.ok_turn {s : Eng} {x : Evt} {ov lz : Bool} (h : s.Ok) (hx : x.Ok) : (s.turn x ov lz).Ok := by
 unfold Eng.turn
 split
 ·exact h
 ·have h2 := Eng.ok_enter (n := s.next x ov lz) (Eng.ok_leave (n := s.next x ov lz) h hx.now)
  have h3 := nextI_in (s.sig x ov lz) h.st0 h.st6
  exact { h2 with st0 := h3.1, st6 := h3.2, since := hx.now, rounds := U_zero }
theorem Eng.ok_pushed {s : Eng} {x : Evt} {lz : Bool} (h : s.Ok) (hx : x.Ok) : (s.pushed x lz).Ok := by
 unfold Eng.pushed
 split
 ·exact { h with bd := Bnd.okPush h.bd hx.acked }
 ·exact h
theorem Eng.window_in {s : Eng} (h : s.Ok) (a : Int) (hr : s.c.least ≤ 72057594037927936) : s.c.least ≤ s.window a ∧ s.window a ≤ 72057594037927936 := by
 have h1 := Cnf.U_least h.c
 unfold Eng.window
 omega
theorem Eng.U_window {s : Eng} (h : s.Ok) (a : Int) : U (s.window a) := by
 have h1 := Cnf.U_least h.c
 unfold Eng.window U at *
 omega
theorem Eng.ok_win {s : Eng} {x : Evt} (h : s.Ok) : (s.win x).Ok := { h with cwnd := Eng.U_window h _ }
theorem Eng.ok_read {s : Eng} {x : Evt} (h : s.Ok) (hx : x.Ok) : (s.read x).Ok := Eng.ok_sampled (Eng.ok_tos (Eng.ok_hear h hx) hx.now) hx
theorem Eng.ok_past {s : Eng} {x : Evt} (h : s.Ok) (hx : x.Ok) : (s.past x).Ok := by
 unfold Eng.past
 split
 ·exact Eng.ok_calm (Eng.ok_read h hx)
 ·exact Eng.ok_read h hx
theorem Eng.ok_on {s : Eng} {x : Evt} (h : s.Ok) (hx : x.Ok) : (s.on x).Ok := Eng.ok_win (Eng.ok_pushed (Eng.ok_turn (Eng.ok_bounded (Eng.ok_past h hx) hx) hx) hx)
theorem Eng.len_read (s : Eng) (x : Evt) : (s.read x).f.l.length ≤ s.f.l.length + 1 := by
 unfold Eng.read Eng.sampled
 split
 ·have h1 := Fil.lenPut ((s.hear x).tos x.now).f x.now x.rtt
  have h2 := Fil.lenTo s.f x.now
  show ((((s.hear x).tos x.now).f.put x.now x.rtt).2).l.length ≤ _
  exact Nat.le_trans h1 (Nat.succ_le_succ h2)
 ·exact Nat.le_trans (Fil.lenTo s.f x.now) (Nat.le_succ _)
theorem Eng.f_pushed (s : Eng) (x : Evt) (lz : Bool) : (s.pushed x lz).f = s.f := by
 unfold Eng.pushed
 repeat' split
 all_goals rfl
theorem Eng.f_leave (s : Eng) (t n : Int) : (s.leave t n).f = s.f := by
 unfold Eng.leave
 repeat' split
 all_goals rfl
theorem Eng.f_enter (s : Eng) (n : Int) : (s.enter n).f = s.f := by
 unfold Eng.enter
 repeat' split
 all_goals rfl
theorem Eng.f_bounded (s : Eng) (x : Evt) (lz : Bool) : (s.bounded x lz).f = s.f := by
 unfold Eng.bounded
 repeat' split
 all_goals rfl
theorem Eng.f_turn (s : Eng) (x : Evt) (ov lz : Bool) : (s.turn x ov lz).f = s.f := by
 unfold Eng.turn
 split
 ·rfl
 ·exact (Eng.f_enter _ _).trans (Eng.f_leave _ _ _)
theorem Eng.f_past (s : Eng) (x : Evt) : (s.past x).f = (s.read x).f := by
 unfold Eng.past
 split <;> rfl
theorem Eng.f_on0 (s : Eng) (x : Evt) : (s.on x).f = (s.read x).f := (Eng.f_pushed _ _ _).trans ((Eng.f_turn _ _ _ _).trans ((Eng.f_bounded _ _ _).trans (Eng.f_past s x)))
theorem Eng.c_pushed (s : Eng) (x : Evt) (lz : Bool) : (s.pushed x lz).c = s.c := by
 unfold Eng.pushed
 repeat' split
 all_goals rfl
theorem Eng.c_leave (s : Eng) (t n : Int) : (s.leave t n).c = s.c := by
 unfold Eng.leave
 repeat' split
 all_goals rfl
theorem Eng.c_enter (s : Eng) (n : Int) : (s.enter n).c = s.c := by
 unfold Eng.enter
 repeat' split
 all_goals rfl
theorem Eng.c_bounded (s : Eng) (x : Evt) (lz : Bool) : (s.bounded x lz).c = s.c := by
 unfold Eng.bounded
 repeat' split
 all_goals rfl
theorem Eng.c_turn (s : Eng) (x : Evt) (ov lz : Bool) : (s.turn x ov lz).c = s.c := by
 unfold Eng.turn
 split
 ·rfl
 ·exact (Eng.c_enter _ _).trans (Eng.c_leave _ _ _)
theorem Eng.c_past (s : Eng) (x : Evt) : (s.past x).c = (s.read x).c := by
 unfold Eng.past
 split <;> rfl
theorem Eng.c_on0 (s : Eng) (x : Evt) : (s.on x).c = (s.read x).c := (Eng.c_pushed _ _ _).trans ((Eng.c_turn _ _ _ _).trans ((Eng.c_bounded _ _ _).trans (Eng.c_past s x)))
theorem Eng.c_on (s : Eng) (x : Evt) : (s.on x).c = s.c := by
 rw [Eng.c_on0]
 unfold Eng.read Eng.sampled
 split <;> rfl
theorem Eng.len_on (s : Eng) (x : Evt) : (s.on x).f.l.length ≤ s.f.l.length + 1 := by rw [Eng.f_on0]; exact Eng.len_read s x
end Go.Proofs.YtmkcpnlbicijoaaGreat
namespace Go.Proofs.YtmkcpnlbicijoaaGreat
open Go.RowKit
theorem smul_in {a b : Int} (h : a * b ≤ 18446744073709551615) : smul a b = a * b := by unfold smul; rw [if_neg (by omega)]
theorem Cnf.right_in {c : Cnf} (h : c.right = true) : (1 ≤ c.mss ∧ c.mss ≤ 65535) ∧ 4 ≤ c.init ∧ c.init ≤ 1000 := by
 unfold Cnf.right inB at h
 simp only [Bool.and_eq_true, decide_eq_true_eq] at h
 omega
theorem Cnf.least_eq {c : Cnf} (h : c.right = true) : c.least = 4 * c.mss := by
 have h1 := Cnf.right_in h
 exact smul_in (by omega)
theorem Cnf.first_eq {c : Cnf} (h : c.right = true) : c.first = c.init * c.mss ∧ 4 * c.mss ≤ c.first ∧ c.first ≤ 65535000 := by
 obtain ⟨⟨h1, h2⟩, h3, h4⟩ := Cnf.right_in h
 have h5 : c.init * c.mss ≤ 1000 * 65535 := Int.mul_le_mul h4 h2 (by omega) (by omega)
 have h6 : 4 * c.mss ≤ c.init * c.mss := Int.mul_le_mul_of_nonneg_right h3 (by omega)
 have h7 : c.first = c.init * c.mss := smul_in (by omega)
 rw [h7]
 exact ⟨rfl, h6, by omega⟩
theorem Eng.cwnd_in {s : Eng} {x : Evt} (h : s.Ok) (hx : x.Ok) (hr : s.c.right = true) : 4 * s.c.mss ≤ (s.on x).cwnd ∧ (s.on x).cwnd ≤ 72057594037927936 := by
 have h1 := Cnf.right_in hr
 have h2 := Cnf.least_eq hr
 have h3 := Eng.c_on s x
 have h4 := Eng.window_in (Eng.ok_pushed (Eng.ok_turn (ov := s.tells x) (lz := s.loses x) (Eng.ok_bounded (lz := s.loses x) (Eng.ok_past h hx) hx) hx) hx (lz := s.loses x)) x.acked
 change (s.on x).c.least ≤ 72057594037927936 → (s.on x).c.least ≤ (s.on x).cwnd ∧ (s.on x).cwnd ≤ 72057594037927936 at h4
 rw [h3, h2] at h4
 exact h4 (by omega)
theorem Eng.pace_in {s : Eng} (hr : s.c.right = true) : 4 * s.c.mss ≤ s.pace ∧ s.pace ≤ 1099511627776 := by
 have h1 := Cnf.right_in hr
 have h2 := Cnf.least_eq hr
 unfold Eng.pace
 omega
theorem Eng.quantum_in {s : Eng} (hr : s.c.right = true) : 2 * s.c.mss ≤ s.quantum ∧ s.quantum ≤ 64 * s.c.mss := by
 have h1 := Cnf.right_in hr
 have h2 : smul 2 s.c.mss = 2 * s.c.mss := smul_in (by omega)
 have h3 : smul 64 s.c.mss = 64 * s.c.mss := smul_in (by omega)
 unfold Eng.quantum Cnf.quantum
 rw [h2, h3]
 omega
def Eng.At (c : Cnf) (n : Nat) (s : Eng) : Prop := s.Ok ∧ s.c = c ∧ s.f.l.length ≤ n
theorem Eng.At.on {c : Cnf} {n : Nat} {s : Eng} (h : s.At c n) {x : Evt} (hx : x.Ok) : (s.on x).At c (n + 1) :=
 ⟨Eng.ok_on h.1 hx, (Eng.c_on s x).trans h.2.1, Nat.le_trans (Eng.len_on s x) (Nat.succ_le_succ h.2.2)⟩
theorem Eng.At.fine {c : Cnf} (hr : c.right = true) {n : Nat} {s : Eng} (h : s.At c n) {x : Evt} (hx : x.Ok) :
  (4 * c.mss ≤ (s.on x).cwnd ∧ (s.on x).cwnd ≤ 72057594037927936) ∧ (4 * c.mss ≤ (s.on x).pace ∧ (s.on x).pace ≤ 1099511627776) ∧ (2 * c.mss ≤ (s.on x).quantum ∧ (s.on x).quantum ≤ 64 * c.mss) ∧ 0 ≤ (s.on x).st ∧ (s.on x).st ≤ 6 := by
 have h2 := (Eng.At.on h hx)
 obtain ⟨h3, h4, -⟩ := h2
 have hr' : (s.on x).c.right = true := by rw [h4]; exact hr
 have hs' : s.c.right = true := by rw [h.2.1]; exact hr
 have a1 := Eng.cwnd_in h.1 hx hs'
 have a2 := Eng.pace_in hr'
 have a3 := Eng.quantum_in hr'
 rw [h.2.1] at a1
 rw [h4] at a2 a3
 exact ⟨a1, a2, a3, h3.st0, h3.st6⟩
structure Eng.Quiet (s : Eng) : Prop where
 st : s.st = 0
 p : s.p.n = 0
 bd : s.bd = Bnd.none
 l : s.f.l = []
theorem Fil.to_nil {s : Fil} {t : Int} (h : s.l = []) : (s.to t).2.l = [] := by
 unfold Fil.to
 split
 ·exact h
 ·simp [h, Fil.old]
theorem Eng.Quiet.read {s : Eng} (h : s.Quiet) (x : Evt) : ((s.hear x).tos x.now).Quiet := ⟨h.st, h.p, h.bd, Fil.to_nil h.l⟩
theorem Eng.Quiet.stale {s : Eng} (h : s.Quiet) (t : Int) : s.stale t = false := by
 unfold Eng.stale Fil.best
 rw [h.l]
 rfl
theorem Eng.Quiet.turn {s : Eng} (h : s.Quiet) (x : Evt) : s.turn x false false = s := by
 have h1 : s.next x false false = s.st := by
  unfold Eng.next Eng.sig nextI nextBase
  simp [h.stale, h.st, h.p]
 unfold Eng.turn
 rw [if_pos h1]
theorem Eng.on_quiet {s : Eng} (h : s.Quiet) {x : Evt} (hx : x.some = false) : s.on x = ((s.hear x).tos x.now).win x := by
 have h1 : s.tells x = false := by unfold Eng.tells Eng.overs; rw [hx]; rfl
 have h2 : s.loses x = false := by unfold Eng.loses; rw [h1]; rfl
 have h3 : s.read x = (s.hear x).tos x.now := by unfold Eng.read Eng.sampled; rw [if_neg (by simp [hx])]
 have h4 : s.past x = (s.hear x).tos x.now := by unfold Eng.past; rw [if_neg (by simp [h1]), h3]
 have h5 := h.read x
 unfold Eng.on
 rw [h1, h2, h4]
 unfold Eng.bounded
 rw [if_neg (by decide), h5.turn]
 unfold Eng.pushed
 rw [if_neg (by simp [h5.st])]
theorem Eng.Quiet.on {s : Eng} (h : s.Quiet) {x : Evt} (hx : x.some = false) : (s.on x).Quiet := by
 rw [Eng.on_quiet h hx]
 have h5 := h.read x
 exact ⟨h5.st, h5.p, h5.bd, h5.l⟩
end Go.Proofs.YtmkcpnlbicijoaaGreat
namespace Go.Proofs.YtmkcpnlbicijoaaGreat
def Eng.fresh (c : Cnf) : Eng := ⟨c, Pip.zero, Bnd.none, 0, 0, 0, ⟨c.window, 0, true, []⟩, Cyc.zero, Ctr.zero, 0, 0, c.first, 0, 0⟩
structure Snd where
 c : Cnf
 k : Clk
 l : Led
 t : Rtt
 s : Smp
 e : Eng
 p : Pac
 wait : Int
def Snd.fresh (c : Cnf) : Snd := ⟨c, Clk.zero, ⟨c.reorder, 0, 0, false, []⟩, Rtt.zero, Smp.zero, Eng.fresh c, Pac.zero, 0⟩
def Snd.infl (s : Snd) : Int := bytesP (outs s.l.row)
def Snd.write (s : Snd) (n : Int) : Int × Snd := ((s.k.count n).1, { s with k := (s.k.count n).2, wait := if (s.k.count n).1 = 0 then sadd s.wait n else s.wait })
def Snd.gone (s : Snd) : List Pk := (s.l.lost s.k.t s.t.delay s.t.limit).1
def Snd.left (s : Snd) : Led := (s.l.lost s.k.t s.t.delay s.t.limit).2
def Snd.dbl (s : Snd) : Bool := !s.gone.isEmpty && (outs s.left.row).isEmpty
def Snd.lose (s : Snd) : Snd := { s with l := s.left, wait := sadd s.wait (bytesP s.gone), t := if s.dbl = true then s.t.double else s.t }
def Snd.n (s : Snd) : Int := min s.c.mss s.wait
def Snd.fits (s : Snd) : Bool := decide (0 < s.n) && decide (sadd s.infl s.n ≤ s.e.cwnd)
def Snd.can (s : Snd) : Bool := s.fits && (s.p.take s.n).1
def Snd.pk (s : Snd) : Pk := ⟨s.l.next, s.n, s.k.t, (s.s.stamp s.k.t s.infl).first, s.s.d, (s.s.stamp s.k.t s.infl).at', decide (0 < s.s.mark)⟩
def Snd.go (s : Snd) (eb : Nat) : Snd := { s with wait := s.wait - s.n, s := s.s.stamp s.k.t s.infl, l := { s.l with next := s.l.next + 1, row := s.l.row ++ [⟨eb, s.pk, true⟩] }, p := (s.p.take s.n).2 }
inductive Sent (s0 : Snd) : List Pk → Snd → Prop
 | zero : Sent s0 [] s0
 | more {l : List Pk} {s : Snd} (eb : Nat) : Sent s0 l s → s.can = true → Sent s0 (l ++ [s.pk]) (s.go eb)
def Snd.done (s : Snd) : Snd := { s with s := if s.wait = 0 then s.s.limit s.infl else s.s }
def Snd.clock (s : Snd) (t : Int) : Snd := { s with k := (s.k.to t).2 }
def Snd.evT (s : Snd) (now lost : Int) : Evt := ⟨now, 0, 0, 0, 0, false, false, s.s.d, 0, lost, s.infl⟩
def Snd.told (s : Snd) (x : Evt) : Snd := { s with e := s.e.on x }
def Snd.hurt (s : Snd) (now : Int) : Snd := if s.gone.isEmpty = true then s.lose else s.lose.told (s.lose.evT now (bytesP s.gone))
def Snd.pace (s : Snd) (now : Int) : Snd := { s with p := (s.p.tick now s.e.pace s.e.quantum).2 }
def Snd.begin (s : Snd) (now : Int) : Snd := ((s.clock now).hurt now).pace now
def TickEnd (s : Snd) (now : Int) (out : List Pk) (e : Int) (s' : Snd) : Prop :=
 ((s.k.to now).1 ≠ 0 ∧ out = [] ∧ e = (s.k.to now).1 ∧ s' = s.clock now) ∨ ((s.k.to now).1 = 0 ∧ e = 0 ∧ ∃ s2, Sent (s.begin now) out s2 ∧ s2.can = false ∧ s' = s2.done)
def Snd.heard (s : Snd) (now : Int) (p0 : Pk) (tk : List Pk) : Snd := { s with s := s.s.ack now (newestL p0 tk).1 (newestL p0 tk).2, t := s.t.put (ssub now (newestL p0 tk).1.sent) }
def Snd.evA (s : Snd) (now : Int) (p0 : Pk) (tk : List Pk) (d lost : Int) : Evt :=
 ⟨now, (Spl.of d now (newestL p0 tk).1).d, (Spl.of d now (newestL p0 tk).1).iv, (Spl.of d now (newestL p0 tk).1).rate, (Spl.of d now (newestL p0 tk).1).rtt, (Spl.of d now (newestL p0 tk).1).lim, true, s.s.d, bytesP tk, lost, s.infl⟩
def Snd.gain (s : Snd) (now : Int) : List Pk → Snd
 | [] => s
 | p0 :: tk => (s.heard now p0 (p0 :: tk)).lose.told ((s.heard now p0 (p0 :: tk)).lose.evA now p0 (p0 :: tk) (sadd s.s.d (newestL p0 (p0 :: tk)).2) (bytesP (s.heard now p0 (p0 :: tk)).gone))
def Snd.withL (s : Snd) (l : Led) : Snd := { s with l := l }
def Snd.ack (s : Snd) (now : Int) (xs : List Rg) : Int × Snd :=
 if s.k.past = true then (3, s) else if now < s.k.t then (2, s) else if xs.any badR = true then (1, s) else if (s.k.to now).1 ≠ 0 then ((s.k.to now).1, s.clock now)
 else (0, ((s.clock now).withL (s.l.ack xs).2.2).gain now (s.l.ack xs).1)
def Snd.next (s : Snd) : Int × Bool := if s.k.past = true then (0, false) else if s.fits = true then s.p.next s.n else (0, false)
end Go.Proofs.YtmkcpnlbicijoaaGreat
