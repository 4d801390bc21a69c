/-
  The law BbrGrows holds for every input that the row speaks of: no condition is added. Its arguments are read into plain data, its walk is bbrGrows_c, its arguments read behind the call as before.
-/
import Derived.Test.YtpfbbpiidhhkbaaBbrU
import Derived.Deep.CutBlock
import Derived.Test.YtpfbbpiidhhkbaaBbr4
import Derived.Test.YtpfbbpiidhhkbaaBbr5
import Derived.Test.YtpfbbpiidhhkbaaBbr2
import Derived.Test.YtpfbbpiidhhkbaaRow
import Derived.Test.YtpfbbpiidhhkbaaItAt
namespace Go.Proofs.Ytpfbbpiidhhkbaa
open Go.RowKit
theorem Fil.okTo {s : Fil} {t : Int} (h : s.Ok) (ht : U t) : (s.to t).2.Ok := by
  unfold Fil.to
  split
  · exact h
  · exact ⟨h.1, ht, fun r hr => h.2.2 r ((List.dropWhile_sublist _).subset hr)⟩
theorem Fil.okPut {s : Fil} {t x : Int} (h : s.Ok) (ht : U t) (hx : U x) : (s.put t x).2.Ok := by
  unfold Fil.put
  split
  · exact h
  · refine ⟨h.1, ht, fun r hr => ?_⟩
    rcases List.mem_append.1 hr with hr | hr
    · unfold Fil.worse at hr
      have h1 := (List.dropWhile_sublist _).subset (List.mem_reverse.1 hr)
      exact h.2.2 r ((List.dropWhile_sublist _).subset (List.mem_reverse.1 h1))
    · rw [List.mem_singleton.1 hr]; exact ⟨ht, hx⟩
theorem Fil.lenTo (s : Fil) (t : Int) : (s.to t).2.l.length ≤ s.l.length := by
  unfold Fil.to
  split
  · exact Nat.le_refl _
  · exact (List.dropWhile_sublist _).length_le
theorem Fil.lenPut (s : Fil) (t x : Int) : (s.put t x).2.l.length ≤ s.l.length + 1 := by
  unfold Fil.put
  split
  · exact Nat.le_succ _
  · show (Fil.worse s.least x (Fil.old s.win t s.l) ++ [(t, x)]).length ≤ _
    rw [List.length_append, List.length_singleton]
    unfold Fil.worse
    rw [List.length_reverse]
    have h1 := (List.dropWhile_sublist (l := (Fil.old s.win t s.l).reverse) (fun r : Int × Int => !aheadOf s.least r.2 x)).length_le
    rw [List.length_reverse] at h1
    have h2 : (Fil.old s.win t s.l).length ≤ s.l.length := (List.dropWhile_sublist _).length_le
    omega
theorem U_wrapB (x : Int) : U (IntKind.u64.wrap x) := by unfold U; rw [IntKind.wrap_u64]; omega
theorem Ctr.okAck {s : Ctr} {x y : Int} (h1 : U s.mark) (h2 : U s.n) (hy : U y) : U (s.ack x y).2.mark ∧ U (s.ack x y).2.n := by
  unfold Ctr.ack
  split
  · exact ⟨h1, h2⟩
  · exact ⟨hy, U_wrapB _⟩
theorem Bnd.okLose {s : Bnd} (h : s.Ok) {x y z : Int} (hx : U x) (hy : U y) (hz : U z) : (s.lose x y z).Ok := ⟨h.1, U_max hx (U_cut (U_orI h.2.1 hz)), U_max hy (U_cut (U_orI h.2.2 hy))⟩
theorem Bnd.okPull {s : Bnd} (h : s.Ok) {x y : Int} (hx : U x) (hy : U y) : (s.pull x y).Ok := ⟨U_max hx (U_cut hy), h.2⟩
theorem Bnd.okPush {s : Bnd} (h : s.Ok) {x : Int} (hx : U x) : (s.push x).Ok := by
  unfold Bnd.push
  split
  · exact h
  · exact ⟨U_min (U_sadd h.1 hx) (by decide), h.2⟩
theorem Bnd.okShort {s : Bnd} (h : s.Ok) : s.short.Ok := ⟨h.1, show U 18446744073709551615 by decide, show U 18446744073709551615 by decide⟩
theorem nextI_in {s : Int} (x : Sig) (h0 : 0 ≤ s) (h6 : s ≤ 6) : 0 ≤ nextI s x ∧ nextI s x ≤ 6 := by
  unfold nextI nextBase
  repeat' split
  all_goals omega
theorem Eng.ok_hear {s : Eng} {x : Evt} (h : s.Ok) (hx : x.Ok) : (s.hear x).Ok := { h with acked := U_sadd h.acked hx.acked, lost := U_sadd h.lost hx.lost }
theorem Eng.ok_tos {s : Eng} {t : Int} (h : s.Ok) (ht : U t) : (s.tos t).Ok := { h with f := Fil.okTo h.f ht }
theorem Eng.ok_rates {s : Eng} {x : Evt} (h : s.Ok) (hx : x.Ok) : (s.rates x).Ok ∧ U (s.rates x).n := by
  unfold Eng.rates
  split
  · exact ⟨Cyc.ok_put (by intro y hy; rw [List.mem_singleton.1 hy]; exact hx.sr) h.r, h.rn⟩
  · exact ⟨h.r, h.rn⟩
theorem Eng.ok_sampled {s : Eng} {x : Evt} (h : s.Ok) (hx : x.Ok) : (s.sampled x).Ok := by
  unfold Eng.sampled
  split
  · have hr := Eng.ok_rates h hx
    have hk := Ctr.okAck (x := ssub x.deliv x.sd) h.k1 h.k2 hx.deliv
    exact { h with f := Fil.okPut h.f hx.now hx.rtt, r := hr.1, rn := hr.2, k1 := hk.1, k2 := hk.2, p := Pip.ok_put (Cyc.U_best hr.1) h.p }
  · exact h
theorem Eng.ok_calm {s : Eng} (h : s.Ok) : s.calm.Ok := { h with acked := U_zero, lost := U_zero, rounds := U_wrapB _ }
theorem Eng.ok_bounded {s : Eng} {x : Evt} {lz : Bool} (h : s.Ok) (hx : x.Ok) : (s.bounded x lz).Ok := by
  unfold Eng.bounded
  split
  · split
    · exact { h with bd := Bnd.okPull h.bd hx.fl (Eng.U_holds h) }
    · exact { h with bd := Bnd.okLose h.bd hx.sd hx.sr h.cwnd }
  · exact h
theorem Eng.ok_leave {s : Eng} {t n : Int} (h : s.Ok) (ht : U t) : (s.leave t n).Ok := by
  unfold Eng.leave
  split
  · exact { h with ended := ht, cwnd := U_max h.cwnd h.kept }
  · split
    · exact { h with r := Cyc.ok_next h.r, rn := U_wrapB _ }
    · exact h
theorem Eng.ok_enter {s : Eng} {n : Int} (h : s.Ok) : (s.enter n).Ok := by
  unfold Eng.enter
  split
  · exact { h with bd := Bnd.okShort h.bd }
  · split
    · exact { h with kept := h.cwnd }
    · exact h
theorem Eng.ok_turn {s : Eng} {x : Evt} {ov lz : Bool} (h : s.Ok) (hx : x.Ok) : (s.turn x ov lz).Ok := by
  unfold Eng.turn
  split
  · exact h
  · have h2 := Eng.ok_enter (n := s.next x ov lz) (Eng.ok_leave (n := s.next x ov lz) h hx.now)
    have h3 := nextI_in (s.sig x ov lz) h.st0 h.st6
    exact { h2 with st0 := h3.1, st6 := h3.2, since := hx.now, rounds := U_zero }
theorem Eng.ok_pushed {s : Eng} {x : Evt} {lz : Bool} (h : s.Ok) (hx : x.Ok) : (s.pushed x lz).Ok := by
  unfold Eng.pushed
  split
  · exact { h with bd := Bnd.okPush h.bd hx.acked }
  · exact h
theorem Eng.window_in {s : Eng} (h : s.Ok) (a : Int) (hr : s.c.least ≤ 72057594037927936) : s.c.least ≤ s.window a ∧ s.window a ≤ 72057594037927936 := by
  have h1 := Cnf.U_least h.c
  unfold Eng.window
  omega
theorem Eng.U_window {s : Eng} (h : s.Ok) (a : Int) : U (s.window a) := by
  have h1 := Cnf.U_least h.c
  unfold Eng.window U at *
  omega
theorem Eng.ok_win {s : Eng} {x : Evt} (h : s.Ok) : (s.win x).Ok := { h with cwnd := Eng.U_window h _ }
theorem Eng.ok_read {s : Eng} {x : Evt} (h : s.Ok) (hx : x.Ok) : (s.read x).Ok := Eng.ok_sampled (Eng.ok_tos (Eng.ok_hear h hx) hx.now) hx
theorem Eng.ok_past {s : Eng} {x : Evt} (h : s.Ok) (hx : x.Ok) : (s.past x).Ok := by
  unfold Eng.past
  split
  · exact Eng.ok_calm (Eng.ok_read h hx)
  · exact Eng.ok_read h hx
theorem Eng.ok_on {s : Eng} {x : Evt} (h : s.Ok) (hx : x.Ok) : (s.on x).Ok := Eng.ok_win (Eng.ok_pushed (Eng.ok_turn (Eng.ok_bounded (Eng.ok_past h hx) hx) hx) hx)
theorem Eng.len_read (s : Eng) (x : Evt) : (s.read x).f.l.length ≤ s.f.l.length + 1 := by
  unfold Eng.read Eng.sampled
  split
  · have h1 := Fil.lenPut ((s.hear x).tos x.now).f x.now x.rtt
    have h2 := Fil.lenTo s.f x.now
    show ((((s.hear x).tos x.now).f.put x.now x.rtt).2).l.length ≤ _
    exact Nat.le_trans h1 (Nat.succ_le_succ h2)
  · exact Nat.le_trans (Fil.lenTo s.f x.now) (Nat.le_succ _)
theorem Eng.f_pushed (s : Eng) (x : Evt) (lz : Bool) : (s.pushed x lz).f = s.f := by
  unfold Eng.pushed
  repeat' split
  all_goals rfl
theorem Eng.f_leave (s : Eng) (t n : Int) : (s.leave t n).f = s.f := by
  unfold Eng.leave
  repeat' split
  all_goals rfl
theorem Eng.f_enter (s : Eng) (n : Int) : (s.enter n).f = s.f := by
  unfold Eng.enter
  repeat' split
  all_goals rfl
theorem Eng.f_bounded (s : Eng) (x : Evt) (lz : Bool) : (s.bounded x lz).f = s.f := by
  unfold Eng.bounded
  repeat' split
  all_goals rfl
theorem Eng.f_turn (s : Eng) (x : Evt) (ov lz : Bool) : (s.turn x ov lz).f = s.f := by
  unfold Eng.turn
  split
  · rfl
  · exact (Eng.f_enter _ _).trans (Eng.f_leave _ _ _)
theorem Eng.f_past (s : Eng) (x : Evt) : (s.past x).f = (s.read x).f := by
  unfold Eng.past
  split <;> rfl
theorem Eng.f_on0 (s : Eng) (x : Evt) : (s.on x).f = (s.read x).f := (Eng.f_pushed _ _ _).trans ((Eng.f_turn _ _ _ _).trans ((Eng.f_bounded _ _ _).trans (Eng.f_past s x)))
theorem Eng.c_pushed (s : Eng) (x : Evt) (lz : Bool) : (s.pushed x lz).c = s.c := by
  unfold Eng.pushed
  repeat' split
  all_goals rfl
theorem Eng.c_leave (s : Eng) (t n : Int) : (s.leave t n).c = s.c := by
  unfold Eng.leave
  repeat' split
  all_goals rfl
theorem Eng.c_enter (s : Eng) (n : Int) : (s.enter n).c = s.c := by
  unfold Eng.enter
  repeat' split
  all_goals rfl
theorem Eng.c_bounded (s : Eng) (x : Evt) (lz : Bool) : (s.bounded x lz).c = s.c := by
  unfold Eng.bounded
  repeat' split
  all_goals rfl
theorem Eng.c_turn (s : Eng) (x : Evt) (ov lz : Bool) : (s.turn x ov lz).c = s.c := by
  unfold Eng.turn
  split
  · rfl
  · exact (Eng.c_enter _ _).trans (Eng.c_leave _ _ _)
theorem Eng.c_past (s : Eng) (x : Evt) : (s.past x).c = (s.read x).c := by
  unfold Eng.past
  split <;> rfl
theorem Eng.c_on0 (s : Eng) (x : Evt) : (s.on x).c = (s.read x).c := (Eng.c_pushed _ _ _).trans ((Eng.c_turn _ _ _ _).trans ((Eng.c_bounded _ _ _).trans (Eng.c_past s x)))
theorem Eng.c_on (s : Eng) (x : Evt) : (s.on x).c = s.c := by
  rw [Eng.c_on0]
  unfold Eng.read Eng.sampled
  split <;> rfl
theorem Eng.len_on (s : Eng) (x : Evt) : (s.on x).f.l.length ≤ s.f.l.length + 1 := by rw [Eng.f_on0]; exact Eng.len_read s x
end Go.Proofs.Ytpfbbpiidhhkbaa
namespace Go.Proofs.Ytpfbbpiidhhkbaa
open Go.RowKit
theorem smul_in {a b : Int} (h : a * b ≤ 18446744073709551615) : smul a b = a * b := by unfold smul; rw [if_neg (by omega)]
theorem Cnf.right_in {c : Cnf} (h : c.right = true) : (1 ≤ c.mss ∧ c.mss ≤ 65535) ∧ 4 ≤ c.init ∧ c.init ≤ 1000 := by
  unfold Cnf.right inB at h
  simp only [Bool.and_eq_true, decide_eq_true_eq] at h
  omega
theorem Cnf.least_eq {c : Cnf} (h : c.right = true) : c.least = 4 * c.mss := by
  have h1 := Cnf.right_in h
  exact smul_in (by omega)
theorem Cnf.first_eq {c : Cnf} (h : c.right = true) : c.first = c.init * c.mss ∧ 4 * c.mss ≤ c.first ∧ c.first ≤ 65535000 := by
  obtain ⟨⟨h1, h2⟩, h3, h4⟩ := Cnf.right_in h
  have h5 : c.init * c.mss ≤ 1000 * 65535 := Int.mul_le_mul h4 h2 (by omega) (by omega)
  have h6 : 4 * c.mss ≤ c.init * c.mss := Int.mul_le_mul_of_nonneg_right h3 (by omega)
  have h7 : c.first = c.init * c.mss := smul_in (by omega)
  rw [h7]
  exact ⟨rfl, h6, by omega⟩
theorem Eng.cwnd_in {s : Eng} {x : Evt} (h : s.Ok) (hx : x.Ok) (hr : s.c.right = true) : 4 * s.c.mss ≤ (s.on x).cwnd ∧ (s.on x).cwnd ≤ 72057594037927936 := by
  have h1 := Cnf.right_in hr
  have h2 := Cnf.least_eq hr
  have h3 := Eng.c_on s x
  have h4 := Eng.window_in (Eng.ok_pushed (Eng.ok_turn (ov := s.tells x) (lz := s.loses x) (Eng.ok_bounded (lz := s.loses x) (Eng.ok_past h hx) hx) hx) hx (lz := s.loses x)) x.acked
  change (s.on x).c.least ≤ 72057594037927936 → (s.on x).c.least ≤ (s.on x).cwnd ∧ (s.on x).cwnd ≤ 72057594037927936 at h4
  rw [h3, h2] at h4
  exact h4 (by omega)
theorem Eng.pace_in {s : Eng} (hr : s.c.right = true) : 4 * s.c.mss ≤ s.pace ∧ s.pace ≤ 1099511627776 := by
  have h1 := Cnf.right_in hr
  have h2 := Cnf.least_eq hr
  unfold Eng.pace
  omega
theorem Eng.quantum_in {s : Eng} (hr : s.c.right = true) : 2 * s.c.mss ≤ s.quantum ∧ s.quantum ≤ 64 * s.c.mss := by
  have h1 := Cnf.right_in hr
  have h2 : smul 2 s.c.mss = 2 * s.c.mss := smul_in (by omega)
  have h3 : smul 64 s.c.mss = 64 * s.c.mss := smul_in (by omega)
  unfold Eng.quantum Cnf.quantum
  rw [h2, h3]
  omega
/-- What holds of an engine that is told events, of a setup that may be. -/
def Eng.At (c : Cnf) (n : Nat) (s : Eng) : Prop := s.Ok ∧ s.c = c ∧ s.f.l.length ≤ n
theorem Eng.At.on {c : Cnf} {n : Nat} {s : Eng} (h : s.At c n) {x : Evt} (hx : x.Ok) : (s.on x).At c (n + 1) :=
  ⟨Eng.ok_on h.1 hx, (Eng.c_on s x).trans h.2.1, Nat.le_trans (Eng.len_on s x) (Nat.succ_le_succ h.2.2)⟩
/-- All that BbrStuck asks of an engine behind an event. -/
theorem Eng.At.fine {c : Cnf} (hr : c.right = true) {n : Nat} {s : Eng} (h : s.At c n) {x : Evt} (hx : x.Ok) :
    (4 * c.mss ≤ (s.on x).cwnd ∧ (s.on x).cwnd ≤ 72057594037927936) ∧ (4 * c.mss ≤ (s.on x).pace ∧ (s.on x).pace ≤ 1099511627776) ∧ (2 * c.mss ≤ (s.on x).quantum ∧ (s.on x).quantum ≤ 64 * c.mss) ∧ 0 ≤ (s.on x).st ∧ (s.on x).st ≤ 6 := by
  have h2 := (Eng.At.on h hx)
  obtain ⟨h3, h4, -⟩ := h2
  have hr' : (s.on x).c.right = true := by rw [h4]; exact hr
  have hs' : s.c.right = true := by rw [h.2.1]; exact hr
  have a1 := Eng.cwnd_in h.1 hx hs'
  have a2 := Eng.pace_in hr'
  have a3 := Eng.quantum_in hr'
  rw [h.2.1] at a1
  rw [h4] at a2 a3
  exact ⟨a1, a2, a3, h3.st0, h3.st6⟩
/-- An engine to which no sample was ever told, in Startup. -/
structure Eng.Quiet (s : Eng) : Prop where
  st : s.st = 0
  p : s.p.n = 0
  bd : s.bd = Bnd.none
  l : s.f.l = []
theorem Fil.to_nil {s : Fil} {t : Int} (h : s.l = []) : (s.to t).2.l = [] := by
  unfold Fil.to
  split
  · exact h
  · simp [h, Fil.old]
theorem Eng.Quiet.read {s : Eng} (h : s.Quiet) (x : Evt) : ((s.hear x).tos x.now).Quiet := ⟨h.st, h.p, h.bd, Fil.to_nil h.l⟩
theorem Eng.Quiet.stale {s : Eng} (h : s.Quiet) (t : Int) : s.stale t = false := by
  unfold Eng.stale Fil.best
  rw [h.l]
  rfl
theorem Eng.Quiet.turn {s : Eng} (h : s.Quiet) (x : Evt) : s.turn x false false = s := by
  have h1 : s.next x false false = s.st := by
    unfold Eng.next Eng.sig nextI nextBase
    simp [h.stale, h.st, h.p]
  unfold Eng.turn
  rw [if_pos h1]
theorem Eng.on_quiet {s : Eng} (h : s.Quiet) {x : Evt} (hx : x.some = false) : s.on x = ((s.hear x).tos x.now).win x := by
  have h1 : s.tells x = false := by unfold Eng.tells Eng.overs; rw [hx]; rfl
  have h2 : s.loses x = false := by unfold Eng.loses; rw [h1]; rfl
  have h3 : s.read x = (s.hear x).tos x.now := by unfold Eng.read Eng.sampled; rw [if_neg (by simp [hx])]
  have h4 : s.past x = (s.hear x).tos x.now := by unfold Eng.past; rw [if_neg (by simp [h1]), h3]
  have h5 := h.read x
  unfold Eng.on
  rw [h1, h2, h4]
  unfold Eng.bounded
  rw [if_neg (by decide), h5.turn]
  unfold Eng.pushed
  rw [if_neg (by simp [h5.st])]
theorem Eng.Quiet.on {s : Eng} (h : s.Quiet) {x : Evt} (hx : x.some = false) : (s.on x).Quiet := by
  rw [Eng.on_quiet h hx]
  have h5 := h.read x
  exact ⟨h5.st, h5.p, h5.bd, h5.l⟩
theorem Eng.pace_quiet {s : Eng} (h : s.Quiet) {x : Evt} (hx : x.some = false) : (s.on x).pace = s.pace := by
  rw [Eng.on_quiet h hx]
  have h5 : (s.f.to x.now).2.l = [] := Fil.to_nil h.l
  unfold Eng.pace Eng.best Eng.least Fil.best Eng.win Eng.tos Eng.hear
  simp only [h5, h.l]
theorem Eng.grows {s : Eng} (h : s.Quiet) (hr : s.c.right = true) (h4 : 4 * s.c.mss ≤ s.cwnd) (hM : s.cwnd ≤ 72057594037927936) {x : Evt} (hx : x.some = false) (h0 : 0 ≤ x.acked) (ha : x.acked ≤ 72057594037927936) :
    (s.on x).cwnd = min (s.cwnd + x.acked) 72057594037927936 := by
  rw [Eng.on_quiet h hx]
  have h1 := Cnf.right_in hr
  have h2 := Cnf.least_eq hr
  have h5 := h.read x
  show ((s.hear x).tos x.now).window x.acked = _
  unfold Eng.window Eng.narrow Eng.wide
  rw [if_neg (by rw [h5.st]; omega), if_neg (by rw [h5.st]; omega), if_pos ⟨h5.st, by rw [h5.p]; omega⟩, h5.bd]
  show min (max (minL (min 18446744073709551615 18446744073709551615) [sadd s.cwnd x.acked]) s.c.least) _ = _
  have h6 : sadd s.cwnd x.acked = s.cwnd + x.acked := by unfold sadd; rw [if_neg (by omega)]
  rw [h6, h2]
  unfold minL
  simp only [List.foldl]
  omega
end Go.Proofs.Ytpfbbpiidhhkbaa
namespace Go.Proofs.Ytpfbbpiidhhkbaa
open Go.RowKit
theorem Own.as {ε w : World} {L L' : List Asn} (h : Own ε w L) (e : L = L') : Own ε w L' := e ▸ h
section
variable (ε w : World) (R : List Asn) (b pb fb rb kb : Nat)
set_option maxRecDepth 100000 in
set_option maxHeartbeats 12800000 in
theorem engOn_c (s : Eng) (hs : s.Ok) (x : Evt) (hx : x.Ok) (hl : s.f.l.length ≤ 999999) (H : Own ε w (pts b (.cells #[.int .u64 s.c.mss, .int .u64 s.c.init, .int .u64 s.c.reorder, .int .u64 s.c.window, .int .u64 s.c.probe, .int .u64 s.c.loss, .pointer (some ⟨pb, 0, none⟩), .int .u64 s.bd.hi, .int .u64 s.bd.lo, .int .u64 s.bd.bw, .int .i64 s.st, .int .u64 s.since, .int .u64 s.rounds, .pointer (some ⟨fb, 0, none⟩), .pointer (some ⟨rb, 0, none⟩), .pointer (some ⟨kb, 0, none⟩), .int .u64 s.acked, .int .u64 s.lost, .int .u64 s.cwnd, .int .u64 s.kept, .int .u64 s.ended] 60 (0, 0)) :: pip pb s.p :: fil fb s.f :: cyc rb s.r :: ctr kb s.k :: R)) :
    Calls Try.prog 10 #[.pointer (some ⟨b, 0, none⟩), x.v] w fun e w' => e = .returned (.tuple #[]) ∧ Own ε w' (pts b (.cells #[.int .u64 (s.on x).c.mss, .int .u64 (s.on x).c.init, .int .u64 (s.on x).c.reorder, .int .u64 (s.on x).c.window, .int .u64 (s.on x).c.probe, .int .u64 (s.on x).c.loss, .pointer (some ⟨pb, 0, none⟩), .int .u64 (s.on x).bd.hi, .int .u64 (s.on x).bd.lo, .int .u64 (s.on x).bd.bw, .int .i64 (s.on x).st, .int .u64 (s.on x).since, .int .u64 (s.on x).rounds, .pointer (some ⟨fb, 0, none⟩), .pointer (some ⟨rb, 0, none⟩), .pointer (some ⟨kb, 0, none⟩), .int .u64 (s.on x).acked, .int .u64 (s.on x).lost, .int .u64 (s.on x).cwnd, .int .u64 (s.on x).kept, .int .u64 (s.on x).ended] 60 (0, 0)) :: pip pb (s.on x).p :: fil fb (s.on x).f :: cyc rb (s.on x).r :: ctr kb (s.on x).k :: R) := by
  have HH := Lib.hid H; clear H
  have k1 := Eng.ok_hear hs hx
  have k2 := Eng.ok_tos k1 hx.now
  have k3 := Eng.ok_sampled k2 hx
  have k4 : (if (((s.hear x).tos x.now).overs x) = true then (((s.hear x).tos x.now).sampled x).calm else (((s.hear x).tos x.now).sampled x)).Ok := Eng.ok_past hs hx
  have hl2 : ((s.hear x).tos x.now).f.l.length ≤ 1000000 := Nat.le_trans (Fil.lenTo s.f x.now) (Nat.le_succ_of_le hl)
  obtain ⟨q, hq⟩ : ∃ q, s.on x = q := ⟨_, rfl⟩
  rw [hq]
  unfold Eng.on Eng.past Eng.loses Eng.tells Eng.read at hq
  obtain ⟨s1, e1⟩ : ∃ y, s.hear x = y := ⟨_, rfl⟩
  rw [e1] at hq k1 k2 k3 k4 hl2
  obtain ⟨s2, e2⟩ : ∃ y, s1.tos x.now = y := ⟨_, rfl⟩
  rw [e2] at hq k2 k3 k4 hl2
  obtain ⟨ov, eo⟩ : ∃ y, s2.overs x = y := ⟨_, rfl⟩
  rw [eo] at hq k4
  obtain ⟨s3, e3⟩ : ∃ y, s2.sampled x = y := ⟨_, rfl⟩
  rw [e3] at hq k3 k4
  obtain ⟨il, ei⟩ : ∃ y, s3.isLossy = y := ⟨_, rfl⟩
  rw [ei] at hq
  obtain ⟨lz, ez⟩ : ∃ y, (ov && il) = y := ⟨_, rfl⟩
  rw [ez] at hq
  obtain ⟨s4, e4⟩ : ∃ y, (if ov = true then s3.calm else s3) = y := ⟨_, rfl⟩
  rw [e4] at hq k4
  have k5 := Eng.ok_bounded (lz := lz) k4 hx
  obtain ⟨s5, e5⟩ : ∃ y, s4.bounded x lz = y := ⟨_, rfl⟩
  rw [e5] at hq k5
  have k6 := Eng.ok_turn (ov := ov) (lz := lz) k5 hx
  obtain ⟨s6, e6⟩ : ∃ y, s5.turn x ov lz = y := ⟨_, rfl⟩
  rw [e6] at hq k6
  have k7 := Eng.ok_pushed (lz := lz) k6 hx
  obtain ⟨s7, e7⟩ : ∃ y, s6.pushed x lz = y := ⟨_, rfl⟩
  rw [e7] at hq k7
  obtain ⟨pr, hpr⟩ : ∃ y, decide (s4.st = 0 ∨ s4.st = 5) = y := ⟨_, rfl⟩
  obtain ⟨pu, hpu⟩ : ∃ y, decide (s6.st = 5 ∧ lz = false) = y := ⟨_, rfl⟩
  have u1 := Lib.hid hs.acked
  have u2 := Lib.hid hs.lost
  have v1 := Lib.hid hx.acked
  have v2 := Lib.hid hx.lost
  have v3 := Lib.hid hx.fl
  have v4 := Lib.hid hx.sd
  have v5 := Lib.hid hx.sr
  have hf1 := Lib.hid k1.f
  have hn := Lib.hid hx.now
  have hb4 := Lib.hid k4.bd
  have hh4 := Lib.hid (Eng.U_holds k4)
  have hc4 := Lib.hid k4.cwnd
  have hb6 := Lib.hid k6.bd
  replace e1 := Lib.hid e1
  replace e2 := Lib.hid e2
  replace eo := Lib.hid eo
  replace e3 := Lib.hid e3
  replace ei := Lib.hid ei
  replace ez := Lib.hid ez
  replace e4 := Lib.hid e4
  replace e5 := Lib.hid e5
  replace e6 := Lib.hid e6
  replace e7 := Lib.hid e7
  replace hq := Lib.hid hq
  replace hpr := Lib.hid hpr
  replace hpu := Lib.hid hpu
  replace k2 := Lib.hid k2
  replace k3 := Lib.hid k3
  replace k4 := Lib.hid k4
  replace k5 := Lib.hid k5
  replace k6 := Lib.hid k6
  replace k7 := Lib.hid k7
  replace hl2 := Lib.hid hl2
  replace hx := Lib.hid hx
  clear k1 hs hl
  unfold Evt.v
  go_enter Try.func10, Try.ntmps10
  go_wp2_with (with_reducible refine stop_bx ?_)
  refine Stop.go ?_
  refine wpList_box_own HH.out [_, _, _, _, _, _, _, _, _, _, _] rfl ?_
  intro g w1_ H9_
  replace HH := Lib.hid H9_
  clear H9_
  replace HH := Lib.hid ((Own.pm (HH.out) (by repeat (first | with_reducible exact Pm.refl _ | with_reducible exact Pm.nil _ | with_reducible refine Pm.here ?_ | with_reducible refine Pm.at2 ?_ | with_reducible refine Pm.at3 ?_ | with_reducible refine Pm.at4 ?_ | with_reducible refine Pm.at5 ?_ | with_reducible refine Pm.at6 ?_ | with_reducible refine Pm.at7 ?_ | with_reducible refine Pm.at8 ?_ | with_reducible refine Pm.skip ?_))) : Own ε _ (pts g (.cells #[.int .u64 x.now, .int .u64 x.sd, .int .u64 x.si, .int .u64 x.sr, .int .u64 x.rtt, .bool x.slim, .bool x.some, .int .u64 x.deliv, .int .u64 x.acked, .int .u64 x.lost, .int .u64 x.fl] 37 (0, 0)) :: pts b (.cells #[.int .u64 s.c.mss, .int .u64 s.c.init, .int .u64 s.c.reorder, .int .u64 s.c.window, .int .u64 s.c.probe, .int .u64 s.c.loss, .pointer (some ⟨pb, 0, none⟩), .int .u64 s.bd.hi, .int .u64 s.bd.lo, .int .u64 s.bd.bw, .int .i64 s.st, .int .u64 s.since, .int .u64 s.rounds, .pointer (some ⟨fb, 0, none⟩), .pointer (some ⟨rb, 0, none⟩), .pointer (some ⟨kb, 0, none⟩), .int .u64 s.acked, .int .u64 s.lost, .int .u64 s.cwnd, .int .u64 s.kept, .int .u64 s.ended] 60 (0, 0)) :: pip pb s.p :: fil fb s.f :: cyc rb s.r :: ctr kb s.k :: R))
  go_upto_region 2 with (fail)
  go_cut [] from 129 (fun wc => Own ε wc (pts b (.cells #[.int .u64 s1.c.mss, .int .u64 s1.c.init, .int .u64 s1.c.reorder, .int .u64 s1.c.window, .int .u64 s1.c.probe, .int .u64 s1.c.loss, .pointer (some ⟨pb, 0, none⟩), .int .u64 s1.bd.hi, .int .u64 s1.bd.lo, .int .u64 s1.bd.bw, .int .i64 s1.st, .int .u64 s1.since, .int .u64 s1.rounds, .pointer (some ⟨fb, 0, none⟩), .pointer (some ⟨rb, 0, none⟩), .pointer (some ⟨kb, 0, none⟩), .int .u64 s1.acked, .int .u64 s1.lost, .int .u64 s1.cwnd, .int .u64 s1.kept, .int .u64 s1.ended] 60 (0, 0)) :: pip pb s1.p :: fil fb s1.f :: cyc rb s1.r :: ctr kb s1.k :: pts g (.cells #[.int .u64 x.now, .int .u64 x.sd, .int .u64 x.si, .int .u64 x.sr, .int .u64 x.rtt, .bool x.slim, .bool x.some, .int .u64 x.deliv, .int .u64 x.acked, .int .u64 x.lost, .int .u64 x.fl] 37 (0, 0)) :: R))
  case first =>
    go_wp2_with fail
    refine wp_region_reg (some 20) HH.out (by kernel_rfl) ?_
    intro wm H9_
    replace HH := Lib.hid H9_
    clear H9_
    refine reg_p (i := 0) rfl (by kernel_rfl) (fun _ _ _ _ h => h) HH.out (fun K hK => ?_)
    go_simp
    first | (refine hK _ ?_; clear hK K) | (apply Exists.intro; refine ⟨?_, hK _ ?_⟩; (focus (intro wx; first | (go_simp; first | rfl) | rfl)); clear hK K)
    refine reg_p (i := 1) rfl (by kernel_rfl) (fun _ _ _ _ h => h) HH.out (fun K hK => ?_)
    go_simp
    first | (refine hK _ ?_; clear hK K) | (apply Exists.intro; refine ⟨?_, hK _ ?_⟩; (focus (intro wx; first | (go_simp; first | rfl) | rfl)); clear hK K)
    refine reg_p (i := 2) rfl (by kernel_rfl) (fun _ _ _ _ h => h) HH.out (fun K hK => ?_)
    go_simp
    first | (refine hK _ ?_; clear hK K) | (apply Exists.intro; refine ⟨?_, hK _ ?_⟩; (focus (intro wx; first | (go_simp; first | rfl) | rfl)); clear hK K)
    refine reg_p (i := 3) rfl (by kernel_rfl) (fun _ _ _ _ h => h) HH.out (fun K hK => ?_)
    go_simp
    first | (refine hK _ ?_; clear hK K) | (apply Exists.intro; refine ⟨?_, hK _ ?_⟩; (focus (intro wx; first | (go_simp; first | rfl) | rfl)); clear hK K)
    refine reg_p (i := 4) rfl (by kernel_rfl) (fun _ _ _ _ h => h) HH.out (fun K hK => ?_)
    go_simp
    first | (refine hK _ ?_; clear hK K) | (apply Exists.intro; refine ⟨?_, hK _ ?_⟩; (focus (intro wx; first | (go_simp; first | rfl) | rfl)); clear hK K)
    refine mixk_q (i := 5) rfl (by kernel_rfl) (fun _ _ _ _ h => h) HH.out (fun K hK => ?_)
    go_simp
    first | (refine hK _ ?_; clear hK K) | (apply Exists.intro; refine ⟨?_, hK _ ?_⟩; (focus (intro wx hx; have x1_ := hx.cells; have x2_ := hx.r2.cells; first | (go_simp; first | rfl | exact ⟨rfl, rfl⟩) | rfl | exact ⟨rfl, rfl⟩)); clear hK K)
    refine reg_p (i := 6) rfl (by kernel_rfl) (fun _ _ _ _ h => h) HH.out (fun K hK => ?_)
    go_simp
    first | (refine hK _ ?_; clear hK K) | (apply Exists.intro; refine ⟨?_, hK _ ?_⟩; (focus (intro wx; first | (go_simp; first | rfl) | rfl)); clear hK K)
    refine mixk_q (i := 7) rfl (by kernel_rfl) (fun _ _ _ _ h => h) HH.out (fun K hK => ?_)
    go_simp
    first | (refine hK _ ?_; clear hK K) | (apply Exists.intro; refine ⟨?_, hK _ ?_⟩; (focus (intro wx hx; have x1_ := hx.cells; have x2_ := hx.r2.cells; first | (go_simp; first | rfl | exact ⟨rfl, rfl⟩) | rfl | exact ⟨rfl, rfl⟩)); clear hK K)
    refine reg_p (i := 10) rfl (by kernel_rfl) (fun _ _ _ _ h => h) HH.out (fun K hK => ?_)
    go_simp
    first | (refine hK _ ?_; clear hK K) | (apply Exists.intro; refine ⟨?_, hK _ ?_⟩; (focus (intro wx; first | (go_simp; first | rfl) | rfl)); clear hK K)
    refine reg_p (i := 11) rfl (by kernel_rfl) (fun _ _ _ _ h => h) HH.out (fun K hK => ?_)
    go_simp
    first | (refine hK _ ?_; clear hK K) | (apply Exists.intro; refine ⟨?_, hK _ ?_⟩; (focus (intro wx; first | (go_simp; first | rfl) | rfl)); clear hK K)
    refine reg_p (i := 12) rfl (by kernel_rfl) (fun _ _ _ _ h => h) HH.out (fun K hK => ?_)
    go_simp
    first | (refine hK _ ?_; clear hK K) | (apply Exists.intro; refine ⟨?_, hK _ ?_⟩; (focus (intro wx; first | (go_simp; first | rfl) | rfl)); clear hK K)
    refine mixk_q (i := 13) rfl (by kernel_rfl) (fun _ _ _ _ h => h) HH.out (fun K hK => ?_)
    go_simp
    first | (refine hK _ ?_; clear hK K) | (apply Exists.intro; refine ⟨?_, hK _ ?_⟩; (focus (intro wx hx; have x1_ := hx.cells; have x2_ := hx.r2.cells; first | (go_simp; first | rfl | exact ⟨rfl, rfl⟩) | rfl | exact ⟨rfl, rfl⟩)); clear hK K)
    refine reg_p (i := 14) rfl (by kernel_rfl) (fun _ _ _ _ h => h) HH.out (fun K hK => ?_)
    go_simp
    first | (refine hK _ ?_; clear hK K) | (apply Exists.intro; refine ⟨?_, hK _ ?_⟩; (focus (intro wx; first | (go_simp; first | rfl) | rfl)); clear hK K)
    refine mixk_q (i := 15) rfl (by kernel_rfl) (fun _ _ _ _ h => h) HH.out (fun K hK => ?_)
    go_simp
    first | (refine hK _ ?_; clear hK K) | (apply Exists.intro; refine ⟨?_, hK _ ?_⟩; (focus (intro wx hx; have x1_ := hx.cells; have x2_ := hx.r2.cells; first | (go_simp; first | rfl | exact ⟨rfl, rfl⟩) | rfl | exact ⟨rfl, rfl⟩)); clear hK K)
    refine reg_two (some 20) (some 20) (i := 8) (j := 16) rfl rfl (by kernel_rfl) (fun wn hk K hK => ?g1_) (fun wn hk K hK => ?g2_)
    case' g1_ =>
      replace HH := Lib.hid (hk _ _ HH.out)
      clear hk
      go_simp
      replace HH := Lib.hid (HH.out.alloc (.cells #[.int .u64 s.acked, .int .u64 x.acked] 22))
      generalize wn.alloc (.cells #[.int .u64 s.acked, .int .u64 x.acked] 22) = wm at *
      generalize wn.heap.size = sb1 at *
      refine hK _ _ _ HH.out (.inr ⟨rfl, fun _ h => h.tail⟩) ?_
      clear hK K
      refine reg_two (some 20) (some 20) (i := 9) (j := 16) rfl rfl (by kernel_rfl) (fun wn hk K hK => ?g3_) (fun wn hk K hK => ?g4_)
      case' g3_ =>
        replace HH := Lib.hid (hk _ _ HH.out)
        clear hk
        go_simp
        refine (fixAdd2_c wn sb1 s.acked x.acked u1.out v1.out (HH.out.cells.1 0) (HH.out.cells.1 1)).mono ?_
        rintro e wm ⟨rfl, hbel⟩
        replace HH := Lib.hid ((by first | exact Kp.same hbel | exact Kp.drew hbel | exact Kp.below hbel : Kp wn wm) _ _ HH.out)
        clear hbel
        refine hK _ _ _ HH.out (.inr ⟨rfl, fun _ h => h⟩) ?_
        clear hK K
        refine reg_l (some 20) (i := 16) rfl (by kernel_rfl) (fun wn hk K hK => ?_)
        replace HH := Lib.hid (hk _ _ HH.out)
        clear hk
        go_simp
        replace HH := Lib.hid (HH.out.alloc (.cells #[.int .u64 s.lost, .int .u64 x.lost] 22))
        generalize wn.alloc (.cells #[.int .u64 s.lost, .int .u64 x.lost] 22) = wm at *
        generalize wn.heap.size = sb2 at *
        refine hK _ _ _ HH.out (.inr ⟨rfl, fun _ h => h.tail⟩) ?_
        clear hK K
        refine reg_l (some 20) (i := 17) rfl (by kernel_rfl) (fun wn hk K hK => ?_)
        replace HH := Lib.hid (hk _ _ HH.out)
        clear hk
        go_simp
        refine (fixAdd2_c wn sb2 s.lost x.lost u2.out v2.out (HH.out.cells.1 0) (HH.out.cells.1 1)).mono ?_
        rintro e wm ⟨rfl, hbel⟩
        replace HH := Lib.hid ((by first | exact Kp.same hbel | exact Kp.drew hbel | exact Kp.below hbel : Kp wn wm) _ _ HH.out)
        clear hbel
        refine hK _ _ _ HH.out (.inr ⟨rfl, fun _ h => h⟩) ?_
        clear hK K
        refine reg_p (i := 18) rfl (by kernel_rfl) (fun _ _ _ _ h => h) HH.out (fun K hK => ?_)
        go_simp
        first | (refine hK _ ?_; clear hK K) | (apply Exists.intro; refine ⟨?_, hK _ ?_⟩; (focus (intro wx; first | (go_simp; first | rfl) | rfl)); clear hK K)
        refine reg_p (i := 19) rfl (by kernel_rfl) (fun _ _ _ _ h => h) HH.out (fun K hK => ?_)
        go_simp
        first | (refine hK _ ?_; clear hK K) | (apply Exists.intro; refine ⟨?_, hK _ ?_⟩; (focus (intro wx; first | (go_simp; first | rfl) | rfl)); clear hK K)
        refine reg_l (some 23) (i := 20) rfl (by kernel_rfl) (fun wn hk K hK => ?_)
        replace HH := Lib.hid (hk _ _ HH.out)
        clear hk
        have hx := HH.out
        have x1_ := hx.r3.cells
        have x2_ := hx.r4.cells
        go_simp
        replace HH := Lib.hid (HH.out.r4.set 16 (.int .u64 (sadd s.acked x.acked)))
        simp only [List.setIfInBounds_toArray, List.set_cons_succ, List.set_cons_zero] at HH
        generalize wn.setCell ⟨b, 16, none⟩ (.int .u64 (sadd s.acked x.acked)) = wm at *
        clear hx x1_ x2_
        refine hK _ _ _ HH.out (.inl (by kernel_rfl)) ?_
        clear hK K
        refine reg_p (i := 21) rfl (by kernel_rfl) (fun _ _ _ _ h => h) HH.out (fun K hK => ?_)
        go_simp
        first | (refine hK _ ?_; clear hK K) | (apply Exists.intro; refine ⟨?_, hK _ ?_⟩; (focus (intro wx; first | (go_simp; first | rfl) | rfl)); clear hK K)
        refine reg_p (i := 22) rfl (by kernel_rfl) (fun _ _ _ _ h => h) HH.out (fun K hK => ?_)
        go_simp
        first | (refine hK _ ?_; clear hK K) | (apply Exists.intro; refine ⟨?_, hK _ ?_⟩; (focus (intro wx; first | (go_simp; first | rfl) | rfl)); clear hK K)
        refine reg_l none (i := 23) rfl (by kernel_rfl) (fun wn hk K hK => ?_)
        replace HH := Lib.hid (hk _ _ HH.out)
        clear hk
        have hx := HH.out
        have x1_ := hx.r4.cells
        have x2_ := hx.cells
        go_simp
        replace HH := Lib.hid (HH.out.set 17 (.int .u64 (sadd s.lost x.lost)))
        simp only [List.setIfInBounds_toArray, List.set_cons_succ, List.set_cons_zero] at HH
        generalize wn.setCell ⟨b, 17, none⟩ (.int .u64 (sadd s.lost x.lost)) = wm at *
        clear hx x1_ x2_
        refine hK _ _ _ HH.out (.inl (by kernel_rfl)) ?_
        clear hK K
        refine mixk_done (by kernel_rfl) (fun w2_ hk => ?_) _
        replace HH := Lib.hid (hk _ _ HH.out)
        clear hk
        replace HH := Lib.hid ((Own.pm (HH.out) (by repeat (first | with_reducible exact Pm.refl _ | with_reducible exact Pm.nil _ | with_reducible refine Pm.here ?_ | with_reducible refine Pm.at2 ?_ | with_reducible refine Pm.at3 ?_ | with_reducible refine Pm.at4 ?_ | with_reducible refine Pm.at5 ?_ | with_reducible refine Pm.at6 ?_ | with_reducible refine Pm.at7 ?_ | with_reducible refine Pm.at8 ?_ | with_reducible refine Pm.skip ?_))) : Own _ _ (pts b (.cells #[.int .u64 s.c.mss, .int .u64 s.c.init, .int .u64 s.c.reorder, .int .u64 s.c.window, .int .u64 s.c.probe, .int .u64 s.c.loss, .pointer (some ⟨pb, 0, none⟩), .int .u64 s.bd.hi, .int .u64 s.bd.lo, .int .u64 s.bd.bw, .int .i64 s.st, .int .u64 s.since, .int .u64 s.rounds, .pointer (some ⟨fb, 0, none⟩), .pointer (some ⟨rb, 0, none⟩), .pointer (some ⟨kb, 0, none⟩), .int .u64 (sadd s.acked x.acked), .int .u64 (sadd s.lost x.lost), .int .u64 s.cwnd, .int .u64 s.kept, .int .u64 s.ended] 60 (0, 0)) :: pip pb s.p :: fil fb s.f :: cyc rb s.r :: ctr kb s.k :: pts g (.cells #[.int .u64 x.now, .int .u64 x.sd, .int .u64 x.si, .int .u64 x.sr, .int .u64 x.rtt, .bool x.slim, .bool x.some, .int .u64 x.deliv, .int .u64 x.acked, .int .u64 x.lost, .int .u64 x.fl] 37 (0, 0)) :: R))
      case' g4_ =>
        replace HH := Lib.hid (hk _ _ HH.out)
        clear hk
        go_simp
        replace HH := Lib.hid (HH.out.alloc (.cells #[.int .u64 s.lost, .int .u64 x.lost] 22))
        generalize wn.alloc (.cells #[.int .u64 s.lost, .int .u64 x.lost] 22) = wm at *
        generalize wn.heap.size = sb2 at *
        refine hK _ _ _ HH.out (.inr ⟨rfl, fun _ h => h.tail⟩) ?_
        clear hK K
        refine reg_l (some 20) (i := 9) rfl (by kernel_rfl) (fun wn hk K hK => ?_)
        replace HH := Lib.hid (hk _ _ HH.out)
        clear hk
        go_simp
        refine (fixAdd2_c wn sb1 s.acked x.acked u1.out v1.out (HH.out.r2.cells.1 0) (HH.out.r2.cells.1 1)).mono ?_
        rintro e wm ⟨rfl, hbel⟩
        replace HH := Lib.hid ((by first | exact Kp.same hbel | exact Kp.drew hbel | exact Kp.below hbel : Kp wn wm) _ _ HH.out)
        clear hbel
        refine hK _ _ _ HH.out (.inr ⟨rfl, fun _ h => h⟩) ?_
        clear hK K
        refine reg_l (some 20) (i := 17) rfl (by kernel_rfl) (fun wn hk K hK => ?_)
        replace HH := Lib.hid (hk _ _ HH.out)
        clear hk
        go_simp
        refine (fixAdd2_c wn sb2 s.lost x.lost u2.out v2.out (HH.out.cells.1 0) (HH.out.cells.1 1)).mono ?_
        rintro e wm ⟨rfl, hbel⟩
        replace HH := Lib.hid ((by first | exact Kp.same hbel | exact Kp.drew hbel | exact Kp.below hbel : Kp wn wm) _ _ HH.out)
        clear hbel
        refine hK _ _ _ HH.out (.inr ⟨rfl, fun _ h => h⟩) ?_
        clear hK K
        refine reg_p (i := 18) rfl (by kernel_rfl) (fun _ _ _ _ h => h) HH.out (fun K hK => ?_)
        go_simp
        first | (refine hK _ ?_; clear hK K) | (apply Exists.intro; refine ⟨?_, hK _ ?_⟩; (focus (intro wx; first | (go_simp; first | rfl) | rfl)); clear hK K)
        refine reg_p (i := 19) rfl (by kernel_rfl) (fun _ _ _ _ h => h) HH.out (fun K hK => ?_)
        go_simp
        first | (refine hK _ ?_; clear hK K) | (apply Exists.intro; refine ⟨?_, hK _ ?_⟩; (focus (intro wx; first | (go_simp; first | rfl) | rfl)); clear hK K)
        refine reg_l (some 23) (i := 20) rfl (by kernel_rfl) (fun wn hk K hK => ?_)
        replace HH := Lib.hid (hk _ _ HH.out)
        clear hk
        have hx := HH.out
        have x1_ := hx.r3.cells
        have x2_ := hx.r4.cells
        go_simp
        replace HH := Lib.hid (HH.out.r4.set 16 (.int .u64 (sadd s.acked x.acked)))
        simp only [List.setIfInBounds_toArray, List.set_cons_succ, List.set_cons_zero] at HH
        generalize wn.setCell ⟨b, 16, none⟩ (.int .u64 (sadd s.acked x.acked)) = wm at *
        clear hx x1_ x2_
        refine hK _ _ _ HH.out (.inl (by kernel_rfl)) ?_
        clear hK K
        refine reg_p (i := 21) rfl (by kernel_rfl) (fun _ _ _ _ h => h) HH.out (fun K hK => ?_)
        go_simp
        first | (refine hK _ ?_; clear hK K) | (apply Exists.intro; refine ⟨?_, hK _ ?_⟩; (focus (intro wx; first | (go_simp; first | rfl) | rfl)); clear hK K)
        refine reg_p (i := 22) rfl (by kernel_rfl) (fun _ _ _ _ h => h) HH.out (fun K hK => ?_)
        go_simp
        first | (refine hK _ ?_; clear hK K) | (apply Exists.intro; refine ⟨?_, hK _ ?_⟩; (focus (intro wx; first | (go_simp; first | rfl) | rfl)); clear hK K)
        refine reg_l none (i := 23) rfl (by kernel_rfl) (fun wn hk K hK => ?_)
        replace HH := Lib.hid (hk _ _ HH.out)
        clear hk
        have hx := HH.out
        have x1_ := hx.r4.cells
        have x2_ := hx.cells
        go_simp
        replace HH := Lib.hid (HH.out.set 17 (.int .u64 (sadd s.lost x.lost)))
        simp only [List.setIfInBounds_toArray, List.set_cons_succ, List.set_cons_zero] at HH
        generalize wn.setCell ⟨b, 17, none⟩ (.int .u64 (sadd s.lost x.lost)) = wm at *
        clear hx x1_ x2_
        refine hK _ _ _ HH.out (.inl (by kernel_rfl)) ?_
        clear hK K
        refine mixk_done (by kernel_rfl) (fun w2_ hk => ?_) _
        replace HH := Lib.hid (hk _ _ HH.out)
        clear hk
        replace HH := Lib.hid ((Own.pm (HH.out) (by repeat (first | with_reducible exact Pm.refl _ | with_reducible exact Pm.nil _ | with_reducible refine Pm.here ?_ | with_reducible refine Pm.at2 ?_ | with_reducible refine Pm.at3 ?_ | with_reducible refine Pm.at4 ?_ | with_reducible refine Pm.at5 ?_ | with_reducible refine Pm.at6 ?_ | with_reducible refine Pm.at7 ?_ | with_reducible refine Pm.at8 ?_ | with_reducible refine Pm.skip ?_))) : Own _ _ (pts b (.cells #[.int .u64 s.c.mss, .int .u64 s.c.init, .int .u64 s.c.reorder, .int .u64 s.c.window, .int .u64 s.c.probe, .int .u64 s.c.loss, .pointer (some ⟨pb, 0, none⟩), .int .u64 s.bd.hi, .int .u64 s.bd.lo, .int .u64 s.bd.bw, .int .i64 s.st, .int .u64 s.since, .int .u64 s.rounds, .pointer (some ⟨fb, 0, none⟩), .pointer (some ⟨rb, 0, none⟩), .pointer (some ⟨kb, 0, none⟩), .int .u64 (sadd s.acked x.acked), .int .u64 (sadd s.lost x.lost), .int .u64 s.cwnd, .int .u64 s.kept, .int .u64 s.ended] 60 (0, 0)) :: pip pb s.p :: fil fb s.f :: cyc rb s.r :: ctr kb s.k :: pts g (.cells #[.int .u64 x.now, .int .u64 x.sd, .int .u64 x.si, .int .u64 x.sr, .int .u64 x.rtt, .bool x.slim, .bool x.some, .int .u64 x.deliv, .int .u64 x.acked, .int .u64 x.lost, .int .u64 x.fl] 37 (0, 0)) :: R))
    case' g2_ =>
      replace HH := Lib.hid (hk _ _ HH.out)
      clear hk
      go_simp
      replace HH := Lib.hid (HH.out.alloc (.cells #[.int .u64 s.lost, .int .u64 x.lost] 22))
      generalize wn.alloc (.cells #[.int .u64 s.lost, .int .u64 x.lost] 22) = wm at *
      generalize wn.heap.size = sb2 at *
      refine hK _ _ _ HH.out (.inr ⟨rfl, fun _ h => h.tail⟩) ?_
      clear hK K
      refine reg_l (some 20) (i := 8) rfl (by kernel_rfl) (fun wn hk K hK => ?_)
      replace HH := Lib.hid (hk _ _ HH.out)
      clear hk
      go_simp
      replace HH := Lib.hid (HH.out.alloc (.cells #[.int .u64 s.acked, .int .u64 x.acked] 22))
      generalize wn.alloc (.cells #[.int .u64 s.acked, .int .u64 x.acked] 22) = wm at *
      generalize wn.heap.size = sb1 at *
      refine hK _ _ _ HH.out (.inr ⟨rfl, fun _ h => h.tail⟩) ?_
      clear hK K
      refine reg_l (some 20) (i := 9) rfl (by kernel_rfl) (fun wn hk K hK => ?_)
      replace HH := Lib.hid (hk _ _ HH.out)
      clear hk
      go_simp
      refine (fixAdd2_c wn sb1 s.acked x.acked u1.out v1.out (HH.out.cells.1 0) (HH.out.cells.1 1)).mono ?_
      rintro e wm ⟨rfl, hbel⟩
      replace HH := Lib.hid ((by first | exact Kp.same hbel | exact Kp.drew hbel | exact Kp.below hbel : Kp wn wm) _ _ HH.out)
      clear hbel
      refine hK _ _ _ HH.out (.inr ⟨rfl, fun _ h => h⟩) ?_
      clear hK K
      refine reg_l (some 20) (i := 17) rfl (by kernel_rfl) (fun wn hk K hK => ?_)
      replace HH := Lib.hid (hk _ _ HH.out)
      clear hk
      go_simp
      refine (fixAdd2_c wn sb2 s.lost x.lost u2.out v2.out (HH.out.r2.cells.1 0) (HH.out.r2.cells.1 1)).mono ?_
      rintro e wm ⟨rfl, hbel⟩
      replace HH := Lib.hid ((by first | exact Kp.same hbel | exact Kp.drew hbel | exact Kp.below hbel : Kp wn wm) _ _ HH.out)
      clear hbel
      refine hK _ _ _ HH.out (.inr ⟨rfl, fun _ h => h⟩) ?_
      clear hK K
      refine reg_p (i := 18) rfl (by kernel_rfl) (fun _ _ _ _ h => h) HH.out (fun K hK => ?_)
      go_simp
      first | (refine hK _ ?_; clear hK K) | (apply Exists.intro; refine ⟨?_, hK _ ?_⟩; (focus (intro wx; first | (go_simp; first | rfl) | rfl)); clear hK K)
      refine reg_p (i := 19) rfl (by kernel_rfl) (fun _ _ _ _ h => h) HH.out (fun K hK => ?_)
      go_simp
      first | (refine hK _ ?_; clear hK K) | (apply Exists.intro; refine ⟨?_, hK _ ?_⟩; (focus (intro wx; first | (go_simp; first | rfl) | rfl)); clear hK K)
      refine reg_l (some 23) (i := 20) rfl (by kernel_rfl) (fun wn hk K hK => ?_)
      replace HH := Lib.hid (hk _ _ HH.out)
      clear hk
      have hx := HH.out
      have x1_ := hx.r3.cells
      have x2_ := hx.r4.cells
      go_simp
      replace HH := Lib.hid (HH.out.r4.set 16 (.int .u64 (sadd s.acked x.acked)))
      simp only [List.setIfInBounds_toArray, List.set_cons_succ, List.set_cons_zero] at HH
      generalize wn.setCell ⟨b, 16, none⟩ (.int .u64 (sadd s.acked x.acked)) = wm at *
      clear hx x1_ x2_
      refine hK _ _ _ HH.out (.inl (by kernel_rfl)) ?_
      clear hK K
      refine reg_p (i := 21) rfl (by kernel_rfl) (fun _ _ _ _ h => h) HH.out (fun K hK => ?_)
      go_simp
      first | (refine hK _ ?_; clear hK K) | (apply Exists.intro; refine ⟨?_, hK _ ?_⟩; (focus (intro wx; first | (go_simp; first | rfl) | rfl)); clear hK K)
      refine reg_p (i := 22) rfl (by kernel_rfl) (fun _ _ _ _ h => h) HH.out (fun K hK => ?_)
      go_simp
      first | (refine hK _ ?_; clear hK K) | (apply Exists.intro; refine ⟨?_, hK _ ?_⟩; (focus (intro wx; first | (go_simp; first | rfl) | rfl)); clear hK K)
      refine reg_l none (i := 23) rfl (by kernel_rfl) (fun wn hk K hK => ?_)
      replace HH := Lib.hid (hk _ _ HH.out)
      clear hk
      have hx := HH.out
      have x1_ := hx.r4.cells
      have x2_ := hx.cells
      go_simp
      replace HH := Lib.hid (HH.out.set 17 (.int .u64 (sadd s.lost x.lost)))
      simp only [List.setIfInBounds_toArray, List.set_cons_succ, List.set_cons_zero] at HH
      generalize wn.setCell ⟨b, 17, none⟩ (.int .u64 (sadd s.lost x.lost)) = wm at *
      clear hx x1_ x2_
      refine hK _ _ _ HH.out (.inl (by kernel_rfl)) ?_
      clear hK K
      refine mixk_done (by kernel_rfl) (fun w2_ hk => ?_) _
      replace HH := Lib.hid (hk _ _ HH.out)
      clear hk
      replace HH := Lib.hid ((Own.pm (HH.out) (by repeat (first | with_reducible exact Pm.refl _ | with_reducible exact Pm.nil _ | with_reducible refine Pm.here ?_ | with_reducible refine Pm.at2 ?_ | with_reducible refine Pm.at3 ?_ | with_reducible refine Pm.at4 ?_ | with_reducible refine Pm.at5 ?_ | with_reducible refine Pm.at6 ?_ | with_reducible refine Pm.at7 ?_ | with_reducible refine Pm.at8 ?_ | with_reducible refine Pm.skip ?_))) : Own _ _ (pts b (.cells #[.int .u64 s.c.mss, .int .u64 s.c.init, .int .u64 s.c.reorder, .int .u64 s.c.window, .int .u64 s.c.probe, .int .u64 s.c.loss, .pointer (some ⟨pb, 0, none⟩), .int .u64 s.bd.hi, .int .u64 s.bd.lo, .int .u64 s.bd.bw, .int .i64 s.st, .int .u64 s.since, .int .u64 s.rounds, .pointer (some ⟨fb, 0, none⟩), .pointer (some ⟨rb, 0, none⟩), .pointer (some ⟨kb, 0, none⟩), .int .u64 (sadd s.acked x.acked), .int .u64 (sadd s.lost x.lost), .int .u64 s.cwnd, .int .u64 s.kept, .int .u64 s.ended] 60 (0, 0)) :: pip pb s.p :: fil fb s.f :: cyc rb s.r :: ctr kb s.k :: pts g (.cells #[.int .u64 x.now, .int .u64 x.sd, .int .u64 x.si, .int .u64 x.sr, .int .u64 x.rtt, .bool x.slim, .bool x.some, .int .u64 x.deliv, .int .u64 x.acked, .int .u64 x.lost, .int .u64 x.fl] 37 (0, 0)) :: R))
    all_goals
      go_wp2_with fail
      go_meet
      case rel => rw [← e1.out]; exact HH.out
  case rest =>
    clear HH
    have HH := Lib.hid hcut
    clear hcut
    (try clear cc1_); (try clear cc2_); (try clear cc3_); (try clear cc4_); (try clear cc5_); (try clear cc6_); (try clear cc7_)
    have cc1_ := HH.out.cells
    have cc2_ := HH.out.r2.cells
    have cc6_ := HH.out.r6.cells
    go_wp2_with fail
    go_wp2_with fail
    refine wp_region_reg (some 6) HH.out (by kernel_rfl) ?_
    intro wm H9_
    replace HH := Lib.hid H9_
    clear H9_
    refine reg_p (i := 0) rfl (by kernel_rfl) (fun _ _ _ _ h => h) HH.out (fun K hK => ?_)
    go_simp
    first | (refine hK _ ?_; clear hK K) | (apply Exists.intro; refine ⟨?_, hK _ ?_⟩; (focus (intro wx; first | (go_simp; first | rfl) | rfl)); clear hK K)
    refine reg_p (i := 1) rfl (by kernel_rfl) (fun _ _ _ _ h => h) HH.out (fun K hK => ?_)
    go_simp
    first | (refine hK _ ?_; clear hK K) | (apply Exists.intro; refine ⟨?_, hK _ ?_⟩; (focus (intro wx; first | (go_simp; first | rfl) | rfl)); clear hK K)
    refine reg_p (i := 2) rfl (by kernel_rfl) (fun _ _ _ _ h => h) HH.out (fun K hK => ?_)
    go_simp
    first | (refine hK _ ?_; clear hK K) | (apply Exists.intro; refine ⟨?_, hK _ ?_⟩; (focus (intro wx; first | (go_simp; first | rfl) | rfl)); clear hK K)
    refine mixk_q (i := 3) rfl (by kernel_rfl) (fun _ _ _ _ h => h) HH.out (fun K hK => ?_)
    go_simp
    first | (refine hK _ ?_; clear hK K) | (apply Exists.intro; refine ⟨?_, hK _ ?_⟩; (focus (intro wx hx; have x1_ := hx.cells; have x6_ := hx.r6.cells; first | (go_simp; first | rfl | exact ⟨rfl, rfl⟩) | rfl | exact ⟨rfl, rfl⟩)); clear hK K)
    refine reg_p (i := 4) rfl (by kernel_rfl) (fun _ _ _ _ h => h) HH.out (fun K hK => ?_)
    go_simp
    first | (refine hK _ ?_; clear hK K) | (apply Exists.intro; refine ⟨?_, hK _ ?_⟩; (focus (intro wx; first | (go_simp; first | rfl) | rfl)); clear hK K)
    refine mixk_q (i := 5) rfl (by kernel_rfl) (fun _ _ _ _ h => h) HH.out (fun K hK => ?_)
    go_simp
    first | (refine hK _ ?_; clear hK K) | (apply Exists.intro; refine ⟨?_, hK _ ?_⟩; (focus (intro wx hx; have x1_ := hx.cells; have x6_ := hx.r6.cells; first | (go_simp; first | rfl | exact ⟨rfl, rfl⟩) | rfl | exact ⟨rfl, rfl⟩)); clear hK K)
    refine reg_l none (i := 6) rfl (by kernel_rfl) (fun wn hk K hK => ?_)
    replace HH := Lib.hid (hk _ _ HH.out)
    clear hk
    go_simp
    refine (filTo_c ε wn _ fb s1.f x.now hf1.out HH.out.r3).mono ?_
    rintro e wm ⟨rfl, H9_⟩
    replace HH := Lib.hid H9_
    clear H9_
    refine hK _ _ _ HH.out (.inl (by kernel_rfl)) ?_
    clear hK K
    refine mixk_done (by kernel_rfl) (fun w3_ hk => ?_) _
    replace HH := Lib.hid (hk _ _ HH.out)
    clear hk
    replace HH := Lib.hid ((Own.pm (HH.out) (by repeat (first | with_reducible exact Pm.refl _ | with_reducible exact Pm.nil _ | with_reducible refine Pm.here ?_ | with_reducible refine Pm.at2 ?_ | with_reducible refine Pm.at3 ?_ | with_reducible refine Pm.at4 ?_ | with_reducible refine Pm.at5 ?_ | with_reducible refine Pm.at6 ?_ | with_reducible refine Pm.at7 ?_ | with_reducible refine Pm.at8 ?_ | with_reducible refine Pm.skip ?_))) : Own _ _ (pts b (.cells #[.int .u64 s1.c.mss, .int .u64 s1.c.init, .int .u64 s1.c.reorder, .int .u64 s1.c.window, .int .u64 s1.c.probe, .int .u64 s1.c.loss, .pointer (some ⟨pb, 0, none⟩), .int .u64 s1.bd.hi, .int .u64 s1.bd.lo, .int .u64 s1.bd.bw, .int .i64 s1.st, .int .u64 s1.since, .int .u64 s1.rounds, .pointer (some ⟨fb, 0, none⟩), .pointer (some ⟨rb, 0, none⟩), .pointer (some ⟨kb, 0, none⟩), .int .u64 s1.acked, .int .u64 s1.lost, .int .u64 s1.cwnd, .int .u64 s1.kept, .int .u64 s1.ended] 60 (0, 0)) :: pip pb s1.p :: fil fb (s1.f.to x.now).2 :: cyc rb s1.r :: ctr kb s1.k :: pts g (.cells #[.int .u64 x.now, .int .u64 x.sd, .int .u64 x.si, .int .u64 x.sr, .int .u64 x.rtt, .bool x.slim, .bool x.some, .int .u64 x.deliv, .int .u64 x.acked, .int .u64 x.lost, .int .u64 x.fl] 37 (0, 0)) :: R))
    replace HH := Lib.hid (Own.as HH.out (show _ = pts b (.cells #[.int .u64 s2.c.mss, .int .u64 s2.c.init, .int .u64 s2.c.reorder, .int .u64 s2.c.window, .int .u64 s2.c.probe, .int .u64 s2.c.loss, .pointer (some ⟨pb, 0, none⟩), .int .u64 s2.bd.hi, .int .u64 s2.bd.lo, .int .u64 s2.bd.bw, .int .i64 s2.st, .int .u64 s2.since, .int .u64 s2.rounds, .pointer (some ⟨fb, 0, none⟩), .pointer (some ⟨rb, 0, none⟩), .pointer (some ⟨kb, 0, none⟩), .int .u64 s2.acked, .int .u64 s2.lost, .int .u64 s2.cwnd, .int .u64 s2.kept, .int .u64 s2.ended] 60 (0, 0)) :: pip pb s2.p :: fil fb s2.f :: cyc rb s2.r :: ctr kb s2.k :: pts g (.cells #[.int .u64 x.now, .int .u64 x.sd, .int .u64 x.si, .int .u64 x.sr, .int .u64 x.rtt, .bool x.slim, .bool x.some, .int .u64 x.deliv, .int .u64 x.acked, .int .u64 x.lost, .int .u64 x.fl] 37 (0, 0)) :: R from congrArg (fun y : Eng => pts b (.cells #[.int .u64 y.c.mss, .int .u64 y.c.init, .int .u64 y.c.reorder, .int .u64 y.c.window, .int .u64 y.c.probe, .int .u64 y.c.loss, .pointer (some ⟨pb, 0, none⟩), .int .u64 y.bd.hi, .int .u64 y.bd.lo, .int .u64 y.bd.bw, .int .i64 y.st, .int .u64 y.since, .int .u64 y.rounds, .pointer (some ⟨fb, 0, none⟩), .pointer (some ⟨rb, 0, none⟩), .pointer (some ⟨kb, 0, none⟩), .int .u64 y.acked, .int .u64 y.lost, .int .u64 y.cwnd, .int .u64 y.kept, .int .u64 y.ended] 60 (0, 0)) :: pip pb y.p :: fil fb y.f :: cyc rb y.r :: ctr kb y.k :: pts g (.cells #[.int .u64 x.now, .int .u64 x.sd, .int .u64 x.si, .int .u64 x.sr, .int .u64 x.rtt, .bool x.slim, .bool x.some, .int .u64 x.deliv, .int .u64 x.acked, .int .u64 x.lost, .int .u64 x.fl] 37 (0, 0)) :: R) e2.out))
    (try clear cc1_); (try clear cc2_); (try clear cc3_); (try clear cc4_); (try clear cc5_); (try clear cc6_); (try clear cc7_)
    have cc1_ := HH.out.cells
    have cc6_ := HH.out.r6.cells
    go_wp2_with fail
    refine (engSample_c ε _ _ b pb fb rb kb s2 k2.out x hx.out hl2.out HH.out).mono ?_
    rw [eo.out]
    rw [e3.out]
    rintro e w4_ ⟨rfl, H9_⟩
    replace HH := Lib.hid H9_
    clear H9_
    go_upto_region 5 with (fail)
    go_cut [5] from 129 (fun v wc => v = .bool lz ∧ Own ε wc (pts b (.cells #[.int .u64 s4.c.mss, .int .u64 s4.c.init, .int .u64 s4.c.reorder, .int .u64 s4.c.window, .int .u64 s4.c.probe, .int .u64 s4.c.loss, .pointer (some ⟨pb, 0, none⟩), .int .u64 s4.bd.hi, .int .u64 s4.bd.lo, .int .u64 s4.bd.bw, .int .i64 s4.st, .int .u64 s4.since, .int .u64 s4.rounds, .pointer (some ⟨fb, 0, none⟩), .pointer (some ⟨rb, 0, none⟩), .pointer (some ⟨kb, 0, none⟩), .int .u64 s4.acked, .int .u64 s4.lost, .int .u64 s4.cwnd, .int .u64 s4.kept, .int .u64 s4.ended] 60 (0, 0)) :: pip pb s4.p :: fil fb s4.f :: cyc rb s4.r :: ctr kb s4.k :: pts g (.cells #[.int .u64 x.now, .int .u64 x.sd, .int .u64 x.si, .int .u64 x.sr, .int .u64 x.rtt, .bool x.slim, .bool x.some, .int .u64 x.deliv, .int .u64 x.acked, .int .u64 x.lost, .int .u64 x.fl] 37 (0, 0)) :: R))
    case first =>
      cases ov
      · go_wp2_with fail
        go_meet
        case rel => exact ⟨by rw [← ez.out, Bool.false_and], by rw [← e4.out]; exact HH.out⟩
      · go_wp2_with fail
        refine (engLossy_c ε _ _ b pb fb rb kb s3 k3.out HH.out).mono ?_
        rw [ei.out]
        rintro e w5_ ⟨rfl, H9_⟩
        replace HH := Lib.hid H9_
        clear H9_
        go_wp2_with fail
        go_meet
        case rel => exact ⟨by rw [← ez.out, Bool.true_and], by rw [← e4.out]; exact HH.out⟩
    case rest =>
      clear HH
      obtain ⟨rfl, HR⟩ := hcut
      have HH := Lib.hid HR
      clear HR
      go_upto_region 6 with (fail)
      go_cut [6] from 129 (fun v wc => v = .bool pr ∧ Own ε wc (pts b (.cells #[.int .u64 s4.c.mss, .int .u64 s4.c.init, .int .u64 s4.c.reorder, .int .u64 s4.c.window, .int .u64 s4.c.probe, .int .u64 s4.c.loss, .pointer (some ⟨pb, 0, none⟩), .int .u64 s4.bd.hi, .int .u64 s4.bd.lo, .int .u64 s4.bd.bw, .int .i64 s4.st, .int .u64 s4.since, .int .u64 s4.rounds, .pointer (some ⟨fb, 0, none⟩), .pointer (some ⟨rb, 0, none⟩), .pointer (some ⟨kb, 0, none⟩), .int .u64 s4.acked, .int .u64 s4.lost, .int .u64 s4.cwnd, .int .u64 s4.kept, .int .u64 s4.ended] 60 (0, 0)) :: pip pb s4.p :: fil fb s4.f :: cyc rb s4.r :: ctr kb s4.k :: pts g (.cells #[.int .u64 x.now, .int .u64 x.sd, .int .u64 x.si, .int .u64 x.sr, .int .u64 x.rtt, .bool x.slim, .bool x.some, .int .u64 x.deliv, .int .u64 x.acked, .int .u64 x.lost, .int .u64 x.fl] 37 (0, 0)) :: R))
      case first =>
        by_cases h0 : s4.st = 0
        · have b0 : (s4.st == 0) = true := by simpa using h0
          have hp : pr = true := by rw [← hpr.out]; simp [h0]
          replace h0 := Lib.hid h0
          (try clear cc1_); (try clear cc2_); (try clear cc3_); (try clear cc4_); (try clear cc5_); (try clear cc6_); (try clear cc7_)
          have cc1_ := HH.out.cells
          go_wp2_with fail
          go_meet
          case rel => exact ⟨by rw [hp], HH.out⟩
        · have b0 : (s4.st == 0) = false := by simpa using h0
          by_cases h5 : s4.st = 5
          · have b5 : (s4.st == 5) = true := by simpa using h5
            have hp : pr = true := by rw [← hpr.out]; simp [h5]
            replace h0 := Lib.hid h0
            replace h5 := Lib.hid h5
            (try clear cc1_); (try clear cc2_); (try clear cc3_); (try clear cc4_); (try clear cc5_); (try clear cc6_); (try clear cc7_)
            have cc1_ := HH.out.cells
            go_wp2_with fail
            go_meet
            case rel => exact ⟨by rw [hp], HH.out⟩
          · have b5 : (s4.st == 5) = false := by simpa using h5
            have hp : pr = false := by rw [← hpr.out]; simp [h0, h5]
            replace h0 := Lib.hid h0
            replace h5 := Lib.hid h5
            (try clear cc1_); (try clear cc2_); (try clear cc3_); (try clear cc4_); (try clear cc5_); (try clear cc6_); (try clear cc7_)
            have cc1_ := HH.out.cells
            go_wp2_with fail
            go_meet
            case rel => exact ⟨by rw [hp], HH.out⟩
      case rest =>
        clear HH
        obtain ⟨rfl, HR⟩ := hcut
        have HH := Lib.hid HR
        clear HR
        go_upto_block 0 with (fail)
        go_cut [] from 129 (fun wc => Own ε wc (pts b (.cells #[.int .u64 s5.c.mss, .int .u64 s5.c.init, .int .u64 s5.c.reorder, .int .u64 s5.c.window, .int .u64 s5.c.probe, .int .u64 s5.c.loss, .pointer (some ⟨pb, 0, none⟩), .int .u64 s5.bd.hi, .int .u64 s5.bd.lo, .int .u64 s5.bd.bw, .int .i64 s5.st, .int .u64 s5.since, .int .u64 s5.rounds, .pointer (some ⟨fb, 0, none⟩), .pointer (some ⟨rb, 0, none⟩), .pointer (some ⟨kb, 0, none⟩), .int .u64 s5.acked, .int .u64 s5.lost, .int .u64 s5.cwnd, .int .u64 s5.kept, .int .u64 s5.ended] 60 (0, 0)) :: pip pb s5.p :: fil fb s5.f :: cyc rb s5.r :: ctr kb s5.k :: pts g (.cells #[.int .u64 x.now, .int .u64 x.sd, .int .u64 x.si, .int .u64 x.sr, .int .u64 x.rtt, .bool x.slim, .bool x.some, .int .u64 x.deliv, .int .u64 x.acked, .int .u64 x.lost, .int .u64 x.fl] 37 (0, 0)) :: R))
        case first =>
          cases lz
          · have h5 : s5 = s4 := by rw [← e5.out]; unfold Eng.bounded; exact if_neg (by decide)
            go_wp2_with fail
            go_meet
            case rel => rw [h5]; exact HH.out
          · cases pr
            · have h5 : s5 = { s4 with bd := s4.bd.lose x.sd x.sr s4.cwnd } := by rw [← e5.out]; unfold Eng.bounded; rw [if_pos rfl]; exact if_neg (of_decide_eq_false hpr.out)
              replace h5 := Lib.hid h5
              (try clear cc1_); (try clear cc2_); (try clear cc3_); (try clear cc4_); (try clear cc5_); (try clear cc6_); (try clear cc7_)
              have cc1_ := HH.out.cells
              have cc6_ := HH.out.r6.cells
              go_wp2_with fail
              go_wp2_with fail
              refine wp_region_reg (some 18) HH.out (by kernel_rfl) ?_
              intro wm H9_
              replace HH := Lib.hid H9_
              clear H9_
              refine reg_p (i := 0) rfl (by kernel_rfl) (fun _ _ _ _ h => h) HH.out (fun K hK => ?_)
              go_simp
              first | (refine hK _ ?_; clear hK K) | (apply Exists.intro; refine ⟨?_, hK _ ?_⟩; (focus (intro wx; first | (go_simp; first | rfl) | rfl)); clear hK K)
              refine reg_p (i := 1) rfl (by kernel_rfl) (fun _ _ _ _ h => h) HH.out (fun K hK => ?_)
              go_simp
              first | (refine hK _ ?_; clear hK K) | (apply Exists.intro; refine ⟨?_, hK _ ?_⟩; (focus (intro wx; first | (go_simp; first | rfl) | rfl)); clear hK K)
              refine reg_p (i := 2) rfl (by kernel_rfl) (fun _ _ _ _ h => h) HH.out (fun K hK => ?_)
              go_simp
              first | (refine hK _ ?_; clear hK K) | (apply Exists.intro; refine ⟨?_, hK _ ?_⟩; (focus (intro wx; first | (go_simp; first | rfl) | rfl)); clear hK K)
              refine reg_p (i := 3) rfl (by kernel_rfl) (fun _ _ _ _ h => h) HH.out (fun K hK => ?_)
              go_simp
              first | (refine hK _ ?_; clear hK K) | (apply Exists.intro; refine ⟨?_, hK _ ?_⟩; (focus (intro wx; first | (go_simp; first | rfl) | rfl)); clear hK K)
              refine mixk_q (i := 4) rfl (by kernel_rfl) (fun _ _ _ _ h => h) HH.out (fun K hK => ?_)
              go_simp
              first | (refine hK _ ?_; clear hK K) | (apply Exists.intro; refine ⟨?_, hK _ ?_⟩; (focus (intro wx hx; have x1_ := hx.cells; have x6_ := hx.r6.cells; first | (go_simp; first | rfl | exact ⟨rfl, rfl⟩) | rfl | exact ⟨rfl, rfl⟩)); clear hK K)
              refine reg_p (i := 5) rfl (by kernel_rfl) (fun _ _ _ _ h => h) HH.out (fun K hK => ?_)
              go_simp
              first | (refine hK _ ?_; clear hK K) | (apply Exists.intro; refine ⟨?_, hK _ ?_⟩; (focus (intro wx; first | (go_simp; first | rfl) | rfl)); clear hK K)
              refine reg_p (i := 6) rfl (by kernel_rfl) (fun _ _ _ _ h => h) HH.out (fun K hK => ?_)
              go_simp
              first | (refine hK _ ?_; clear hK K) | (apply Exists.intro; refine ⟨?_, hK _ ?_⟩; (focus (intro wx; first | (go_simp; first | rfl) | rfl)); clear hK K)
              refine mixk_q (i := 7) rfl (by kernel_rfl) (fun _ _ _ _ h => h) HH.out (fun K hK => ?_)
              go_simp
              first | (refine hK _ ?_; clear hK K) | (apply Exists.intro; refine ⟨?_, hK _ ?_⟩; (focus (intro wx hx; have x1_ := hx.cells; have x6_ := hx.r6.cells; first | (go_simp; first | rfl | exact ⟨rfl, rfl⟩) | rfl | exact ⟨rfl, rfl⟩)); clear hK K)
              refine reg_p (i := 8) rfl (by kernel_rfl) (fun _ _ _ _ h => h) HH.out (fun K hK => ?_)
              go_simp
              first | (refine hK _ ?_; clear hK K) | (apply Exists.intro; refine ⟨?_, hK _ ?_⟩; (focus (intro wx; first | (go_simp; first | rfl) | rfl)); clear hK K)
              refine reg_p (i := 9) rfl (by kernel_rfl) (fun _ _ _ _ h => h) HH.out (fun K hK => ?_)
              go_simp
              first | (refine hK _ ?_; clear hK K) | (apply Exists.intro; refine ⟨?_, hK _ ?_⟩; (focus (intro wx; first | (go_simp; first | rfl) | rfl)); clear hK K)
              refine mixk_q (i := 10) rfl (by kernel_rfl) (fun _ _ _ _ h => h) HH.out (fun K hK => ?_)
              go_simp
              first | (refine hK _ ?_; clear hK K) | (apply Exists.intro; refine ⟨?_, hK _ ?_⟩; (focus (intro wx hx; have x1_ := hx.cells; have x6_ := hx.r6.cells; first | (go_simp; first | rfl | exact ⟨rfl, rfl⟩) | rfl | exact ⟨rfl, rfl⟩)); clear hK K)
              refine reg_p (i := 11) rfl (by kernel_rfl) (fun _ _ _ _ h => h) HH.out (fun K hK => ?_)
              go_simp
              first | (refine hK _ ?_; clear hK K) | (apply Exists.intro; refine ⟨?_, hK _ ?_⟩; (focus (intro wx; first | (go_simp; first | rfl) | rfl)); clear hK K)
              refine reg_p (i := 12) rfl (by kernel_rfl) (fun _ _ _ _ h => h) HH.out (fun K hK => ?_)
              go_simp
              first | (refine hK _ ?_; clear hK K) | (apply Exists.intro; refine ⟨?_, hK _ ?_⟩; (focus (intro wx; first | (go_simp; first | rfl) | rfl)); clear hK K)
              refine reg_p (i := 13) rfl (by kernel_rfl) (fun _ _ _ _ h => h) HH.out (fun K hK => ?_)
              go_simp
              first | (refine hK _ ?_; clear hK K) | (apply Exists.intro; refine ⟨?_, hK _ ?_⟩; (focus (intro wx; first | (go_simp; first | rfl) | rfl)); clear hK K)
              refine mixk_q (i := 14) rfl (by kernel_rfl) (fun _ _ _ _ h => h) HH.out (fun K hK => ?_)
              go_simp
              first | (refine hK _ ?_; clear hK K) | (apply Exists.intro; refine ⟨?_, hK _ ?_⟩; (focus (intro wx hx; have x1_ := hx.cells; have x6_ := hx.r6.cells; first | (go_simp; first | rfl | exact ⟨rfl, rfl⟩) | rfl | exact ⟨rfl, rfl⟩)); clear hK K)
              refine reg_l (some 18) (i := 15) rfl (by kernel_rfl) (fun wn hk K hK => ?_)
              replace HH := Lib.hid (hk _ _ HH.out)
              clear hk
              go_simp
              refine (boundLose_c wn s4.bd x.sd x.sr s4.cwnd hb4.out v4.out v5.out hc4.out).mono ?_
              rintro e wm ⟨rfl, hbel⟩
              replace HH := Lib.hid ((by first | exact Kp.same hbel | exact Kp.drew hbel | exact Kp.below hbel : Kp wn wm) _ _ HH.out)
              clear hbel
              refine hK _ _ _ HH.out (.inr ⟨rfl, fun _ h => h⟩) ?_
              clear hK K
              refine reg_p (i := 16) rfl (by kernel_rfl) (fun _ _ _ _ h => h) HH.out (fun K hK => ?_)
              go_simp
              first | (refine hK _ ?_; clear hK K) | (apply Exists.intro; refine ⟨?_, hK _ ?_⟩; (focus (intro wx; first | (go_simp; first | rfl) | rfl)); clear hK K)
              refine reg_p (i := 17) rfl (by kernel_rfl) (fun _ _ _ _ h => h) HH.out (fun K hK => ?_)
              go_simp
              first | (refine hK _ ?_; clear hK K) | (apply Exists.intro; refine ⟨?_, hK _ ?_⟩; (focus (intro wx; first | (go_simp; first | rfl) | rfl)); clear hK K)
              refine reg_l none (i := 18) rfl (by kernel_rfl) (fun wn hk K hK => ?_)
              replace HH := Lib.hid (hk _ _ HH.out)
              clear hk
              refine want rfl (wp_storek_own (k := 7) (#[.int .u64 (s4.bd.lose x.sd x.sr s4.cwnd).hi, .int .u64 (s4.bd.lose x.sd x.sr s4.cwnd).lo, .int .u64 (s4.bd.lose x.sd x.sr s4.cwnd).bw]) rfl rfl rfl HH.out (by kernel_rfl) (by simp) (by repeat (first | (refine List.forall_mem_cons.2 ⟨(by first | with_reducible assumption | rfl), ?_⟩) | exact fun _ h => absurd h List.not_mem_nil)) ?_)
              intro wm H9_
              replace HH := Lib.hid (show Own _ _ ((pts b (.cells #[.int .u64 s4.c.mss, .int .u64 s4.c.init, .int .u64 s4.c.reorder, .int .u64 s4.c.window, .int .u64 s4.c.probe, .int .u64 s4.c.loss, .pointer (some ⟨pb, 0, none⟩), .int .u64 (s4.bd.lose x.sd x.sr s4.cwnd).hi, .int .u64 (s4.bd.lose x.sd x.sr s4.cwnd).lo, .int .u64 (s4.bd.lose x.sd x.sr s4.cwnd).bw, .int .i64 s4.st, .int .u64 s4.since, .int .u64 s4.rounds, .pointer (some ⟨fb, 0, none⟩), .pointer (some ⟨rb, 0, none⟩), .pointer (some ⟨kb, 0, none⟩), .int .u64 s4.acked, .int .u64 s4.lost, .int .u64 s4.cwnd, .int .u64 s4.kept, .int .u64 s4.ended] 60 (0, 0)) :: pip pb s4.p :: fil fb s4.f :: cyc rb s4.r :: ctr kb s4.k :: pts g (.cells #[.int .u64 x.now, .int .u64 x.sd, .int .u64 x.si, .int .u64 x.sr, .int .u64 x.rtt, .bool x.slim, .bool x.some, .int .u64 x.deliv, .int .u64 x.acked, .int .u64 x.lost, .int .u64 x.fl] 37 (0, 0)) :: R)) from H9_)
              clear H9_
              refine hK _ _ _ HH.out (.inl (by kernel_rfl)) ?_
              clear hK K
              refine mixk_done (by kernel_rfl) (fun w6_ hk => ?_) _
              replace HH := Lib.hid (hk _ _ HH.out)
              clear hk
              go_wp2_with fail
              go_meet
              case rel => rw [h5.out]; exact HH.out
            · have h5 : s5 = { s4 with bd := s4.bd.pull x.fl s4.holds } := by rw [← e5.out]; unfold Eng.bounded; rw [if_pos rfl]; exact if_pos (of_decide_eq_true hpr.out)
              replace h5 := Lib.hid h5
              (try clear cc1_); (try clear cc2_); (try clear cc3_); (try clear cc4_); (try clear cc5_); (try clear cc6_); (try clear cc7_)
              have cc1_ := HH.out.cells
              have cc6_ := HH.out.r6.cells
              go_wp2_with fail
              go_wp2_with fail
              refine wp_region_reg (some 12) HH.out (by kernel_rfl) ?_
              intro wm H9_
              replace HH := Lib.hid H9_
              clear H9_
              refine reg_p (i := 0) rfl (by kernel_rfl) (fun _ _ _ _ h => h) HH.out (fun K hK => ?_)
              go_simp
              first | (refine hK _ ?_; clear hK K) | (apply Exists.intro; refine ⟨?_, hK _ ?_⟩; (focus (intro wx; first | (go_simp; first | rfl) | rfl)); clear hK K)
              refine reg_p (i := 1) rfl (by kernel_rfl) (fun _ _ _ _ h => h) HH.out (fun K hK => ?_)
              go_simp
              first | (refine hK _ ?_; clear hK K) | (apply Exists.intro; refine ⟨?_, hK _ ?_⟩; (focus (intro wx; first | (go_simp; first | rfl) | rfl)); clear hK K)
              refine reg_p (i := 2) rfl (by kernel_rfl) (fun _ _ _ _ h => h) HH.out (fun K hK => ?_)
              go_simp
              first | (refine hK _ ?_; clear hK K) | (apply Exists.intro; refine ⟨?_, hK _ ?_⟩; (focus (intro wx; first | (go_simp; first | rfl) | rfl)); clear hK K)
              refine reg_p (i := 3) rfl (by kernel_rfl) (fun _ _ _ _ h => h) HH.out (fun K hK => ?_)
              go_simp
              first | (refine hK _ ?_; clear hK K) | (apply Exists.intro; refine ⟨?_, hK _ ?_⟩; (focus (intro wx; first | (go_simp; first | rfl) | rfl)); clear hK K)
              refine mixk_q (i := 4) rfl (by kernel_rfl) (fun _ _ _ _ h => h) HH.out (fun K hK => ?_)
              go_simp
              first | (refine hK _ ?_; clear hK K) | (apply Exists.intro; refine ⟨?_, hK _ ?_⟩; (focus (intro wx hx; have x1_ := hx.cells; have x6_ := hx.r6.cells; first | (go_simp; first | rfl | exact ⟨rfl, rfl⟩) | rfl | exact ⟨rfl, rfl⟩)); clear hK K)
              refine reg_p (i := 5) rfl (by kernel_rfl) (fun _ _ _ _ h => h) HH.out (fun K hK => ?_)
              go_simp
              first | (refine hK _ ?_; clear hK K) | (apply Exists.intro; refine ⟨?_, hK _ ?_⟩; (focus (intro wx; first | (go_simp; first | rfl) | rfl)); clear hK K)
              refine mixk_q (i := 6) rfl (by kernel_rfl) (fun _ _ _ _ h => h) HH.out (fun K hK => ?_)
              go_simp
              first | (refine hK _ ?_; clear hK K) | (apply Exists.intro; refine ⟨?_, hK _ ?_⟩; (focus (intro wx hx; have x1_ := hx.cells; have x6_ := hx.r6.cells; first | (go_simp; first | rfl | exact ⟨rfl, rfl⟩) | rfl | exact ⟨rfl, rfl⟩)); clear hK K)
              refine reg_p (i := 7) rfl (by kernel_rfl) (fun _ _ _ _ h => h) HH.out (fun K hK => ?_)
              go_simp
              first | (refine hK _ ?_; clear hK K) | (apply Exists.intro; refine ⟨?_, hK _ ?_⟩; (focus (intro wx; first | (go_simp; first | rfl) | rfl)); clear hK K)
              refine reg_l (some 12) (i := 8) rfl (by kernel_rfl) (fun wn hk K hK => ?_)
              replace HH := Lib.hid (hk _ _ HH.out)
              clear hk
              go_simp
              refine (engHolds_c ε wn _ b pb fb rb kb s4 k4.out HH.out).mono ?_
              rintro e wm ⟨rfl, H9_⟩
              replace HH := Lib.hid H9_
              clear H9_
              refine hK _ _ _ HH.out (.inr ⟨rfl, fun _ h => (Own.pm (h) (by repeat (first | with_reducible exact Pm.refl _ | with_reducible exact Pm.nil _ | with_reducible refine Pm.here ?_ | with_reducible refine Pm.at2 ?_ | with_reducible refine Pm.at3 ?_ | with_reducible refine Pm.at4 ?_ | with_reducible refine Pm.at5 ?_ | with_reducible refine Pm.at6 ?_ | with_reducible refine Pm.at7 ?_ | with_reducible refine Pm.at8 ?_ | with_reducible refine Pm.skip ?_)))⟩) ?_
              clear hK K
              refine reg_l (some 12) (i := 9) rfl (by kernel_rfl) (fun wn hk K hK => ?_)
              replace HH := Lib.hid (hk _ _ HH.out)
              clear hk
              go_simp
              refine (boundPull_c wn s4.bd x.fl s4.holds v3.out hh4.out).mono ?_
              rintro e wm ⟨rfl, hbel⟩
              replace HH := Lib.hid ((by first | exact Kp.same hbel | exact Kp.drew hbel | exact Kp.below hbel : Kp wn wm) _ _ HH.out)
              clear hbel
              refine hK _ _ _ HH.out (.inr ⟨rfl, fun _ h => h⟩) ?_
              clear hK K
              refine reg_p (i := 10) rfl (by kernel_rfl) (fun _ _ _ _ h => h) HH.out (fun K hK => ?_)
              go_simp
              first | (refine hK _ ?_; clear hK K) | (apply Exists.intro; refine ⟨?_, hK _ ?_⟩; (focus (intro wx; first | (go_simp; first | rfl) | rfl)); clear hK K)
              refine reg_p (i := 11) rfl (by kernel_rfl) (fun _ _ _ _ h => h) HH.out (fun K hK => ?_)
              go_simp
              first | (refine hK _ ?_; clear hK K) | (apply Exists.intro; refine ⟨?_, hK _ ?_⟩; (focus (intro wx; first | (go_simp; first | rfl) | rfl)); clear hK K)
              refine reg_l none (i := 12) rfl (by kernel_rfl) (fun wn hk K hK => ?_)
              replace HH := Lib.hid (hk _ _ HH.out)
              clear hk
              refine want rfl (wp_storek_own (k := 7) (#[.int .u64 (s4.bd.pull x.fl s4.holds).hi, .int .u64 (s4.bd.pull x.fl s4.holds).lo, .int .u64 (s4.bd.pull x.fl s4.holds).bw]) rfl rfl rfl HH.out (by kernel_rfl) (by simp) (by repeat (first | (refine List.forall_mem_cons.2 ⟨(by first | with_reducible assumption | rfl), ?_⟩) | exact fun _ h => absurd h List.not_mem_nil)) ?_)
              intro wm H9_
              replace HH := Lib.hid (show Own _ _ ((pts b (.cells #[.int .u64 s4.c.mss, .int .u64 s4.c.init, .int .u64 s4.c.reorder, .int .u64 s4.c.window, .int .u64 s4.c.probe, .int .u64 s4.c.loss, .pointer (some ⟨pb, 0, none⟩), .int .u64 (s4.bd.pull x.fl s4.holds).hi, .int .u64 (s4.bd.pull x.fl s4.holds).lo, .int .u64 (s4.bd.pull x.fl s4.holds).bw, .int .i64 s4.st, .int .u64 s4.since, .int .u64 s4.rounds, .pointer (some ⟨fb, 0, none⟩), .pointer (some ⟨rb, 0, none⟩), .pointer (some ⟨kb, 0, none⟩), .int .u64 s4.acked, .int .u64 s4.lost, .int .u64 s4.cwnd, .int .u64 s4.kept, .int .u64 s4.ended] 60 (0, 0)) :: pip pb s4.p :: fil fb s4.f :: cyc rb s4.r :: ctr kb s4.k :: pts g (.cells #[.int .u64 x.now, .int .u64 x.sd, .int .u64 x.si, .int .u64 x.sr, .int .u64 x.rtt, .bool x.slim, .bool x.some, .int .u64 x.deliv, .int .u64 x.acked, .int .u64 x.lost, .int .u64 x.fl] 37 (0, 0)) :: R)) from H9_)
              clear H9_
              refine hK _ _ _ HH.out (.inl (by kernel_rfl)) ?_
              clear hK K
              refine mixk_done (by kernel_rfl) (fun w7_ hk => ?_) _
              replace HH := Lib.hid (hk _ _ HH.out)
              clear hk
              go_wp2_with fail
              go_meet
              case rel => rw [h5.out]; exact HH.out
        case rest =>
          clear HH
          have HH := Lib.hid hcut
          clear hcut
          (try clear cc1_); (try clear cc2_); (try clear cc3_); (try clear cc4_); (try clear cc5_); (try clear cc6_); (try clear cc7_)
          have cc1_ := HH.out.cells
          have cc6_ := HH.out.r6.cells
          go_wp2_with fail
          refine (engTurn_c ε _ _ b pb fb rb kb s5 k5.out x hx.out ov lz HH.out).mono ?_
          rw [e6.out]
          rintro e w8_ ⟨rfl, H9_⟩
          replace HH := Lib.hid H9_
          clear H9_
          go_upto_region 12 with (fail)
          go_cut [111] from 129 (fun v wc => v = .bool pu ∧ Own ε wc (pts b (.cells #[.int .u64 s6.c.mss, .int .u64 s6.c.init, .int .u64 s6.c.reorder, .int .u64 s6.c.window, .int .u64 s6.c.probe, .int .u64 s6.c.loss, .pointer (some ⟨pb, 0, none⟩), .int .u64 s6.bd.hi, .int .u64 s6.bd.lo, .int .u64 s6.bd.bw, .int .i64 s6.st, .int .u64 s6.since, .int .u64 s6.rounds, .pointer (some ⟨fb, 0, none⟩), .pointer (some ⟨rb, 0, none⟩), .pointer (some ⟨kb, 0, none⟩), .int .u64 s6.acked, .int .u64 s6.lost, .int .u64 s6.cwnd, .int .u64 s6.kept, .int .u64 s6.ended] 60 (0, 0)) :: pip pb s6.p :: fil fb s6.f :: cyc rb s6.r :: ctr kb s6.k :: pts g (.cells #[.int .u64 x.now, .int .u64 x.sd, .int .u64 x.si, .int .u64 x.sr, .int .u64 x.rtt, .bool x.slim, .bool x.some, .int .u64 x.deliv, .int .u64 x.acked, .int .u64 x.lost, .int .u64 x.fl] 37 (0, 0)) :: R))
          case first =>
            by_cases h5 : s6.st = 5
            · have b5 : (s6.st == 5) = true := by simpa using h5
              have hp : pu = !lz := by rw [← hpu.out]; cases lz <;> simp [h5]
              replace h5 := Lib.hid h5
              (try clear cc1_); (try clear cc2_); (try clear cc3_); (try clear cc4_); (try clear cc5_); (try clear cc6_); (try clear cc7_)
              have cc1_ := HH.out.cells
              go_wp2_with fail
              go_meet
              case rel => exact ⟨by rw [hp], HH.out⟩
            · have b5 : (s6.st == 5) = false := by simpa using h5
              have hp : pu = false := by rw [← hpu.out]; simp [h5]
              replace h5 := Lib.hid h5
              (try clear cc1_); (try clear cc2_); (try clear cc3_); (try clear cc4_); (try clear cc5_); (try clear cc6_); (try clear cc7_)
              have cc1_ := HH.out.cells
              go_wp2_with fail
              go_meet
              case rel => exact ⟨by rw [hp], HH.out⟩
          case rest =>
            clear HH
            obtain ⟨rfl, HR⟩ := hcut
            have HH := Lib.hid HR
            clear HR
            go_upto_if 111 with (fail)
            go_cut [] from 129 (fun wc => Own ε wc (pts b (.cells #[.int .u64 s7.c.mss, .int .u64 s7.c.init, .int .u64 s7.c.reorder, .int .u64 s7.c.window, .int .u64 s7.c.probe, .int .u64 s7.c.loss, .pointer (some ⟨pb, 0, none⟩), .int .u64 s7.bd.hi, .int .u64 s7.bd.lo, .int .u64 s7.bd.bw, .int .i64 s7.st, .int .u64 s7.since, .int .u64 s7.rounds, .pointer (some ⟨fb, 0, none⟩), .pointer (some ⟨rb, 0, none⟩), .pointer (some ⟨kb, 0, none⟩), .int .u64 s7.acked, .int .u64 s7.lost, .int .u64 s7.cwnd, .int .u64 s7.kept, .int .u64 s7.ended] 60 (0, 0)) :: pip pb s7.p :: fil fb s7.f :: cyc rb s7.r :: ctr kb s7.k :: pts g (.cells #[.int .u64 x.now, .int .u64 x.sd, .int .u64 x.si, .int .u64 x.sr, .int .u64 x.rtt, .bool x.slim, .bool x.some, .int .u64 x.deliv, .int .u64 x.acked, .int .u64 x.lost, .int .u64 x.fl] 37 (0, 0)) :: R))
            case first =>
              cases pu
              · have h7 : s7 = s6 := by rw [← e7.out]; unfold Eng.pushed; exact if_neg (of_decide_eq_false hpu.out)
                go_wp2_with fail
                go_meet
                case rel => rw [h7]; exact HH.out
              · have h7 : s7 = { s6 with bd := s6.bd.push x.acked } := by rw [← e7.out]; unfold Eng.pushed; exact if_pos (of_decide_eq_true hpu.out)
                replace h7 := Lib.hid h7
                (try clear cc1_); (try clear cc2_); (try clear cc3_); (try clear cc4_); (try clear cc5_); (try clear cc6_); (try clear cc7_)
                have cc1_ := HH.out.cells
                have cc6_ := HH.out.r6.cells
                go_wp2_with fail
                go_wp2_with fail
                refine wp_region_reg (some 10) HH.out (by kernel_rfl) ?_
                intro wm H9_
                replace HH := Lib.hid H9_
                clear H9_
                refine reg_p (i := 0) rfl (by kernel_rfl) (fun _ _ _ _ h => h) HH.out (fun K hK => ?_)
                go_simp
                first | (refine hK _ ?_; clear hK K) | (apply Exists.intro; refine ⟨?_, hK _ ?_⟩; (focus (intro wx; first | (go_simp; first | rfl) | rfl)); clear hK K)
                refine reg_p (i := 1) rfl (by kernel_rfl) (fun _ _ _ _ h => h) HH.out (fun K hK => ?_)
                go_simp
                first | (refine hK _ ?_; clear hK K) | (apply Exists.intro; refine ⟨?_, hK _ ?_⟩; (focus (intro wx; first | (go_simp; first | rfl) | rfl)); clear hK K)
                refine reg_p (i := 2) rfl (by kernel_rfl) (fun _ _ _ _ h => h) HH.out (fun K hK => ?_)
                go_simp
                first | (refine hK _ ?_; clear hK K) | (apply Exists.intro; refine ⟨?_, hK _ ?_⟩; (focus (intro wx; first | (go_simp; first | rfl) | rfl)); clear hK K)
                refine reg_p (i := 3) rfl (by kernel_rfl) (fun _ _ _ _ h => h) HH.out (fun K hK => ?_)
                go_simp
                first | (refine hK _ ?_; clear hK K) | (apply Exists.intro; refine ⟨?_, hK _ ?_⟩; (focus (intro wx; first | (go_simp; first | rfl) | rfl)); clear hK K)
                refine mixk_q (i := 4) rfl (by kernel_rfl) (fun _ _ _ _ h => h) HH.out (fun K hK => ?_)
                go_simp
                first | (refine hK _ ?_; clear hK K) | (apply Exists.intro; refine ⟨?_, hK _ ?_⟩; (focus (intro wx hx; have x1_ := hx.cells; have x6_ := hx.r6.cells; first | (go_simp; first | rfl | exact ⟨rfl, rfl⟩) | rfl | exact ⟨rfl, rfl⟩)); clear hK K)
                refine reg_p (i := 5) rfl (by kernel_rfl) (fun _ _ _ _ h => h) HH.out (fun K hK => ?_)
                go_simp
                first | (refine hK _ ?_; clear hK K) | (apply Exists.intro; refine ⟨?_, hK _ ?_⟩; (focus (intro wx; first | (go_simp; first | rfl) | rfl)); clear hK K)
                refine mixk_q (i := 6) rfl (by kernel_rfl) (fun _ _ _ _ h => h) HH.out (fun K hK => ?_)
                go_simp
                first | (refine hK _ ?_; clear hK K) | (apply Exists.intro; refine ⟨?_, hK _ ?_⟩; (focus (intro wx hx; have x1_ := hx.cells; have x6_ := hx.r6.cells; first | (go_simp; first | rfl | exact ⟨rfl, rfl⟩) | rfl | exact ⟨rfl, rfl⟩)); clear hK K)
                refine reg_l (some 10) (i := 7) rfl (by kernel_rfl) (fun wn hk K hK => ?_)
                replace HH := Lib.hid (hk _ _ HH.out)
                clear hk
                go_simp
                refine (boundPush_c wn s6.bd x.acked hb6.out v1.out).mono ?_
                rintro e wm ⟨rfl, hbel⟩
                replace HH := Lib.hid ((by first | exact Kp.same hbel | exact Kp.drew hbel | exact Kp.below hbel : Kp wn wm) _ _ HH.out)
                clear hbel
                refine hK _ _ _ HH.out (.inr ⟨rfl, fun _ h => h⟩) ?_
                clear hK K
                refine reg_p (i := 8) rfl (by kernel_rfl) (fun _ _ _ _ h => h) HH.out (fun K hK => ?_)
                go_simp
                first | (refine hK _ ?_; clear hK K) | (apply Exists.intro; refine ⟨?_, hK _ ?_⟩; (focus (intro wx; first | (go_simp; first | rfl) | rfl)); clear hK K)
                refine reg_p (i := 9) rfl (by kernel_rfl) (fun _ _ _ _ h => h) HH.out (fun K hK => ?_)
                go_simp
                first | (refine hK _ ?_; clear hK K) | (apply Exists.intro; refine ⟨?_, hK _ ?_⟩; (focus (intro wx; first | (go_simp; first | rfl) | rfl)); clear hK K)
                refine reg_l none (i := 10) rfl (by kernel_rfl) (fun wn hk K hK => ?_)
                replace HH := Lib.hid (hk _ _ HH.out)
                clear hk
                refine want rfl (wp_storek_own (k := 7) (#[.int .u64 (s6.bd.push x.acked).hi, .int .u64 (s6.bd.push x.acked).lo, .int .u64 (s6.bd.push x.acked).bw]) rfl rfl rfl HH.out (by kernel_rfl) (by simp) (by repeat (first | (refine List.forall_mem_cons.2 ⟨(by first | with_reducible assumption | rfl), ?_⟩) | exact fun _ h => absurd h List.not_mem_nil)) ?_)
                intro wm H9_
                replace HH := Lib.hid (show Own _ _ ((pts b (.cells #[.int .u64 s6.c.mss, .int .u64 s6.c.init, .int .u64 s6.c.reorder, .int .u64 s6.c.window, .int .u64 s6.c.probe, .int .u64 s6.c.loss, .pointer (some ⟨pb, 0, none⟩), .int .u64 (s6.bd.push x.acked).hi, .int .u64 (s6.bd.push x.acked).lo, .int .u64 (s6.bd.push x.acked).bw, .int .i64 s6.st, .int .u64 s6.since, .int .u64 s6.rounds, .pointer (some ⟨fb, 0, none⟩), .pointer (some ⟨rb, 0, none⟩), .pointer (some ⟨kb, 0, none⟩), .int .u64 s6.acked, .int .u64 s6.lost, .int .u64 s6.cwnd, .int .u64 s6.kept, .int .u64 s6.ended] 60 (0, 0)) :: pip pb s6.p :: fil fb s6.f :: cyc rb s6.r :: ctr kb s6.k :: pts g (.cells #[.int .u64 x.now, .int .u64 x.sd, .int .u64 x.si, .int .u64 x.sr, .int .u64 x.rtt, .bool x.slim, .bool x.some, .int .u64 x.deliv, .int .u64 x.acked, .int .u64 x.lost, .int .u64 x.fl] 37 (0, 0)) :: R)) from H9_)
                clear H9_
                refine hK _ _ _ HH.out (.inl (by kernel_rfl)) ?_
                clear hK K
                refine mixk_done (by kernel_rfl) (fun w9_ hk => ?_) _
                replace HH := Lib.hid (hk _ _ HH.out)
                clear hk
                go_wp2_with fail
                go_meet
                case rel => rw [h7.out]; exact HH.out
            case rest =>
              clear HH
              have HH := Lib.hid hcut
              clear hcut
              (try clear cc1_); (try clear cc2_); (try clear cc3_); (try clear cc4_); (try clear cc5_); (try clear cc6_); (try clear cc7_)
              have cc1_ := HH.out.cells
              have cc6_ := HH.out.r6.cells
              go_wp2_with fail
              refine (engWindow_c ε _ _ b pb fb rb kb s7 k7.out x.acked v1.out HH.out).mono ?_
              rintro e w10_ ⟨rfl, H9_⟩
              replace HH := Lib.hid H9_
              clear H9_
              go_wp2_with (with_reducible refine stop_st ?_)
              refine Stop.go ?_
              refine wpList_store1_own (v := .int .u64 (s7.window x.acked)) (k := 18) rfl rfl HH.out (by kernel_rfl) (by simp) (by first | rfl | assumption) ?_
              intro w11_ H9_
              replace HH := Lib.hid H9_
              clear H9_
              simp only [List.setIfInBounds_toArray, List.set_cons_succ, List.set_cons_zero] at HH
              go_wp2_with fail
              first | go_end0 | ((try simp only [Exit.inBlock, Exit.then]); refine bodyPost_ret (results_none rfl _ _ _) rfl ?_)
              rw [← hq.out]
              exact ⟨rfl, ((Own.pm (HH.out) (by repeat (first | with_reducible exact Pm.refl _ | with_reducible exact Pm.nil _ | with_reducible refine Pm.here ?_ | with_reducible refine Pm.at2 ?_ | with_reducible refine Pm.at3 ?_ | with_reducible refine Pm.at4 ?_ | with_reducible refine Pm.at5 ?_ | with_reducible refine Pm.at6 ?_ | with_reducible refine Pm.at7 ?_ | with_reducible refine Pm.at8 ?_ | with_reducible refine Pm.skip ?_))) : Own ε _ (pts b (.cells #[.int .u64 s7.c.mss, .int .u64 s7.c.init, .int .u64 s7.c.reorder, .int .u64 s7.c.window, .int .u64 s7.c.probe, .int .u64 s7.c.loss, .pointer (some ⟨pb, 0, none⟩), .int .u64 s7.bd.hi, .int .u64 s7.bd.lo, .int .u64 s7.bd.bw, .int .i64 s7.st, .int .u64 s7.since, .int .u64 s7.rounds, .pointer (some ⟨fb, 0, none⟩), .pointer (some ⟨rb, 0, none⟩), .pointer (some ⟨kb, 0, none⟩), .int .u64 s7.acked, .int .u64 s7.lost, .int .u64 (s7.window x.acked), .int .u64 s7.kept, .int .u64 s7.ended] 60 (0, 0)) :: pip pb s7.p :: fil fb s7.f :: cyc rb s7.r :: ctr kb s7.k :: R))⟩
end
end Go.Proofs.Ytpfbbpiidhhkbaa
namespace Go.Proofs.Ytpfbbpiidhhkbaa
open Go.RowKit
def Eng.new (c : Cnf) : Eng := ⟨c, Pip.zero, Bnd.none, 0, 0, 0, ⟨c.window, 0, true, []⟩, Cyc.zero, Ctr.zero, 0, 0, c.first, 0, 0⟩
theorem Eng.ok_new {c : Cnf} (h : c.Ok) : (Eng.new c).Ok :=
  { c := h, p := ⟨U_zero, Int.le_refl _, show (0 : Int) ≤ 3 by decide⟩, bd := ⟨show U 18446744073709551615 by decide, show U 18446744073709551615 by decide, show U 18446744073709551615 by decide⟩, st0 := Int.le_refl _, st6 := show (0 : Int) ≤ 6 by decide, since := U_zero, rounds := U_zero,
    f := ⟨h.window, U_zero, fun _ hr => absurd hr (List.not_mem_nil)⟩, r := ⟨U_zero, U_zero⟩, rn := U_zero, k1 := U_zero, k2 := U_zero, acked := U_zero, lost := U_zero, cwnd := Cnf.U_first h, kept := U_zero, ended := U_zero }
theorem Eng.new_quiet (c : Cnf) : (Eng.new c).Quiet := ⟨rfl, rfl, rfl, rfl⟩
section
variable (ε w : World) (R : List Asn) (b pb fb rb kb : Nat)
theorem engState_c (s : Eng) (H : Own ε w (pts b (.cells #[.int .u64 s.c.mss, .int .u64 s.c.init, .int .u64 s.c.reorder, .int .u64 s.c.window, .int .u64 s.c.probe, .int .u64 s.c.loss, .pointer (some ⟨pb, 0, none⟩), .int .u64 s.bd.hi, .int .u64 s.bd.lo, .int .u64 s.bd.bw, .int .i64 s.st, .int .u64 s.since, .int .u64 s.rounds, .pointer (some ⟨fb, 0, none⟩), .pointer (some ⟨rb, 0, none⟩), .pointer (some ⟨kb, 0, none⟩), .int .u64 s.acked, .int .u64 s.lost, .int .u64 s.cwnd, .int .u64 s.kept, .int .u64 s.ended] 60 (0, 0)) :: pip pb s.p :: fil fb s.f :: cyc rb s.r :: ctr kb s.k :: R)) :
    Calls Try.prog 11 #[.pointer (some ⟨b, 0, none⟩)] w fun e w' => e = .returned (.int .i64 s.st) ∧ w = w' := by
  have HH := Lib.hid H; clear H
  go_enter Try.func11, Try.ntmps11
  (try clear cc1_); (try clear cc2_); (try clear cc3_); (try clear cc4_); (try clear cc5_); (try clear cc6_); (try clear cc7_)
  have cc1_ := HH.out.cells
  go_wp2_with fail
  go_ret
  exact ⟨rfl, rfl⟩
theorem engCwnd_c (s : Eng) (H : Own ε w (pts b (.cells #[.int .u64 s.c.mss, .int .u64 s.c.init, .int .u64 s.c.reorder, .int .u64 s.c.window, .int .u64 s.c.probe, .int .u64 s.c.loss, .pointer (some ⟨pb, 0, none⟩), .int .u64 s.bd.hi, .int .u64 s.bd.lo, .int .u64 s.bd.bw, .int .i64 s.st, .int .u64 s.since, .int .u64 s.rounds, .pointer (some ⟨fb, 0, none⟩), .pointer (some ⟨rb, 0, none⟩), .pointer (some ⟨kb, 0, none⟩), .int .u64 s.acked, .int .u64 s.lost, .int .u64 s.cwnd, .int .u64 s.kept, .int .u64 s.ended] 60 (0, 0)) :: pip pb s.p :: fil fb s.f :: cyc rb s.r :: ctr kb s.k :: R)) :
    Calls Try.prog 9 #[.pointer (some ⟨b, 0, none⟩)] w fun e w' => e = .returned (.int .u64 s.cwnd) ∧ w = w' := by
  have HH := Lib.hid H; clear H
  go_enter Try.func9, Try.ntmps9
  (try clear cc1_); (try clear cc2_); (try clear cc3_); (try clear cc4_); (try clear cc5_); (try clear cc6_); (try clear cc7_)
  have cc1_ := HH.out.cells
  go_wp2_with fail
  go_ret
  exact ⟨rfl, rfl⟩
theorem engLimits_c (s : Eng) (H : Own ε w (pts b (.cells #[.int .u64 s.c.mss, .int .u64 s.c.init, .int .u64 s.c.reorder, .int .u64 s.c.window, .int .u64 s.c.probe, .int .u64 s.c.loss, .pointer (some ⟨pb, 0, none⟩), .int .u64 s.bd.hi, .int .u64 s.bd.lo, .int .u64 s.bd.bw, .int .i64 s.st, .int .u64 s.since, .int .u64 s.rounds, .pointer (some ⟨fb, 0, none⟩), .pointer (some ⟨rb, 0, none⟩), .pointer (some ⟨kb, 0, none⟩), .int .u64 s.acked, .int .u64 s.lost, .int .u64 s.cwnd, .int .u64 s.kept, .int .u64 s.ended] 60 (0, 0)) :: pip pb s.p :: fil fb s.f :: cyc rb s.r :: ctr kb s.k :: R)) :
    Calls Try.prog 15 #[.pointer (some ⟨b, 0, none⟩)] w fun e w' => e = .returned s.bd.v ∧ Own ε w' (pts b (.cells #[.int .u64 s.c.mss, .int .u64 s.c.init, .int .u64 s.c.reorder, .int .u64 s.c.window, .int .u64 s.c.probe, .int .u64 s.c.loss, .pointer (some ⟨pb, 0, none⟩), .int .u64 s.bd.hi, .int .u64 s.bd.lo, .int .u64 s.bd.bw, .int .i64 s.st, .int .u64 s.since, .int .u64 s.rounds, .pointer (some ⟨fb, 0, none⟩), .pointer (some ⟨rb, 0, none⟩), .pointer (some ⟨kb, 0, none⟩), .int .u64 s.acked, .int .u64 s.lost, .int .u64 s.cwnd, .int .u64 s.kept, .int .u64 s.ended] 60 (0, 0)) :: pip pb s.p :: fil fb s.f :: cyc rb s.r :: ctr kb s.k :: R) := by
  have HH := Lib.hid H; clear H
  go_enter Try.func15, Try.ntmps15
  go_wp2_with (with_reducible refine stop_al ?_)
  refine Stop.go ?_
  refine wpList_alloc_own HH.out [.int .u64 0, .int .u64 0, .int .u64 0] (by kernel_rfl) ?_
  intro g w1_ H9_
  replace HH := Lib.hid H9_
  clear H9_
  (try clear cc1_); (try clear cc2_); (try clear cc3_); (try clear cc4_); (try clear cc5_); (try clear cc6_); (try clear cc7_)
  have cc2_ := HH.out.r2.cells
  go_wp2_with (with_reducible refine stop_st ?_)
  refine Stop.go ?_
  refine wpList_store_own _ #[_, _, _] rfl rfl HH.out (by kernel_rfl) rfl (by repeat (first | (refine List.forall_mem_cons.2 ⟨(by first | with_reducible assumption | rfl), ?_⟩) | exact fun _ h => absurd h List.not_mem_nil)) ?_
  intro w2_ H9_
  replace HH := Lib.hid H9_
  clear H9_
  go_wp2_with fail
  refine bodyPost_ret (results_cell_row rfl _ _ _ _ _ _ _ rfl HH.out.blk Try.underlying43 rfl (by kernel_rfl)) rfl (⟨rfl, (Own.pm (HH.out) (by repeat (first | with_reducible exact Pm.refl _ | with_reducible exact Pm.nil _ | with_reducible refine Pm.here ?_ | with_reducible refine Pm.at2 ?_ | with_reducible refine Pm.at3 ?_ | with_reducible refine Pm.at4 ?_ | with_reducible refine Pm.at5 ?_ | with_reducible refine Pm.at6 ?_ | with_reducible refine Pm.at7 ?_ | with_reducible refine Pm.at8 ?_ | with_reducible refine Pm.skip ?_)))⟩)
theorem engLimits_nil (H : Own ε w R) : Calls Try.prog 15 #[.pointer none] w fun e w' => e = .returned (.agg #[.int .u64 0, .int .u64 0, .int .u64 0]) ∧ Own ε w' R := by
  have HH := Lib.hid H; clear H
  go_enter Try.func15, Try.ntmps15
  go_wp2_with (with_reducible refine stop_al ?_)
  refine Stop.go ?_
  refine wpList_alloc_own HH.out [.int .u64 0, .int .u64 0, .int .u64 0] (by kernel_rfl) ?_
  intro g w3_ H9_
  replace HH := Lib.hid H9_
  clear H9_
  go_wp2_with (with_reducible refine stop_st ?_)
  refine Stop.go ?_
  refine wpList_store_own _ #[_, _, _] rfl rfl HH.out (by kernel_rfl) rfl (by repeat (first | (refine List.forall_mem_cons.2 ⟨(by first | with_reducible assumption | rfl), ?_⟩) | exact fun _ h => absurd h List.not_mem_nil)) ?_
  intro w4_ H9_
  replace HH := Lib.hid H9_
  clear H9_
  go_wp2_with fail
  refine bodyPost_ret (results_cell_row rfl _ _ _ _ _ _ _ rfl HH.out.blk Try.underlying43 rfl (by kernel_rfl)) rfl (⟨rfl, (Own.pm (HH.out) (by repeat (first | with_reducible exact Pm.refl _ | with_reducible exact Pm.nil _ | with_reducible refine Pm.here ?_ | with_reducible refine Pm.at2 ?_ | with_reducible refine Pm.at3 ?_ | with_reducible refine Pm.at4 ?_ | with_reducible refine Pm.at5 ?_ | with_reducible refine Pm.at6 ?_ | with_reducible refine Pm.at7 ?_ | with_reducible refine Pm.at8 ?_ | with_reducible refine Pm.skip ?_)))⟩)
theorem engState_nil : Calls Try.prog 11 #[.pointer none] w fun e w' => e = .returned (.int .i64 0) ∧ w = w' := by
  go_enter Try.func11, Try.ntmps11
  go_wp2_with fail
  go_ret
  exact ⟨rfl, rfl⟩
theorem engCwnd_nil : Calls Try.prog 9 #[.pointer none] w fun e w' => e = .returned (.int .u64 0) ∧ w = w' := by
  go_enter Try.func9, Try.ntmps9
  go_wp2_with fail
  go_ret
  exact ⟨rfl, rfl⟩
theorem engPace_nil : Calls Try.prog 8 #[.pointer none] w fun e w' => e = .returned (.int .u64 0) ∧ w = w' := by
  go_enter Try.func8, Try.ntmps8
  go_wp2_with fail
  go_ret
  exact ⟨rfl, rfl⟩
theorem engQuantum_nil : Calls Try.prog 12 #[.pointer none] w fun e w' => e = .returned (.int .u64 0) ∧ w = w' := by
  go_enter Try.func12, Try.ntmps12
  go_wp2_with fail
  go_ret
  exact ⟨rfl, rfl⟩
theorem engLeast_nil : Calls Try.prog 13 #[.pointer none] w fun e w' => e = .returned (.int .u64 0) ∧ w = w' := by
  go_enter Try.func13, Try.ntmps13
  go_wp2_with fail
  go_ret
  exact ⟨rfl, rfl⟩
theorem engBest_nil : Calls Try.prog 14 #[.pointer none] w fun e w' => e = .returned (.int .u64 0) ∧ w = w' := by
  go_enter Try.func14, Try.ntmps14
  go_wp2_with fail
  go_ret
  exact ⟨rfl, rfl⟩
set_option maxRecDepth 100000 in
theorem engOn_nil (x : Evt) (H : Own ε w R) : Calls Try.prog 10 #[.pointer none, x.v] w fun e w' => e = .returned (.tuple #[]) ∧ Own ε w' R := by
  have HH := Lib.hid H; clear H
  unfold Evt.v
  go_enter Try.func10, Try.ntmps10
  go_wp2_with (with_reducible refine stop_bx ?_)
  refine Stop.go ?_
  refine wpList_box_own HH.out [_, _, _, _, _, _, _, _, _, _, _] rfl ?_
  intro g w5_ H9_
  replace HH := Lib.hid H9_
  clear H9_
  go_wp2_with fail
  first | go_end0 | ((try simp only [Exit.inBlock, Exit.then]); refine bodyPost_ret (results_none rfl _ _ _) rfl ?_)
  exact ⟨rfl, (Own.pm (HH.out) (by repeat (first | with_reducible exact Pm.refl _ | with_reducible exact Pm.nil _ | with_reducible refine Pm.here ?_ | with_reducible refine Pm.at2 ?_ | with_reducible refine Pm.at3 ?_ | with_reducible refine Pm.at4 ?_ | with_reducible refine Pm.at5 ?_ | with_reducible refine Pm.at6 ?_ | with_reducible refine Pm.at7 ?_ | with_reducible refine Pm.at8 ?_ | with_reducible refine Pm.skip ?_)))⟩
theorem confDefault_c (H : Own ε w R) : Calls Try.prog 17 #[] w fun e w' => e = .returned (Cnf.v ⟨1500, 10, 3, 10000000, 200000, 20⟩) ∧ Own ε w' R := by
  have HH := Lib.hid H; clear H
  unfold Cnf.v
  go_enter Try.func17, Try.ntmps17
  go_wp2_with (with_reducible refine stop_al ?_)
  refine Stop.go ?_
  refine wpList_alloc_own HH.out [.int .u64 0, .int .u64 0, .int .u64 0, .int .u64 0, .int .u64 0, .int .u64 0] (by kernel_rfl) ?_
  intro g w6_ H9_
  replace HH := Lib.hid H9_
  clear H9_
  go_wp2_with (with_reducible refine stop_st ?_)
  refine Stop.go ?_
  refine wpList_store_own _ #[_, _, _, _, _, _] rfl rfl HH.out (by kernel_rfl) rfl (by repeat (first | (refine List.forall_mem_cons.2 ⟨(by first | with_reducible assumption | rfl), ?_⟩) | exact fun _ h => absurd h List.not_mem_nil)) ?_
  intro w7_ H9_
  replace HH := Lib.hid H9_
  clear H9_
  go_wp2_with fail
  refine bodyPost_ret (results_cell_row rfl _ _ _ _ _ _ _ rfl HH.out.blk Try.underlying24 rfl (by kernel_rfl)) rfl (⟨rfl, (Own.pm (HH.out) (by repeat (first | with_reducible exact Pm.refl _ | with_reducible exact Pm.nil _ | with_reducible refine Pm.here ?_ | with_reducible refine Pm.at2 ?_ | with_reducible refine Pm.at3 ?_ | with_reducible refine Pm.at4 ?_ | with_reducible refine Pm.at5 ?_ | with_reducible refine Pm.at6 ?_ | with_reducible refine Pm.at7 ?_ | with_reducible refine Pm.at8 ?_ | with_reducible refine Pm.skip ?_)))⟩)
set_option maxRecDepth 100000 in
set_option maxHeartbeats 3200000 in
theorem engNew_c (m : Nat) (c : Cnf) (hc : c.Ok) (hr : c.right = true) (H : Own ε w R) :
    Calls Try.prog 7 #[c.v] w fun e w' => ∃ b pb fb rb kb, e = .returned (.tuple #[.pointer (some ⟨b, 0, none⟩), .int .i64 0]) ∧ Own ε w' (pts b (.cells #[.int .u64 (Eng.new c).c.mss, .int .u64 (Eng.new c).c.init, .int .u64 (Eng.new c).c.reorder, .int .u64 (Eng.new c).c.window, .int .u64 (Eng.new c).c.probe, .int .u64 (Eng.new c).c.loss, .pointer (some ⟨pb, 0, none⟩), .int .u64 (Eng.new c).bd.hi, .int .u64 (Eng.new c).bd.lo, .int .u64 (Eng.new c).bd.bw, .int .i64 (Eng.new c).st, .int .u64 (Eng.new c).since, .int .u64 (Eng.new c).rounds, .pointer (some ⟨fb, 0, none⟩), .pointer (some ⟨rb, 0, none⟩), .pointer (some ⟨kb, 0, none⟩), .int .u64 (Eng.new c).acked, .int .u64 (Eng.new c).lost, .int .u64 (Eng.new c).cwnd, .int .u64 (Eng.new c).kept, .int .u64 (Eng.new c).ended] 60 (0, 0)) :: pip pb (Eng.new c).p :: fil fb (Eng.new c).f :: cyc rb (Eng.new c).r :: ctr kb (Eng.new c).k :: R) := by
  have HH := Lib.hid H; clear H
  unfold Cnf.v
  replace hc := Lib.hid hc
  replace hr := Lib.hid hr
  go_enter Try.func7, Try.ntmps7
  go_wp2_with (with_reducible refine stop_bx ?_)
  refine Stop.go ?_
  refine wpList_box_own HH.out [_, _, _, _, _, _] rfl ?_
  intro g w8_ H9_
  replace HH := Lib.hid H9_
  clear H9_
  (try clear cc1_); (try clear cc2_); (try clear cc3_); (try clear cc4_); (try clear cc5_); (try clear cc6_); (try clear cc7_)
  have cc1_ := HH.out.cells
  go_wp2_with fail
  refine (confRight_c ε _ _ m c hc.out HH.out).mono ?_
  rw [hr.out]
  rintro e w9_ ⟨rfl, H9_⟩
  replace HH := Lib.hid H9_
  clear H9_
  (try clear cc1_); (try clear cc2_); (try clear cc3_); (try clear cc4_); (try clear cc5_); (try clear cc6_); (try clear cc7_)
  have cc1_ := HH.out.cells
  go_wp2_with fail
  go_wp2_with fail
  refine wp_region_regK none [pts g (.cells #[.int .u64 c.mss, .int .u64 c.init, .int .u64 c.reorder, .int .u64 c.window, .int .u64 c.probe, .int .u64 c.loss] 24 (0, 0))] HH.out (by kernel_rfl) ?_
  intro wm H9_
  replace HH := Lib.hid H9_
  clear H9_
  have HS : Own _ wm [pts g (.cells #[.int .u64 c.mss, .int .u64 c.init, .int .u64 c.reorder, .int .u64 c.window, .int .u64 c.probe, .int .u64 c.loss] 24 (0, 0))] := (Own.pm (HH.out) (by repeat (first | with_reducible exact Pm.refl _ | with_reducible exact Pm.nil _ | with_reducible refine Pm.here ?_ | with_reducible refine Pm.at2 ?_ | with_reducible refine Pm.at3 ?_ | with_reducible refine Pm.at4 ?_ | with_reducible refine Pm.at5 ?_ | with_reducible refine Pm.at6 ?_ | with_reducible refine Pm.at7 ?_ | with_reducible refine Pm.at8 ?_ | with_reducible refine Pm.skip ?_)))
  refine mixk_q (i := 0) rfl (by kernel_rfl) (fun _ _ _ _ h => h) HS (fun K hK => ?_)
  go_simp
  first | (refine hK _ ?_; clear hK K) | (apply Exists.intro; refine ⟨?_, hK _ ?_⟩; (focus (intro wx hx; have x1_ := hx.cells; first | (go_simp; first | rfl | exact ⟨rfl, rfl⟩) | rfl | exact ⟨rfl, rfl⟩)); clear hK K)
  refine reg_p (i := 3) rfl (by kernel_rfl) (fun _ _ _ _ h => h) HS (fun K hK => ?_)
  go_simp
  first | (refine hK _ ?_; clear hK K) | (apply Exists.intro; refine ⟨?_, hK _ ?_⟩; (focus (intro wx; first | (go_simp; first | rfl) | rfl)); clear hK K)
  refine mixk_q (i := 4) rfl (by kernel_rfl) (fun _ _ _ _ h => h) HS (fun K hK => ?_)
  go_simp
  first | (refine hK _ ?_; clear hK K) | (apply Exists.intro; refine ⟨?_, hK _ ?_⟩; (focus (intro wx hx; have x1_ := hx.cells; first | (go_simp; first | rfl | exact ⟨rfl, rfl⟩) | rfl | exact ⟨rfl, rfl⟩)); clear hK K)
  refine mixk_q (i := 8) rfl (by kernel_rfl) (fun _ _ _ _ h => h) HS (fun K hK => ?_)
  go_simp
  first | (refine hK _ ?_; clear hK K) | (apply Exists.intro; refine ⟨?_, hK _ ?_⟩; (focus (intro wx hx; have x1_ := hx.cells; first | (go_simp; first | rfl | exact ⟨rfl, rfl⟩) | rfl | exact ⟨rfl, rfl⟩)); clear hK K)
  refine reg_l none (i := 1) rfl (by kernel_rfl) (fun wn hk K hK => ?_)
  replace HH := Lib.hid (hk _ _ HH.out)
  clear hk HS
  go_simp
  refine (pipNew_c ε wn HH.out).mono ?_
  rintro e wm ⟨pb, rfl, H9_⟩
  replace HH := Lib.hid H9_
  clear H9_
  have HS : Own _ wm [pts g (.cells #[.int .u64 c.mss, .int .u64 c.init, .int .u64 c.reorder, .int .u64 c.window, .int .u64 c.probe, .int .u64 c.loss] 24 (0, 0))] := (Own.pm (HH.out) (by repeat (first | with_reducible exact Pm.refl _ | with_reducible exact Pm.nil _ | with_reducible refine Pm.here ?_ | with_reducible refine Pm.at2 ?_ | with_reducible refine Pm.at3 ?_ | with_reducible refine Pm.at4 ?_ | with_reducible refine Pm.at5 ?_ | with_reducible refine Pm.at6 ?_ | with_reducible refine Pm.at7 ?_ | with_reducible refine Pm.at8 ?_ | with_reducible refine Pm.skip ?_)))
  refine hK _ _ [pts g (.cells #[.int .u64 c.mss, .int .u64 c.init, .int .u64 c.reorder, .int .u64 c.window, .int .u64 c.probe, .int .u64 c.loss] 24 (0, 0))] HS (.inr ⟨rfl, fun _ h => h⟩) ?_
  clear hK K
  refine reg_l none (i := 2) rfl (by kernel_rfl) (fun wn hk K hK => ?_)
  replace HH := Lib.hid (hk _ _ HH.out)
  clear hk HS
  go_simp
  refine (boundNone_c wn).mono ?_
  rw [show Bnd.none.v = .agg #[.int .u64 18446744073709551615, .int .u64 18446744073709551615, .int .u64 18446744073709551615] from by first | rfl | decide]
  rintro e wm ⟨rfl, hbel⟩
  replace HH := Lib.hid ((by first | exact Kp.same hbel | exact Kp.drew hbel | exact Kp.below hbel : Kp wn wm) _ _ HH.out)
  clear hbel
  have HS : Own _ wm [pts g (.cells #[.int .u64 c.mss, .int .u64 c.init, .int .u64 c.reorder, .int .u64 c.window, .int .u64 c.probe, .int .u64 c.loss] 24 (0, 0))] := (Own.pm (HH.out) (by repeat (first | with_reducible exact Pm.refl _ | with_reducible exact Pm.nil _ | with_reducible refine Pm.here ?_ | with_reducible refine Pm.at2 ?_ | with_reducible refine Pm.at3 ?_ | with_reducible refine Pm.at4 ?_ | with_reducible refine Pm.at5 ?_ | with_reducible refine Pm.at6 ?_ | with_reducible refine Pm.at7 ?_ | with_reducible refine Pm.at8 ?_ | with_reducible refine Pm.skip ?_)))
  refine hK _ _ [pts g (.cells #[.int .u64 c.mss, .int .u64 c.init, .int .u64 c.reorder, .int .u64 c.window, .int .u64 c.probe, .int .u64 c.loss] 24 (0, 0))] HS (.inr ⟨rfl, fun _ h => h⟩) ?_
  clear hK K
  refine reg_l none (i := 5) rfl (by kernel_rfl) (fun wn hk K hK => ?_)
  replace HH := Lib.hid (hk _ _ HH.out)
  clear hk HS
  go_simp
  refine (filLeast_c ε wn _ c.window HH.out).mono ?_
  rintro e wm ⟨fb, rfl, H9_⟩
  replace HH := Lib.hid H9_
  clear H9_
  have HS : Own _ wm [pts g (.cells #[.int .u64 c.mss, .int .u64 c.init, .int .u64 c.reorder, .int .u64 c.window, .int .u64 c.probe, .int .u64 c.loss] 24 (0, 0))] := (Own.pm (HH.out) (by repeat (first | with_reducible exact Pm.refl _ | with_reducible exact Pm.nil _ | with_reducible refine Pm.here ?_ | with_reducible refine Pm.at2 ?_ | with_reducible refine Pm.at3 ?_ | with_reducible refine Pm.at4 ?_ | with_reducible refine Pm.at5 ?_ | with_reducible refine Pm.at6 ?_ | with_reducible refine Pm.at7 ?_ | with_reducible refine Pm.at8 ?_ | with_reducible refine Pm.skip ?_)))
  refine hK _ _ [pts g (.cells #[.int .u64 c.mss, .int .u64 c.init, .int .u64 c.reorder, .int .u64 c.window, .int .u64 c.probe, .int .u64 c.loss] 24 (0, 0))] HS (.inr ⟨rfl, fun _ h => h⟩) ?_
  clear hK K
  refine reg_l none (i := 6) rfl (by kernel_rfl) (fun wn hk K hK => ?_)
  replace HH := Lib.hid (hk _ _ HH.out)
  clear hk HS
  go_simp
  refine (cycNew_c ε wn HH.out).mono ?_
  rintro e wm ⟨rb, rfl, H9_⟩
  replace HH := Lib.hid H9_
  clear H9_
  have HS : Own _ wm [pts g (.cells #[.int .u64 c.mss, .int .u64 c.init, .int .u64 c.reorder, .int .u64 c.window, .int .u64 c.probe, .int .u64 c.loss] 24 (0, 0))] := (Own.pm (HH.out) (by repeat (first | with_reducible exact Pm.refl _ | with_reducible exact Pm.nil _ | with_reducible refine Pm.here ?_ | with_reducible refine Pm.at2 ?_ | with_reducible refine Pm.at3 ?_ | with_reducible refine Pm.at4 ?_ | with_reducible refine Pm.at5 ?_ | with_reducible refine Pm.at6 ?_ | with_reducible refine Pm.at7 ?_ | with_reducible refine Pm.at8 ?_ | with_reducible refine Pm.skip ?_)))
  refine hK _ _ [pts g (.cells #[.int .u64 c.mss, .int .u64 c.init, .int .u64 c.reorder, .int .u64 c.window, .int .u64 c.probe, .int .u64 c.loss] 24 (0, 0))] HS (.inr ⟨rfl, fun _ h => h⟩) ?_
  clear hK K
  refine reg_l none (i := 7) rfl (by kernel_rfl) (fun wn hk K hK => ?_)
  replace HH := Lib.hid (hk _ _ HH.out)
  clear hk HS
  go_simp
  refine (ctrNew_c ε wn HH.out).mono ?_
  rintro e wm ⟨kb, rfl, H9_⟩
  replace HH := Lib.hid H9_
  clear H9_
  have HS : Own _ wm [pts g (.cells #[.int .u64 c.mss, .int .u64 c.init, .int .u64 c.reorder, .int .u64 c.window, .int .u64 c.probe, .int .u64 c.loss] 24 (0, 0))] := (Own.pm (HH.out) (by repeat (first | with_reducible exact Pm.refl _ | with_reducible exact Pm.nil _ | with_reducible refine Pm.here ?_ | with_reducible refine Pm.at2 ?_ | with_reducible refine Pm.at3 ?_ | with_reducible refine Pm.at4 ?_ | with_reducible refine Pm.at5 ?_ | with_reducible refine Pm.at6 ?_ | with_reducible refine Pm.at7 ?_ | with_reducible refine Pm.at8 ?_ | with_reducible refine Pm.skip ?_)))
  refine hK _ _ [pts g (.cells #[.int .u64 c.mss, .int .u64 c.init, .int .u64 c.reorder, .int .u64 c.window, .int .u64 c.probe, .int .u64 c.loss] 24 (0, 0))] HS (.inr ⟨rfl, fun _ h => h⟩) ?_
  clear hK K
  refine reg_l none (i := 9) rfl (by kernel_rfl) (fun wn hk K hK => ?_)
  replace HH := Lib.hid (hk _ _ HH.out)
  clear hk HS
  go_simp
  refine (confFirst_c wn c hc.out).mono ?_
  rintro e wm ⟨rfl, hbel⟩
  replace HH := Lib.hid ((by first | exact Kp.same hbel | exact Kp.drew hbel | exact Kp.below hbel : Kp wn wm) _ _ HH.out)
  clear hbel
  have HS : Own _ wm [pts g (.cells #[.int .u64 c.mss, .int .u64 c.init, .int .u64 c.reorder, .int .u64 c.window, .int .u64 c.probe, .int .u64 c.loss] 24 (0, 0))] := (Own.pm (HH.out) (by repeat (first | with_reducible exact Pm.refl _ | with_reducible exact Pm.nil _ | with_reducible refine Pm.here ?_ | with_reducible refine Pm.at2 ?_ | with_reducible refine Pm.at3 ?_ | with_reducible refine Pm.at4 ?_ | with_reducible refine Pm.at5 ?_ | with_reducible refine Pm.at6 ?_ | with_reducible refine Pm.at7 ?_ | with_reducible refine Pm.at8 ?_ | with_reducible refine Pm.skip ?_)))
  refine hK _ _ [pts g (.cells #[.int .u64 c.mss, .int .u64 c.init, .int .u64 c.reorder, .int .u64 c.window, .int .u64 c.probe, .int .u64 c.loss] 24 (0, 0))] HS (.inr ⟨rfl, fun _ h => h⟩) ?_
  clear hK K
  refine reg_p (i := 10) rfl (by kernel_rfl) (fun _ _ _ _ h => h) HS (fun K hK => ?_)
  go_simp
  first | (refine hK _ ?_; clear hK K) | (apply Exists.intro; refine ⟨?_, hK _ ?_⟩; (focus (intro wx; first | (go_simp; first | rfl) | rfl)); clear hK K)
  refine reg_l none (i := 11) rfl (by kernel_rfl) (fun wn hk K hK => ?_)
  replace HH := Lib.hid (hk _ _ HH.out)
  clear hk HS
  go_simp
  replace HH := Lib.hid (HH.out.alloc (.cells #[.int .u64 c.mss, .int .u64 c.init, .int .u64 c.reorder, .int .u64 c.window, .int .u64 c.probe, .int .u64 c.loss, .pointer (some ⟨pb, 0, none⟩), .int .u64 18446744073709551615, .int .u64 18446744073709551615, .int .u64 18446744073709551615, .int .i64 0, .int .u64 0, .int .u64 0, .pointer (some ⟨fb, 0, none⟩), .pointer (some ⟨rb, 0, none⟩), .pointer (some ⟨kb, 0, none⟩), .int .u64 0, .int .u64 0, .int .u64 c.first, .int .u64 0, .int .u64 0] 60))
  generalize wn.alloc (.cells #[.int .u64 c.mss, .int .u64 c.init, .int .u64 c.reorder, .int .u64 c.window, .int .u64 c.probe, .int .u64 c.loss, .pointer (some ⟨pb, 0, none⟩), .int .u64 18446744073709551615, .int .u64 18446744073709551615, .int .u64 18446744073709551615, .int .i64 0, .int .u64 0, .int .u64 0, .pointer (some ⟨fb, 0, none⟩), .pointer (some ⟨rb, 0, none⟩), .pointer (some ⟨kb, 0, none⟩), .int .u64 0, .int .u64 0, .int .u64 c.first, .int .u64 0, .int .u64 0] 60) = wm at *
  generalize wn.heap.size = lb at *
  have HS : Own _ wm [pts g (.cells #[.int .u64 c.mss, .int .u64 c.init, .int .u64 c.reorder, .int .u64 c.window, .int .u64 c.probe, .int .u64 c.loss] 24 (0, 0))] := (Own.pm (HH.out) (by repeat (first | with_reducible exact Pm.refl _ | with_reducible exact Pm.nil _ | with_reducible refine Pm.here ?_ | with_reducible refine Pm.at2 ?_ | with_reducible refine Pm.at3 ?_ | with_reducible refine Pm.at4 ?_ | with_reducible refine Pm.at5 ?_ | with_reducible refine Pm.at6 ?_ | with_reducible refine Pm.at7 ?_ | with_reducible refine Pm.at8 ?_ | with_reducible refine Pm.skip ?_)))
  refine hK _ _ [pts g (.cells #[.int .u64 c.mss, .int .u64 c.init, .int .u64 c.reorder, .int .u64 c.window, .int .u64 c.probe, .int .u64 c.loss] 24 (0, 0))] HS (.inr ⟨rfl, fun _ h => h⟩) ?_
  clear hK K
  refine reg_p (i := 12) rfl (by kernel_rfl) (fun _ _ _ _ h => h) HS (fun K hK => ?_)
  go_simp
  first | (refine hK _ ?_; clear hK K) | (apply Exists.intro; refine ⟨?_, hK _ ?_⟩; (focus (intro wx; first | (go_simp; first | rfl) | rfl)); clear hK K)
  refine reg_p (i := 13) rfl (by kernel_rfl) (fun _ _ _ _ h => h) HS (fun K hK => ?_)
  go_simp
  first | (refine hK _ ?_; clear hK K) | (apply Exists.intro; refine ⟨?_, hK _ ?_⟩; (focus (intro wx; first | (go_simp; first | rfl) | rfl)); clear hK K)
  refine mixk_done (by kernel_rfl) (fun w10_ hk => ?_) _
  replace HH := Lib.hid (hk _ _ HH.out)
  clear hk
  go_wp2_with fail
  go_ret2
  have H9 := ((Own.pm (HH.out) (by repeat (first | with_reducible exact Pm.refl _ | with_reducible exact Pm.nil _ | with_reducible refine Pm.here ?_ | with_reducible refine Pm.at2 ?_ | with_reducible refine Pm.at3 ?_ | with_reducible refine Pm.at4 ?_ | with_reducible refine Pm.at5 ?_ | with_reducible refine Pm.at6 ?_ | with_reducible refine Pm.at7 ?_ | with_reducible refine Pm.at8 ?_ | with_reducible refine Pm.skip ?_))) : Own ε _ (pts lb _ :: pip pb Pip.zero :: fil fb ⟨c.window, 0, true, []⟩ :: cyc rb Cyc.zero :: ctr kb Ctr.zero :: R))
  exact ⟨lb, pb, fb, rb, kb, rfl, H9⟩
/-- The live question's setup, event, engine. -/
def liveC : Cnf := ⟨1500, 10, 3, 10000000, 200000, 20⟩
def liveX : Evt := ⟨50000, 15000, 50000, 300000, 50000, false, true, 15000, 15000, 0, 0⟩
def liveE : Eng := (Eng.new liveC).on liveX
theorem live_told : liveC.right = true ∧ liveE.st = 0 ∧ liveE.cwnd = 30000 ∧ liveE.best = 300000 ∧ liveE.least = 50000 ∧ liveE.pace = 831000 ∧ liveE.quantum = 3000 := by
  refine ⟨?_, ?_, ?_, ?_, ?_, ?_, ?_⟩ <;> kernel_rfl
theorem live_okC : liveC.Ok := ⟨by decide, by decide, by decide, by decide, by decide, by decide⟩
theorem live_okX : liveX.Ok := ⟨by decide, by decide, by decide, by decide, by decide, by decide, by decide, by decide, by decide⟩
set_option maxRecDepth 100000 in
set_option maxHeartbeats 3200000 in
theorem alive15_c (H : Own ε w R) : Calls Try.prog 6 #[] w fun e w' => e = .returned (.bool true) ∧ Own ε w' R := by
  have HH := Lib.hid H; clear H
  have hE : liveE.Ok := Eng.ok_on (Eng.ok_new live_okC) live_okX
  obtain ⟨t1, t2, t3, t4, t5, t6, t7⟩ := live_told
  have hP : U liveE.pace := by rw [t6]; decide
  replace t1 := Lib.hid t1
  replace t2 := Lib.hid t2
  replace t3 := Lib.hid t3
  replace t4 := Lib.hid t4
  replace t5 := Lib.hid t5
  replace t6 := Lib.hid t6
  replace t7 := Lib.hid t7
  replace hE := Lib.hid hE
  replace hP := Lib.hid hP
  go_enter Try.func6, Try.ntmps6
  go_wp2_with fail
  refine (confDefault_c ε _ _ HH.out).mono ?_
  rintro e w11_ ⟨rfl, H9_⟩
  replace HH := Lib.hid H9_
  clear H9_
  go_wp2_with fail
  refine (engNew_c ε _ _ 0 liveC live_okC t1.out HH.out).mono ?_
  rintro e w12_ ⟨b, pb, fb, rb, kb, rfl, H9_⟩
  replace HH := Lib.hid H9_
  clear H9_
  go_wp2_with fail
  refine (engOn_c ε _ _ b pb fb rb kb (Eng.new liveC) (Eng.ok_new live_okC) liveX live_okX (Nat.zero_le _) HH.out).mono ?_
  rintro e w13_ ⟨rfl, H9_⟩
  replace HH := Lib.hid H9_
  clear H9_
  have H9 : Own ε _ (pts b (.cells #[.int .u64 liveE.c.mss, .int .u64 liveE.c.init, .int .u64 liveE.c.reorder, .int .u64 liveE.c.window, .int .u64 liveE.c.probe, .int .u64 liveE.c.loss, .pointer (some ⟨pb, 0, none⟩), .int .u64 liveE.bd.hi, .int .u64 liveE.bd.lo, .int .u64 liveE.bd.bw, .int .i64 liveE.st, .int .u64 liveE.since, .int .u64 liveE.rounds, .pointer (some ⟨fb, 0, none⟩), .pointer (some ⟨rb, 0, none⟩), .pointer (some ⟨kb, 0, none⟩), .int .u64 liveE.acked, .int .u64 liveE.lost, .int .u64 liveE.cwnd, .int .u64 liveE.kept, .int .u64 liveE.ended] 60 (0, 0)) :: pip pb liveE.p :: fil fb liveE.f :: cyc rb liveE.r :: ctr kb liveE.k :: R) := HH.out
  clear HH
  have HH := Lib.hid H9
  clear H9
  generalize liveE = s at t2 t3 t4 t5 t6 t7 hE hP HH
  go_wp2_with fail
  refine (engState_c ε _ _ b pb fb rb kb s HH.out).mono ?_
  rw [t2.out]
  rintro e w14_ ⟨rfl, hbel⟩
  replace HH := Lib.hid ((by first | exact Kp.same hbel | exact Kp.drew hbel | exact Kp.below hbel : Kp _ w14_) _ _ (by first | exact HH.out | exact HH.out.drewN _ | exact (HH.out.alloc _).tail | exact ((HH.out.alloc _).drewN _).tail | exact ((HH.out.alloc _).alloc _).tail.tail))
  clear hbel
  go_wp2_with fail
  refine (engCwnd_c ε _ _ b pb fb rb kb s HH.out).mono ?_
  rw [t3.out]
  rintro e w15_ ⟨rfl, hbel⟩
  replace HH := Lib.hid ((by first | exact Kp.same hbel | exact Kp.drew hbel | exact Kp.below hbel : Kp _ w15_) _ _ (by first | exact HH.out | exact HH.out.drewN _ | exact (HH.out.alloc _).tail | exact ((HH.out.alloc _).drewN _).tail | exact ((HH.out.alloc _).alloc _).tail.tail))
  clear hbel
  go_wp2_with fail
  refine (engBest_c ε _ _ b pb fb rb kb s hE.out HH.out).mono ?_
  rw [t4.out]
  rintro e w16_ ⟨rfl, H9_⟩
  replace HH := Lib.hid H9_
  clear H9_
  go_wp2_with fail
  refine (engLeast_c ε _ _ b pb fb rb kb s HH.out).mono ?_
  rw [t5.out]
  rintro e w17_ ⟨rfl, H9_⟩
  replace HH := Lib.hid H9_
  clear H9_
  go_wp2_with fail
  refine (engPace_c ε _ _ b pb fb rb kb s hE.out HH.out).mono ?_
  rw [t6.out]
  rintro e w18_ ⟨rfl, H9_⟩
  replace HH := Lib.hid H9_
  clear H9_
  go_wp2_with fail
  refine (engQuantum_c ε _ _ b pb fb rb kb s hE.out hP.out HH.out).mono ?_
  rw [t7.out]
  rintro e w19_ ⟨rfl, H9_⟩
  replace HH := Lib.hid H9_
  clear H9_
  go_wp2_with fail
  go_ret
  exact ⟨rfl, (Own.pm (HH.out) (by repeat (first | with_reducible exact Pm.refl _ | with_reducible exact Pm.nil _ | with_reducible refine Pm.here ?_ | with_reducible refine Pm.at2 ?_ | with_reducible refine Pm.at3 ?_ | with_reducible refine Pm.at4 ?_ | with_reducible refine Pm.at5 ?_ | with_reducible refine Pm.at6 ?_ | with_reducible refine Pm.at7 ?_ | with_reducible refine Pm.at8 ?_ | with_reducible refine Pm.skip ?_)))⟩
end
end Go.Proofs.Ytpfbbpiidhhkbaa
namespace Go.Proofs.Ytpfbbpiidhhkbaa
open Go.RowKit
def Evt.cells (x : Evt) : List Value := [.int .u64 x.now, .int .u64 x.sd, .int .u64 x.si, .int .u64 x.sr, .int .u64 x.rtt, .bool x.slim, .bool x.some, .int .u64 x.deliv, .int .u64 x.acked, .int .u64 x.lost, .int .u64 x.fl]
abbrev ConfT := Int × Int × Int × Int × Int × Int × Unit
def rdConf : Rd ConfT := rdPair (rdInt .u64) (rdPair (rdInt .u64) (rdPair (rdInt .u64) (rdPair (rdInt .u64) (rdPair (rdInt .u64) (rdPair (rdInt .u64) rdUnit)))))
def ConfT.c (x : ConfT) : Cnf := ⟨x.1, x.2.1, x.2.2.1, x.2.2.2.1, x.2.2.2.2.1, x.2.2.2.2.2.1⟩
theorem rdConf_open {w : World} {c : List Value} {x : ConfT} (h : rdConf w c x) : c = [.int .u64 x.c.mss, .int .u64 x.c.init, .int .u64 x.c.reorder, .int .u64 x.c.window, .int .u64 x.c.probe, .int .u64 x.c.loss] ∧ x.c.Ok := by
  obtain ⟨c1, d1, rfl, ⟨rfl, h1⟩, c2, d2, rfl, ⟨rfl, h2⟩, c3, d3, rfl, ⟨rfl, h3⟩, c4, d4, rfl, ⟨rfl, h4⟩, c5, d5, rfl, ⟨rfl, h5⟩, c6, d6, rfl, ⟨rfl, h6⟩, rfl⟩ := h
  exact ⟨rfl, U_of_wf h1, U_of_wf h2, U_of_wf h3, U_of_wf h4, U_of_wf h5, U_of_wf h6⟩
abbrev SmplT := Int × Int × Int × Int × Bool × Unit
abbrev EvtT := Int × SmplT × Bool × Int × Int × Int × Int × Unit
def rdSmpl : Rd SmplT := rdPair (rdInt .u64) (rdPair (rdInt .u64) (rdPair (rdInt .u64) (rdPair (rdInt .u64) (rdPair rdBool rdUnit))))
def rdEvt : Rd EvtT := rdPair (rdInt .u64) (rdPair rdSmpl (rdPair rdBool (rdPair (rdInt .u64) (rdPair (rdInt .u64) (rdPair (rdInt .u64) (rdPair (rdInt .u64) rdUnit))))))
def EvtT.x (t : EvtT) : Evt := ⟨t.1, t.2.1.1, t.2.1.2.1, t.2.1.2.2.1, t.2.1.2.2.2.1, t.2.1.2.2.2.2.1, t.2.2.1, t.2.2.2.1, t.2.2.2.2.1, t.2.2.2.2.2.1, t.2.2.2.2.2.2.1⟩
theorem rdEvt_open {w : World} {c : List Value} {t : EvtT} (h : rdEvt w c t) : c = (EvtT.x t).cells ∧ (EvtT.x t).Ok := by
  obtain ⟨c1, d1, rfl, ⟨rfl, h1⟩, c2, d2, rfl, hs, c3, d3, rfl, rfl, c4, d4, rfl, ⟨rfl, h4⟩, c5, d5, rfl, ⟨rfl, h5⟩, c6, d6, rfl, ⟨rfl, h6⟩, c7, d7, rfl, ⟨rfl, h7⟩, rfl⟩ := h
  obtain ⟨e1, f1, rfl, ⟨rfl, k1⟩, e2, f2, rfl, ⟨rfl, k2⟩, e3, f3, rfl, ⟨rfl, k3⟩, e4, f4, rfl, ⟨rfl, k4⟩, e5, f5, rfl, rfl, rfl⟩ := hs
  exact ⟨rfl, U_of_wf h1, U_of_wf k1, U_of_wf k2, U_of_wf k3, U_of_wf k4, U_of_wf h4, U_of_wf h5, U_of_wf h6, U_of_wf h7⟩
theorem evts_rd {w : World} {A : Option Addr} {n cap : Nat} {xs : List EvtT} (h : rdSlice rdEvt 11 w [.slice A n cap] xs) : itAt Evt.cells 11 w A n (xs.map EvtT.x) ∧ n ≤ 9223372036854775807 ∧ ∀ x ∈ xs.map EvtT.x, x.Ok := by
  obtain ⟨h1, h2⟩ := itAt_rd (enc := Evt.cells) (sz := 11) EvtT.x (fun _ _ hc => (rdEvt_open hc).1) h
  refine ⟨h1, h2, fun x hm => ?_⟩
  obtain ⟨t, ht, rfl⟩ := List.mem_map.1 hm
  obtain ⟨i, hi, rfl⟩ := List.getElem_of_mem ht
  obtain ⟨_, _, hx⟩ := rdSlice_cases h
  rcases hx with hz | ⟨ab, off, rfl, hx⟩
  · omega
  · obtain ⟨c, _, _, hR⟩ := hx i hi
    exact (rdEvt_open hR).2
theorem nums_rd {w : World} {A : Option Addr} {n cap : Nat} {l : List Int} (h : rdSlice (rdInt .u64) 1 w [.slice A n cap] l) : itAt (fun x : Int => [Value.int .u64 x]) 1 w A n l ∧ n ≤ 9223372036854775807 ∧ ∀ x ∈ l, U x := by
  obtain ⟨h1, h2⟩ := itAt_rd (enc := fun x : Int => [Value.int .u64 x]) (sz := 1) (fun x : Int => x) (fun c x hc => hc.1) h
  rw [List.map_id'] at h1
  obtain ⟨_, _, _, e, hl, hc, _, hx⟩ := h
  cases e
  refine ⟨h1, h2, fun x hm => ?_⟩
  obtain ⟨i, hi, rfl⟩ := List.getElem_of_mem hm
  obtain ⟨_, _, _, c, _, _, hR⟩ := hx i hi
  exact U_of_wf hR.2
end Go.Proofs.Ytpfbbpiidhhkbaa
namespace Go.Proofs.Ytpfbbpiidhhkbaa
open Go.RowKit
theorem Eng.At.quiet_grows {c : Cnf} (hr : c.right = true) {k : Nat} {s : Eng} (h : s.At c k) (hq : s.Quiet) (h4 : 4 * c.mss ≤ s.cwnd) (hM : s.cwnd ≤ 72057594037927936) {x : Evt} (hx : x.Ok) (hs : x.some = false) (ha : x.acked ≤ 72057594037927936) :
    (s.on x).At c (k + 1) ∧ (s.on x).Quiet ∧ (s.on x).cwnd = min (s.cwnd + x.acked) 72057594037927936 ∧ (s.on x).pace = s.pace :=
  ⟨Eng.At.on h hx, hq.on hs, Eng.grows hq (by rw [h.2.1]; exact hr) (by rw [h.2.1]; exact h4) hM hs hx.acked.1 ha, Eng.pace_quiet hq hs⟩
section
variable (w : World)
set_option maxRecDepth 100000 in
set_option maxHeartbeats 12800000 in
theorem bbrGrows_c (cs : Array Value) (_hz : cs.size = 6) (ct : ConfT) (hp : rdConf w cs.toList ct) (A : Option Addr) (len cap : Nat) (xs : List Int) (hr : rdSlice (rdInt .u64) 1 w [.slice A len cap] xs) :
    Calls Try.prog 3 #[.agg cs, .slice A len cap] w fun e w' => e = .returned (.bool true) ∧ Own w w' [old w] := by
  have HH := Lib.hid (Own.init w)
  obtain ⟨hcs, hc⟩ := rdConf_open hp
  have hcs := arr_of_list hcs
  subst hcs
  clear hp _hz
  generalize ConfT.c ct = c at hc ⊢

  obtain ⟨hA, hm, hU⟩ := nums_rd hr
  clear hr
  replace hA := Lib.hid hA
  replace hU := Lib.hid hU
  obtain ⟨ri, hri⟩ : ∃ y, c.right = y := ⟨_, rfl⟩
  replace hri := Lib.hid hri
  replace hc := Lib.hid hc
  cases ri
  · clear hA hU
    go_enter Try.func3, Try.ntmps3
    go_wp2_with (with_reducible refine stop_bx ?_)
    refine Stop.go ?_
    refine wpList_box_own HH.out [_, _, _, _, _, _] rfl ?_
    intro cg w1_ H9_
    replace HH := Lib.hid H9_
    clear H9_
    (try clear cc1_); (try clear cc2_); (try clear cc3_); (try clear cc4_); (try clear cc5_); (try clear cc6_); (try clear cc7_)
    have cc1_ := HH.out.cells
    go_wp2_with fail
    refine (ref03Right_c _ c).mono ?_
    rw [hri.out]
    rintro e w2_ ⟨rfl, hbel⟩
    replace HH := Lib.hid ((by first | exact Kp.same hbel | exact Kp.drew hbel | exact Kp.below hbel : Kp _ w2_) _ _ (by first | exact HH.out | exact HH.out.drewN _ | exact (HH.out.alloc _).tail | exact ((HH.out.alloc _).drewN _).tail | exact ((HH.out.alloc _).alloc _).tail.tail))
    clear hbel
    go_wp2_with fail
    refine (alive15_c w _ _ HH.out).mono ?_
    rintro e w3_ ⟨rfl, H9_⟩
    replace HH := Lib.hid H9_
    clear H9_
    go_wp2_with fail
    go_ret
    exact ⟨rfl, (Own.pm (HH.out) (by repeat (first | with_reducible exact Pm.refl _ | with_reducible exact Pm.nil _ | with_reducible refine Pm.here ?_ | with_reducible refine Pm.at2 ?_ | with_reducible refine Pm.at3 ?_ | with_reducible refine Pm.at4 ?_ | with_reducible refine Pm.at5 ?_ | with_reducible refine Pm.at6 ?_ | with_reducible refine Pm.at7 ?_ | with_reducible refine Pm.at8 ?_ | with_reducible refine Pm.skip ?_)))⟩
  by_cases hbig : 120 < len
  · clear hA hU
    go_enter Try.func3, Try.ntmps3
    go_wp2_with (with_reducible refine stop_bx ?_)
    refine Stop.go ?_
    refine wpList_box_own HH.out [_, _, _, _, _, _] rfl ?_
    intro cg w4_ H9_
    replace HH := Lib.hid H9_
    clear H9_
    (try clear cc1_); (try clear cc2_); (try clear cc3_); (try clear cc4_); (try clear cc5_); (try clear cc6_); (try clear cc7_)
    have cc1_ := HH.out.cells
    go_wp2_with fail
    refine (ref03Right_c _ c).mono ?_
    rw [hri.out]
    rintro e w5_ ⟨rfl, hbel⟩
    replace HH := Lib.hid ((by first | exact Kp.same hbel | exact Kp.drew hbel | exact Kp.below hbel : Kp _ w5_) _ _ (by first | exact HH.out | exact HH.out.drewN _ | exact (HH.out.alloc _).tail | exact ((HH.out.alloc _).drewN _).tail | exact ((HH.out.alloc _).alloc _).tail.tail))
    clear hbel
    go_wp2_with fail
    refine (alive15_c w _ _ HH.out).mono ?_
    rintro e w6_ ⟨rfl, H9_⟩
    replace HH := Lib.hid H9_
    clear H9_
    go_wp2_with fail
    go_ret
    exact ⟨rfl, (Own.pm (HH.out) (by repeat (first | with_reducible exact Pm.refl _ | with_reducible exact Pm.nil _ | with_reducible refine Pm.here ?_ | with_reducible refine Pm.at2 ?_ | with_reducible refine Pm.at3 ?_ | with_reducible refine Pm.at4 ?_ | with_reducible refine Pm.at5 ?_ | with_reducible refine Pm.at6 ?_ | with_reducible refine Pm.at7 ?_ | with_reducible refine Pm.at8 ?_ | with_reducible refine Pm.skip ?_)))⟩
  have hmss := Cnf.right_in hri.out
  have hfirst := Cnf.first_eq hri.out
  have im := min_ite'
  go_enter Try.func3, Try.ntmps3
  go_wp2_with (with_reducible refine stop_bx ?_)
  refine Stop.go ?_
  refine wpList_box_own HH.out [_, _, _, _, _, _] rfl ?_
  intro cg w7_ H9_
  replace HH := Lib.hid H9_
  clear H9_
  (try clear cc1_); (try clear cc2_); (try clear cc3_); (try clear cc4_); (try clear cc5_); (try clear cc6_); (try clear cc7_)
  have cc1_ := HH.out.cells
  go_wp2_with fail
  refine (ref03Right_c _ c).mono ?_
  rw [hri.out]
  rintro e w8_ ⟨rfl, hbel⟩
  replace HH := Lib.hid ((by first | exact Kp.same hbel | exact Kp.drew hbel | exact Kp.below hbel : Kp _ w8_) _ _ (by first | exact HH.out | exact HH.out.drewN _ | exact (HH.out.alloc _).tail | exact ((HH.out.alloc _).drewN _).tail | exact ((HH.out.alloc _).alloc _).tail.tail))
  clear hbel
  (try clear cc1_); (try clear cc2_); (try clear cc3_); (try clear cc4_); (try clear cc5_); (try clear cc6_); (try clear cc7_)
  have cc1_ := HH.out.cells
  go_wp2_with fail
  refine (engNew_c w _ _ 0 c hc.out hri.out HH.out).mono ?_
  rintro e w9_ ⟨b, pb, fb, rb, kb, rfl, H9_⟩
  replace HH := Lib.hid H9_
  clear H9_
  go_wp2_with fail
  refine (engPace_c w _ _ b pb fb rb kb _ (Eng.ok_new hc.out) HH.out).mono ?_
  rintro e w10_ ⟨rfl, H9_⟩
  replace HH := Lib.hid H9_
  clear H9_
  obtain ⟨pc, hpc⟩ : ∃ y, (Eng.new c).pace = y := ⟨_, rfl⟩
  rw [hpc]
  have H9 : ∃ s0 : Eng, s0.At c 0 ∧ s0.Quiet ∧ (4 * c.mss ≤ s0.cwnd ∧ s0.cwnd ≤ 72057594037927936) ∧ s0.pace = pc ∧ Own w _ (pts b (.cells #[.int .u64 s0.c.mss, .int .u64 s0.c.init, .int .u64 s0.c.reorder, .int .u64 s0.c.window, .int .u64 s0.c.probe, .int .u64 s0.c.loss, .pointer (some ⟨pb, 0, none⟩), .int .u64 s0.bd.hi, .int .u64 s0.bd.lo, .int .u64 s0.bd.bw, .int .i64 s0.st, .int .u64 s0.since, .int .u64 s0.rounds, .pointer (some ⟨fb, 0, none⟩), .pointer (some ⟨rb, 0, none⟩), .pointer (some ⟨kb, 0, none⟩), .int .u64 s0.acked, .int .u64 s0.lost, .int .u64 s0.cwnd, .int .u64 s0.kept, .int .u64 s0.ended] 60 (0, 0)) :: pip pb s0.p :: fil fb s0.f :: cyc rb s0.r :: ctr kb s0.k :: pts cg (.cells #[.int .u64 c.mss, .int .u64 c.init, .int .u64 c.reorder, .int .u64 c.window, .int .u64 c.probe, .int .u64 c.loss] 24 (0, 0)) :: [old w]) := ⟨Eng.new c, ⟨Eng.ok_new hc.out, rfl, Nat.le_refl _⟩, Eng.new_quiet c, ⟨hfirst.2.1, Int.le_trans hfirst.2.2 (by decide)⟩, hpc, HH.out⟩
  clear HH hpc hfirst hmss
  obtain ⟨s0, hs0, hq0, hw0, hp0, H9⟩ := H9
  have HH := Lib.hid H9
  clear H9
  go_wp2_with fail
  refine (engCwnd_c w _ _ b pb fb rb kb s0 HH.out).mono ?_
  rintro e w11_ ⟨rfl, hbel⟩
  replace HH := Lib.hid ((by first | exact Kp.same hbel | exact Kp.drew hbel | exact Kp.below hbel : Kp _ w11_) _ _ (by first | exact HH.out | exact HH.out.drewN _ | exact (HH.out.alloc _).tail | exact ((HH.out.alloc _).drewN _).tail | exact ((HH.out.alloc _).alloc _).tail.tail))
  clear hbel
  go_wp2_with fail
  go_loopw [9, 10] (fun n i wr => ∃ (k : Nat) (s : Eng), k ≤ len ∧ i = .int .i64 k ∧ n = .int .u64 s.cwnd ∧ s.At c k ∧ s.Quiet ∧ (4 * c.mss ≤ s.cwnd ∧ s.cwnd ≤ 72057594037927936) ∧ s.pace = pc ∧ Own w wr (pts b (.cells #[.int .u64 s.c.mss, .int .u64 s.c.init, .int .u64 s.c.reorder, .int .u64 s.c.window, .int .u64 s.c.probe, .int .u64 s.c.loss, .pointer (some ⟨pb, 0, none⟩), .int .u64 s.bd.hi, .int .u64 s.bd.lo, .int .u64 s.bd.bw, .int .i64 s.st, .int .u64 s.since, .int .u64 s.rounds, .pointer (some ⟨fb, 0, none⟩), .pointer (some ⟨rb, 0, none⟩), .pointer (some ⟨kb, 0, none⟩), .int .u64 s.acked, .int .u64 s.lost, .int .u64 s.cwnd, .int .u64 s.kept, .int .u64 s.ended] 60 (0, 0)) :: pip pb s.p :: fil fb s.f :: cyc rb s.r :: ctr kb s.k :: pts cg (.cells #[.int .u64 c.mss, .int .u64 c.init, .int .u64 c.reorder, .int .u64 c.window, .int .u64 c.probe, .int .u64 c.loss] 24 (0, 0)) :: [old w])) (fun _ i _ => len - (intOf i).toNat)
  case atStart => exact ⟨0, s0, Nat.zero_le _, rfl, rfl, hs0, hq0, hw0, hp0, HH.out⟩
  case round =>
    obtain ⟨k, s, hk, rfl, rfl, hs, hq, hw, hp, HR⟩ := hrel
    replace HH := Lib.hid HR
    clear HR
    by_cases hlt : k < len
    · obtain ⟨g, off, x, rfl, hx, hcell⟩ := hA.out.get hlt
      have hxU : U x := hU.out x (List.mem_of_getElem? hx)
      have hc0 := hcell 0 _ rfl
      simp only [Nat.mul_one, Nat.add_zero] at hc0
      replace hc0 := Lib.hid hc0
      have o0 := ((Own.pm (HH.out) (by repeat (first | with_reducible exact Pm.refl _ | with_reducible exact Pm.nil _ | with_reducible refine Pm.here ?_ | with_reducible refine Pm.at2 ?_ | with_reducible refine Pm.at3 ?_ | with_reducible refine Pm.at4 ?_ | with_reducible refine Pm.at5 ?_ | with_reducible refine Pm.at6 ?_ | with_reducible refine Pm.at7 ?_ | with_reducible refine Pm.at8 ?_ | with_reducible refine Pm.skip ?_))) : Own w _ [old w]).old_cell hc0.out
      clear hx hcell
      by_cases hxb : 72057594037927936 < x
      · clear hs hq hw hp hxU
        go_wp2_with fail
        refine (alive15_c w _ _ HH.out).mono ?_
        rintro e w12_ ⟨rfl, H9_⟩
        replace HH := Lib.hid H9_
        clear H9_
        go_wp2_with fail
        go_ret
        exact ⟨rfl, (Own.pm (HH.out) (by repeat (first | with_reducible exact Pm.refl _ | with_reducible exact Pm.nil _ | with_reducible refine Pm.here ?_ | with_reducible refine Pm.at2 ?_ | with_reducible refine Pm.at3 ?_ | with_reducible refine Pm.at4 ?_ | with_reducible refine Pm.at5 ?_ | with_reducible refine Pm.at6 ?_ | with_reducible refine Pm.at7 ?_ | with_reducible refine Pm.at8 ?_ | with_reducible refine Pm.skip ?_)))⟩
      have hku : IntKind.u64.wrap (k : Int) = (k : Int) := by rw [IntKind.wrap_u64]; omega
      have hwk : IntKind.i64.wrap ((k : Int) + 1) = ((k + 1 : Nat) : Int) := by rw [IntKind.wrap_i64]; omega
      have hsu : IntKind.u64.wrap (s.cwnd + x) = s.cwnd + x := by rw [IntKind.wrap_u64]; have := hxU.1; have := Cnf.right_in hri.out; omega
      have hkU : U (k : Int) := by unfold U; omega
      have hxk : Evt.Ok ⟨(k : Int), 0, 0, 0, 0, false, false, 0, x, 0, 0⟩ := ⟨hkU, U_zero, U_zero, U_zero, U_zero, U_zero, hxU, U_zero, U_zero⟩
      obtain ⟨hon, hqn, hcw, hpa⟩ := Eng.At.quiet_grows hri.out hs hq hw.1 hw.2 hxk rfl (by show x ≤ _; omega)
      have hw1 : 4 * c.mss ≤ min (s.cwnd + x) 72057594037927936 ∧ min (s.cwnd + x) 72057594037927936 ≤ 72057594037927936 := by have := hxU.1; have := Cnf.right_in hri.out; omega
      have hlk : s.f.l.length ≤ 999999 := by have := hs.2.2; omega
      have hso := Lib.hid hs.1
      rw [hp] at hpa
      clear hs hq hw hp hkU hxU
      replace hxk := Lib.hid hxk
      replace hw1 := Lib.hid hw1
      simp only at hcw
      obtain ⟨s1, e1⟩ : ∃ y, s.on ⟨(k : Int), 0, 0, 0, 0, false, false, 0, x, 0, 0⟩ = y := ⟨_, rfl⟩
      rw [e1] at hon hqn hcw hpa
      have hst := hqn.st
      replace e1 := Lib.hid e1
      replace hon := Lib.hid hon
      replace hqn := Lib.hid hqn
      replace hcw := Lib.hid hcw
      replace hpa := Lib.hid hpa
      replace hst := Lib.hid hst
      go_wp2_with fail
      refine (engOn_c w _ _ b pb fb rb kb s hso.out ⟨(k : Int), 0, 0, 0, 0, false, false, 0, x, 0, 0⟩ hxk.out hlk HH.out).mono ?_
      rw [e1.out]
      rintro e w13_ ⟨rfl, H9_⟩
      replace HH := Lib.hid H9_
      clear H9_
      clear o0
      have o0 := ((Own.pm (HH.out) (by repeat (first | with_reducible exact Pm.refl _ | with_reducible exact Pm.nil _ | with_reducible refine Pm.here ?_ | with_reducible refine Pm.at2 ?_ | with_reducible refine Pm.at3 ?_ | with_reducible refine Pm.at4 ?_ | with_reducible refine Pm.at5 ?_ | with_reducible refine Pm.at6 ?_ | with_reducible refine Pm.at7 ?_ | with_reducible refine Pm.at8 ?_ | with_reducible refine Pm.skip ?_))) : Own w _ [old w]).old_cell hc0.out
      go_wp2_with fail
      refine (engCwnd_c w _ _ b pb fb rb kb s1 HH.out).mono ?_
      rw [hcw.out]
      rintro e w14_ ⟨rfl, hbel⟩
      replace HH := Lib.hid ((by first | exact Kp.same hbel | exact Kp.drew hbel | exact Kp.below hbel : Kp _ w14_) _ _ (by first | exact HH.out | exact HH.out.drewN _ | exact (HH.out.alloc _).tail | exact ((HH.out.alloc _).drewN _).tail | exact ((HH.out.alloc _).alloc _).tail.tail))
      clear hbel
      go_wp2_with fail
      refine (engState_c w _ _ b pb fb rb kb s1 HH.out).mono ?_
      rw [hst.out]
      rintro e w15_ ⟨rfl, hbel⟩
      replace HH := Lib.hid ((by first | exact Kp.same hbel | exact Kp.drew hbel | exact Kp.below hbel : Kp _ w15_) _ _ (by first | exact HH.out | exact HH.out.drewN _ | exact (HH.out.alloc _).tail | exact ((HH.out.alloc _).drewN _).tail | exact ((HH.out.alloc _).alloc _).tail.tail))
      clear hbel
      go_wp2_with fail
      refine (engPace_c w _ _ b pb fb rb kb s1 hon.out.1 HH.out).mono ?_
      rw [hpa.out]
      rintro e w16_ ⟨rfl, H9_⟩
      replace HH := Lib.hid H9_
      clear H9_
      go_wp2_with fail
      go_roundw
      case rel => exact ⟨k + 1, s1, by omega, by go_num, by rw [hcw.out], hon.out, hqn.out, by rw [hcw.out]; exact hw1.out, hpa.out, HH.out⟩
      case measure => simp [intOf]; omega
    · clear hA hU hs hq hw hp
      replace HH := Lib.hid ((Own.pm (HH.out) (by repeat (first | with_reducible exact Pm.refl _ | with_reducible exact Pm.nil _ | with_reducible refine Pm.here ?_ | with_reducible refine Pm.at2 ?_ | with_reducible refine Pm.at3 ?_ | with_reducible refine Pm.at4 ?_ | with_reducible refine Pm.at5 ?_ | with_reducible refine Pm.at6 ?_ | with_reducible refine Pm.at7 ?_ | with_reducible refine Pm.at8 ?_ | with_reducible refine Pm.skip ?_))) : Own w wr [old w])
      go_wp2_with fail
      refine (alive15_c w _ _ HH.out).mono ?_
      rintro e w17_ ⟨rfl, H9_⟩
      replace HH := Lib.hid H9_
      clear H9_
      go_wp2_with fail
      go_ret
      exact ⟨rfl, HH.out⟩
end
end Go.Proofs.Ytpfbbpiidhhkbaa
namespace Go.Proofs.Ytpfbbpiidhhkbaa
open Go.ChangeShapes Go.WideShapes Go.ChangeAt Go.RowKit
set_option linter.unusedVariables false
theorem ownBbrGrows : ownKnob Try.prog.godebug = none := by kernel_rfl
theorem laidOutBbrGrows : laidOutB Try.prog = true := by kernel_rfl
set_option maxRecDepth 100000 in
theorem bbrGrows_lifted (os : Os) (started : os.Started) (H : Type) (enc : TypeId × Value → H) :
    ReturnsInHanded {} Try.checked os 3 .any (Rows.bbrGrowsSpec.pre6 enc Try.prog Try.f3 Rows.bbrGrowsRow.domain false) (Rows.bbrGrowsSpec.post enc Try.prog Try.f3 false true false false) := by
  refine returnsInHanded_of_change (C := Try.checked) ownBbrGrows started (by kernel_rfl) Try.func3
    (ChangeSpec.witness6 (enc := enc) (C := Try.checked) false ⟨#[], #[.agg #[.int .u64 0, .int .u64 0, .int .u64 0, .int .u64 0, .int .u64 0, .int .u64 0], .slice none 0 0], []⟩ 8 (by kernel_rfl) (by kernel_rfl) (by kernel_rfl) (by kernel_rfl)) ?_
  intro W base args ds gs before hval0 hW hcnd _
  have hval : ∀ (j : Nat) t v, Try.f3.params[j]? = some t → args[j]? = some v → Value.okWide Try.prog W .any base t v := hval0
  have hW' := hW
  obtain ⟨p, q, hA0, hV, rfl, hfz, hnd⟩ := hW
  have hA : DataW.TrodAll enc Try.prog W 0 (fun _ => true) true Try.f3.params.toList args.toList ds p := hA0
  rw [Try.params3] at hA hval
  obtain ⟨v0, vs0, d0, ds0, p0, q0, hargs, rfl, rfl, h0, r0⟩ := trodAll_cons hA
  obtain ⟨v1, vs1, d1, ds1, p1, q1, rfl, rfl, rfl, h1, r1⟩ := trodAll_cons r0
  obtain ⟨rfl, rfl, rfl⟩ := trodAll_nil r1
  obtain rfl : args = #[v0, v1] := by cases args; simp_all
  obtain ⟨rfl, rfl⟩ := trodVars_none hV
  have k0 := h0
  have lt0 : ∀ x ∈ p0, x.block < W.heap.size := by obtain ⟨m, hm⟩ := k0; exact DataW.trod_lt m _ _ _ hm
  obtain ⟨cs0, rfl, hsz0⟩ := okWide_struct Try.underlying24 (hval 0 24 v0 rfl rfl)
  obtain ⟨xs0, hr0⟩ : ∃ xs, (rdPair (rdInt .u64) (rdPair (rdInt .u64) (rdPair (rdInt .u64) (rdPair (rdInt .u64) (rdPair (rdInt .u64) (rdPair (rdInt .u64) rdUnit)))))) W cs0.toList xs := by
    obtain ⟨fuel, hf⟩ := h0
    exact (show Opens enc Try.prog W 24 (rdPair (rdInt .u64) (rdPair (rdInt .u64) (rdPair (rdInt .u64) (rdPair (rdInt .u64) (rdPair (rdInt .u64) (rdPair (rdInt .u64) rdUnit)))))) from (opens_struct 6 Try.underlying24 (by kernel_rfl) (opensF_cons 1 (by kernel_rfl) rfl (opens_int Try.underlying22) (opensF_cons 1 (by kernel_rfl) rfl (opens_int Try.underlying22) (opensF_cons 1 (by kernel_rfl) rfl (opens_int Try.underlying22) (opensF_cons 1 (by kernel_rfl) rfl (opens_int Try.underlying22) (opensF_cons 1 (by kernel_rfl) rfl (opens_int Try.underlying22) (opensF_cons 1 (by kernel_rfl) rfl (opens_int Try.underlying22) opensF_nil)))))))) _ _ _ _ hf
  have hz0 : cs0.size = 6 := hsz0.trans (by kernel_rfl)
  have k1 := h1
  have lt1 : ∀ x ∈ p1, x.block < W.heap.size := by obtain ⟨m, hm⟩ := k1; exact DataW.trod_lt m _ _ _ hm
  obtain ⟨A1, len1, cap1, rfl⟩ := okWide_slice Try.underlying25 (hval 1 25 v1 rfl rfl)
  obtain ⟨xs1, hr1⟩ : ∃ xs, (rdSlice (rdInt .u64) 1) W [.slice A1 len1 cap1] xs := by
    obtain ⟨fuel, hf⟩ := h1
    have hf2 : DataW.trod enc Try.prog W 0 (fun _ => true) true fuel 25 [.slice A1 len1 cap1] = some (d1, p1) := hf
    exact (show Opens enc Try.prog W 25 (rdSlice (rdInt .u64) 1) from (opens_slice 1 (by omega) Try.underlying25 (by kernel_rfl) (opens_int Try.underlying22))) _ _ _ _ hf2
  clear hA0 hval0
  refine (bbrGrows_c W cs0 hz0 xs0 hr0 A1 len1 cap1 xs1 hr1).mono fun e W' ⟨he, hown⟩ => ?_
  have bel := hown.old_below
  subst he
  exact ⟨_, rfl, _, _, _, [], _, [], hW', trodAll_mk1 (shut_bool Try.underlying4 _), (trodAll_cons_mk (Below.trod laidOutBbrGrows (by kernel_rfl) (of_decide_eq_true (by kernel_rfl)) k0 bel lt0) (trodAll_cons_mk (Below.trod laidOutBbrGrows (by kernel_rfl) (of_decide_eq_true (by kernel_rfl)) k1 bel lt1) trodAll_mk0)), rfl, bel.frame _, fun h => by cases h⟩
theorem bbrGrows_holds : Rows.BbrGrowsSaid :=
  OpenClaim.holds_of_wide 3 Try.f3 rfl rfl rfl rfl rfl rfl rfl ⟨rfl, rfl, rfl, rfl, rfl⟩ rfl rfl rfl rfl rfl (by kernel_rfl) Try.func3 (by kernel_rfl)
    (of_decide_eq_true (by kernel_rfl)) (by unfold Func.isWrapper; first | (rw [if_pos (by decide +kernel)]; kernel_rfl) | (rw [if_neg (by decide +kernel)]; exact ⟨rfl, rfl⟩))
    (fun os started H enc _ => bbrGrows_lifted os started H enc)
#print axioms bbrGrows_holds
end Go.Proofs.Ytpfbbpiidhhkbaa
