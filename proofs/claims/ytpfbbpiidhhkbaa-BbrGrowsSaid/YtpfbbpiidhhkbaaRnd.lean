/- round, and its reference: rounds, counted, and whether a pipe is full. -/
import Derived.Test.YtpfbbpiidhhkbaaFix
namespace Go.Proofs.Ytpfbbpiidhhkbaa
open Go.RowKit
structure Ctr where
  mark : Int
  n : Int
structure Pip where
  best : Int
  n : Int
def Ctr.zero : Ctr := ⟨0, 0⟩
def Pip.zero : Pip := ⟨0, 0⟩
def Ctr.ack (s : Ctr) (stamp delivered : Int) : Bool × Ctr := if stamp < s.mark then (false, s) else (true, ⟨delivered, IntKind.u64.wrap (s.n + 1)⟩)
def Pip.put (s : Pip) (rate : Int) (round limited : Bool) : Pip :=
  if 3 ≤ s.n ∨ round = false ∨ limited = true then s else if smul s.best 5 ≤ smul rate 4 then ⟨rate, 0⟩ else ⟨s.best, s.n + 1⟩
def Pip.full (s : Pip) : Bool := decide (3 ≤ s.n)
def Pip.Ok (s : Pip) : Prop := U s.best ∧ 0 ≤ s.n ∧ s.n ≤ 3
theorem Pip.ok_zero : Pip.zero.Ok := ⟨U_zero, by decide, by decide⟩
theorem Pip.ok_put {s : Pip} {rate : Int} {r l : Bool} (hr : U rate) (h : s.Ok) : (s.put rate r l).Ok := by
  unfold Pip.Ok at *; unfold Pip.put; split
  · exact h
  · split
    · exact ⟨hr, by simp, by simp⟩
    · refine ⟨h.1, ?_, ?_⟩ <;> simp only <;> omega
def ctr (b : Nat) (s : Ctr) : Asn := pts b (.cells #[.int .u64 s.mark, .int .u64 s.n] 90 (0, 0))
def pip (b : Nat) (s : Pip) : Asn := pts b (.cells #[.int .u64 s.best, .int .i64 s.n] 82 (0, 0))
section
variable (ε w : World) (R : List Asn) (b : Nat)
theorem ctrNew_c {L : List Asn} (H : Own ε w L) :
    Calls Try.prog 23 #[] w fun e w' => ∃ b, e = .returned (.pointer (some ⟨b, 0, none⟩)) ∧ Own ε w' (ctr b Ctr.zero :: L) := by
  have HH := Lib.hid H; clear H
  go_enter Try.func23, Try.ntmps23
  go_wp2_with fail
  go_ret
  exact ⟨_, rfl, HH.out.alloc _⟩
theorem pipNew_c {L : List Asn} (H : Own ε w L) :
    Calls Try.prog 19 #[] w fun e w' => ∃ b, e = .returned (.pointer (some ⟨b, 0, none⟩)) ∧ Own ε w' (pip b Pip.zero :: L) := by
  have HH := Lib.hid H; clear H
  go_enter Try.func19, Try.ntmps19
  go_wp2_with fail
  go_ret
  exact ⟨_, rfl, HH.out.alloc _⟩
set_option maxHeartbeats 400000 in
theorem ctrAck_c (s : Ctr) (x y : Int) (H : Own ε w (ctr b s :: R)) :
    Calls Try.prog 51 #[.pointer (some ⟨b, 0, none⟩), .int .u64 x, .int .u64 y] w fun e w' => e = .returned (.bool (s.ack x y).1) ∧ Own ε w' (ctr b (s.ack x y).2 :: R) := by
  obtain ⟨m, n⟩ := s
  obtain ⟨c0, f0⟩ := H.cells
  have HH := Lib.hid H; clear H
  by_cases h : x < m
  · rw [show (⟨m, n⟩ : Ctr).ack x y = (false, ⟨m, n⟩) by simp [Ctr.ack, h]]
    go_enter Try.func51, Try.ntmps51
    go_wp2_with fail
    go_ret
    exact ⟨rfl, HH.out⟩
  · rw [show (⟨m, n⟩ : Ctr).ack x y = (true, ⟨y, IntKind.u64.wrap (n + 1)⟩) by simp [Ctr.ack, h]]
    go_enter Try.func51, Try.ntmps51
    go_wp2_with fail
    go_ret
    exact ⟨rfl, (HH.out.set 0 (.int .u64 y)).set 1 (.int .u64 (IntKind.u64.wrap (n + 1)))⟩
theorem ctrAck_nil (x y : Int) :
    Calls Try.prog 51 #[.pointer none, .int .u64 x, .int .u64 y] w fun e w' => e = .returned (.bool false) ∧ w = w' := by
  go_enter Try.func51, Try.ntmps51
  go_wp2_with fail
  go_ret
  exact ⟨rfl, rfl⟩
theorem pipFull_c (s : Pip) (H : Own ε w (pip b s :: R)) :
    Calls Try.prog 58 #[.pointer (some ⟨b, 0, none⟩)] w fun e w' => e = .returned (.bool (decide (3 ≤ s.n))) ∧ w = w' := by
  obtain ⟨m, n⟩ := s
  obtain ⟨c0, f0⟩ := H.cells
  clear H
  go_enter Try.func58, Try.ntmps58
  go_wp2_with fail
  go_ret
  exact ⟨rfl, rfl⟩
theorem pipFull_nil : Calls Try.prog 58 #[.pointer none] w fun e w' => e = .returned (.bool false) ∧ w = w' := by
  go_enter Try.func58, Try.ntmps58
  go_wp2_with fail
  go_ret
  exact ⟨rfl, rfl⟩
theorem pipPut_nil (x : Int) (r l : Bool) : Calls Try.prog 53 #[.pointer none, .int .u64 x, .bool r, .bool l] w fun e w' => e = .returned (.tuple #[]) ∧ w = w' := by
  go_enter Try.func53, Try.ntmps53
  go_wp2_with fail
  first | go_end0 | ((try simp only [Exit.inBlock, Exit.then]); refine bodyPost_ret (results_none rfl _ _ _) rfl ?_)
  exact ⟨rfl, rfl⟩
set_option maxHeartbeats 800000 in
theorem pipPut_c (s : Pip) (x : Int) (r l : Bool) (hx : U x) (hs : s.Ok) (H : Own ε w (pip b s :: R)) :
    Calls Try.prog 53 #[.pointer (some ⟨b, 0, none⟩), .int .u64 x, .bool r, .bool l] w fun e w' => e = .returned (.tuple #[]) ∧ Own ε w' (pip b (s.put x r l) :: R) := by
  obtain ⟨m, n⟩ := s
  obtain ⟨hu, hn0, hn3⟩ := hs
  simp only at hu hn0 hn3
  obtain ⟨c0, f0⟩ := H.cells
  have HH := Lib.hid H; clear H
  by_cases h3 : 3 ≤ n
  · rw [show (⟨m, n⟩ : Pip).put x r l = ⟨m, n⟩ by simp [Pip.put, h3]]
    go_enter Try.func53, Try.ntmps53
    go_wp2_with fail
    first | go_end0 | ((try simp only [Exit.inBlock, Exit.then]); refine bodyPost_ret (results_none rfl _ _ _) rfl ?_)
    exact ⟨rfl, HH.out⟩
  cases r
  · rw [show (⟨m, n⟩ : Pip).put x false l = ⟨m, n⟩ by simp [Pip.put]]
    go_enter Try.func53, Try.ntmps53
    go_wp2_with fail
    first | go_end0 | ((try simp only [Exit.inBlock, Exit.then]); refine bodyPost_ret (results_none rfl _ _ _) rfl ?_)
    exact ⟨rfl, HH.out⟩
  cases l
  · have k4 := fun w => fixMul_c w x 4 hx ⟨by decide, by decide⟩
    have k5 := fun w => fixMul_c w m 5 hu ⟨by decide, by decide⟩
    by_cases hg : smul m 5 ≤ smul x 4
    · rw [show (⟨m, n⟩ : Pip).put x true false = ⟨x, 0⟩ by unfold Pip.put; rw [if_neg (by rintro (q | q | q); exact h3 q; cases q; cases q)]; first | rw [if_pos hg] | rw [if_neg hg]]
      go_enter Try.func53, Try.ntmps53
      go_wp2_with fail
      go_quiet ((go_at_call 44; first | (with_reducible exact quiet_c (k4 _)) | (with_reducible exact quiet_c (k5 _))))
      go_wp2_with fail
      first | go_end0 | ((try simp only [Exit.inBlock, Exit.then]); refine bodyPost_ret (results_none rfl _ _ _) rfl ?_)
      exact ⟨rfl, (((HH.out.drewN _).set 0 (.int .u64 x)).set 1 (.int .i64 (-1))).set 1 (.int .i64 0)⟩
    · rw [show (⟨m, n⟩ : Pip).put x true false = ⟨m, n + 1⟩ by unfold Pip.put; rw [if_neg (by rintro (q | q | q); exact h3 q; cases q; cases q)]; first | rw [if_pos hg] | rw [if_neg hg]]
      go_enter Try.func53, Try.ntmps53
      go_wp2_with fail
      go_quiet ((go_at_call 44; first | (with_reducible exact quiet_c (k4 _)) | (with_reducible exact quiet_c (k5 _))))
      go_wp2_with fail
      first | go_end0 | ((try simp only [Exit.inBlock, Exit.then]); refine bodyPost_ret (results_none rfl _ _ _) rfl ?_)
      exact ⟨rfl, (HH.out.drewN _).set 1 (.int .i64 (n + 1))⟩
  · rw [show (⟨m, n⟩ : Pip).put x true true = ⟨m, n⟩ by simp [Pip.put]]
    go_enter Try.func53, Try.ntmps53
    go_wp2_with fail
    first | go_end0 | ((try simp only [Exit.inBlock, Exit.then]); refine bodyPost_ret (results_none rfl _ _ _) rfl ?_)
    exact ⟨rfl, HH.out⟩
end
end Go.Proofs.Ytpfbbpiidhhkbaa
