/- round, and its reference: rounds, counted, and whether a pipe is full. -/
import Derived.Test.YtfcappjodichlaaFix
namespace Go.Proofs.Ytfcappjodichlaa
open Go.RowKit
structure Ctr where
  mark : Int
  n : Int
structure Pip where
  best : Int
  n : Int
def Ctr.zero : Ctr := ⟨0, 0⟩
def Pip.zero : Pip := ⟨0, 0⟩
def Ctr.ack (s : Ctr) (stamp delivered : Int) : Bool × Ctr := if stamp < s.mark then (false, s) else (true, ⟨delivered, IntKind.u64.wrap (s.n + 1)⟩)
def Pip.put (s : Pip) (rate : Int) (round limited : Bool) : Pip :=
  if 3 ≤ s.n ∨ round = false ∨ limited = true then s else if smul s.best 5 ≤ smul rate 4 then ⟨rate, 0⟩ else ⟨s.best, s.n + 1⟩
def Pip.full (s : Pip) : Bool := decide (3 ≤ s.n)
def Pip.Ok (s : Pip) : Prop := U s.best ∧ 0 ≤ s.n ∧ s.n ≤ 3
theorem Pip.ok_zero : Pip.zero.Ok := ⟨U_zero, by decide, by decide⟩
theorem Pip.ok_put {s : Pip} {rate : Int} {r l : Bool} (hr : U rate) (h : s.Ok) : (s.put rate r l).Ok := by
  unfold Pip.Ok at *; unfold Pip.put; split
  · exact h
  · split
    · exact ⟨hr, by simp, by simp⟩
    · refine ⟨h.1, ?_, ?_⟩ <;> simp only <;> omega
def ctr (b : Nat) (s : Ctr) : Asn := pts b (.cells #[.int .u64 s.mark, .int .u64 s.n] 122 (0, 0))
def pip (b : Nat) (s : Pip) : Asn := pts b (.cells #[.int .u64 s.best, .int .i64 s.n] 124 (0, 0))
def rctr (b : Nat) (s : Ctr) : Asn := pts b (.cells #[.int .u64 s.mark, .int .u64 s.n] 40 (0, 0))
def rpip (b : Nat) (s : Pip) : Asn := pts b (.cells #[.int .u64 s.best, .int .i64 s.n] 49 (0, 0))
section
variable (ε w : World) (R : List Asn) (b : Nat)
theorem ctrNew_c {L : List Asn} (H : Own ε w L) :
    Calls Try.prog 27 #[] w fun e w' => ∃ b, e = .returned (.pointer (some ⟨b, 0, none⟩)) ∧ Own ε w' (ctr b Ctr.zero :: L) := by
  have HH := Lib.hid H; clear H
  go_enter Try.func27, Try.ntmps27
  go_wp2_with fail
  go_ret
  exact ⟨_, rfl, HH.out.alloc _⟩
theorem pipNew_c {L : List Asn} (H : Own ε w L) :
    Calls Try.prog 31 #[] w fun e w' => ∃ b, e = .returned (.pointer (some ⟨b, 0, none⟩)) ∧ Own ε w' (pip b Pip.zero :: L) := by
  have HH := Lib.hid H; clear H
  go_enter Try.func31, Try.ntmps31
  go_wp2_with fail
  go_ret
  exact ⟨_, rfl, HH.out.alloc _⟩
set_option maxHeartbeats 400000 in
theorem ctrAck_c (s : Ctr) (x y : Int) (H : Own ε w (ctr b s :: R)) :
    Calls Try.prog 28 #[.pointer (some ⟨b, 0, none⟩), .int .u64 x, .int .u64 y] w fun e w' => e = .returned (.bool (s.ack x y).1) ∧ Own ε w' (ctr b (s.ack x y).2 :: R) := by
  obtain ⟨m, n⟩ := s
  obtain ⟨c0, f0⟩ := H.cells
  have HH := Lib.hid H; clear H
  by_cases h : x < m
  · rw [show (⟨m, n⟩ : Ctr).ack x y = (false, ⟨m, n⟩) by simp [Ctr.ack, h]]
    go_enter Try.func28, Try.ntmps28
    go_wp2_with fail
    go_ret
    exact ⟨rfl, HH.out⟩
  · rw [show (⟨m, n⟩ : Ctr).ack x y = (true, ⟨y, IntKind.u64.wrap (n + 1)⟩) by simp [Ctr.ack, h]]
    go_enter Try.func28, Try.ntmps28
    go_wp2_with fail
    go_ret
    exact ⟨rfl, (HH.out.set 0 (.int .u64 y)).set 1 (.int .u64 (IntKind.u64.wrap (n + 1)))⟩
theorem ctrAck_nil (x y : Int) :
    Calls Try.prog 28 #[.pointer none, .int .u64 x, .int .u64 y] w fun e w' => e = .returned (.bool false) ∧ w = w' := by
  go_enter Try.func28, Try.ntmps28
  go_wp2_with fail
  go_ret
  exact ⟨rfl, rfl⟩
theorem ctrCount_c (s : Ctr) (H : Own ε w (ctr b s :: R)) :
    Calls Try.prog 30 #[.pointer (some ⟨b, 0, none⟩)] w fun e w' => e = .returned (.int .u64 s.n) ∧ w = w' := by
  obtain ⟨m, n⟩ := s
  obtain ⟨c0, f0⟩ := H.cells
  clear H
  go_enter Try.func30, Try.ntmps30
  go_wp2_with fail
  go_ret
  exact ⟨rfl, rfl⟩
theorem ctrCount_nil : Calls Try.prog 30 #[.pointer none] w fun e w' => e = .returned (.int .u64 0) ∧ w = w' := by
  go_enter Try.func30, Try.ntmps30
  go_wp2_with fail
  go_ret
  exact ⟨rfl, rfl⟩
theorem pipFull_c (s : Pip) (H : Own ε w (pip b s :: R)) :
    Calls Try.prog 32 #[.pointer (some ⟨b, 0, none⟩)] w fun e w' => e = .returned (.bool (decide (3 ≤ s.n))) ∧ w = w' := by
  obtain ⟨m, n⟩ := s
  obtain ⟨c0, f0⟩ := H.cells
  clear H
  go_enter Try.func32, Try.ntmps32
  go_wp2_with fail
  go_ret
  exact ⟨rfl, rfl⟩
theorem pipFull_nil : Calls Try.prog 32 #[.pointer none] w fun e w' => e = .returned (.bool false) ∧ w = w' := by
  go_enter Try.func32, Try.ntmps32
  go_wp2_with fail
  go_ret
  exact ⟨rfl, rfl⟩
theorem pipBest_c (s : Pip) (H : Own ε w (pip b s :: R)) :
    Calls Try.prog 33 #[.pointer (some ⟨b, 0, none⟩)] w fun e w' => e = .returned (.int .u64 s.best) ∧ w = w' := by
  obtain ⟨m, n⟩ := s
  obtain ⟨c0, f0⟩ := H.cells
  clear H
  go_enter Try.func33, Try.ntmps33
  go_wp2_with fail
  go_ret
  exact ⟨rfl, rfl⟩
theorem pipBest_nil : Calls Try.prog 33 #[.pointer none] w fun e w' => e = .returned (.int .u64 0) ∧ w = w' := by
  go_enter Try.func33, Try.ntmps33
  go_wp2_with fail
  go_ret
  exact ⟨rfl, rfl⟩
theorem pipPut_nil (x : Int) (r l : Bool) : Calls Try.prog 34 #[.pointer none, .int .u64 x, .bool r, .bool l] w fun e w' => e = .returned (.tuple #[]) ∧ w = w' := by
  go_enter Try.func34, Try.ntmps34
  go_wp2_with fail
  first | go_end0 | ((try simp only [Exit.inBlock, Exit.then]); refine bodyPost_ret (results_none rfl _ _ _) rfl ?_)
  exact ⟨rfl, rfl⟩
set_option maxHeartbeats 800000 in
theorem pipPut_c (s : Pip) (x : Int) (r l : Bool) (hx : U x) (hs : s.Ok) (H : Own ε w (pip b s :: R)) :
    Calls Try.prog 34 #[.pointer (some ⟨b, 0, none⟩), .int .u64 x, .bool r, .bool l] w fun e w' => e = .returned (.tuple #[]) ∧ Own ε w' (pip b (s.put x r l) :: R) := by
  obtain ⟨m, n⟩ := s
  obtain ⟨hu, hn0, hn3⟩ := hs
  simp only at hu hn0 hn3
  obtain ⟨c0, f0⟩ := H.cells
  have HH := Lib.hid H; clear H
  by_cases h3 : 3 ≤ n
  · rw [show (⟨m, n⟩ : Pip).put x r l = ⟨m, n⟩ by simp [Pip.put, h3]]
    go_enter Try.func34, Try.ntmps34
    go_wp2_with fail
    first | go_end0 | ((try simp only [Exit.inBlock, Exit.then]); refine bodyPost_ret (results_none rfl _ _ _) rfl ?_)
    exact ⟨rfl, HH.out⟩
  cases r
  · rw [show (⟨m, n⟩ : Pip).put x false l = ⟨m, n⟩ by simp [Pip.put]]
    go_enter Try.func34, Try.ntmps34
    go_wp2_with fail
    first | go_end0 | ((try simp only [Exit.inBlock, Exit.then]); refine bodyPost_ret (results_none rfl _ _ _) rfl ?_)
    exact ⟨rfl, HH.out⟩
  cases l
  · have k4 := fun w => fixMul_c w x 4 hx ⟨by decide, by decide⟩
    have k5 := fun w => fixMul_c w m 5 hu ⟨by decide, by decide⟩
    by_cases hg : smul m 5 ≤ smul x 4
    · rw [show (⟨m, n⟩ : Pip).put x true false = ⟨x, 0⟩ by unfold Pip.put; rw [if_neg (by rintro (q | q | q); exact h3 q; cases q; cases q)]; first | rw [if_pos hg] | rw [if_neg hg]]
      go_enter Try.func34, Try.ntmps34
      go_wp2_with fail
      go_quiet ((go_at_call 76; first | (with_reducible exact quiet_c (k4 _)) | (with_reducible exact quiet_c (k5 _))))
      go_wp2_with fail
      first | go_end0 | ((try simp only [Exit.inBlock, Exit.then]); refine bodyPost_ret (results_none rfl _ _ _) rfl ?_)
      exact ⟨rfl, (((HH.out.drewN _).set 0 (.int .u64 x)).set 1 (.int .i64 (-1))).set 1 (.int .i64 0)⟩
    · rw [show (⟨m, n⟩ : Pip).put x true false = ⟨m, n + 1⟩ by unfold Pip.put; rw [if_neg (by rintro (q | q | q); exact h3 q; cases q; cases q)]; first | rw [if_pos hg] | rw [if_neg hg]]
      go_enter Try.func34, Try.ntmps34
      go_wp2_with fail
      go_quiet ((go_at_call 76; first | (with_reducible exact quiet_c (k4 _)) | (with_reducible exact quiet_c (k5 _))))
      go_wp2_with fail
      first | go_end0 | ((try simp only [Exit.inBlock, Exit.then]); refine bodyPost_ret (results_none rfl _ _ _) rfl ?_)
      exact ⟨rfl, (HH.out.drewN _).set 1 (.int .i64 (n + 1))⟩
  · rw [show (⟨m, n⟩ : Pip).put x true true = ⟨m, n⟩ by simp [Pip.put]]
    go_enter Try.func34, Try.ntmps34
    go_wp2_with fail
    first | go_end0 | ((try simp only [Exit.inBlock, Exit.then]); refine bodyPost_ret (results_none rfl _ _ _) rfl ?_)
    exact ⟨rfl, HH.out⟩
set_option maxHeartbeats 400000 in
theorem rctrAck_c (s : Ctr) (x y : Int) (H : Own ε w (rctr b s :: R)) :
    Calls Try.prog 29 #[.pointer (some ⟨b, 0, none⟩), .int .u64 x, .int .u64 y] w fun e w' => e = .returned (.bool (s.ack x y).1) ∧ Own ε w' (rctr b (s.ack x y).2 :: R) := by
  obtain ⟨m, n⟩ := s
  obtain ⟨c0, f0⟩ := H.cells
  have HH := Lib.hid H; clear H
  by_cases h : x < m
  · rw [show (⟨m, n⟩ : Ctr).ack x y = (false, ⟨m, n⟩) by simp [Ctr.ack, h]]
    go_enter Try.func29, Try.ntmps29
    go_wp2_with fail
    go_ret
    exact ⟨rfl, HH.out⟩
  · rw [show (⟨m, n⟩ : Ctr).ack x y = (true, ⟨y, IntKind.u64.wrap (n + 1)⟩) by simp [Ctr.ack, h]]
    go_enter Try.func29, Try.ntmps29
    go_wp2_with fail
    go_ret
    exact ⟨rfl, (HH.out.set 0 (.int .u64 y)).set 1 (.int .u64 (IntKind.u64.wrap (n + 1)))⟩
set_option maxHeartbeats 800000 in
theorem rpipPut_c (s : Pip) (x : Int) (r l : Bool) (hx : U x) (hs : s.Ok) (H : Own ε w (rpip b s :: R)) :
    Calls Try.prog 35 #[.pointer (some ⟨b, 0, none⟩), .int .u64 x, .bool r, .bool l] w fun e w' => e = .returned (.tuple #[]) ∧ Own ε w' (rpip b (s.put x r l) :: R) := by
  obtain ⟨m, n⟩ := s
  obtain ⟨hu, hn0, hn3⟩ := hs
  simp only at hu hn0 hn3
  obtain ⟨c0, f0⟩ := H.cells
  have HH := Lib.hid H; clear H
  by_cases h3 : 3 ≤ n
  · rw [show (⟨m, n⟩ : Pip).put x r l = ⟨m, n⟩ by simp [Pip.put, h3]]
    go_enter Try.func35, Try.ntmps35
    go_wp2_with fail
    first | go_end0 | ((try simp only [Exit.inBlock, Exit.then]); refine bodyPost_ret (results_none rfl _ _ _) rfl ?_)
    exact ⟨rfl, HH.out⟩
  cases r
  · rw [show (⟨m, n⟩ : Pip).put x false l = ⟨m, n⟩ by simp [Pip.put]]
    go_enter Try.func35, Try.ntmps35
    go_wp2_with fail
    first | go_end0 | ((try simp only [Exit.inBlock, Exit.then]); refine bodyPost_ret (results_none rfl _ _ _) rfl ?_)
    exact ⟨rfl, HH.out⟩
  cases l
  · have k4 := fun w => refMul_c w x 4 hx ⟨by decide, by decide⟩
    have k5 := fun w => refMul_c w m 5 hu ⟨by decide, by decide⟩
    by_cases hg : smul m 5 ≤ smul x 4
    · rw [show (⟨m, n⟩ : Pip).put x true false = ⟨x, 0⟩ by unfold Pip.put; rw [if_neg (by rintro (q | q | q); exact h3 q; cases q; cases q)]; first | rw [if_pos hg] | rw [if_neg hg]]
      go_enter Try.func35, Try.ntmps35
      go_wp2_with fail
      go_quiet ((go_at_call 77; first | (with_reducible exact quiet_c (k4 _)) | (with_reducible exact quiet_c (k5 _))))
      go_wp2_with fail
      first | go_end0 | ((try simp only [Exit.inBlock, Exit.then]); refine bodyPost_ret (results_none rfl _ _ _) rfl ?_)
      exact ⟨rfl, ((HH.out.drewN _).set 0 (.int .u64 x)).set 1 (.int .i64 0)⟩
    · rw [show (⟨m, n⟩ : Pip).put x true false = ⟨m, n + 1⟩ by unfold Pip.put; rw [if_neg (by rintro (q | q | q); exact h3 q; cases q; cases q)]; first | rw [if_pos hg] | rw [if_neg hg]]
      go_enter Try.func35, Try.ntmps35
      go_wp2_with fail
      go_quiet ((go_at_call 77; first | (with_reducible exact quiet_c (k4 _)) | (with_reducible exact quiet_c (k5 _))))
      go_wp2_with fail
      first | go_end0 | ((try simp only [Exit.inBlock, Exit.then]); refine bodyPost_ret (results_none rfl _ _ _) rfl ?_)
      exact ⟨rfl, (HH.out.drewN _).set 1 (.int .i64 (n + 1))⟩
  · rw [show (⟨m, n⟩ : Pip).put x true true = ⟨m, n⟩ by simp [Pip.put]]
    go_enter Try.func35, Try.ntmps35
    go_wp2_with fail
    first | go_end0 | ((try simp only [Exit.inBlock, Exit.then]); refine bodyPost_ret (results_none rfl _ _ _) rfl ?_)
    exact ⟨rfl, HH.out⟩
end
end Go.Proofs.Ytfcappjodichlaa
