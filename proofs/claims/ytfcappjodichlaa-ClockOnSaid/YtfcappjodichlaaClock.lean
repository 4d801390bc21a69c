/- clock, and its reference: what their calls do to a clock's state. -/
import Derived.Test.YtfcappjodichlaaFix
namespace Go.Proofs.Ytfcappjodichlaa
open Go.RowKit
structure Clk where
  t : Int
  n : Int
  past : Bool
def Clk.zero : Clk := ⟨0, 0, false⟩
def Clk.Ok (s : Clk) : Prop := 0 ≤ s.t ∧ s.t ≤ 4398046511104 ∧ 0 ≤ s.n ∧ s.n ≤ 72057594037927936
def Clk.to (s : Clk) (t : Int) : Int × Clk := if s.past = true then (3, s) else if t < s.t then (2, s) else if 4398046511104 < t then (3, ⟨s.t, s.n, true⟩) else (0, ⟨t, s.n, s.past⟩)
def Clk.count (s : Clk) (n : Int) : Int × Clk := if s.past = true then (3, s) else if 72057594037927936 < s.n + n then (3, ⟨s.t, s.n, true⟩) else (0, ⟨s.t, s.n + n, s.past⟩)
theorem Clk.ok_zero : Clk.zero.Ok := by unfold Clk.zero Clk.Ok; exact ⟨by decide, by decide, by decide, by decide⟩
theorem Clk.ok_to {s : Clk} {t : Int} (h : s.Ok) : (s.to t).2.Ok := by
  unfold Clk.Ok at h ⊢; unfold Clk.to; repeat' split
  all_goals (refine ⟨?_, ?_, ?_, ?_⟩ <;> simp only <;> omega)
theorem Clk.ok_count {s : Clk} {n : Int} (hn : 0 ≤ n) (h : s.Ok) : (s.count n).2.Ok := by
  unfold Clk.Ok at h ⊢; unfold Clk.count; repeat' split
  all_goals (refine ⟨?_, ?_, ?_, ?_⟩ <;> simp only <;> omega)

def clk (b : Nat) (s : Clk) : Asn := pts b (.cells #[.int .u64 s.t, .int .u64 s.n, .bool s.past] 133 (0, 0))
def rclk (b : Nat) (s : Clk) : Asn := pts b (.cells #[.int .u64 s.t, .int .u64 s.n, .bool s.past] 72 (0, 0))
section
variable (ε w : World) (R : List Asn) (b : Nat) (s : Clk)
set_option maxHeartbeats 400000 in
theorem clkNew_c {L : List Asn} (H : Own ε w L) :
    Calls Try.prog 43 #[] w fun e w' => ∃ b, e = .returned (.pointer (some ⟨b, 0, none⟩)) ∧ Own ε w' (clk b Clk.zero :: L) := by
  have HH := Lib.hid H; clear H
  go_enter Try.func43, Try.ntmps43
  go_wp2
  go_ret
  exact ⟨_, rfl, HH.out.alloc _⟩
set_option maxHeartbeats 400000 in
theorem clkEnd_c (H : Own ε w (clk b s :: R)) :
    Calls Try.prog 84 #[.pointer (some ⟨b, 0, none⟩)] w fun e w' => e = .returned (.int .i64 3) ∧ Own ε w' (clk b ⟨s.t, s.n, true⟩ :: R) := by
  obtain ⟨t, n, past⟩ := s
  obtain ⟨c0, f0⟩ := H.cells
  have HH := Lib.hid H; clear H
  go_enter Try.func84, Try.ntmps84
  go_wp2
  go_ret
  exact ⟨rfl, HH.out.set 2 (.bool true)⟩
set_option maxHeartbeats 400000 in
theorem clkTo_c (t : Int) (H : Own ε w (clk b s :: R)) :
    Calls Try.prog 46 #[.pointer (some ⟨b, 0, none⟩), .int .u64 t] w fun e w' => e = .returned (.int .i64 (s.to t).1) ∧ Own ε w' (clk b (s.to t).2 :: R) := by
  obtain ⟨st, n, past⟩ := s
  obtain ⟨c0, f0⟩ := H.cells
  have HH := Lib.hid H; clear H
  cases past with
  | true =>
    go_enter Try.func46, Try.ntmps46
    go_wp2
    go_ret
    exact ⟨rfl, HH.out⟩
  | false =>
    by_cases h1 : t < st
    · have e : (⟨st, n, false⟩ : Clk).to t = (2, ⟨st, n, false⟩) := by simp [Clk.to, h1]
      rw [e]; clear e
      go_enter Try.func46, Try.ntmps46
      go_wp2
      go_ret
      exact ⟨rfl, HH.out⟩
    · by_cases h2 : 4398046511104 < t
      · have e : (⟨st, n, false⟩ : Clk).to t = (3, ⟨st, n, true⟩) := by simp [Clk.to, h1, h2]
        rw [e]; clear e
        go_enter Try.func46, Try.ntmps46
        go_wp2_with (go_at_call 84; refine (clkEnd_c ε _ R b ⟨st, n, false⟩ HH.out).mono ?_; rintro e w' ⟨rfl, H1⟩)
        go_ret
        exact ⟨rfl, H1⟩
      · have e : (⟨st, n, false⟩ : Clk).to t = (0, ⟨t, n, false⟩) := by simp [Clk.to, h1, h2]
        rw [e]; clear e
        go_enter Try.func46, Try.ntmps46
        go_wp2
        go_ret
        exact ⟨rfl, HH.out.set 0 (.int .u64 t)⟩
theorem clkTo_nil (t : Int) : Calls Try.prog 46 #[.pointer none, .int .u64 t] w fun e w' => e = .returned (.int .i64 1) ∧ w = w' := by
  go_enter Try.func46, Try.ntmps46
  go_wp2
  go_ret
  exact ⟨rfl, rfl⟩
set_option maxHeartbeats 400000 in
theorem clkCount_c (n : Int) (hn : U n) (hs : s.Ok) (H : Own ε w (clk b s :: R)) :
    Calls Try.prog 44 #[.pointer (some ⟨b, 0, none⟩), .int .u64 n] w fun e w' => e = .returned (.int .i64 (s.count n).1) ∧ Own ε w' (clk b (s.count n).2 :: R) := by
  obtain ⟨st, sn, past⟩ := s
  obtain ⟨c0, f0⟩ := H.cells
  have hlt := H.lt
  have HH := Lib.hid H; clear H
  cases past with
  | true =>
    go_enter Try.func44, Try.ntmps44
    go_wp2
    go_ret
    exact ⟨rfl, HH.out⟩
  | false =>
    obtain ⟨hs1, hs2, hs3, hs4⟩ := hs
    simp only at hs1 hs2 hs3 hs4
    have hU : U sn := ⟨hs3, by omega⟩
    by_cases h1 : 72057594037927936 < sn + n
    · have e : (⟨st, sn, false⟩ : Clk).count n = (3, ⟨st, sn, true⟩) := by simp [Clk.count, h1]
      rw [e]; clear e
      have h2 : 72057594037927936 < sadd sn n := by unfold sadd; split <;> omega
      go_enter Try.func44, Try.ntmps44
      go_wp2_with fail
      refine (fixAdd2_c _ _ sn n hU hn (cell_new _ _ _ 0) (cell_new _ _ _ 1)).mono ?_
      rintro e w' ⟨rfl, rfl⟩
      go_wp2_with (go_at_call 84; refine (clkEnd_c ε _ R b ⟨st, sn, false⟩ (HH.out.alloc _).tail).mono ?_; rintro e w' ⟨rfl, H1⟩)
      go_ret
      exact ⟨rfl, H1⟩
    · have e : (⟨st, sn, false⟩ : Clk).count n = (0, ⟨st, sn + n, false⟩) := by simp [Clk.count, h1]
      rw [e]; clear e
      have h2 : ¬ 72057594037927936 < sadd sn n := by unfold sadd; unfold U at hn; split <;> omega
      go_enter Try.func44, Try.ntmps44
      go_wp2_with fail
      refine (fixAdd2_c _ _ sn n hU hn (cell_new _ _ _ 0) (cell_new _ _ _ 1)).mono ?_
      rintro e w' ⟨rfl, rfl⟩
      have hn1 := hn.1
      go_wp2
      go_ret
      exact ⟨rfl, ((HH.out.set 1 (.int .u64 (sn + n))).alloc _).tail⟩
set_option maxHeartbeats 400000 in
theorem clkCount_nil (n : Int) : Calls Try.prog 44 #[.pointer none, .int .u64 n] w fun e w' => e = .returned (.int .i64 1) ∧ w = w' := by
  go_enter Try.func44, Try.ntmps44
  go_wp2
  go_ret
  exact ⟨rfl, rfl⟩
theorem clkTime_c (H : Own ε w (clk b s :: R)) :
    Calls Try.prog 48 #[.pointer (some ⟨b, 0, none⟩)] w fun e w' => e = .returned (.int .u64 s.t) ∧ w = w' := by
  obtain ⟨st, n, past⟩ := s
  obtain ⟨c0, f0⟩ := H.cells
  clear H
  go_enter Try.func48, Try.ntmps48
  go_wp2
  go_ret
  exact ⟨rfl, rfl⟩
theorem clkTime_nil : Calls Try.prog 48 #[.pointer none] w fun e w' => e = .returned (.int .u64 0) ∧ w = w' := by
  go_enter Try.func48, Try.ntmps48
  go_wp2
  go_ret
  exact ⟨rfl, rfl⟩
theorem clkBytes_c (H : Own ε w (clk b s :: R)) :
    Calls Try.prog 49 #[.pointer (some ⟨b, 0, none⟩)] w fun e w' => e = .returned (.int .u64 s.n) ∧ w = w' := by
  obtain ⟨st, n, past⟩ := s
  obtain ⟨c0, f0⟩ := H.cells
  clear H
  go_enter Try.func49, Try.ntmps49
  go_wp2
  go_ret
  exact ⟨rfl, rfl⟩
theorem clkBytes_nil : Calls Try.prog 49 #[.pointer none] w fun e w' => e = .returned (.int .u64 0) ∧ w = w' := by
  go_enter Try.func49, Try.ntmps49
  go_wp2
  go_ret
  exact ⟨rfl, rfl⟩
theorem clkPast_c (H : Own ε w (clk b s :: R)) :
    Calls Try.prog 50 #[.pointer (some ⟨b, 0, none⟩)] w fun e w' => e = .returned (.bool s.past) ∧ w = w' := by
  obtain ⟨st, n, past⟩ := s
  obtain ⟨c0, f0⟩ := H.cells
  clear H
  go_enter Try.func50, Try.ntmps50
  go_wp2
  go_ret
  exact ⟨rfl, rfl⟩
theorem clkPast_nil : Calls Try.prog 50 #[.pointer none] w fun e w' => e = .returned (.bool false) ∧ w = w' := by
  go_enter Try.func50, Try.ntmps50
  go_wp2
  go_ret
  exact ⟨rfl, rfl⟩
set_option maxHeartbeats 400000 in
theorem rclkTo_c (t : Int) (H : Own ε w (rclk b s :: R)) :
    Calls Try.prog 47 #[.pointer (some ⟨b, 0, none⟩), .int .u64 t] w fun e w' => e = .returned (.int .i64 (s.to t).1) ∧ Own ε w' (rclk b (s.to t).2 :: R) := by
  obtain ⟨st, n, past⟩ := s
  obtain ⟨c0, f0⟩ := H.cells
  have HH := Lib.hid H; clear H
  cases past with
  | true =>
    go_enter Try.func47, Try.ntmps47
    go_wp2
    go_ret
    exact ⟨rfl, HH.out⟩
  | false =>
    by_cases h1 : t < st
    · have e : (⟨st, n, false⟩ : Clk).to t = (2, ⟨st, n, false⟩) := by simp [Clk.to, h1]
      rw [e]; clear e
      go_enter Try.func47, Try.ntmps47
      go_wp2
      go_ret
      exact ⟨rfl, HH.out⟩
    · by_cases h2 : 4398046511104 < t
      · have e : (⟨st, n, false⟩ : Clk).to t = (3, ⟨st, n, true⟩) := by simp [Clk.to, h1, h2]
        rw [e]; clear e
        go_enter Try.func47, Try.ntmps47
        go_wp2
        go_ret
        exact ⟨rfl, HH.out.set 2 (.bool true)⟩
      · have e : (⟨st, n, false⟩ : Clk).to t = (0, ⟨t, n, false⟩) := by simp [Clk.to, h1, h2]
        rw [e]; clear e
        go_enter Try.func47, Try.ntmps47
        go_wp2
        go_ret
        exact ⟨rfl, HH.out.set 0 (.int .u64 t)⟩
set_option maxHeartbeats 400000 in
theorem rclkCount_c (n : Int) (hn : U n) (hs : s.Ok) (H : Own ε w (rclk b s :: R)) :
    Calls Try.prog 45 #[.pointer (some ⟨b, 0, none⟩), .int .u64 n] w fun e w' => e = .returned (.int .i64 (s.count n).1) ∧ Own ε w' (rclk b (s.count n).2 :: R) := by
  obtain ⟨st, sn, past⟩ := s
  obtain ⟨c0, f0⟩ := H.cells
  have HH := Lib.hid H; clear H
  cases past with
  | true =>
    go_enter Try.func45, Try.ntmps45
    go_wp2
    go_ret
    exact ⟨rfl, HH.out⟩
  | false =>
    obtain ⟨hs1, hs2, hs3, hs4⟩ := hs
    simp only at hs1 hs2 hs3 hs4
    have hn1 := hn.1
    by_cases h1 : 72057594037927936 < n
    · have e : (⟨st, sn, false⟩ : Clk).count n = (3, ⟨st, sn, true⟩) := by simp [Clk.count]; omega
      rw [e]; clear e
      go_enter Try.func45, Try.ntmps45
      go_wp2
      go_ret
      exact ⟨rfl, HH.out.set 2 (.bool true)⟩
    · by_cases h2 : 72057594037927936 - n < sn
      · have e : (⟨st, sn, false⟩ : Clk).count n = (3, ⟨st, sn, true⟩) := by simp [Clk.count]; omega
        rw [e]; clear e
        go_enter Try.func45, Try.ntmps45
        go_wp2
        go_ret
        exact ⟨rfl, HH.out.set 2 (.bool true)⟩
      · have e : (⟨st, sn, false⟩ : Clk).count n = (0, ⟨st, sn + n, false⟩) := by simp [Clk.count]; omega
        rw [e]; clear e
        go_enter Try.func45, Try.ntmps45
        go_wp2
        go_ret
        exact ⟨rfl, HH.out.set 1 (.int .u64 (sn + n))⟩
end
end Go.Proofs.Ytfcappjodichlaa
