/- The live question of layer 2, and how its acts are read. -/
import Derived.Test.YtfcappjodichlaaClock
import Derived.Test.YtfcappjodichlaaRow
namespace Go.Proofs.Ytfcappjodichlaa
open Go.RowKit
set_option maxHeartbeats 800000 in
theorem alive02_c (ε w : World) (L : List Asn) (H : Own ε w L) :
    Calls Try.prog 42 #[] w fun e w' => e = .returned (.bool true) ∧ Own ε w' L := by
  have HH := Lib.hid H; clear H
  go_enter Try.func42, Try.ntmps42
  go_wp2_with fail
  refine (clkNew_c ε _ HH.out).mono ?_
  rintro e w1 ⟨b, rfl, H1⟩
  replace H1 := Lib.hid H1
  go_wp2_with fail
  refine (show Calls _ _ _ _ _ from clkTo_c ε w1 L b Clk.zero 5 H1.out).mono ?_
  rw [show Clk.zero.to 5 = (0, ⟨5, 0, false⟩) by simp [Clk.to, Clk.zero]]
  rintro e w2 ⟨rfl, H2⟩
  replace H2 := Lib.hid H2
  go_wp2_with fail
  refine (clkTo_c ε w2 L b ⟨5, 0, false⟩ 4 H2.out).mono ?_
  rw [show (⟨5, 0, false⟩ : Clk).to 4 = (2, ⟨5, 0, false⟩) by simp [Clk.to]]
  rintro e w3 ⟨rfl, H3⟩
  replace H3 := Lib.hid H3
  go_wp2_with fail
  refine (clkCount_c ε w3 L b ⟨5, 0, false⟩ 7 (by unfold U; omega) (by unfold Clk.Ok; simp) H3.out).mono ?_
  rw [show (⟨5, 0, false⟩ : Clk).count 7 = (0, ⟨5, 7, false⟩) by simp [Clk.count]]
  rintro e w4 ⟨rfl, H4⟩
  replace H4 := Lib.hid H4
  go_wp2_with fail
  refine (clkTo_c ε w4 L b ⟨5, 7, false⟩ 4398046511105 H4.out).mono ?_
  rw [show (⟨5, 7, false⟩ : Clk).to 4398046511105 = (3, ⟨5, 7, true⟩) by simp [Clk.to]]
  rintro e w5 ⟨rfl, H5⟩
  replace H5 := Lib.hid H5
  go_wp2_with fail
  refine (clkCount_c ε w5 L b ⟨5, 7, true⟩ 1 (by unfold U; omega) (by unfold Clk.Ok; simp) H5.out).mono ?_
  rw [show (⟨5, 7, true⟩ : Clk).count 1 = (3, ⟨5, 7, true⟩) by simp [Clk.count]]
  rintro e w6 ⟨rfl, H6⟩
  replace H6 := Lib.hid H6
  go_wp2_with fail
  refine (clkTime_c ε w6 L b ⟨5, 7, true⟩ H6.out).mono ?_
  rintro e w7 ⟨rfl, rfl⟩
  go_wp2_with fail
  refine (clkBytes_c ε w6 L b ⟨5, 7, true⟩ H6.out).mono ?_
  rintro e w7 ⟨rfl, rfl⟩
  go_wp2_with fail
  refine (clkPast_c ε w6 L b ⟨5, 7, true⟩ H6.out).mono ?_
  rintro e w7 ⟨rfl, rfl⟩
  go_wp2_with fail
  go_ret
  exact ⟨rfl, H6.out.tail⟩
abbrev ActC := Bool × Int × Unit
def rdActC : Rd ActC := rdPair rdBool (rdPair (rdInt .u64) rdUnit)
theorem rdActC_open {w : World} {c : List Value} {x : ActC} (h : rdActC w c x) : c = [.bool x.1, .int .u64 x.2.1] ∧ U x.2.1 := by
  obtain ⟨c1, c2, rfl, rfl, c3, c4, rfl, ⟨rfl, hw⟩, rfl⟩ := h
  exact ⟨rfl, U_of_wf hw⟩
end Go.Proofs.Ytfcappjodichlaa
