/- The live question of layer 18, and how its acts are read. -/
import Derived.Test.YtfcappjodichlaaBucket
import Derived.Test.YtfcappjodichlaaRow
namespace Go.Proofs.Ytfcappjodichlaa
open Go.RowKit
set_option maxRecDepth 100000 in
set_option maxHeartbeats 1600000 in
theorem alive18_c (ε w : World) (L : List Asn) (H : Own ε w L) :
    Calls Try.prog 56 #[] w fun e w' => e = .returned (.bool true) ∧ Own ε w' L := by
  have HH := Lib.hid H; clear H
  have u (n : Int) (h0 : 0 ≤ n) (h1 : n ≤ 100000000) : U n := ⟨h0, by omega⟩
  have s1 : (Bkt.new 2000000).to 10 = ⟨2000000, 10, 20000000, 0⟩ := by rfl
  have s2 : (⟨2000000, 10, 20000000, 0⟩ : Bkt).take 21 = (false, ⟨2000000, 10, 20000000, 0⟩) := by rfl
  have s3 : (⟨2000000, 10, 20000000, 0⟩ : Bkt).take 15 = (true, ⟨2000000, 10, 5000000, 0⟩) := by rfl
  have s4 : (⟨2000000, 10, 5000000, 0⟩ : Bkt).waste 9000000 = (5000000, ⟨2000000, 10, 0, 5000000⟩) := by rfl
  have s5 : (⟨2000000, 10, 0, 5000000⟩ : Bkt).to 5 = ⟨2000000, 10, 0, 5000000⟩ := by rfl
  replace s1 := Lib.hid s1; replace s2 := Lib.hid s2; replace s3 := Lib.hid s3; replace s4 := Lib.hid s4; replace s5 := Lib.hid s5
  have o1 : Bkt.Ok ⟨2000000, 10, 20000000, 0⟩ := ⟨u _ (by decide) (by decide), u _ (by decide) (by decide), u _ (by decide) (by decide), u _ (by decide) (by decide)⟩
  have o2 : Bkt.Ok ⟨2000000, 10, 5000000, 0⟩ := ⟨u _ (by decide) (by decide), u _ (by decide) (by decide), u _ (by decide) (by decide), u _ (by decide) (by decide)⟩
  have o3 : Bkt.Ok ⟨2000000, 10, 0, 5000000⟩ := ⟨u _ (by decide) (by decide), u _ (by decide) (by decide), u _ (by decide) (by decide), u _ (by decide) (by decide)⟩
  go_enter Try.func56, Try.ntmps56
  go_wp2_with fail
  refine (bktNew_c ε _ 2000000 HH.out).mono ?_
  rintro e w1 ⟨b, rfl, H1⟩
  replace H1 := Lib.hid H1
  go_wp2_with fail
  refine (bktTo_c ε w1 L b (Bkt.new 2000000) 10 (Bkt.ok_new (u _ (by decide) (by decide))) (u _ (by decide) (by decide)) H1.out).mono ?_
  rw [s1.out]
  rintro e w2 ⟨rfl, H2⟩
  replace H2 := Lib.hid H2
  go_wp2_with fail
  refine (bktTake_c ε w2 L b _ 21 o1 (u _ (by decide) (by decide)) H2.out).mono ?_
  rw [s2.out]
  rintro e w3 ⟨rfl, H3⟩
  replace H3 := Lib.hid H3
  go_wp2_with fail
  refine (bktTake_c ε w3 L b _ 15 o1 (u _ (by decide) (by decide)) H3.out).mono ?_
  rw [s3.out]
  rintro e w4 ⟨rfl, H4⟩
  replace H4 := Lib.hid H4
  go_wp2_with fail
  refine (bktWaste_c ε w4 L b _ 9000000 o2 (u _ (by decide) (by decide)) H4.out).mono ?_
  rw [s4.out]
  rintro e w5 ⟨rfl, H5⟩
  replace H5 := Lib.hid H5
  go_wp2_with fail
  refine (bktTo_c ε w5 L b _ 5 o3 (u _ (by decide) (by decide)) H5.out).mono ?_
  rw [s5.out]
  rintro e w6 ⟨rfl, H6⟩
  replace H6 := Lib.hid H6
  go_wp2_with fail
  refine (bktTokens_c ε w6 L b _ H6.out).mono ?_
  rintro e w' ⟨rfl, rfl⟩
  go_wp2_with fail
  refine (bktWasted_c ε w6 L b _ H6.out).mono ?_
  rintro e w' ⟨rfl, rfl⟩
  go_wp2_with fail
  go_ret
  exact ⟨rfl, H6.out.tail⟩
abbrev ActB := Int × Int × Unit
def rdActB : Rd ActB := rdPair (rdInt .u8) (rdPair (rdInt .u64) rdUnit)
theorem rdActB_open {w : World} {c : List Value} {x : ActB} (h : rdActB w c x) : c = [.int .u8 x.1, .int .u64 x.2.1] ∧ (0 ≤ x.1 ∧ x.1 ≤ 255) ∧ U x.2.1 := by
  obtain ⟨c1, c2, rfl, ⟨rfl, hv⟩, c3, c4, rfl, ⟨rfl, hw⟩, rfl⟩ := h
  exact ⟨rfl, by simpa [Lit.wf, IntKind.min, IntKind.max, IntKind.signed, IntKind.bits] using hv, U_of_wf hw⟩
end Go.Proofs.Ytfcappjodichlaa
