/- The live question of layer 11. -/
import Derived.Test.YtfcappjodichlaaRound
import Derived.Test.YtfcappjodichlaaRow
namespace Go.Proofs.Ytfcappjodichlaa
open Go.RowKit
set_option maxRecDepth 100000 in
set_option maxHeartbeats 1600000 in
theorem alive11_c (ε w : World) (L : List Asn) (H : Own ε w L) :
    Calls Try.prog 26 #[] w fun e w' => e = .returned (.bool true) ∧ Own ε w' L := by
  have HH := Lib.hid H; clear H
  have u (n : Int) (h0 : 0 ≤ n) (h1 : n ≤ 1000) : U n := ⟨h0, by omega⟩
  have p1 : Pip.zero.put 100 true false = ⟨100, 0⟩ := by rfl
  have p2 : (⟨100, 0⟩ : Pip).put 124 true false = ⟨100, 1⟩ := by rfl
  have p3 : (⟨100, 1⟩ : Pip).put 130 true false = ⟨130, 0⟩ := by rfl
  have p4 : (⟨130, 0⟩ : Pip).put 1 true true = ⟨130, 0⟩ := by rfl
  have a1 : Ctr.zero.ack 0 100 = (true, ⟨100, 1⟩) := by rfl
  have a2 : (⟨100, 1⟩ : Ctr).ack 99 200 = (false, ⟨100, 1⟩) := by rfl
  have a3 : (⟨100, 1⟩ : Ctr).ack 100 300 = (true, ⟨300, 2⟩) := by rfl
  replace p1 := Lib.hid p1; replace p2 := Lib.hid p2; replace p3 := Lib.hid p3; replace p4 := Lib.hid p4
  replace a1 := Lib.hid a1; replace a2 := Lib.hid a2; replace a3 := Lib.hid a3
  go_enter Try.func26, Try.ntmps26
  go_wp2_with fail
  refine (ctrNew_c ε _ HH.out).mono ?_
  rintro e w1 ⟨b, rfl, H1⟩
  replace H1 := Lib.hid H1
  go_wp2_with fail
  refine (ctrAck_c ε w1 L b Ctr.zero 0 100 H1.out).mono ?_
  rw [a1.out]
  rintro e w2 ⟨rfl, H2⟩
  replace H2 := Lib.hid H2
  go_wp2_with fail
  refine (ctrAck_c ε w2 L b ⟨100, 1⟩ 99 200 H2.out).mono ?_
  rw [a2.out]
  rintro e w3 ⟨rfl, H3⟩
  replace H3 := Lib.hid H3
  go_wp2_with fail
  refine (ctrAck_c ε w3 L b ⟨100, 1⟩ 100 300 H3.out).mono ?_
  rw [a3.out]
  rintro e w4 ⟨rfl, H4⟩
  replace H4 := Lib.hid H4
  go_wp2_with fail
  refine (pipNew_c ε w4 H4.out).mono ?_
  rintro e w5 ⟨p, rfl, H5⟩
  replace H5 := Lib.hid H5
  go_wp2_with fail
  refine (pipPut_c ε w5 _ p Pip.zero 100 true false (u _ (by decide) (by decide)) Pip.ok_zero H5.out).mono ?_
  rw [p1.out]
  rintro e w6 ⟨rfl, H6⟩
  replace H6 := Lib.hid H6
  go_wp2_with fail
  refine (pipPut_c ε w6 _ p ⟨100, 0⟩ 124 true false (u _ (by decide) (by decide)) ⟨u _ (by decide) (by decide), by decide, by decide⟩ H6.out).mono ?_
  rw [p2.out]
  rintro e w7 ⟨rfl, H7⟩
  replace H7 := Lib.hid H7
  go_wp2_with fail
  refine (pipPut_c ε w7 _ p ⟨100, 1⟩ 130 true false (u _ (by decide) (by decide)) ⟨u _ (by decide) (by decide), by decide, by decide⟩ H7.out).mono ?_
  rw [p3.out]
  rintro e w8 ⟨rfl, H8⟩
  replace H8 := Lib.hid H8
  go_wp2_with fail
  refine (pipPut_c ε w8 _ p ⟨130, 0⟩ 1 true true (u _ (by decide) (by decide)) ⟨u _ (by decide) (by decide), by decide, by decide⟩ H8.out).mono ?_
  rw [p4.out]
  rintro e w9 ⟨rfl, H9⟩
  replace H9 := Lib.hid H9
  go_wp2_with fail
  go_loopw [6] (fun i wr => ∃ (k : Nat), k ≤ 3 ∧ i = .int .i64 k ∧ Own ε wr (pip p ⟨130, k⟩ :: ctr b ⟨300, 2⟩ :: L)) (fun i _ => 3 - (intOf i).toNat)
  case atStart => exact ⟨0, by omega, rfl, H9.out⟩
  case round =>
    obtain ⟨k, hk, rfl, HR⟩ := hrel
    replace HR := Lib.hid HR
    clear H1 H2 H3 H4 H5 H6 H7 H8 H9
    by_cases hlt : k < 3
    · have pk : (⟨130, k⟩ : Pip).put 150 true false = ⟨130, k + 1⟩ := by
        unfold Pip.put
        rw [if_neg (by rintro (q | q | q); simp only at q; omega; cases q; cases q), if_neg (show ¬ smul 130 5 ≤ smul 150 4 by decide)]
      replace pk := Lib.hid pk
      go_wp2_with fail
      refine (pipPut_c ε wr _ p ⟨130, k⟩ 150 true false (u _ (by decide) (by decide)) ⟨show U 130 from u _ (by decide) (by decide), by simp only; omega, by simp only; omega⟩ HR.out).mono ?_
      rw [pk.out]
      rintro e w10 ⟨rfl, HT⟩
      replace HT := Lib.hid HT
      go_wp2_with fail
      go_roundw
      case rel => exact ⟨k + 1, by omega, by go_num, HT.out⟩
      case measure => simp [intOf]; omega
    · obtain rfl : k = 3 := by omega
      go_wp2_with fail
      refine (ctrCount_c ε wr L b ⟨300, 2⟩ HR.out.tail).mono ?_
      rintro e w' ⟨rfl, rfl⟩
      go_wp2_with fail
      refine (pipFull_c ε wr (ctr b ⟨300, 2⟩ :: L) p ⟨130, 3⟩ HR.out).mono ?_
      rintro e w' ⟨rfl, rfl⟩
      go_wp2_with fail
      refine (pipBest_c ε wr (ctr b ⟨300, 2⟩ :: L) p ⟨130, 3⟩ HR.out).mono ?_
      rintro e w' ⟨rfl, rfl⟩
      go_wp2_with fail
      go_ret
      exact ⟨rfl, HR.out.tail.tail⟩
end Go.Proofs.Ytfcappjodichlaa
