/- fix's laws: near, whole, rises. -/
import Derived.Test.YtnffoiocejfppaaFix01
import Derived.Test.YtnffoiocejfppaaFixP
namespace Go.Proofs.Ytnffoiocejfppaa
open Go.RowKit
theorem beq_no {a b : Int} (h : a ≠ b) : (a == b) = false := by simpa using h
theorem bne_yes {a b : Int} (h : a ≠ b) : (a != b) = true := by simpa using h
section
variable (w : World) (a : Int) (ha : (Lit.int .u64 a).wf = true) (b : Int) (hb : (Lit.int .u64 b).wf = true) (c : Int) (hc : (Lit.int .u64 c).wf = true)
include ha hb hc
set_option maxHeartbeats 1600000 in
theorem fixNear_c :
    Calls Try.prog 5 #[.int .u64 a, .int .u64 b, .int .u64 c] w fun e w' => e = .returned (.bool true) ∧ Own w w' [old w] := by
  have HH := Lib.hid (Own.init w)
  replace ha := Lib.hid (U_of_wf ha)
  replace hb := Lib.hid (U_of_wf hb)
  replace hc := Lib.hid (U_of_wf hc)
  have N1 := near1 (c := c) ha.out hb.out
  have N2 := near2 ha.out hb.out hc.out
  have Ux := Lib.hid (U_sshare (c := c) ha.out hb.out)
  have Uy := Lib.hid (U_sover (c := c) ha.out hb.out)
  replace N1 := Lib.hid N1
  replace N2 := Lib.hid N2
  go_enter Try.func5, Try.ntmps5
  go_wp2_with fail
  refine (fixShare_c _ _ _ _ ha.out hb.out hc.out).mono ?_
  rintro e w3 ⟨rfl, hbel⟩
  replace HH := Lib.hid ((by first | exact Kp.same hbel | exact Kp.drew hbel | exact Kp.below hbel : Kp _ w3) _ _ (by first | exact HH.out | exact HH.out.drewN _ | exact (HH.out.alloc _).tail | exact ((HH.out.alloc _).drewN _).tail | exact ((HH.out.alloc _).alloc _).tail.tail))
  clear hbel
  go_wp2_with fail
  refine (fixOver_c _ _ _ _ ha.out hb.out hc.out).mono ?_
  rintro e w4 ⟨rfl, hbel⟩
  replace HH := Lib.hid ((by first | exact Kp.same hbel | exact Kp.drew hbel | exact Kp.below hbel : Kp _ w4) _ _ (by first | exact HH.out | exact HH.out.drewN _ | exact (HH.out.alloc _).tail | exact ((HH.out.alloc _).drewN _).tail | exact ((HH.out.alloc _).alloc _).tail.tail))
  clear hbel
  go_wp2_with fail
  refine (fixMul_c _ _ _ ha.out hb.out).mono ?_
  rintro e w5 ⟨rfl, hbel⟩
  replace HH := Lib.hid ((by first | exact Kp.same hbel | exact Kp.drew hbel | exact Kp.below hbel : Kp _ w5) _ _ (by first | exact HH.out | exact HH.out.drewN _ | exact (HH.out.alloc _).tail | exact ((HH.out.alloc _).drewN _).tail | exact ((HH.out.alloc _).alloc _).tail.tail))
  clear hbel
  generalize sshare a b c = x at *
  generalize smul a b = p at *
  have hcU := hc.out
  unfold U at hcU
  have hxU := Ux.out
  unfold U at hxU
  have alive : ∀ w', Own w w' [old w] → Calls Try.prog 16 #[] w' fun e w' => e = .returned (.bool true) ∧ Own w w' [old w] := fun w' H => alive01_c _ _ _ H
  rcases N1.out with hN | ⟨hN, h0, h1⟩
  · replace hN := hN.symm
    generalize sover a b c = y at *
    subst hN
    clear hxU hcU
    by_cases hx : x = 18446744073709551615
    · subst hx
      go_wp2_with fail
      refine (alive _ HH.out).mono ?_
      rintro e w6 ⟨rfl, H2⟩
      replace HH := Lib.hid H2
      go_wp2_with fail
      go_ret
      exact ⟨rfl, HH.out⟩
    by_cases hp : p = 18446744073709551615
    · subst hp
      go_wp2_with fail
      refine (alive _ HH.out).mono ?_
      rintro e w6 ⟨rfl, H2⟩
      replace HH := Lib.hid H2
      go_wp2_with fail
      go_ret
      exact ⟨rfl, HH.out⟩
    by_cases hc0 : c = 0
    · subst hc0
      go_wp2_with fail
      refine (alive _ HH.out).mono ?_
      rintro e w6 ⟨rfl, H2⟩
      replace HH := Lib.hid H2
      go_wp2_with fail
      go_ret
      exact ⟨rfl, HH.out⟩
    obtain ⟨m1, m2, m3⟩ := N2.out hx hp hc0
    have m3' : p = smul x c := Int.le_antisymm m2 m1
    replace m3' := Lib.hid m3'
    clear m1 m2 m3
    have t1 := beq_no hx
    have t2 := beq_no hp
    have t3 := beq_no hc0
    go_wp2_with fail
    refine (alive _ HH.out).mono ?_
    rintro e w6 ⟨rfl, H2⟩
    replace HH := Lib.hid H2
    go_wp2_with fail
    refine (fixMul_c _ _ _ Ux.out hc.out).mono ?_
    rintro e w7 ⟨rfl, hbel⟩
    replace HH := Lib.hid ((by first | exact Kp.same hbel | exact Kp.drew hbel | exact Kp.below hbel : Kp _ w7) _ _ (by first | exact HH.out | exact HH.out.drewN _ | exact (HH.out.alloc _).tail | exact ((HH.out.alloc _).drewN _).tail | exact ((HH.out.alloc _).alloc _).tail.tail))
    clear hbel
    rw [← m3'.out]
    go_wp2_with fail
    refine (fixMul_c _ _ _ Ux.out hc.out).mono ?_
    rintro e w8 ⟨rfl, hbel⟩
    replace HH := Lib.hid ((by first | exact Kp.same hbel | exact Kp.drew hbel | exact Kp.below hbel : Kp _ w8) _ _ (by first | exact HH.out | exact HH.out.drewN _ | exact (HH.out.alloc _).tail | exact ((HH.out.alloc _).drewN _).tail | exact ((HH.out.alloc _).alloc _).tail.tail))
    clear hbel
    rw [← m3'.out]
    go_wp2_with fail
    refine (fixMul_c _ _ _ Ux.out hc.out).mono ?_
    rintro e w9 ⟨rfl, hbel⟩
    replace HH := Lib.hid ((by first | exact Kp.same hbel | exact Kp.drew hbel | exact Kp.below hbel : Kp _ w9) _ _ (by first | exact HH.out | exact HH.out.drewN _ | exact (HH.out.alloc _).tail | exact ((HH.out.alloc _).drewN _).tail | exact ((HH.out.alloc _).alloc _).tail.tail))
    clear hbel
    rw [← m3'.out]
    go_wp2_with fail
    go_ret
    exact ⟨rfl, HH.out⟩
  · generalize sover a b c = y at *
    have t4 := beq_no (show x + 1 ≠ 0 by omega)
    have t5 := bne_yes (show x + 1 ≠ x by omega)
    have t6 : (x == x + 1) = false := beq_no (show x ≠ x + 1 by omega)
    by_cases hx : x = 18446744073709551615
    · omega
    by_cases hp : p = 18446744073709551615
    · subst hp
      subst hN
      go_wp2_with fail
      refine (alive _ HH.out).mono ?_
      rintro e w6 ⟨rfl, H2⟩
      replace HH := Lib.hid H2
      go_wp2_with fail
      go_ret
      exact ⟨rfl, HH.out⟩
    by_cases hc0 : c = 0
    · subst hc0
      subst hN
      go_wp2_with fail
      refine (alive _ HH.out).mono ?_
      rintro e w6 ⟨rfl, H2⟩
      replace HH := Lib.hid H2
      go_wp2_with fail
      go_ret
      exact ⟨rfl, HH.out⟩
    obtain ⟨m1, m2, m3⟩ := N2.out hx hp hc0
    have m4 : smul x c ≠ p := fun h => by have := m3.2 h; omega
    clear m3
    subst hN
    replace m1 := Lib.hid m1
    replace m2 := Lib.hid m2
    replace m4 := Lib.hid m4
    have t1 := beq_no hx
    have t2 := beq_no hp
    have t3 := beq_no hc0
    go_wp2_with fail
    refine (alive _ HH.out).mono ?_
    rintro e w6 ⟨rfl, H2⟩
    replace HH := Lib.hid H2
    go_wp2_with fail
    refine (fixMul_c _ _ _ Ux.out hc.out).mono ?_
    rintro e w7 ⟨rfl, hbel⟩
    replace HH := Lib.hid ((by first | exact Kp.same hbel | exact Kp.drew hbel | exact Kp.below hbel : Kp _ w7) _ _ (by first | exact HH.out | exact HH.out.drewN _ | exact (HH.out.alloc _).tail | exact ((HH.out.alloc _).drewN _).tail | exact ((HH.out.alloc _).alloc _).tail.tail))
    clear hbel
    have k1 := m1.out
    go_wp2_with fail
    refine (fixMul_c _ _ _ Uy.out hc.out).mono ?_
    rintro e w8 ⟨rfl, hbel⟩
    replace HH := Lib.hid ((by first | exact Kp.same hbel | exact Kp.drew hbel | exact Kp.below hbel : Kp _ w8) _ _ (by first | exact HH.out | exact HH.out.drewN _ | exact (HH.out.alloc _).tail | exact ((HH.out.alloc _).drewN _).tail | exact ((HH.out.alloc _).alloc _).tail.tail))
    clear hbel
    have k2 := m2.out
    have k3 := beq_no m4.out
    go_wp2_with fail
    refine (fixMul_c _ _ _ Ux.out hc.out).mono ?_
    rintro e w9 ⟨rfl, hbel⟩
    replace HH := Lib.hid ((by first | exact Kp.same hbel | exact Kp.drew hbel | exact Kp.below hbel : Kp _ w9) _ _ (by first | exact HH.out | exact HH.out.drewN _ | exact (HH.out.alloc _).tail | exact ((HH.out.alloc _).drewN _).tail | exact ((HH.out.alloc _).alloc _).tail.tail))
    clear hbel
    go_wp2_with fail
    go_ret
    exact ⟨rfl, HH.out⟩
set_option maxHeartbeats 1600000 in
theorem fixWhole_c :
    Calls Try.prog 6 #[.int .u64 a, .int .u64 b, .int .u64 c] w fun e w' => e = .returned (.bool true) ∧ Own w w' [old w] := by
  have HH := Lib.hid (Own.init w)
  replace ha := Lib.hid (U_of_wf ha)
  replace hb := Lib.hid (U_of_wf hb)
  replace hc := Lib.hid (U_of_wf hc)
  have alive : ∀ w', Own w w' [old w] → Calls Try.prog 16 #[] w' fun e w' => e = .returned (.bool true) ∧ Own w w' [old w] := fun w' H => alive01_c _ _ _ H
  have W1 := whole1 ha.out hb.out
  have W2 := whole2 ha.out hb.out
  have C1 := Lib.hid (share_comm a b c)
  have C2 := Lib.hid (over_comm a b c)
  have C3 := Lib.hid (sadd_comm a b)
  have HS := Lib.hid (U_sadd ha.out hb.out)
  replace W1 := Lib.hid W1
  replace W2 := Lib.hid W2
  have W3 : ssub (sadd a b) b = sless (sadd a b) [b] := rfl
  rw [W3] at W2
  clear W3
  by_cases hb0 : b = 0
  · subst hb0
    go_enter Try.func6, Try.ntmps6
    go_wp2_with fail
    refine (alive _ HH.out).mono ?_
    rintro e w6 ⟨rfl, H2⟩
    replace HH := Lib.hid H2
    go_wp2_with fail
    refine (fixShare_c _ _ _ _ ha.out hb.out hc.out).mono ?_
    rintro e w7 ⟨rfl, hbel⟩
    replace HH := Lib.hid ((by first | exact Kp.same hbel | exact Kp.drew hbel | exact Kp.below hbel : Kp _ w7) _ _ (by first | exact HH.out | exact HH.out.drewN _ | exact (HH.out.alloc _).tail | exact ((HH.out.alloc _).drewN _).tail | exact ((HH.out.alloc _).alloc _).tail.tail))
    clear hbel
    go_wp2_with fail
    refine (fixShare_c _ _ _ _ hb.out ha.out hc.out).mono ?_
    rintro e w8 ⟨rfl, hbel⟩
    replace HH := Lib.hid ((by first | exact Kp.same hbel | exact Kp.drew hbel | exact Kp.below hbel : Kp _ w8) _ _ (by first | exact HH.out | exact HH.out.drewN _ | exact (HH.out.alloc _).tail | exact ((HH.out.alloc _).drewN _).tail | exact ((HH.out.alloc _).alloc _).tail.tail))
    clear hbel
    rw [← C1.out]
    go_wp2_with fail
    refine (fixOver_c _ _ _ _ ha.out hb.out hc.out).mono ?_
    rintro e w9 ⟨rfl, hbel⟩
    replace HH := Lib.hid ((by first | exact Kp.same hbel | exact Kp.drew hbel | exact Kp.below hbel : Kp _ w9) _ _ (by first | exact HH.out | exact HH.out.drewN _ | exact (HH.out.alloc _).tail | exact ((HH.out.alloc _).drewN _).tail | exact ((HH.out.alloc _).alloc _).tail.tail))
    clear hbel
    go_wp2_with fail
    refine (fixOver_c _ _ _ _ hb.out ha.out hc.out).mono ?_
    rintro e w10 ⟨rfl, hbel⟩
    replace HH := Lib.hid ((by first | exact Kp.same hbel | exact Kp.drew hbel | exact Kp.below hbel : Kp _ w10) _ _ (by first | exact HH.out | exact HH.out.drewN _ | exact (HH.out.alloc _).tail | exact ((HH.out.alloc _).drewN _).tail | exact ((HH.out.alloc _).alloc _).tail.tail))
    clear hbel
    rw [← C2.out]
    go_wp2_with fail
    refine (fixAdd2_c _ _ _ _ ha.out hb.out (cell_new _ _ _ 0) (cell_new _ _ _ 1)).mono ?_
    rintro e w11 ⟨rfl, hbel⟩
    replace HH := Lib.hid ((by first | exact Kp.same hbel | exact Kp.drew hbel | exact Kp.below hbel : Kp _ w11) _ _ (by first | exact HH.out | exact HH.out.drewN _ | exact (HH.out.alloc _).tail | exact ((HH.out.alloc _).drewN _).tail | exact ((HH.out.alloc _).alloc _).tail.tail))
    clear hbel
    go_wp2_with fail
    refine (fixAdd2_c _ _ _ _ hb.out ha.out (cell_new _ _ _ 0) (cell_new _ _ _ 1)).mono ?_
    rintro e w12 ⟨rfl, hbel⟩
    replace HH := Lib.hid ((by first | exact Kp.same hbel | exact Kp.drew hbel | exact Kp.below hbel : Kp _ w12) _ _ (by first | exact HH.out | exact HH.out.drewN _ | exact (HH.out.alloc _).tail | exact ((HH.out.alloc _).drewN _).tail | exact ((HH.out.alloc _).alloc _).tail.tail))
    clear hbel
    rw [← C3.out]
    go_wp2_with fail
    refine (fixAdd2_c _ _ _ _ ha.out hb.out (cell_new _ _ _ 0) (cell_new _ _ _ 1)).mono ?_
    rintro e w13 ⟨rfl, hbel⟩
    replace HH := Lib.hid ((by first | exact Kp.same hbel | exact Kp.drew hbel | exact Kp.below hbel : Kp _ w13) _ _ (by first | exact HH.out | exact HH.out.drewN _ | exact (HH.out.alloc _).tail | exact ((HH.out.alloc _).drewN _).tail | exact ((HH.out.alloc _).alloc _).tail.tail))
    clear hbel
    have k1 := W2.out
    go_wp2_with fail
    refine (fixSub_c _ _ _ _ _ _ HS.out (rd_new1 _ _ _ hb.out)).mono ?_
    rintro e w14 ⟨rfl, hbel⟩
    replace HH := Lib.hid ((by first | exact Kp.same hbel | exact Kp.drew hbel | exact Kp.below hbel : Kp _ w14) _ _ (by first | exact HH.out | exact HH.out.drewN _ | exact (HH.out.alloc _).tail | exact ((HH.out.alloc _).drewN _).tail | exact ((HH.out.alloc _).alloc _).tail.tail))
    clear hbel
    go_wp2_with fail
    go_ret
    exact ⟨rfl, HH.out⟩
  · have t3 := beq_no hb0
    obtain ⟨W4, W5⟩ := W1.out hb0
    replace W4 := Lib.hid W4
    replace W5 := Lib.hid W5
    go_enter Try.func6, Try.ntmps6
    go_wp2_with fail
    refine (fixShare_c _ _ _ _ ha.out hb.out hb.out).mono ?_
    rintro e w3 ⟨rfl, hbel⟩
    replace HH := Lib.hid ((by first | exact Kp.same hbel | exact Kp.drew hbel | exact Kp.below hbel : Kp _ w3) _ _ (by first | exact HH.out | exact HH.out.drewN _ | exact (HH.out.alloc _).tail | exact ((HH.out.alloc _).drewN _).tail | exact ((HH.out.alloc _).alloc _).tail.tail))
    clear hbel
    rw [W4.out]
    go_wp2_with fail
    refine (fixOver_c _ _ _ _ hb.out ha.out hb.out).mono ?_
    rintro e w4 ⟨rfl, hbel⟩
    replace HH := Lib.hid ((by first | exact Kp.same hbel | exact Kp.drew hbel | exact Kp.below hbel : Kp _ w4) _ _ (by first | exact HH.out | exact HH.out.drewN _ | exact (HH.out.alloc _).tail | exact ((HH.out.alloc _).drewN _).tail | exact ((HH.out.alloc _).alloc _).tail.tail))
    clear hbel
    rw [W5.out]
    go_wp2_with fail
    refine (alive _ HH.out).mono ?_
    rintro e w6 ⟨rfl, H2⟩
    replace HH := Lib.hid H2
    go_wp2_with fail
    refine (fixShare_c _ _ _ _ ha.out hb.out hc.out).mono ?_
    rintro e w7 ⟨rfl, hbel⟩
    replace HH := Lib.hid ((by first | exact Kp.same hbel | exact Kp.drew hbel | exact Kp.below hbel : Kp _ w7) _ _ (by first | exact HH.out | exact HH.out.drewN _ | exact (HH.out.alloc _).tail | exact ((HH.out.alloc _).drewN _).tail | exact ((HH.out.alloc _).alloc _).tail.tail))
    clear hbel
    go_wp2_with fail
    refine (fixShare_c _ _ _ _ hb.out ha.out hc.out).mono ?_
    rintro e w8 ⟨rfl, hbel⟩
    replace HH := Lib.hid ((by first | exact Kp.same hbel | exact Kp.drew hbel | exact Kp.below hbel : Kp _ w8) _ _ (by first | exact HH.out | exact HH.out.drewN _ | exact (HH.out.alloc _).tail | exact ((HH.out.alloc _).drewN _).tail | exact ((HH.out.alloc _).alloc _).tail.tail))
    clear hbel
    rw [← C1.out]
    go_wp2_with fail
    refine (fixOver_c _ _ _ _ ha.out hb.out hc.out).mono ?_
    rintro e w9 ⟨rfl, hbel⟩
    replace HH := Lib.hid ((by first | exact Kp.same hbel | exact Kp.drew hbel | exact Kp.below hbel : Kp _ w9) _ _ (by first | exact HH.out | exact HH.out.drewN _ | exact (HH.out.alloc _).tail | exact ((HH.out.alloc _).drewN _).tail | exact ((HH.out.alloc _).alloc _).tail.tail))
    clear hbel
    go_wp2_with fail
    refine (fixOver_c _ _ _ _ hb.out ha.out hc.out).mono ?_
    rintro e w10 ⟨rfl, hbel⟩
    replace HH := Lib.hid ((by first | exact Kp.same hbel | exact Kp.drew hbel | exact Kp.below hbel : Kp _ w10) _ _ (by first | exact HH.out | exact HH.out.drewN _ | exact (HH.out.alloc _).tail | exact ((HH.out.alloc _).drewN _).tail | exact ((HH.out.alloc _).alloc _).tail.tail))
    clear hbel
    rw [← C2.out]
    go_wp2_with fail
    refine (fixAdd2_c _ _ _ _ ha.out hb.out (cell_new _ _ _ 0) (cell_new _ _ _ 1)).mono ?_
    rintro e w11 ⟨rfl, hbel⟩
    replace HH := Lib.hid ((by first | exact Kp.same hbel | exact Kp.drew hbel | exact Kp.below hbel : Kp _ w11) _ _ (by first | exact HH.out | exact HH.out.drewN _ | exact (HH.out.alloc _).tail | exact ((HH.out.alloc _).drewN _).tail | exact ((HH.out.alloc _).alloc _).tail.tail))
    clear hbel
    go_wp2_with fail
    refine (fixAdd2_c _ _ _ _ hb.out ha.out (cell_new _ _ _ 0) (cell_new _ _ _ 1)).mono ?_
    rintro e w12 ⟨rfl, hbel⟩
    replace HH := Lib.hid ((by first | exact Kp.same hbel | exact Kp.drew hbel | exact Kp.below hbel : Kp _ w12) _ _ (by first | exact HH.out | exact HH.out.drewN _ | exact (HH.out.alloc _).tail | exact ((HH.out.alloc _).drewN _).tail | exact ((HH.out.alloc _).alloc _).tail.tail))
    clear hbel
    rw [← C3.out]
    go_wp2_with fail
    refine (fixAdd2_c _ _ _ _ ha.out hb.out (cell_new _ _ _ 0) (cell_new _ _ _ 1)).mono ?_
    rintro e w13 ⟨rfl, hbel⟩
    replace HH := Lib.hid ((by first | exact Kp.same hbel | exact Kp.drew hbel | exact Kp.below hbel : Kp _ w13) _ _ (by first | exact HH.out | exact HH.out.drewN _ | exact (HH.out.alloc _).tail | exact ((HH.out.alloc _).drewN _).tail | exact ((HH.out.alloc _).alloc _).tail.tail))
    clear hbel
    have k1 := W2.out
    go_wp2_with fail
    refine (fixSub_c _ _ _ _ _ _ HS.out (rd_new1 _ _ _ hb.out)).mono ?_
    rintro e w14 ⟨rfl, hbel⟩
    replace HH := Lib.hid ((by first | exact Kp.same hbel | exact Kp.drew hbel | exact Kp.below hbel : Kp _ w14) _ _ (by first | exact HH.out | exact HH.out.drewN _ | exact (HH.out.alloc _).tail | exact ((HH.out.alloc _).drewN _).tail | exact ((HH.out.alloc _).alloc _).tail.tail))
    clear hbel
    go_wp2_with fail
    go_ret
    exact ⟨rfl, HH.out⟩
set_option maxRecDepth 100000 in
set_option maxHeartbeats 1600000 in
theorem fixRises_c :
    Calls Try.prog 7 #[.int .u64 a, .int .u64 b, .int .u64 c] w fun e w' => e = .returned (.bool true) ∧ Own w w' [old w] := by
  have HH := Lib.hid (Own.init w)
  replace ha := Lib.hid (U_of_wf ha)
  replace hb := Lib.hid (U_of_wf hb)
  replace hc := Lib.hid (U_of_wf hc)
  have h1 : U 1 := by unfold U; omega
  replace h1 := Lib.hid h1
  have hm := Lib.hid (U_sadd ha.out h1.out)
  have alive : ∀ w', Own w w' [old w] → Calls Try.prog 16 #[] w' fun e w' => e = .returned (.bool true) ∧ Own w w' [old w] := fun w' H => alive01_c _ _ _ H
  have hle : a ≤ sadd a 1 := by have := ha.out; unfold U at this; unfold sadd; split <;> omega
  have hbm : b * a ≤ b * sadd a 1 := Int.mul_le_mul_of_nonneg_left hle hb.out.1
  have hab : a * b ≤ sadd a 1 * b := Int.mul_le_mul_of_nonneg_right hle hb.out.1
  have k1 : sadd a b ≤ sadd (sadd a 1) b := by
    generalize sadd a 1 = m at *
    unfold sadd; split <;> split <;> omega
  have k2 : sless a [b] ≤ sless (sadd a 1) [b] := by
    show ssub a b ≤ ssub (sadd a 1) b
    generalize sadd a 1 = m at *
    unfold ssub; split <;> split <;> omega
  have k3 : sless b [sadd a 1] ≤ sless b [a] := by
    show ssub b (sadd a 1) ≤ ssub b a
    generalize sadd a 1 = m at *
    unfold ssub; split <;> split <;> omega
  have k4 : smul a b ≤ smul (sadd a 1) b := rise_mul hab
  have k5 : sshare a b c ≤ sshare (sadd a 1) b c := rise_share ha.out hb.out hm.out hb.out hc.out.1 hab (Int.le_refl _)
  have k6 : sover a b c ≤ sover (sadd a 1) b c := rise_over ha.out hb.out hm.out hb.out hc.out.1 hab (Int.le_refl _)
  have k7 : a ≠ 0 → sshare b c (sadd a 1) ≤ sshare b c a := fun h0 => rise_share hb.out hc.out hb.out hc.out ha.out.1 (Int.le_refl _) hle
  have k8 : a ≠ 0 → sover b c (sadd a 1) ≤ sover b c a := fun h0 => rise_over hb.out hc.out hb.out hc.out ha.out.1 (Int.le_refl _) hle
  replace k1 := Lib.hid k1
  replace k2 := Lib.hid k2
  replace k3 := Lib.hid k3
  replace k4 := Lib.hid k4
  replace k5 := Lib.hid k5
  replace k6 := Lib.hid k6
  replace k7 := Lib.hid k7
  replace k8 := Lib.hid k8
  clear hle hbm hab
  go_enter Try.func7, Try.ntmps7
  go_wp2_with fail
  refine (fixAdd2_c _ _ _ _ ha.out h1.out (cell_new _ _ _ 0) (cell_new _ _ _ 1)).mono ?_
  rintro e w1 ⟨rfl, hbel⟩
  replace HH := Lib.hid ((by first | exact Kp.same hbel | exact Kp.drew hbel | exact Kp.below hbel : Kp _ w1) _ _ (by first | exact HH.out | exact HH.out.drewN _ | exact (HH.out.alloc _).tail | exact ((HH.out.alloc _).drewN _).tail | exact ((HH.out.alloc _).alloc _).tail.tail))
  clear hbel
  generalize sadd a 1 = m at *
  go_wp2_with fail
  refine (fixAdd2_c _ _ _ _ hm.out hb.out (cell_new _ _ _ 0) (cell_new _ _ _ 1)).mono ?_
  rintro e w2 ⟨rfl, hbel⟩
  replace HH := Lib.hid ((by first | exact Kp.same hbel | exact Kp.drew hbel | exact Kp.below hbel : Kp _ w2) _ _ (by first | exact HH.out | exact HH.out.drewN _ | exact (HH.out.alloc _).tail | exact ((HH.out.alloc _).drewN _).tail | exact ((HH.out.alloc _).alloc _).tail.tail))
  clear hbel
  have q1 := k1.out
  go_wp2_with fail
  refine (fixAdd2_c _ _ _ _ ha.out hb.out (cell_new _ _ _ 0) (cell_new _ _ _ 1)).mono ?_
  rintro e w3 ⟨rfl, hbel⟩
  replace HH := Lib.hid ((by first | exact Kp.same hbel | exact Kp.drew hbel | exact Kp.below hbel : Kp _ w3) _ _ (by first | exact HH.out | exact HH.out.drewN _ | exact (HH.out.alloc _).tail | exact ((HH.out.alloc _).drewN _).tail | exact ((HH.out.alloc _).alloc _).tail.tail))
  clear hbel
  go_wp2_with fail
  refine (fixSub_c _ _ _ _ _ _ hm.out (rd_new1 _ _ _ hb.out)).mono ?_
  rintro e w4 ⟨rfl, hbel⟩
  replace HH := Lib.hid ((by first | exact Kp.same hbel | exact Kp.drew hbel | exact Kp.below hbel : Kp _ w4) _ _ (by first | exact HH.out | exact HH.out.drewN _ | exact (HH.out.alloc _).tail | exact ((HH.out.alloc _).drewN _).tail | exact ((HH.out.alloc _).alloc _).tail.tail))
  clear hbel
  have q2 := k2.out
  go_wp2_with fail
  refine (fixSub_c _ _ _ _ _ _ ha.out (rd_new1 _ _ _ hb.out)).mono ?_
  rintro e w5 ⟨rfl, hbel⟩
  replace HH := Lib.hid ((by first | exact Kp.same hbel | exact Kp.drew hbel | exact Kp.below hbel : Kp _ w5) _ _ (by first | exact HH.out | exact HH.out.drewN _ | exact (HH.out.alloc _).tail | exact ((HH.out.alloc _).drewN _).tail | exact ((HH.out.alloc _).alloc _).tail.tail))
  clear hbel
  go_wp2_with fail
  refine (fixSub_c _ _ _ _ _ _ hb.out (rd_new1 _ _ _ hm.out)).mono ?_
  rintro e w6 ⟨rfl, hbel⟩
  replace HH := Lib.hid ((by first | exact Kp.same hbel | exact Kp.drew hbel | exact Kp.below hbel : Kp _ w6) _ _ (by first | exact HH.out | exact HH.out.drewN _ | exact (HH.out.alloc _).tail | exact ((HH.out.alloc _).drewN _).tail | exact ((HH.out.alloc _).alloc _).tail.tail))
  clear hbel
  have q3 := k3.out
  go_wp2_with fail
  refine (fixSub_c _ _ _ _ _ _ hb.out (rd_new1 _ _ _ ha.out)).mono ?_
  rintro e w7 ⟨rfl, hbel⟩
  replace HH := Lib.hid ((by first | exact Kp.same hbel | exact Kp.drew hbel | exact Kp.below hbel : Kp _ w7) _ _ (by first | exact HH.out | exact HH.out.drewN _ | exact (HH.out.alloc _).tail | exact ((HH.out.alloc _).drewN _).tail | exact ((HH.out.alloc _).alloc _).tail.tail))
  clear hbel
  clear q1 q2
  go_wp2_with fail
  refine (fixMul_c _ _ _ hm.out hb.out).mono ?_
  rintro e w8 ⟨rfl, hbel⟩
  replace HH := Lib.hid ((by first | exact Kp.same hbel | exact Kp.drew hbel | exact Kp.below hbel : Kp _ w8) _ _ (by first | exact HH.out | exact HH.out.drewN _ | exact (HH.out.alloc _).tail | exact ((HH.out.alloc _).drewN _).tail | exact ((HH.out.alloc _).alloc _).tail.tail))
  clear hbel
  clear q3
  have q4 := k4.out
  go_wp2_with fail
  refine (fixMul_c _ _ _ ha.out hb.out).mono ?_
  rintro e w9 ⟨rfl, hbel⟩
  replace HH := Lib.hid ((by first | exact Kp.same hbel | exact Kp.drew hbel | exact Kp.below hbel : Kp _ w9) _ _ (by first | exact HH.out | exact HH.out.drewN _ | exact (HH.out.alloc _).tail | exact ((HH.out.alloc _).drewN _).tail | exact ((HH.out.alloc _).alloc _).tail.tail))
  clear hbel
  go_wp2_with fail
  refine (fixShare_c _ _ _ _ hm.out hb.out hc.out).mono ?_
  rintro e w10 ⟨rfl, hbel⟩
  replace HH := Lib.hid ((by first | exact Kp.same hbel | exact Kp.drew hbel | exact Kp.below hbel : Kp _ w10) _ _ (by first | exact HH.out | exact HH.out.drewN _ | exact (HH.out.alloc _).tail | exact ((HH.out.alloc _).drewN _).tail | exact ((HH.out.alloc _).alloc _).tail.tail))
  clear hbel
  have q5 := k5.out
  go_wp2_with fail
  refine (fixShare_c _ _ _ _ ha.out hb.out hc.out).mono ?_
  rintro e w11 ⟨rfl, hbel⟩
  replace HH := Lib.hid ((by first | exact Kp.same hbel | exact Kp.drew hbel | exact Kp.below hbel : Kp _ w11) _ _ (by first | exact HH.out | exact HH.out.drewN _ | exact (HH.out.alloc _).tail | exact ((HH.out.alloc _).drewN _).tail | exact ((HH.out.alloc _).alloc _).tail.tail))
  clear hbel
  go_wp2_with fail
  refine (fixOver_c _ _ _ _ hm.out hb.out hc.out).mono ?_
  rintro e w12 ⟨rfl, hbel⟩
  replace HH := Lib.hid ((by first | exact Kp.same hbel | exact Kp.drew hbel | exact Kp.below hbel : Kp _ w12) _ _ (by first | exact HH.out | exact HH.out.drewN _ | exact (HH.out.alloc _).tail | exact ((HH.out.alloc _).drewN _).tail | exact ((HH.out.alloc _).alloc _).tail.tail))
  clear hbel
  have q6 := k6.out
  go_wp2_with fail
  refine (fixOver_c _ _ _ _ ha.out hb.out hc.out).mono ?_
  rintro e w13 ⟨rfl, hbel⟩
  replace HH := Lib.hid ((by first | exact Kp.same hbel | exact Kp.drew hbel | exact Kp.below hbel : Kp _ w13) _ _ (by first | exact HH.out | exact HH.out.drewN _ | exact (HH.out.alloc _).tail | exact ((HH.out.alloc _).drewN _).tail | exact ((HH.out.alloc _).alloc _).tail.tail))
  clear hbel
  by_cases ha0 : a = 0
  · subst ha0
    go_wp2_with fail
    refine (alive _ HH.out).mono ?_
    rintro e w18 ⟨rfl, H2⟩
    replace HH := Lib.hid H2
    go_wp2_with fail
    go_ret
    exact ⟨rfl, HH.out⟩
  · have t3 := beq_no ha0
    go_wp2_with fail
    refine (fixShare_c _ _ _ _ hb.out hc.out hm.out).mono ?_
    rintro e w14 ⟨rfl, hbel⟩
    replace HH := Lib.hid ((by first | exact Kp.same hbel | exact Kp.drew hbel | exact Kp.below hbel : Kp _ w14) _ _ (by first | exact HH.out | exact HH.out.drewN _ | exact (HH.out.alloc _).tail | exact ((HH.out.alloc _).drewN _).tail | exact ((HH.out.alloc _).alloc _).tail.tail))
    clear hbel
    clear q4 q5 q6
    have q7 := k7.out ha0
    go_wp2_with fail
    refine (fixShare_c _ _ _ _ hb.out hc.out ha.out).mono ?_
    rintro e w15 ⟨rfl, hbel⟩
    replace HH := Lib.hid ((by first | exact Kp.same hbel | exact Kp.drew hbel | exact Kp.below hbel : Kp _ w15) _ _ (by first | exact HH.out | exact HH.out.drewN _ | exact (HH.out.alloc _).tail | exact ((HH.out.alloc _).drewN _).tail | exact ((HH.out.alloc _).alloc _).tail.tail))
    clear hbel
    go_wp2_with fail
    refine (fixOver_c _ _ _ _ hb.out hc.out hm.out).mono ?_
    rintro e w16 ⟨rfl, hbel⟩
    replace HH := Lib.hid ((by first | exact Kp.same hbel | exact Kp.drew hbel | exact Kp.below hbel : Kp _ w16) _ _ (by first | exact HH.out | exact HH.out.drewN _ | exact (HH.out.alloc _).tail | exact ((HH.out.alloc _).drewN _).tail | exact ((HH.out.alloc _).alloc _).tail.tail))
    clear hbel
    have q8 := k8.out ha0
    go_wp2_with fail
    refine (fixOver_c _ _ _ _ hb.out hc.out ha.out).mono ?_
    rintro e w17 ⟨rfl, hbel⟩
    replace HH := Lib.hid ((by first | exact Kp.same hbel | exact Kp.drew hbel | exact Kp.below hbel : Kp _ w17) _ _ (by first | exact HH.out | exact HH.out.drewN _ | exact (HH.out.alloc _).tail | exact ((HH.out.alloc _).drewN _).tail | exact ((HH.out.alloc _).alloc _).tail.tail))
    clear hbel
    go_wp2_with fail
    refine (alive _ HH.out).mono ?_
    rintro e w18 ⟨rfl, H2⟩
    replace HH := Lib.hid H2
    go_wp2_with fail
    go_ret
    exact ⟨rfl, HH.out⟩
end
end Go.Proofs.Ytnffoiocejfppaa
