/- bound's law of both ways. -/
import Derived.Test.YtnffoiocejfppaaBound3
namespace Go.Proofs.Ytnffoiocejfppaa
open Go.RowKit
theorem cut_le {x : Int} (hx : U x) : cutI x ≤ x := by
  unfold U at hx
  unfold cutI sshare hi64
  rw [if_neg (by omega)]
  omega
theorem room_le {s : Bnd} (hs : s.Ok) : s.room ≤ s.hi := by
  have := hs.1
  unfold U at this
  unfold Bnd.room sshare hi64
  split
  · omega
  · rw [if_neg (by omega)]
    omega
set_option maxRecDepth 100000 in
set_option maxHeartbeats 3200000 in
theorem boundWays_c (w : World) (bs : Array Value) (hbz : bs.size = 3) (b : B3) (hb : rdB3 w bs.toList b) (xs : Array Value) (hxz : xs.size = 3) (x : B3) (hx : rdB3 w xs.toList x) :
    Calls Try.prog 9 #[.agg bs, .agg xs] w fun e w' => e = .returned (.bool true) ∧ Own w w' [old w] := by
  have HH := Lib.hid (Own.init w)
  obtain ⟨rfl, hb1, hb2, hb3⟩ := rdB3_open hb
  obtain ⟨rfl, hx1, hx2, hx3⟩ := rdB3_open hx
  clear hb hx hbz hxz
  obtain ⟨hi, lo, bw, _⟩ := b
  obtain ⟨x0, x1, x2, _⟩ := x
  simp only at *
  have hs : (⟨hi, lo, bw⟩ : Bnd).Ok := ⟨hb1, hb2, hb3⟩
  obtain ⟨cl, hcl⟩ : ∃ cl, max x0 (cutI (orI lo x2)) = cl := ⟨_, rfl⟩
  obtain ⟨cb, hcb⟩ : ∃ cb, max x1 (cutI (orI bw x1)) = cb := ⟨_, rfl⟩
  obtain ⟨eh, heh⟩ : ∃ eh, max x0 (cutI x1) = eh := ⟨_, rfl⟩
  obtain ⟨dh, hdh, k5⟩ : ∃ dh, (⟨hi, lo, bw⟩ : Bnd).push x0 = ⟨dh, lo, bw⟩ ∧ hi ≤ dh := by
    unfold Bnd.push
    simp only
    split
    · exact ⟨hi, rfl, Int.le_refl _⟩
    · refine ⟨_, rfl, ?_⟩
      unfold U at hb1 hx1
      unfold sadd; split <;> omega
  have e1 : ((⟨hi, lo, bw⟩ : Bnd).lose x0 x1 x2).v = .agg #[.int .u64 hi, .int .u64 cl, .int .u64 cb] := by rw [← hcl, ← hcb]; rfl
  have e2 : ((⟨hi, lo, bw⟩ : Bnd).push x0).v = .agg #[.int .u64 dh, .int .u64 lo, .int .u64 bw] := by rw [hdh]; rfl
  have e3 : ((⟨hi, lo, bw⟩ : Bnd).pull x0 x1).v = .agg #[.int .u64 eh, .int .u64 lo, .int .u64 bw] := by rw [← heh]; rfl
  have k1 : cl ≤ max x0 (orI lo x2) := by have := cut_le (U_orI hb2 hx3); omega
  have k2 : x1 ≤ cb := by omega
  have k3 : x0 ≤ cl := by omega
  have k4 : cb ≤ max x1 bw := by
    have := cut_le (U_orI hb3 hx2)
    unfold orI at this hcb
    unfold U at hb3 hx2
    split at hcb
    · rw [if_pos (by assumption)] at this; omega
    · rw [if_neg (by assumption)] at this; omega
  have k6 : x0 ≤ eh := by omega
  have k7 : eh ≤ max x0 x1 := by have := cut_le hx2; omega
  have k8 := room_le hs
  simp only at k8
  have k9 : (⟨hi, lo, bw⟩ : Bnd).cap [] ≤ hi := by show min hi lo ≤ hi; omega
  have k10 : (⟨hi, lo, bw⟩ : Bnd).cap [] ≤ lo := by show min hi lo ≤ lo; omega
  have k11 : (⟨hi, lo, bw⟩ : Bnd).limit x0 ≤ x0 := by show min x0 bw ≤ x0; omega
  clear hcl hcb heh hdh
  replace hs := Lib.hid hs
  replace hx1 := Lib.hid hx1
  replace hx2 := Lib.hid hx2
  replace hx3 := Lib.hid hx3
  replace e1 := Lib.hid e1
  replace e2 := Lib.hid e2
  replace e3 := Lib.hid e3
  replace k1 := Lib.hid k1
  replace k8 := Lib.hid k8
  replace k9 := Lib.hid k9
  replace k10 := Lib.hid k10
  replace k11 := Lib.hid k11
  clear hb1 hb2 hb3
  have im := ite_max
  have hnil : ∀ w', rdSlice (rdInt .u64) 1 w' [.slice none 0 0] [] := fun w' => ⟨none, 0, 0, rfl, rfl, Nat.le_refl _, Nat.zero_le _, fun i hi => absurd hi (Nat.not_lt_zero _)⟩
  replace hnil := Lib.hid hnil
  go_enter Try.func9, Try.ntmps9
  go_wp2_with (first | with_reducible refine stop_bs ?_ | with_reducible refine stop_bx ?_ | with_reducible refine stop_al ?_ | with_reducible refine stop_ms ?_ | with_reducible refine stop_app ?_ | with_reducible refine stop_copy ?_)
  refine Stop.go ?_
  go_step
  go_simp
  have H1 := Lib.hid (HH.out.alloc (.cells #[.int .u64 hi, .int .u64 lo, .int .u64 bw] 34))
  generalize w.alloc (.cells #[.int .u64 hi, .int .u64 lo, .int .u64 bw] 34) = w1 at *
  generalize w.heap.size = b1 at *
  go_wp2_with (first | with_reducible refine stop_bs ?_ | with_reducible refine stop_bx ?_ | with_reducible refine stop_al ?_ | with_reducible refine stop_ms ?_ | with_reducible refine stop_app ?_ | with_reducible refine stop_copy ?_)
  refine Stop.go ?_
  go_step
  go_simp
  have H2 := Lib.hid (H1.out.alloc (.cells #[.int .u64 x0, .int .u64 x1, .int .u64 x2] 35))
  generalize w1.alloc (.cells #[.int .u64 x0, .int .u64 x1, .int .u64 x2] 35) = w2 at *
  generalize w1.heap.size = b2 at *
  clear HH H1
  have q1 := H2.out.cells
  have q2 := H2.out.r2.cells
  go_wp2_with fail
  refine (boundLose_c _ ⟨hi, lo, bw⟩ x0 x1 x2 hs.out hx1.out hx2.out hx3.out).mono ?_
  rintro e w3 ⟨rfl, hbel⟩
  replace H2 := Lib.hid ((by first | exact Kp.same hbel | exact Kp.drew hbel | exact Kp.below hbel : Kp _ w3) _ _ (by first | exact H2.out | exact H2.out.drewN _ | exact (H2.out.alloc _).tail | exact ((H2.out.alloc _).drewN _).tail | exact ((H2.out.alloc _).alloc _).tail.tail))
  clear hbel
  rw [e1.out]
  go_wp2_with (first | with_reducible refine stop_bs ?_ | with_reducible refine stop_bx ?_ | with_reducible refine stop_al ?_ | with_reducible refine stop_ms ?_ | with_reducible refine stop_app ?_ | with_reducible refine stop_copy ?_)
  refine Stop.go ?_
  go_step
  go_simp
  have H4_0 := Lib.hid (H2.out.alloc (.cells #[.int .u64 0, .int .u64 0, .int .u64 0] 34))
  generalize w3.alloc (.cells #[.int .u64 0, .int .u64 0, .int .u64 0] 34) = w4_0 at *
  generalize w3.heap.size = b3 at *
  have k9_ := H4_0.out.cells
  go_wp2_with (with_reducible refine stop_st ?_)
  refine Stop.go ?_
  go_step
  go_simp
  have H4 := Lib.hid ((show Own _ (((w4_0.setCell ⟨b3, 0, none⟩ (.int .u64 hi)).setCell ⟨b3, 1, none⟩ (.int .u64 cl)).setCell ⟨b3, 2, none⟩ (.int .u64 cb)) _ from Own.slc_setsB H4_0.out [.int .u64 hi, .int .u64 cl, .int .u64 cb]))
  generalize (((w4_0.setCell ⟨b3, 0, none⟩ (.int .u64 hi)).setCell ⟨b3, 1, none⟩ (.int .u64 cl)).setCell ⟨b3, 2, none⟩ (.int .u64 cb)) = w4 at *
  clear k9_ H4_0
  clear q1 q2 H2
  have q1 := H4.out.cells
  have q2 := H4.out.r2.cells
  have q3 := H4.out.r3.cells
  go_wp2_with fail
  all_goals
    first
    | (have m1 : cl ≤ max x0 x2 := by
         have hq : lo = 18446744073709551615 := by simpa using (show (lo == 18446744073709551615) = true by assumption)
         have := k1.out
         unfold orI at this
         rw [if_pos hq] at this
         exact this)
    | (have m1 : cl ≤ max x0 lo := by
         have hq : ¬ lo = 18446744073709551615 := by simpa using (show (lo == 18446744073709551615) = false by assumption)
         have := k1.out
         unfold orI at this
         rw [if_neg hq] at this
         exact this)
  all_goals
    go_wp2_with fail
    refine (boundPush_c _ ⟨hi, lo, bw⟩ x0 hs.out hx1.out).mono ?_
    rintro e w5 ⟨rfl, hbel⟩
    replace H4 := Lib.hid ((by first | exact Kp.same hbel | exact Kp.drew hbel | exact Kp.below hbel : Kp _ w5) _ _ (by first | exact H4.out | exact H4.out.drewN _ | exact (H4.out.alloc _).tail | exact ((H4.out.alloc _).drewN _).tail | exact ((H4.out.alloc _).alloc _).tail.tail))
    clear hbel
    rw [e2.out]
    go_wp2_with (first | with_reducible refine stop_bs ?_ | with_reducible refine stop_bx ?_ | with_reducible refine stop_al ?_ | with_reducible refine stop_ms ?_ | with_reducible refine stop_app ?_ | with_reducible refine stop_copy ?_)
    refine Stop.go ?_
    go_step
    go_simp
    have H6_0 := Lib.hid (H4.out.alloc (.cells #[.int .u64 0, .int .u64 0, .int .u64 0] 34))
    generalize w5.alloc (.cells #[.int .u64 0, .int .u64 0, .int .u64 0] 34) = w6_0 at *
    generalize w5.heap.size = b4 at *
    have k9_ := H6_0.out.cells
    go_wp2_with (with_reducible refine stop_st ?_)
    refine Stop.go ?_
    go_step
    go_simp
    have H6 := Lib.hid ((show Own _ (((w6_0.setCell ⟨b4, 0, none⟩ (.int .u64 dh)).setCell ⟨b4, 1, none⟩ (.int .u64 lo)).setCell ⟨b4, 2, none⟩ (.int .u64 bw)) _ from Own.slc_setsB H6_0.out [.int .u64 dh, .int .u64 lo, .int .u64 bw]))
    generalize (((w6_0.setCell ⟨b4, 0, none⟩ (.int .u64 dh)).setCell ⟨b4, 1, none⟩ (.int .u64 lo)).setCell ⟨b4, 2, none⟩ (.int .u64 bw)) = w6 at *
    clear k9_ H6_0
    clear q1 q2 q3 H4
    have q2 := H6.out.r2.cells
    have q3 := H6.out.r3.cells
    have q4 := H6.out.r4.cells
    go_wp2_with fail
    refine (boundPull_c _ ⟨hi, lo, bw⟩ x0 x1 hx1.out hx2.out).mono ?_
    rintro e w7 ⟨rfl, hbel⟩
    replace H6 := Lib.hid ((by first | exact Kp.same hbel | exact Kp.drew hbel | exact Kp.below hbel : Kp _ w7) _ _ (by first | exact H6.out | exact H6.out.drewN _ | exact (H6.out.alloc _).tail | exact ((H6.out.alloc _).drewN _).tail | exact ((H6.out.alloc _).alloc _).tail.tail))
    clear hbel
    rw [e3.out]
    go_wp2_with (first | with_reducible refine stop_bs ?_ | with_reducible refine stop_bx ?_ | with_reducible refine stop_al ?_ | with_reducible refine stop_ms ?_ | with_reducible refine stop_app ?_ | with_reducible refine stop_copy ?_)
    refine Stop.go ?_
    go_step
    go_simp
    have H8_0 := Lib.hid (H6.out.alloc (.cells #[.int .u64 0, .int .u64 0, .int .u64 0] 34))
    generalize w7.alloc (.cells #[.int .u64 0, .int .u64 0, .int .u64 0] 34) = w8_0 at *
    generalize w7.heap.size = b5 at *
    have k9_ := H8_0.out.cells
    go_wp2_with (with_reducible refine stop_st ?_)
    refine Stop.go ?_
    go_step
    go_simp
    have H8 := Lib.hid ((show Own _ (((w8_0.setCell ⟨b5, 0, none⟩ (.int .u64 eh)).setCell ⟨b5, 1, none⟩ (.int .u64 lo)).setCell ⟨b5, 2, none⟩ (.int .u64 bw)) _ from Own.slc_setsB H8_0.out [.int .u64 eh, .int .u64 lo, .int .u64 bw]))
    generalize (((w8_0.setCell ⟨b5, 0, none⟩ (.int .u64 eh)).setCell ⟨b5, 1, none⟩ (.int .u64 lo)).setCell ⟨b5, 2, none⟩ (.int .u64 bw)) = w8 at *
    clear k9_ H8_0
    clear q2 q3 q4 H6
    have q5 := H8.out.r5.cells
    go_wp2_with fail
    refine (boundShort_c _ ⟨hi, lo, bw⟩).mono ?_
    rw [show (⟨hi, lo, bw⟩ : Bnd).short.v = .agg #[.int .u64 hi, .int .u64 18446744073709551615, .int .u64 18446744073709551615] from by first | rfl | decide]
    rintro e w9 ⟨rfl, hbel⟩
    replace H8 := Lib.hid ((by first | exact Kp.same hbel | exact Kp.drew hbel | exact Kp.below hbel : Kp _ w9) _ _ (by first | exact H8.out | exact H8.out.drewN _ | exact (H8.out.alloc _).tail | exact ((H8.out.alloc _).drewN _).tail | exact ((H8.out.alloc _).alloc _).tail.tail))
    clear hbel
    go_wp2_with (first | with_reducible refine stop_bs ?_ | with_reducible refine stop_bx ?_ | with_reducible refine stop_al ?_ | with_reducible refine stop_ms ?_ | with_reducible refine stop_app ?_ | with_reducible refine stop_copy ?_)
    refine Stop.go ?_
    go_step
    go_simp
    have H9_0 := Lib.hid (H8.out.alloc (.cells #[.int .u64 0, .int .u64 0, .int .u64 0] 34))
    generalize w9.alloc (.cells #[.int .u64 0, .int .u64 0, .int .u64 0] 34) = w10_0 at *
    generalize w9.heap.size = b6 at *
    have k9_ := H9_0.out.cells
    go_wp2_with (with_reducible refine stop_st ?_)
    refine Stop.go ?_
    go_step
    go_simp
    have H9 := Lib.hid ((show Own _ (((w10_0.setCell ⟨b6, 0, none⟩ (.int .u64 hi)).setCell ⟨b6, 1, none⟩ (.int .u64 18446744073709551615)).setCell ⟨b6, 2, none⟩ (.int .u64 18446744073709551615)) _ from Own.slc_setsB H9_0.out [.int .u64 hi, .int .u64 18446744073709551615, .int .u64 18446744073709551615]))
    generalize (((w10_0.setCell ⟨b6, 0, none⟩ (.int .u64 hi)).setCell ⟨b6, 1, none⟩ (.int .u64 18446744073709551615)).setCell ⟨b6, 2, none⟩ (.int .u64 18446744073709551615)) = w10 at *
    clear k9_ H9_0
    clear q5 H8
    have q2 := H9.out.r2.cells
    have q3 := H9.out.r3.cells
    have q4 := H9.out.r4.cells
    have q5 := H9.out.r5.cells
    have q6 := H9.out.r6.cells
    go_wp2_with fail
    clear q2 q3 q4 q5 q6
    replace k8 := k8.out
    replace k9 := k9.out
    replace k10 := k10.out
    replace k11 := k11.out
    refine wp_region_calm w [pts b6 (.cells #[.int .u64 hi, .int .u64 18446744073709551615, .int .u64 18446744073709551615] 34 (0, 0)), pts b5 (.cells #[.int .u64 eh, .int .u64 lo, .int .u64 bw] 34 (0, 0)), pts b4 (.cells #[.int .u64 dh, .int .u64 lo, .int .u64 bw] 34 (0, 0)), pts b3 (.cells #[.int .u64 hi, .int .u64 cl, .int .u64 cb] 34 (0, 0)), pts b2 (.cells #[.int .u64 x0, .int .u64 x1, .int .u64 x2] 35 (0, 0)), pts b1 (.cells #[.int .u64 hi, .int .u64 lo, .int .u64 bw] 34 (0, 0)), old w] (by kernel_rfl) (by kernel_rfl) H9.out ?_
    repeat
      first
      | go_big_quiet_skip
      | (go_big_quiet_want; go_big_quiet_op; first | go_big_quiet_on | (apply Exists.intro; refine ⟨?_, ?_⟩; (focus (intro wx hx; have x1' := hx.cells; have x2' := hx.r5.cells; have x3' := hx.r6.cells; first | (first | (go_at_call 27; refine (alive13_k wx).mono ?_; rintro e wy ⟨rfl, hbel⟩; exact ⟨rfl, (by first | exact Kp.same hbel | exact Kp.drew hbel | exact Kp.below hbel : Kp wx wy) _ _ hx⟩) | (go_at_call 36; refine (boundCap_c wx ⟨hi, lo, bw⟩ hs.out none 0 0 [] (by omega) (hnil.out wx)).mono ?_; rintro e wy ⟨rfl, hbel⟩; exact ⟨rfl, (by first | exact Kp.same hbel | exact Kp.drew hbel | exact Kp.below hbel : Kp wx wy) _ _ hx⟩) | (go_at_call 38; refine (boundRoom_c wx ⟨hi, lo, bw⟩ hs.out).mono ?_; rintro e wy ⟨rfl, hbel⟩; exact ⟨rfl, (by first | exact Kp.same hbel | exact Kp.drew hbel | exact Kp.below hbel : Kp wx wy) _ _ hx⟩) | (go_at_call 40; refine (boundLimit_c wx ⟨hi, lo, bw⟩ x0).mono ?_; rintro e wy ⟨rfl, hbel⟩; exact ⟨rfl, (by first | exact Kp.same hbel | exact Kp.drew hbel | exact Kp.below hbel : Kp wx wy) _ _ hx⟩)) | (go_simp; first | rfl | exact ⟨rfl, rfl⟩) | rfl | exact ⟨rfl, rfl⟩)); go_big_quiet_on))
      | (refine wpQuiet_step (fun K hK => ?_)
         go_simp
         first
         | (refine hK _ ?_; clear hK K)
         | (apply Exists.intro
            refine ⟨?_, hK _ ?_⟩
            (focus (intro wx hx; have x1' := hx.cells; have x2' := hx.r5.cells; have x3' := hx.r6.cells; first | (first | (go_at_call 27; refine (alive13_k wx).mono ?_; rintro e wy ⟨rfl, hbel⟩; exact ⟨rfl, (by first | exact Kp.same hbel | exact Kp.drew hbel | exact Kp.below hbel : Kp wx wy) _ _ hx⟩) | (go_at_call 36; refine (boundCap_c wx ⟨hi, lo, bw⟩ hs.out none 0 0 [] (by omega) (hnil.out wx)).mono ?_; rintro e wy ⟨rfl, hbel⟩; exact ⟨rfl, (by first | exact Kp.same hbel | exact Kp.drew hbel | exact Kp.below hbel : Kp wx wy) _ _ hx⟩) | (go_at_call 38; refine (boundRoom_c wx ⟨hi, lo, bw⟩ hs.out).mono ?_; rintro e wy ⟨rfl, hbel⟩; exact ⟨rfl, (by first | exact Kp.same hbel | exact Kp.drew hbel | exact Kp.below hbel : Kp wx wy) _ _ hx⟩) | (go_at_call 40; refine (boundLimit_c wx ⟨hi, lo, bw⟩ x0).mono ?_; rintro e wy ⟨rfl, hbel⟩; exact ⟨rfl, (by first | exact Kp.same hbel | exact Kp.drew hbel | exact Kp.below hbel : Kp wx wy) _ _ hx⟩)) | (go_simp; first | rfl | exact ⟨rfl, rfl⟩) | rfl | exact ⟨rfl, rfl⟩))
            clear hK K))
    refine wpQuiet_nil ?_
    intro w11 H9_
    replace H9 := Lib.hid H9_
    clear H9_
    go_wp2_with fail
    go_ret
    exact ⟨rfl, (Own.pm (H9.out) (by repeat (first | with_reducible exact Pm.refl _ | with_reducible refine Pm.here ?_ | with_reducible refine Pm.at2 ?_ | with_reducible refine Pm.at3 ?_ | with_reducible refine Pm.at4 ?_ | with_reducible refine Pm.at5 ?_ | with_reducible refine Pm.at6 ?_ | with_reducible refine Pm.at7 ?_ | with_reducible refine Pm.at8 ?_ | with_reducible refine Pm.skip ?_)))⟩
end Go.Proofs.Ytnffoiocejfppaa
