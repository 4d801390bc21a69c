/- gain: all states. -/
import Derived.Test.YtnffoiocejfppaaGain3
namespace Go.Proofs.Ytnffoiocejfppaa
open Go.RowKit
def stCells (k : Nat) : List Value := (List.range k).map fun i => Value.int .i64 (i : Nat)
theorem stCells_snoc (k : Nat) : stCells (k + 1) = stCells k ++ [.int .i64 k] := by simp [stCells, List.range_succ]
theorem stCells_len (k : Nat) : (stCells k).length = k := by simp [stCells]
theorem stCells_at {k i : Nat} (h : i < k) : (stCells k)[i]? = some (.int .i64 i) := by simp [stCells, h]
section
variable (w : World)
set_option maxHeartbeats 1600000 in
theorem gainAll_c (ε : World) (L : List Asn) (H : Own ε w L) : Calls Try.prog 52 #[] w fun e w' => ∃ v, e = .returned v ∧ Own ε w' (slc 51 1 v (stCells 7) :: L) := by
  have HH := Lib.hid H
  clear H
  go_enter Try.func52, Try.ntmps52
  go_wp2_with fail
  refine (gainTable_c _).mono ?_
  rintro e w1 ⟨rfl, hbel⟩
  replace HH := Lib.hid ((by first | exact Kp.same hbel | exact Kp.drew hbel | exact Kp.below hbel : Kp _ w1) _ _ (by first | exact HH.out | exact HH.out.drewN _ | exact (HH.out.alloc _).tail | exact ((HH.out.alloc _).drewN _).tail | exact ((HH.out.alloc _).alloc _).tail.tail))
  clear hbel
  go_wp2_with fail
  go_loopw [1, 4] (fun v i wr => ∃ k : Nat, k ≤ 7 ∧ i = .int .i64 k ∧ Own ε wr (slc 51 1 v (stCells k) :: L)) (fun _ i _ => 7 - (intOf i).toNat)
  case atStart => exact ⟨0, by omega, rfl, HH.out.slc_none⟩
  case round =>
    obtain ⟨k, hk, rfl, HR⟩ := hrel
    replace HR := Lib.hid HR
    by_cases hlt : k < 7
    · go_wp2_with (first | with_reducible refine stop_bs ?_ | with_reducible refine stop_bx ?_ | with_reducible refine stop_al ?_ | with_reducible refine stop_ms ?_ | with_reducible refine stop_app ?_ | with_reducible refine stop_copy ?_)
      refine Stop.go ?_
      go_step
      go_simp
      have H3 := Lib.hid (HR.out.alloc (.cells #[.int .i64 k] 51))
      generalize wr.alloc (.cells #[.int .i64 k] 51) = w3 at *
      generalize wr.heap.size = sb at *
      have hs := Lib.hid (show srcAt w3 (some ⟨sb, 0, none⟩) 1 1 [.int .i64 k] from ⟨rfl, .inr ⟨sb, 0, rfl, fun j u hj => by rw [H3.out.cells.1]; cases j with | zero => simpa using hj | succ j => simp at hj⟩⟩)
      go_wp2_with (first | with_reducible refine stop_bs ?_ | with_reducible refine stop_bx ?_ | with_reducible refine stop_al ?_ | with_reducible refine stop_ms ?_ | with_reducible refine stop_app ?_ | with_reducible refine stop_copy ?_)
      refine Stop.go ?_
      refine wpList_append_slc rfl _ _ 60 rfl 51 1 8 Try.underlying60 (by kernel_rfl) (by decide) rfl (H3.out.r2) rfl ((show (stCells k).length = k * 1 by simp [stCells_len])) (hs.out) ((by intro u hu; simp at hu; subst hu; rfl)) (by simp only [maxLen]; omega) (by omega) ?_
      intro v4 w4 H4
      replace H4 := Lib.hid H4
      rw [← stCells_snoc] at H4
      go_wp2
      go_roundw
      case rel => exact ⟨k + 1, by omega, by go_num, (Own.pm (H4.out) (by repeat (first | with_reducible exact Pm.refl _ | with_reducible refine Pm.here ?_ | with_reducible refine Pm.at2 ?_ | with_reducible refine Pm.at3 ?_ | with_reducible refine Pm.at4 ?_ | with_reducible refine Pm.at5 ?_ | with_reducible refine Pm.at6 ?_ | with_reducible refine Pm.at7 ?_ | with_reducible refine Pm.at8 ?_ | with_reducible refine Pm.skip ?_)))⟩
      case measure => simp [intOf]; omega
    · obtain rfl : k = 7 := by omega
      go_wp2
      go_ret
      exact ⟨_, rfl, HR.out⟩
end
theorem gPace_lin (i a b : Int) (hi : 0 ≤ i ∧ i ≤ 6) (ha : 0 ≤ a) (ha2 : a < 36028797018963968) (hb : 0 ≤ b) (hb2 : b < 36028797018963968) : gPace i a + gPace i b ≤ gPace i (a + b) ∧ gPace i (a + b) ≤ gPace i a + gPace i b + 1 ∧ gPace i a + gPace i b + 1 ≤ 1000000000000000000 ∧ 0 ≤ gPace i a ∧ 0 ≤ gPace i b := by
  have hs : i = 0 ∨ i = 1 ∨ i = 2 ∨ i = 3 ∨ i = 4 ∨ i = 5 ∨ i = 6 := by omega
  rcases hs with rfl | rfl | rfl | rfl | rfl | rfl | rfl
  all_goals
    simp only [gPace, gAt, gTab, sshare, hi64]
    simp
    omega
theorem gWindow_up (i a b : Int) (ha : U a) (hab : U (a + b)) (hb : 0 ≤ b) : gWindow i a ≤ gWindow i (a + b) := by
  unfold gWindow
  exact rise_over ha (U_gAt i).2 hab (U_gAt i).2 (by decide) (Int.mul_le_mul_of_nonneg_right (by omega) (U_gAt i).2.1) (Int.le_refl _)
theorem gParse_name (k : Nat) (h : k < 7) : gParse (gAt k).1 = some k := by
  rcases (show k = 0 ∨ k = 1 ∨ k = 2 ∨ k = 3 ∨ k = 4 ∨ k = 5 ∨ k = 6 by omega) with rfl | rfl | rfl | rfl | rfl | rfl | rfl <;> kernel_rfl
theorem slc_states {ε w : World} {v : Value} {R : List Asn} (H : Own ε w (slc 51 1 v (stCells 7) :: R)) : ∃ g cap, v = .slice (some ⟨g, 0, none⟩) 7 cap ∧ ∀ i, i < 7 → w.cell? ⟨g, i, none⟩ = some (.int .i64 (i : Nat)) := by
  rcases H.slc_val with ⟨_, h⟩ | ⟨g, n, cap, rfl, _, _, h3, h4, _⟩
  · have := congrArg List.length h
    rw [stCells_len] at this
    cases this
  · rw [stCells_len] at h3
    obtain rfl : n = 7 := by omega
    exact ⟨g, cap, rfl, fun i hi => h4 i _ (stCells_at hi)⟩
set_option maxRecDepth 100000 in
set_option maxHeartbeats 6400000 in
theorem gainAllLaw_c (w : World) (a : Int) (ha : (Lit.int .u64 a).wf = true) (b : Int) (hb : (Lit.int .u64 b).wf = true) :
    Calls Try.prog 12 #[.int .u64 a, .int .u64 b] w fun e w' => e = .returned (.bool true) ∧ Own w w' [old w] := by
  have HH := Lib.hid (Own.init w)
  replace ha := Lib.hid (U_of_wf ha)
  replace hb := Lib.hid (U_of_wf hb)
  by_cases hbig : 36028797018963968 ≤ a ∨ 36028797018963968 ≤ b
  · go_enter Try.func12, Try.ntmps12
    go_wp2_with fail
    refine (gainAll_c _ _ _ HH.out).mono ?_
    rintro e w1 ⟨v, rfl, H1⟩
    replace H1 := Lib.hid H1
    obtain ⟨g, cap, rfl, hc⟩ := slc_states H1.out
    clear hc
    rcases hbig with hbig | hbig
    all_goals
      go_wp2_with fail
      all_goals
        refine (alive12_k _).mono ?_
        rintro e w2 ⟨rfl, hbel⟩
        have H2 := Lib.hid (H1.out.below hbel)
        clear hbel
        go_wp2_with fail
        go_ret
        exact ⟨rfl, (Own.pm (H2.out) (by repeat (first | with_reducible exact Pm.refl _ | with_reducible refine Pm.here ?_ | with_reducible refine Pm.at2 ?_ | with_reducible refine Pm.at3 ?_ | with_reducible refine Pm.at4 ?_ | with_reducible refine Pm.at5 ?_ | with_reducible refine Pm.at6 ?_ | with_reducible refine Pm.at7 ?_ | with_reducible refine Pm.at8 ?_ | with_reducible refine Pm.skip ?_)))⟩
  have ha2 : a < 36028797018963968 := by omega
  have hb2 : b < 36028797018963968 := by omega
  clear hbig
  have haU := ha.out
  have hbU := hb.out
  unfold U at haU hbU
  have hlin := Lib.hid (fun i hi => gPace_lin i a b hi haU.1 ha2 hbU.1 hb2)
  have habU : U (a + b) := by unfold U; omega
  have hup := Lib.hid (fun i => gWindow_up i a b ha.out habU hbU.1)
  replace habU := Lib.hid habU
  go_enter Try.func12, Try.ntmps12
  go_wp2_with fail
  refine (gainAll_c _ _ _ HH.out).mono ?_
  rintro e w1 ⟨v, rfl, H1⟩
  replace H1 := Lib.hid H1
  obtain ⟨g, cap, rfl, hc⟩ := slc_states H1.out
  clear hc
  go_wp2_with fail
  go_loopw [6, 7, 8, 9, 10, 11] (fun i _ _ _ _ _ wr => ∃ k : Nat, k ≤ 7 ∧ i = .int .i64 k ∧ Own w wr (slc 51 1 (.slice (some ⟨g, 0, none⟩) 7 cap) (stCells 7) :: [old w])) (fun i _ _ _ _ _ _ => 7 - (intOf i).toNat)
  case atStart => exact ⟨0, by omega, rfl, H1.out⟩
  case round =>
    obtain ⟨k, hk, rfl, HR⟩ := hrel
    replace HR := Lib.hid HR
    clear H1
    by_cases hlt : k < 7
    · have cellk : ∀ {w' : World} {R : List Asn}, Own w w' (slc 51 1 (.slice (some ⟨g, 0, none⟩) 7 cap) (stCells 7) :: R) → w'.cell? ⟨g, k, none⟩ = some (.int .i64 k) := fun H => by
        obtain ⟨g', cap', e, hc⟩ := slc_states H
        cases e
        exact hc k hlt
      have hp := gParse_name k hlt
      have hgr : gRes (gParse (gAt (k : Int)).1) = .tuple #[.int .i64 k, .int .i64 0] := by rw [hp]; rfl
      clear hp
      replace hgr := Lib.hid hgr
      obtain ⟨q1, q2, q3, q4, q5⟩ := hlin.out k ⟨by omega, by omega⟩
      have q6 := hup.out k
      have hok : gOk (k : Int) = true := decide_eq_true ⟨by omega, by omega⟩
      have hR : ∀ w', Calls Try.prog 42 #[.int .i64 k] w' fun e w'' => e = .returned (.bool true) ∧ w' = w'' := fun w' => hok ▸ gainRight_c w' k
      replace q6 := Lib.hid q6
      clear hok
      have c0 := cellk HR.out
      go_wp2_with fail
      refine (gainName_c _ (k : Int)).mono ?_
      rintro e w2 ⟨rfl, hbel⟩
      replace HR := Lib.hid ((by first | exact Kp.same hbel | exact Kp.drew hbel | exact Kp.below hbel : Kp _ w2) _ _ (by first | exact HR.out | exact HR.out.drewN _ | exact (HR.out.alloc _).tail | exact ((HR.out.alloc _).drewN _).tail | exact ((HR.out.alloc _).alloc _).tail.tail))
      clear hbel
      go_wp2_with fail
      refine (gainParse_c _ _).mono ?_
      rintro e w3 ⟨rfl, hbel⟩
      replace HR := Lib.hid ((by first | exact Kp.same hbel | exact Kp.drew hbel | exact Kp.below hbel : Kp _ w3) _ _ (by first | exact HR.out | exact HR.out.drewN _ | exact (HR.out.alloc _).tail | exact ((HR.out.alloc _).drewN _).tail | exact ((HR.out.alloc _).alloc _).tail.tail))
      clear hbel
      rw [hgr.out]
      clear c0
      have c0 := cellk HR.out
      go_wp2_with fail
      refine (gainPace_c _ (k : Int) a ha.out).mono ?_
      rintro e w4 ⟨rfl, hbel⟩
      replace HR := Lib.hid ((by first | exact Kp.same hbel | exact Kp.drew hbel | exact Kp.below hbel : Kp _ w4) _ _ (by first | exact HR.out | exact HR.out.drewN _ | exact (HR.out.alloc _).tail | exact ((HR.out.alloc _).drewN _).tail | exact ((HR.out.alloc _).alloc _).tail.tail))
      clear hbel
      clear c0
      have c0 := cellk HR.out
      go_wp2_with fail
      refine (gainPace_c _ (k : Int) b hb.out).mono ?_
      rintro e w5 ⟨rfl, hbel⟩
      replace HR := Lib.hid ((by first | exact Kp.same hbel | exact Kp.drew hbel | exact Kp.below hbel : Kp _ w5) _ _ (by first | exact HR.out | exact HR.out.drewN _ | exact (HR.out.alloc _).tail | exact ((HR.out.alloc _).drewN _).tail | exact ((HR.out.alloc _).alloc _).tail.tail))
      clear hbel
      clear c0
      have c0 := cellk HR.out
      go_wp2_with fail
      refine (gainPace_c _ (k : Int) (a + b) habU.out).mono ?_
      rintro e w6 ⟨rfl, hbel⟩
      replace HR := Lib.hid ((by first | exact Kp.same hbel | exact Kp.drew hbel | exact Kp.below hbel : Kp _ w6) _ _ (by first | exact HR.out | exact HR.out.drewN _ | exact (HR.out.alloc _).tail | exact ((HR.out.alloc _).drewN _).tail | exact ((HR.out.alloc _).alloc _).tail.tail))
      clear hbel
      clear c0
      have c0 := cellk HR.out
      generalize gPace (k : Int) a = x at *
      generalize gPace (k : Int) b = y at *
      generalize gPace (k : Int) (a + b) = z at *
      go_wp2_with fail
      clear c0
      have q7 := q6.out
      have hw1 : IntKind.u64.wrap (a + b) = a + b := by rw [IntKind.wrap_u64]; omega
      have hw2 : IntKind.u64.wrap (x + y) = x + y := by rw [IntKind.wrap_u64]; omega
      have hw3 : IntKind.u64.wrap (x + y + 1) = x + y + 1 := by rw [IntKind.wrap_u64]; omega
      refine wp_region_calm w [slc 51 1 (.slice (some ⟨g, 0, none⟩) 7 cap) (stCells 7), old w] (by kernel_rfl) (by kernel_rfl) HR.out ?_
      repeat
        first
        | go_big_quiet_skip
        | (go_big_quiet_want; go_big_quiet_op; first | go_big_quiet_on | (apply Exists.intro; refine ⟨?_, ?_⟩; (focus (intro wx hx; have x1' := cellk hx; first | (first | (go_at_call 42; refine (hR wx).mono ?_; rintro e wy ⟨rfl, hbel⟩; exact ⟨rfl, (by first | exact Kp.same hbel | exact Kp.drew hbel | exact Kp.below hbel : Kp wx wy) _ _ hx⟩) | (go_at_call 48; refine (gainWindow_c wx _ _ (by first | exact ha.out | exact habU.out)).mono ?_; rintro e wy ⟨rfl, hbel⟩; exact ⟨rfl, (by first | exact Kp.same hbel | exact Kp.drew hbel | exact Kp.below hbel : Kp wx wy) _ _ hx⟩)) | (go_simp; first | rfl | exact ⟨rfl, rfl⟩) | rfl | exact ⟨rfl, rfl⟩)); go_big_quiet_on))
        | (refine wpQuiet_step (fun K hK => ?_)
           go_simp
           first
           | (refine hK _ ?_; clear hK K)
           | (apply Exists.intro
              refine ⟨?_, hK _ ?_⟩
              (focus (intro wx hx; have x1' := cellk hx; first | (first | (go_at_call 42; refine (hR wx).mono ?_; rintro e wy ⟨rfl, hbel⟩; exact ⟨rfl, (by first | exact Kp.same hbel | exact Kp.drew hbel | exact Kp.below hbel : Kp wx wy) _ _ hx⟩) | (go_at_call 48; refine (gainWindow_c wx _ _ (by first | exact ha.out | exact habU.out)).mono ?_; rintro e wy ⟨rfl, hbel⟩; exact ⟨rfl, (by first | exact Kp.same hbel | exact Kp.drew hbel | exact Kp.below hbel : Kp wx wy) _ _ hx⟩)) | (go_simp; first | rfl | exact ⟨rfl, rfl⟩) | rfl | exact ⟨rfl, rfl⟩))
              clear hK K))
      refine wpQuiet_nil ?_
      intro w7 H9_
      replace HR := Lib.hid H9_
      clear H9_
      clear hw1 hw2 hw3
      go_wp2
      go_roundw
      case rel => exact ⟨k + 1, by omega, by go_num, HR.out⟩
      case measure => simp [intOf]; omega
    · obtain rfl : k = 7 := by omega
      go_wp2_with fail
      refine (alive12_k _).mono ?_
      rintro e w2 ⟨rfl, hbel⟩
      replace HR := Lib.hid ((by first | exact Kp.same hbel | exact Kp.drew hbel | exact Kp.below hbel : Kp _ w2) _ _ (by first | exact HR.out | exact HR.out.drewN _ | exact (HR.out.alloc _).tail | exact ((HR.out.alloc _).drewN _).tail | exact ((HR.out.alloc _).alloc _).tail.tail))
      clear hbel
      go_wp2_with fail
      refine (gainRight_c _ 7).mono ?_
      rw [show gOk 7 = false from by first | rfl | decide]
      rintro e w3 ⟨rfl, hbel⟩
      replace HR := Lib.hid ((by first | exact Kp.same hbel | exact Kp.drew hbel | exact Kp.below hbel : Kp _ w3) _ _ (by first | exact HR.out | exact HR.out.drewN _ | exact (HR.out.alloc _).tail | exact ((HR.out.alloc _).drewN _).tail | exact ((HR.out.alloc _).alloc _).tail.tail))
      clear hbel
      go_wp2_with fail
      refine (gainRight_c _ (-1)).mono ?_
      rw [show gOk (-1) = false from by first | rfl | decide]
      rintro e w4 ⟨rfl, hbel⟩
      replace HR := Lib.hid ((by first | exact Kp.same hbel | exact Kp.drew hbel | exact Kp.below hbel : Kp _ w4) _ _ (by first | exact HR.out | exact HR.out.drewN _ | exact (HR.out.alloc _).tail | exact ((HR.out.alloc _).drewN _).tail | exact ((HR.out.alloc _).alloc _).tail.tail))
      clear hbel
      go_wp2_with fail
      go_ret
      exact ⟨rfl, (Own.pm (HR.out) (by repeat (first | with_reducible exact Pm.refl _ | with_reducible refine Pm.here ?_ | with_reducible refine Pm.at2 ?_ | with_reducible refine Pm.at3 ?_ | with_reducible refine Pm.at4 ?_ | with_reducible refine Pm.at5 ?_ | with_reducible refine Pm.at6 ?_ | with_reducible refine Pm.at7 ?_ | with_reducible refine Pm.at8 ?_ | with_reducible refine Pm.skip ?_)))⟩
end Go.Proofs.Ytnffoiocejfppaa
