/- gain, and its reference. -/
import Derived.Test.YtpfbbpiidhhkbaaGainT
namespace Go.Proofs.Ytpfbbpiidhhkbaa
open Go.RowKit
section
variable (w : World)
theorem gainRight_c (s : Int) : Calls Try.prog 72 #[.int .i64 s] w fun e w' => e = .returned (.bool (gOk s)) ∧ w = w' := by
  unfold gOk
  by_cases h0 : 0 ≤ s
  · by_cases h1 : s ≤ 6
    · rw [decide_eq_true ⟨h0, h1⟩]
      go_enter Try.func72, Try.ntmps72
      go_wp2_with fail
      go_ret
      exact ⟨rfl, rfl⟩
    · rw [decide_eq_false (by omega)]
      go_enter Try.func72, Try.ntmps72
      go_wp2_with fail
      go_ret
      exact ⟨rfl, rfl⟩
  · rw [decide_eq_false (by omega)]
    go_enter Try.func72, Try.ntmps72
    go_wp2_with fail
    go_ret
    exact ⟨rfl, rfl⟩
set_option maxHeartbeats 1600000 in
set_option maxRecDepth 100000 in
theorem gainOf_c (s : Int) : Calls Try.prog 45 #[.int .i64 s] w fun e w' => e = .returned (gCell (gAt s)) ∧ Below w.heap.size w w' := by
  have HH := Lib.hid (Own.init w)
  have hix : ∀ k : Nat, k < 7 → ∀ w, (Instr.index 117 gAgg (.int .i64 k)).run Try.prog w = .ok (gCell (gTab.getD k (⟨#[]⟩, 0, 0))) w := by
    intro k hk w
    rcases (show k = 0 ∨ k = 1 ∨ k = 2 ∨ k = 3 ∨ k = 4 ∨ k = 5 ∨ k = 6 by omega) with rfl | rfl | rfl | rfl | rfl | rfl | rfl <;> kernel_rfl
  replace hix := Lib.hid hix
  by_cases h : 0 ≤ s ∧ s ≤ 6
  · obtain ⟨k, rfl⟩ := Int.eq_ofNat_of_zero_le h.1
    have hk : k < 7 := by omega
    have e : gAt k = gTab.getD k (⟨#[]⟩, 0, 0) := by unfold gAt; rw [if_pos h]; rfl
    have e1 : gOk k = true := decide_eq_true h
    rw [e]
    clear e
    have i0 := hix.out k hk
    obtain ⟨⟨n, p, q⟩, hg⟩ : ∃ g, gTab.getD k (⟨#[]⟩, 0, 0) = g := ⟨_, rfl⟩
    rw [hg] at i0 ⊢
    clear hg h hk
    have e2 : gCell (n, p, q) = .agg #[.string n, .int .u64 p, .int .u64 q] := rfl
    rw [e2] at i0 ⊢
    clear e2
    go_enter Try.func45, Try.ntmps45
    go_wp2_with (first | with_reducible refine stop_bs ?_ | with_reducible refine stop_bx ?_ | with_reducible refine stop_al ?_ | with_reducible refine stop_ms ?_ | with_reducible refine stop_app ?_ | with_reducible refine stop_copy ?_)
    refine Stop.go ?_
    go_step
    go_simp
    have H2 := Lib.hid (HH.out.alloc (.cells #[.string ⟨#[]⟩, .int .u64 0, .int .u64 0] 93))
    generalize w.alloc (.cells #[.string ⟨#[]⟩, .int .u64 0, .int .u64 0] 93) = w2 at *
    generalize w.heap.size = b at *
    go_wp2_with fail
    refine (gainRight_c _ _).mono ?_
    rintro e w' ⟨rfl, rfl⟩
    rw [e1]
    clear e1
    go_wp2_with fail
    refine (gainTable_c _).mono ?_
    rintro e w3 ⟨rfl, hbel⟩
    replace H2 := Lib.hid ((by first | exact Kp.same hbel | exact Kp.drew hbel | exact Kp.below hbel : Kp _ w3) _ _ (by first | exact H2.out | exact H2.out.drewN _ | exact (H2.out.alloc _).tail | exact ((H2.out.alloc _).drewN _).tail | exact ((H2.out.alloc _).alloc _).tail.tail))
    clear hbel
    go_wp2_with (with_reducible refine stop_st ?_)
    refine Stop.go ?_
    refine wpList_store_own _ #[.string n, .int .u64 p, .int .u64 q] rfl rfl (H2.out) (by kernel_rfl) rfl (by simp [Value.oneCell']) ?_
    intro w4 H4
    replace H4 := Lib.hid H4
    go_wp2_with fail
    refine bodyPost_ret (results_cell_row rfl _ _ _ _ _ _ _ rfl H4.out.blk Try.underlying93 rfl (by kernel_rfl)) rfl (⟨rfl, H4.out.tail.old_below⟩)
  · have e : gAt s = (⟨#[]⟩, 0, 0) := by unfold gAt; rw [if_neg h]
    have e1 : gOk s = false := decide_eq_false h
    rw [e]
    clear e h
    go_enter Try.func45, Try.ntmps45
    go_wp2_with fail
    refine (gainRight_c _ _).mono ?_
    rintro e w' ⟨rfl, rfl⟩
    rw [e1]
    go_wp2_with fail
    refine bodyPost_ret (v := .agg #[.string ⟨#[]⟩, .int .u64 0, .int .u64 0]) (by simp [results, Try.results45, go_sem]) rfl (⟨rfl, (by repeat (first | with_reducible exact Below.refl _ _ | with_reducible refine Below.alloc ?_ (by simp; first | done | omega) _ | with_reducible refine Below.setCell ?_ (by simp; first | done | omega) _ | with_reducible refine Below.drewN ?_ _ | with_reducible refine Below.drew ?_))⟩)
set_option maxHeartbeats 1600000 in
set_option maxRecDepth 100000 in
theorem gainPace_c (s r : Int) (hr : U r) : Calls Try.prog 25 #[.int .i64 s, .int .u64 r] w fun e w' => e = .returned (.int .u64 (gPace s r)) ∧ Below w.heap.size w w' := by
  have HH := Lib.hid (Own.init w)
  replace hr := Lib.hid hr
  have hU := Lib.hid (U_gAt s).1
  unfold gPace
  have hne : ∀ k : Nat, k < 7 → (∀ w, (binOp .eql 93 (gCell (gTab.getD k (⟨#[]⟩, 0, 0))) (.agg #[.string ⟨#[]⟩, .int .u64 0, .int .u64 0])).run Try.prog w = .ok (.bool false) w) := by
    intro k hk w
    rcases (show k = 0 ∨ k = 1 ∨ k = 2 ∨ k = 3 ∨ k = 4 ∨ k = 5 ∨ k = 6 by omega) with rfl | rfl | rfl | rfl | rfl | rfl | rfl <;> kernel_rfl
  replace hne := Lib.hid hne
  by_cases h : 0 ≤ s ∧ s ≤ 6
  · rw [if_pos h]
    obtain ⟨k, rfl⟩ := Int.eq_ofNat_of_zero_le h.1
    have hk : k < 7 := by omega
    have e : gAt k = gTab.getD k (⟨#[]⟩, 0, 0) := by unfold gAt; rw [if_pos h]; rfl
    have i0 := hne.out k hk
    rw [← e] at i0
    clear e h hk
    have ho := gainOf_c w k
    obtain ⟨⟨n, p, q⟩, hg⟩ : ∃ g, gAt k = g := ⟨_, rfl⟩
    rw [hg] at i0 ho hU ⊢
    clear hg
    have e2 : gCell (n, p, q) = .agg #[.string n, .int .u64 p, .int .u64 q] := rfl
    rw [e2] at i0 ho
    clear e2
    simp only at hU ⊢
    go_enter Try.func25, Try.ntmps25
    go_wp2_with fail
    refine (ho).mono ?_
    rintro e w3 ⟨rfl, hbel⟩
    replace HH := Lib.hid ((by first | exact Kp.same hbel | exact Kp.drew hbel | exact Kp.below hbel : Kp _ w3) _ _ (by first | exact HH.out | exact HH.out.drewN _ | exact (HH.out.alloc _).tail | exact ((HH.out.alloc _).drewN _).tail | exact ((HH.out.alloc _).alloc _).tail.tail))
    clear hbel
    clear ho
    go_wp2_with (first | with_reducible refine stop_bs ?_ | with_reducible refine stop_bx ?_ | with_reducible refine stop_al ?_ | with_reducible refine stop_ms ?_ | with_reducible refine stop_app ?_ | with_reducible refine stop_copy ?_)
    refine Stop.go ?_
    go_step
    go_simp
    have H4_0 := Lib.hid (HH.out.alloc (.cells #[.string ⟨#[]⟩, .int .u64 0, .int .u64 0] 93))
    generalize w3.alloc (.cells #[.string ⟨#[]⟩, .int .u64 0, .int .u64 0] 93) = w4_0 at *
    generalize w3.heap.size = b at *
    go_wp2_with (with_reducible refine stop_st ?_)
    refine Stop.go ?_
    refine wpList_store_own _ #[.string n, .int .u64 p, .int .u64 q] rfl rfl (H4_0.out) (by kernel_rfl) rfl (by simp [Value.oneCell']) ?_
    intro w4 H4
    replace H4 := Lib.hid H4
    clear H4_0
    clear HH
    (try clear k1); have k1 := H4.out.cells
    go_wp2_with fail
    refine (fixShare_c _ _ _ 100 hr.out hU.out (by decide)).mono ?_
    rintro e w5 ⟨rfl, hbel⟩
    replace H4 := Lib.hid ((by first | exact Kp.same hbel | exact Kp.drew hbel | exact Kp.below hbel : Kp _ w5) _ _ (by first | exact H4.out | exact H4.out.drewN _ | exact (H4.out.alloc _).tail | exact ((H4.out.alloc _).drewN _).tail | exact ((H4.out.alloc _).alloc _).tail.tail))
    clear hbel
    go_wp2_with fail
    go_ret
    exact ⟨rfl, H4.out.tail.old_below⟩
  · rw [if_neg h]
    have e : gAt s = (⟨#[]⟩, 0, 0) := by unfold gAt; rw [if_neg h]
    have ho := gainOf_c w s
    rw [e, show gCell (⟨#[]⟩, 0, 0) = .agg #[.string ⟨#[]⟩, .int .u64 0, .int .u64 0] from rfl] at ho
    clear e h
    go_enter Try.func25, Try.ntmps25
    go_wp2_with fail
    refine (ho).mono ?_
    rintro e w3 ⟨rfl, hbel⟩
    replace HH := Lib.hid ((by first | exact Kp.same hbel | exact Kp.drew hbel | exact Kp.below hbel : Kp _ w3) _ _ (by first | exact HH.out | exact HH.out.drewN _ | exact (HH.out.alloc _).tail | exact ((HH.out.alloc _).drewN _).tail | exact ((HH.out.alloc _).alloc _).tail.tail))
    clear hbel
    clear ho
    go_wp2_with (first | with_reducible refine stop_bs ?_ | with_reducible refine stop_bx ?_ | with_reducible refine stop_al ?_ | with_reducible refine stop_ms ?_ | with_reducible refine stop_app ?_ | with_reducible refine stop_copy ?_)
    refine Stop.go ?_
    go_step
    go_simp
    have H4_0 := Lib.hid (HH.out.alloc (.cells #[.string ⟨#[]⟩, .int .u64 0, .int .u64 0] 93))
    generalize w3.alloc (.cells #[.string ⟨#[]⟩, .int .u64 0, .int .u64 0] 93) = w4_0 at *
    generalize w3.heap.size = b at *
    go_wp2_with (with_reducible refine stop_st ?_)
    refine Stop.go ?_
    refine wpList_store_own _ #[.string ⟨#[]⟩, .int .u64 0, .int .u64 0] rfl rfl (H4_0.out) (by kernel_rfl) rfl (by simp [Value.oneCell']) ?_
    intro w4 H4
    replace H4 := Lib.hid H4
    clear H4_0
    clear HH
    (try clear k1); have k1 := H4.out.cells
    go_wp2_with fail
    go_ret
    exact ⟨rfl, H4.out.tail.old_below⟩
theorem gainWindow_c (s r : Int) (hr : U r) : Calls Try.prog 65 #[.int .i64 s, .int .u64 r] w fun e w' => e = .returned (.int .u64 (gWindow s r)) ∧ Below w.heap.size w w' := by
  have HH := Lib.hid (Own.init w)
  replace hr := Lib.hid hr
  have hU := Lib.hid (U_gAt s).2
  unfold gWindow
  have ho := gainOf_c w s
  obtain ⟨⟨n, p, q⟩, hg⟩ : ∃ g, gAt s = g := ⟨_, rfl⟩
  rw [hg] at ho hU ⊢
  clear hg
  rw [show gCell (n, p, q) = .agg #[.string n, .int .u64 p, .int .u64 q] from rfl] at ho
  simp only at hU ⊢
  have hf : ∀ w, (Instr.field 93 (.agg #[.string n, .int .u64 p, .int .u64 q]) 2).run Try.prog w = .ok (.int .u64 q) w := fun w => by kernel_rfl
  go_enter Try.func65, Try.ntmps65
  go_wp2_with fail
  refine (ho).mono ?_
  rintro e w3 ⟨rfl, hbel⟩
  replace HH := Lib.hid ((by first | exact Kp.same hbel | exact Kp.drew hbel | exact Kp.below hbel : Kp _ w3) _ _ (by first | exact HH.out | exact HH.out.drewN _ | exact (HH.out.alloc _).tail | exact ((HH.out.alloc _).drewN _).tail | exact ((HH.out.alloc _).alloc _).tail.tail))
  clear hbel
  clear ho
  go_wp2_with fail
  refine (fixOver_c _ _ _ 100 hr.out hU.out (by decide)).mono ?_
  rintro e w5 ⟨rfl, hbel⟩
  replace HH := Lib.hid ((by first | exact Kp.same hbel | exact Kp.drew hbel | exact Kp.below hbel : Kp _ w5) _ _ (by first | exact HH.out | exact HH.out.drewN _ | exact (HH.out.alloc _).tail | exact ((HH.out.alloc _).drewN _).tail | exact ((HH.out.alloc _).alloc _).tail.tail))
  clear hbel
  go_wp2_with fail
  go_ret
  exact ⟨rfl, HH.out.old_below⟩
end
end Go.Proofs.Ytpfbbpiidhhkbaa
