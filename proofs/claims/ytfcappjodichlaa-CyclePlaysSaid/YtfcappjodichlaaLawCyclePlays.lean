/-
  The law CyclePlays holds for every input that the row speaks of: no condition is added. Its arguments are read into plain data, its walk is cyclePlays_c, its arguments read behind the call as before.
-/
import Derived.Test.YtfcappjodichlaaRow
import Derived.Test.YtfcappjodichlaaWalkCyclePlays
namespace Go.Proofs.Ytfcappjodichlaa
open Go.ChangeShapes Go.WideShapes Go.ChangeAt Go.RowKit
set_option linter.unusedVariables false
theorem ownCyclePlays : ownKnob Try.prog.godebug = none := by kernel_rfl
theorem laidOutCyclePlays : laidOutB Try.prog = true := by kernel_rfl
set_option maxRecDepth 100000 in
theorem cyclePlays_lifted (os : Os) (started : os.Started) (H : Type) (enc : TypeId × Value → H) :
    ReturnsInHanded {} Try.checked os 3 .any (Rows.cyclePlaysSpec.pre6 enc Try.prog Try.f3 Rows.cyclePlaysRow.domain false) (Rows.cyclePlaysSpec.post enc Try.prog Try.f3 false true false false) := by
  refine returnsInHanded_of_change (C := Try.checked) ownCyclePlays started (by kernel_rfl) Try.func3
    (ChangeSpec.witness6 (enc := enc) (C := Try.checked) false ⟨#[], #[.slice none 0 0], []⟩ 8 (by kernel_rfl) (by kernel_rfl) (by kernel_rfl) (by kernel_rfl)) ?_
  intro W base args ds gs before hval0 hW hcnd _
  have hval : ∀ (j : Nat) t v, Try.f3.params[j]? = some t → args[j]? = some v → Value.okWide Try.prog W .any base t v := hval0
  have hW' := hW
  obtain ⟨p, q, hA0, hV, rfl, hfz, hnd⟩ := hW
  have hA : DataW.TrodAll enc Try.prog W 0 (fun _ => true) true Try.f3.params.toList args.toList ds p := hA0
  rw [Try.params3] at hA hval
  obtain ⟨v0, vs0, d0, ds0, p0, q0, hargs, rfl, rfl, h0, r0⟩ := trodAll_cons hA
  obtain ⟨rfl, rfl, rfl⟩ := trodAll_nil r0
  obtain rfl : args = #[v0] := by cases args; simp_all
  obtain ⟨rfl, rfl⟩ := trodVars_none hV
  have k0 := h0
  have lt0 : ∀ x ∈ p0, x.block < W.heap.size := by obtain ⟨m, hm⟩ := k0; exact DataW.trod_lt m _ _ _ hm
  obtain ⟨A0, len0, cap0, rfl⟩ := okWide_slice Try.underlying22 (hval 0 22 v0 rfl rfl)
  obtain ⟨xs0, hr0⟩ : ∃ xs, (rdSlice (rdSlice (rdInt .u64) 1) 1) W [.slice A0 len0 cap0] xs := by
    obtain ⟨fuel, hf⟩ := h0
    have hf2 : DataW.trod enc Try.prog W 0 (fun _ => true) true fuel 22 [.slice A0 len0 cap0] = some (d0, p0) := hf
    exact (show Opens enc Try.prog W 22 (rdSlice (rdSlice (rdInt .u64) 1) 1) from (opens_slice 1 (by omega) Try.underlying22 (by kernel_rfl) (opens_slice 1 (by omega) Try.underlying28 (by kernel_rfl) (opens_int Try.underlying31)))) _ _ _ _ hf2
  clear hA0 hval0
  refine (cyclePlays_c W A0 len0 cap0 xs0 hr0).mono fun e W' ⟨he, hown⟩ => ?_
  have bel := hown.old_below
  subst he
  exact ⟨_, rfl, _, _, _, [], _, [], hW', trodAll_mk1 (shut_bool Try.underlying4 _), (trodAll_cons_mk (Below.trod laidOutCyclePlays (by kernel_rfl) (of_decide_eq_true (by kernel_rfl)) k0 bel lt0) trodAll_mk0), rfl, bel.frame _, fun h => by cases h⟩
theorem cyclePlays_holds : Rows.CyclePlaysSaid :=
  OpenClaim.holds_of_wide 3 Try.f3 rfl rfl rfl rfl rfl rfl rfl ⟨rfl, rfl, rfl, rfl, rfl⟩ rfl rfl rfl rfl rfl (by kernel_rfl) Try.func3 (by kernel_rfl)
    (of_decide_eq_true (by kernel_rfl)) (by unfold Func.isWrapper; first | (rw [if_pos (by decide +kernel)]; kernel_rfl) | (rw [if_neg (by decide +kernel)]; exact ⟨rfl, rfl⟩))
    (fun os started H enc _ => cyclePlays_lifted os started H enc)
#print axioms cyclePlays_holds
end Go.Proofs.Ytfcappjodichlaa
