/-
  The law RoundCounts holds for every input that the row speaks of: no condition is added. Its arguments are read into plain data, its walk is roundCounts_c, its arguments read behind the call as before.
-/
import Derived.Test.YtfcappjodichlaaRow
import Derived.Test.YtfcappjodichlaaWalkRoundCounts
namespace Go.Proofs.Ytfcappjodichlaa
open Go.ChangeShapes Go.WideShapes Go.ChangeAt Go.RowKit
set_option linter.unusedVariables false
theorem ownRoundCounts : ownKnob Try.prog.godebug = none := by kernel_rfl
theorem laidOutRoundCounts : laidOutB Try.prog = true := by kernel_rfl
set_option maxRecDepth 100000 in
theorem roundCounts_lifted (os : Os) (started : os.Started) (H : Type) (enc : TypeId × Value → H) :
    ReturnsInHanded {} Try.checked os 5 .any (Rows.roundCountsSpec.pre6 enc Try.prog Try.f5 Rows.roundCountsRow.domain false) (Rows.roundCountsSpec.post enc Try.prog Try.f5 false true false false) := by
  refine returnsInHanded_of_change (C := Try.checked) ownRoundCounts started (by kernel_rfl) Try.func5
    (ChangeSpec.witness6 (enc := enc) (C := Try.checked) false ⟨#[], #[.slice none 0 0], []⟩ 8 (by kernel_rfl) (by kernel_rfl) (by kernel_rfl) (by kernel_rfl)) ?_
  intro W base args ds gs before hval0 hW hcnd _
  have hval : ∀ (j : Nat) t v, Try.f5.params[j]? = some t → args[j]? = some v → Value.okWide Try.prog W .any base t v := hval0
  have hW' := hW
  obtain ⟨p, q, hA0, hV, rfl, hfz, hnd⟩ := hW
  have hA : DataW.TrodAll enc Try.prog W 0 (fun _ => true) true Try.f5.params.toList args.toList ds p := hA0
  rw [Try.params5] at hA hval
  obtain ⟨v0, vs0, d0, ds0, p0, q0, hargs, rfl, rfl, h0, r0⟩ := trodAll_cons hA
  obtain ⟨rfl, rfl, rfl⟩ := trodAll_nil r0
  obtain rfl : args = #[v0] := by cases args; simp_all
  obtain ⟨rfl, rfl⟩ := trodVars_none hV
  have k0 := h0
  have lt0 : ∀ x ∈ p0, x.block < W.heap.size := by obtain ⟨m, hm⟩ := k0; exact DataW.trod_lt m _ _ _ hm
  obtain ⟨A0, len0, cap0, rfl⟩ := okWide_slice Try.underlying35 (hval 0 35 v0 rfl rfl)
  obtain ⟨xs0, hr0⟩ : ∃ xs, (rdSlice (rdPair (rdInt .u64) (rdPair (rdInt .u64) rdUnit)) 2) W [.slice A0 len0 cap0] xs := by
    obtain ⟨fuel, hf⟩ := h0
    have hf2 : DataW.trod enc Try.prog W 0 (fun _ => true) true fuel 35 [.slice A0 len0 cap0] = some (d0, p0) := hf
    exact (show Opens enc Try.prog W 35 (rdSlice (rdPair (rdInt .u64) (rdPair (rdInt .u64) rdUnit)) 2) from (opens_slice 2 (by omega) Try.underlying35 (by kernel_rfl) (opens_array 2 1 Try.underlying42 (by kernel_rfl) (by kernel_rfl) (opensA_cons (by omega) (opens_int Try.underlying31) (opensA_cons (by omega) (opens_int Try.underlying31) (opensA_nil (by omega))))))) _ _ _ _ hf2
  clear hA0 hval0
  refine (roundCounts_c W A0 len0 cap0 xs0 hr0).mono fun e W' ⟨he, hown⟩ => ?_
  have bel := hown.old_below
  subst he
  exact ⟨_, rfl, _, _, _, [], _, [], hW', trodAll_mk1 (shut_bool Try.underlying4 _), (trodAll_cons_mk (Below.trod laidOutRoundCounts (by kernel_rfl) (of_decide_eq_true (by kernel_rfl)) k0 bel lt0) trodAll_mk0), rfl, bel.frame _, fun h => by cases h⟩
theorem roundCounts_holds : Rows.RoundCountsSaid :=
  OpenClaim.holds_of_wide 5 Try.f5 rfl rfl rfl rfl rfl rfl rfl ⟨rfl, rfl, rfl, rfl, rfl⟩ rfl rfl rfl rfl rfl (by kernel_rfl) Try.func5 (by kernel_rfl)
    (of_decide_eq_true (by kernel_rfl)) (by unfold Func.isWrapper; first | (rw [if_pos (by decide +kernel)]; kernel_rfl) | (rw [if_neg (by decide +kernel)]; exact ⟨rfl, rfl⟩))
    (fun os started H enc _ => roundCounts_lifted os started H enc)
#print axioms roundCounts_holds
end Go.Proofs.Ytfcappjodichlaa
