/-
  The law RingOwn holds for every input that the row speaks of: no condition is added. Its arguments are read into plain data, its walk is ringOwn_c, its arguments read behind the call as before.
-/
import Derived.Test.YtfcappjodichlaaRow
import Derived.Test.YtfcappjodichlaaWalkRingOwn
namespace Go.Proofs.Ytfcappjodichlaa
open Go.ChangeShapes Go.WideShapes Go.ChangeAt Go.RowKit
set_option linter.unusedVariables false
theorem ownRingOwn : ownKnob Try.prog.godebug = none := by kernel_rfl
theorem laidOutRingOwn : laidOutB Try.prog = true := by kernel_rfl
set_option maxRecDepth 100000 in
theorem ringOwn_lifted (os : Os) (started : os.Started) (H : Type) (enc : TypeId × Value → H) :
    ReturnsInHanded {} Try.checked os 10 .any (Rows.ringOwnSpec.pre6 enc Try.prog Try.f10 Rows.ringOwnRow.domain false) (Rows.ringOwnSpec.post enc Try.prog Try.f10 false true false false) := by
  refine returnsInHanded_of_change (C := Try.checked) ownRingOwn started (by kernel_rfl) Try.func10
    (ChangeSpec.witness6 (enc := enc) (C := Try.checked) false ⟨#[], #[.slice none 0 0, .slice none 0 0], []⟩ 8 (by kernel_rfl) (by kernel_rfl) (by kernel_rfl) (by kernel_rfl)) ?_
  intro W base args ds gs before hval0 hW hcnd _
  have hval : ∀ (j : Nat) t v, Try.f10.params[j]? = some t → args[j]? = some v → Value.okWide Try.prog W .any base t v := hval0
  have hW' := hW
  obtain ⟨p, q, hA0, hV, rfl, hfz, hnd⟩ := hW
  have hA : DataW.TrodAll enc Try.prog W 0 (fun _ => true) true Try.f10.params.toList args.toList ds p := hA0
  rw [Try.params10] at hA hval
  obtain ⟨v0, vs0, d0, ds0, p0, q0, hargs, rfl, rfl, h0, r0⟩ := trodAll_cons hA
  obtain ⟨v1, vs1, d1, ds1, p1, q1, rfl, rfl, rfl, h1, r1⟩ := trodAll_cons r0
  obtain ⟨rfl, rfl, rfl⟩ := trodAll_nil r1
  obtain rfl : args = #[v0, v1] := by cases args; simp_all
  obtain ⟨rfl, rfl⟩ := trodVars_none hV
  have k0 := h0
  have lt0 : ∀ x ∈ p0, x.block < W.heap.size := by obtain ⟨m, hm⟩ := k0; exact DataW.trod_lt m _ _ _ hm
  obtain ⟨A0, len0, cap0, rfl⟩ := okWide_slice Try.underlying28 (hval 0 28 v0 rfl rfl)
  obtain ⟨xs0, hr0⟩ : ∃ xs, (rdSlice (rdInt .u64) 1) W [.slice A0 len0 cap0] xs := by
    obtain ⟨fuel, hf⟩ := h0
    have hf2 : DataW.trod enc Try.prog W 0 (fun _ => true) true fuel 28 [.slice A0 len0 cap0] = some (d0, p0) := hf
    exact (show Opens enc Try.prog W 28 (rdSlice (rdInt .u64) 1) from (opens_slice 1 (by omega) Try.underlying28 (by kernel_rfl) (opens_int Try.underlying31))) _ _ _ _ hf2
  have k1 := h1
  have lt1 : ∀ x ∈ p1, x.block < W.heap.size := by obtain ⟨m, hm⟩ := k1; exact DataW.trod_lt m _ _ _ hm
  obtain ⟨A1, len1, cap1, rfl⟩ := okWide_slice Try.underlying54 (hval 1 54 v1 rfl rfl)
  obtain ⟨xs1, hr1⟩ : ∃ xs, (rdSlice (rdPair (rdInt .u8) (rdPair (rdInt .u64) (rdPair (rdInt .i64) rdUnit))) 3) W [.slice A1 len1 cap1] xs := by
    obtain ⟨fuel, hf⟩ := h1
    have hf2 : DataW.trod enc Try.prog W 0 (fun _ => true) true fuel 54 [.slice A1 len1 cap1] = some (d1, p1) := hf
    exact (show Opens enc Try.prog W 54 (rdSlice (rdPair (rdInt .u8) (rdPair (rdInt .u64) (rdPair (rdInt .i64) rdUnit))) 3) from (opens_slice 3 (by omega) Try.underlying54 (by kernel_rfl) (opens_struct 3 Try.underlying62 (by kernel_rfl) (opensF_cons 1 (by kernel_rfl) rfl (opens_int Try.underlying5) (opensF_cons 1 (by kernel_rfl) rfl (opens_int Try.underlying31) (opensF_cons 1 (by kernel_rfl) rfl (opens_int Try.underlying3) opensF_nil)))))) _ _ _ _ hf2
  clear hA0 hval0
  refine (ringOwn_c W A0 len0 cap0 xs0 hr0 A1 len1 cap1 xs1 hr1).mono fun e W' ⟨he, hown⟩ => ?_
  have bel := hown.old_below
  subst he
  exact ⟨_, rfl, _, _, _, [], _, [], hW', trodAll_mk1 (shut_bool Try.underlying4 _), (trodAll_cons_mk (Below.trod laidOutRingOwn (by kernel_rfl) (of_decide_eq_true (by kernel_rfl)) k0 bel lt0) (trodAll_cons_mk (Below.trod laidOutRingOwn (by kernel_rfl) (of_decide_eq_true (by kernel_rfl)) k1 bel lt1) trodAll_mk0)), rfl, bel.frame _, fun h => by cases h⟩
theorem ringOwn_holds : Rows.RingOwnSaid :=
  OpenClaim.holds_of_wide 10 Try.f10 rfl rfl rfl rfl rfl rfl rfl ⟨rfl, rfl, rfl, rfl, rfl⟩ rfl rfl rfl rfl rfl (by kernel_rfl) Try.func10 (by kernel_rfl)
    (of_decide_eq_true (by kernel_rfl)) (by unfold Func.isWrapper; first | (rw [if_pos (by decide +kernel)]; kernel_rfl) | (rw [if_neg (by decide +kernel)]; exact ⟨rfl, rfl⟩))
    (fun os started H enc _ => ringOwn_lifted os started H enc)
#print axioms ringOwn_holds
end Go.Proofs.Ytfcappjodichlaa
