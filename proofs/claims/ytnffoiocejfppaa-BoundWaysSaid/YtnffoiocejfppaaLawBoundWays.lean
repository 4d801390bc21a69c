/-
  The law BoundWays holds for every input that the row speaks of: no condition is added. Its arguments are read into plain data, its walk is boundWays_c, its arguments read behind the call as before.
-/
import Derived.Test.YtnffoiocejfppaaRow
import Derived.Test.YtnffoiocejfppaaBound4
namespace Go.Proofs.Ytnffoiocejfppaa
open Go.ChangeShapes Go.WideShapes Go.ChangeAt Go.RowKit
set_option linter.unusedVariables false
theorem ownBoundWays : ownKnob Try.prog.godebug = none := by kernel_rfl
theorem laidOutBoundWays : laidOutB Try.prog = true := by kernel_rfl
set_option maxRecDepth 100000 in
theorem boundWays_lifted (os : Os) (started : os.Started) (H : Type) (enc : TypeId × Value → H) :
    ReturnsInHanded {} Try.checked os 9 .any (Rows.boundWaysSpec.pre6 enc Try.prog Try.f9 Rows.boundWaysRow.domain false) (Rows.boundWaysSpec.post enc Try.prog Try.f9 false true false false) := by
  refine returnsInHanded_of_change (C := Try.checked) ownBoundWays started (by kernel_rfl) Try.func9
    (ChangeSpec.witness6 (enc := enc) (C := Try.checked) false ⟨#[], #[.agg #[.int .u64 0, .int .u64 0, .int .u64 0], .agg #[.int .u64 0, .int .u64 0, .int .u64 0]], []⟩ 8 (by kernel_rfl) (by kernel_rfl) (by kernel_rfl) (by kernel_rfl)) ?_
  intro W base args ds gs before hval0 hW hcnd _
  have hval : ∀ (j : Nat) t v, Try.f9.params[j]? = some t → args[j]? = some v → Value.okWide Try.prog W .any base t v := hval0
  have hW' := hW
  obtain ⟨p, q, hA0, hV, rfl, hfz, hnd⟩ := hW
  have hA : DataW.TrodAll enc Try.prog W 0 (fun _ => true) true Try.f9.params.toList args.toList ds p := hA0
  rw [Try.params9] at hA hval
  obtain ⟨v0, vs0, d0, ds0, p0, q0, hargs, rfl, rfl, h0, r0⟩ := trodAll_cons hA
  obtain ⟨v1, vs1, d1, ds1, p1, q1, rfl, rfl, rfl, h1, r1⟩ := trodAll_cons r0
  obtain ⟨rfl, rfl, rfl⟩ := trodAll_nil r1
  obtain rfl : args = #[v0, v1] := by cases args; simp_all
  obtain ⟨rfl, rfl⟩ := trodVars_none hV
  have k0 := h0
  have lt0 : ∀ x ∈ p0, x.block < W.heap.size := by obtain ⟨m, hm⟩ := k0; exact DataW.trod_lt m _ _ _ hm
  obtain ⟨cs0, rfl, hsz0⟩ := okWide_struct Try.underlying34 (hval 0 34 v0 rfl rfl)
  obtain ⟨xs0, hr0⟩ : ∃ xs, (rdPair (rdInt .u64) (rdPair (rdInt .u64) (rdPair (rdInt .u64) rdUnit))) W cs0.toList xs := by
    obtain ⟨fuel, hf⟩ := h0
    exact (show Opens enc Try.prog W 34 (rdPair (rdInt .u64) (rdPair (rdInt .u64) (rdPair (rdInt .u64) rdUnit))) from (opens_struct 3 Try.underlying34 (by kernel_rfl) (opensF_cons 1 (by kernel_rfl) rfl (opens_int Try.underlying22) (opensF_cons 1 (by kernel_rfl) rfl (opens_int Try.underlying22) (opensF_cons 1 (by kernel_rfl) rfl (opens_int Try.underlying22) opensF_nil))))) _ _ _ _ hf
  have hz0 : cs0.size = 3 := hsz0.trans (by kernel_rfl)
  have k1 := h1
  have lt1 : ∀ x ∈ p1, x.block < W.heap.size := by obtain ⟨m, hm⟩ := k1; exact DataW.trod_lt m _ _ _ hm
  obtain ⟨cs1, rfl, hsz1⟩ := okWide_arr Try.underlying35 (hval 1 35 v1 rfl rfl)
  obtain ⟨xs1, hr1⟩ : ∃ xs, (rdPair (rdInt .u64) (rdPair (rdInt .u64) (rdPair (rdInt .u64) rdUnit))) W cs1.toList xs := by
    obtain ⟨fuel, hf⟩ := h1
    exact (show Opens enc Try.prog W 35 (rdPair (rdInt .u64) (rdPair (rdInt .u64) (rdPair (rdInt .u64) rdUnit))) from (opens_array 3 1 Try.underlying35 (by kernel_rfl) (by kernel_rfl) (opensA_cons (by omega) (opens_int Try.underlying22) (opensA_cons (by omega) (opens_int Try.underlying22) (opensA_cons (by omega) (opens_int Try.underlying22) (opensA_nil (by omega))))))) _ _ _ _ hf
  have hz1 : cs1.size = 3 := hsz1.trans (by kernel_rfl)
  clear hA0 hval0
  refine (boundWays_c W cs0 hz0 xs0 hr0 cs1 hz1 xs1 hr1).mono fun e W' ⟨he, hown⟩ => ?_
  have bel := hown.old_below
  subst he
  exact ⟨_, rfl, _, _, _, [], _, [], hW', trodAll_mk1 (shut_bool Try.underlying4 _), (trodAll_cons_mk (Below.trod laidOutBoundWays (by kernel_rfl) (of_decide_eq_true (by kernel_rfl)) k0 bel lt0) (trodAll_cons_mk (Below.trod laidOutBoundWays (by kernel_rfl) (of_decide_eq_true (by kernel_rfl)) k1 bel lt1) trodAll_mk0)), rfl, bel.frame _, fun h => by cases h⟩
theorem boundWays_holds : Rows.BoundWaysSaid :=
  OpenClaim.holds_of_wide 9 Try.f9 rfl rfl rfl rfl rfl rfl rfl ⟨rfl, rfl, rfl, rfl, rfl⟩ rfl rfl rfl rfl rfl (by kernel_rfl) Try.func9 (by kernel_rfl)
    (of_decide_eq_true (by kernel_rfl)) (by unfold Func.isWrapper; first | (rw [if_pos (by decide +kernel)]; kernel_rfl) | (rw [if_neg (by decide +kernel)]; exact ⟨rfl, rfl⟩))
    (fun os started H enc _ => boundWays_lifted os started H enc)
#print axioms boundWays_holds
end Go.Proofs.Ytnffoiocejfppaa
