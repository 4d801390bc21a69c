/-
  The law LinkPlays holds for every input that the row speaks of: no condition is added. Its arguments are read into plain data, its walk is linkPlays_c, its arguments read behind the call as before.
-/
import Derived.Test.YtklohjjkpobneaaRow
import Derived.Test.YtklohjjkpobneaaLinkU
namespace Go.Proofs.Ytklohjjkpobneaa
open Go.ChangeShapes Go.WideShapes Go.ChangeAt Go.RowKit
set_option linter.unusedVariables false
theorem ownLinkPlays : ownKnob Try.prog.godebug = none := by kernel_rfl
theorem laidOutLinkPlays : laidOutB Try.prog = true := by kernel_rfl
set_option maxRecDepth 100000 in
theorem linkPlays_lifted (os : Os) (started : os.Started) (H : Type) (enc : TypeId × Value → H) :
    ReturnsInHanded {} Try.checked os 8 .any (Rows.linkPlaysSpec.pre6 enc Try.prog Try.f8 Rows.linkPlaysRow.domain false) (Rows.linkPlaysSpec.post enc Try.prog Try.f8 false true false false) := by
  refine returnsInHanded_of_change (C := Try.checked) ownLinkPlays started (by kernel_rfl) Try.func8
    (ChangeSpec.witness6 (enc := enc) (C := Try.checked) false ⟨#[], #[.agg #[.int .u64 0, .int .u64 0, .int .u64 0, .int .u64 0], .slice none 0 0], []⟩ 8 (by kernel_rfl) (by kernel_rfl) (by kernel_rfl) (by kernel_rfl)) ?_
  intro W base args ds gs before hval0 hW hcnd _
  have hval : ∀ (j : Nat) t v, Try.f8.params[j]? = some t → args[j]? = some v → Value.okWide Try.prog W .any base t v := hval0
  have hW' := hW
  obtain ⟨p, q, hA0, hV, rfl, hfz, hnd⟩ := hW
  have hA : DataW.TrodAll enc Try.prog W 0 (fun _ => true) true Try.f8.params.toList args.toList ds p := hA0
  rw [Try.params8] at hA hval
  obtain ⟨v0, vs0, d0, ds0, p0, q0, hargs, rfl, rfl, h0, r0⟩ := trodAll_cons hA
  obtain ⟨v1, vs1, d1, ds1, p1, q1, rfl, rfl, rfl, h1, r1⟩ := trodAll_cons r0
  obtain ⟨rfl, rfl, rfl⟩ := trodAll_nil r1
  obtain rfl : args = #[v0, v1] := by cases args; simp_all
  obtain ⟨rfl, rfl⟩ := trodVars_none hV
  have k0 := h0
  have lt0 : ∀ x ∈ p0, x.block < W.heap.size := by obtain ⟨m, hm⟩ := k0; exact DataW.trod_lt m _ _ _ hm
  obtain ⟨cs0, rfl, hsz0⟩ := okWide_struct Try.underlying78 (hval 0 78 v0 rfl rfl)
  obtain ⟨xs0, hr0⟩ : ∃ xs, (rdPair (rdInt .u64) (rdPair (rdInt .u64) (rdPair (rdInt .u64) (rdPair (rdInt .u64) rdUnit)))) W cs0.toList xs := by
    obtain ⟨fuel, hf⟩ := h0
    exact (show Opens enc Try.prog W 78 (rdPair (rdInt .u64) (rdPair (rdInt .u64) (rdPair (rdInt .u64) (rdPair (rdInt .u64) rdUnit)))) from (opens_struct 4 Try.underlying78 (by kernel_rfl) (opensF_cons 1 (by kernel_rfl) rfl (opens_int Try.underlying27) (opensF_cons 1 (by kernel_rfl) rfl (opens_int Try.underlying27) (opensF_cons 1 (by kernel_rfl) rfl (opens_int Try.underlying27) (opensF_cons 1 (by kernel_rfl) rfl (opens_int Try.underlying27) opensF_nil)))))) _ _ _ _ hf
  have hz0 : cs0.size = 4 := hsz0.trans (by kernel_rfl)
  have k1 := h1
  have lt1 : ∀ x ∈ p1, x.block < W.heap.size := by obtain ⟨m, hm⟩ := k1; exact DataW.trod_lt m _ _ _ hm
  obtain ⟨A1, len1, cap1, rfl⟩ := okWide_slice Try.underlying79 (hval 1 79 v1 rfl rfl)
  obtain ⟨xs1, hr1⟩ : ∃ xs, (rdSlice (rdPair rdBool (rdPair (rdSlice (rdInt .u64) 1) (rdPair (rdInt .u64) (rdPair (rdInt .u64) (rdPair (rdSlice (rdInt .u64) 1) rdUnit))))) 5) W [.slice A1 len1 cap1] xs := by
    obtain ⟨fuel, hf⟩ := h1
    have hf2 : DataW.trod enc Try.prog W 0 (fun _ => true) true fuel 79 [.slice A1 len1 cap1] = some (d1, p1) := hf
    exact (show Opens enc Try.prog W 79 (rdSlice (rdPair rdBool (rdPair (rdSlice (rdInt .u64) 1) (rdPair (rdInt .u64) (rdPair (rdInt .u64) (rdPair (rdSlice (rdInt .u64) 1) rdUnit))))) 5) from (opens_slice 5 (by omega) Try.underlying79 (by kernel_rfl) (opens_struct 5 Try.underlying88 (by kernel_rfl) (opensF_cons 1 (by kernel_rfl) rfl (opens_bool Try.underlying4) (opensF_cons 1 (by kernel_rfl) rfl (opens_slice 1 (by omega) Try.underlying80 (by kernel_rfl) (opens_int Try.underlying27)) (opensF_cons 1 (by kernel_rfl) rfl (opens_int Try.underlying27) (opensF_cons 1 (by kernel_rfl) rfl (opens_int Try.underlying27) (opensF_cons 1 (by kernel_rfl) rfl (opens_slice 1 (by omega) Try.underlying80 (by kernel_rfl) (opens_int Try.underlying27)) opensF_nil)))))))) _ _ _ _ hf2
  clear hA0 hval0
  refine (linkPlays_c W cs0 hz0 xs0 hr0 A1 len1 cap1 xs1 hr1).mono fun e W' ⟨he, hown⟩ => ?_
  have bel := hown.old_below
  subst he
  exact ⟨_, rfl, _, _, _, [], _, [], hW', trodAll_mk1 (shut_bool Try.underlying4 _), (trodAll_cons_mk (Below.trod laidOutLinkPlays (by kernel_rfl) (of_decide_eq_true (by kernel_rfl)) k0 bel lt0) (trodAll_cons_mk (Below.trod laidOutLinkPlays (by kernel_rfl) (of_decide_eq_true (by kernel_rfl)) k1 bel lt1) trodAll_mk0)), rfl, bel.frame _, fun h => by cases h⟩
theorem linkPlays_holds : Rows.LinkPlaysSaid :=
  OpenClaim.holds_of_wide 8 Try.f8 rfl rfl rfl rfl rfl rfl rfl ⟨rfl, rfl, rfl, rfl, rfl⟩ rfl rfl rfl rfl rfl (by kernel_rfl) Try.func8 (by kernel_rfl)
    (of_decide_eq_true (by kernel_rfl)) (by unfold Func.isWrapper; first | (rw [if_pos (by decide +kernel)]; kernel_rfl) | (rw [if_neg (by decide +kernel)]; exact ⟨rfl, rfl⟩))
    (fun os started H enc _ => linkPlays_lifted os started H enc)
#print axioms linkPlays_holds
end Go.Proofs.Ytklohjjkpobneaa
