/-
  The law FiltClone holds for every input that the row speaks of: no condition is added. Its arguments are read into plain data, its walk is filtClone_c, its arguments read behind the call as before.
-/
import Derived.Test.YtljifdgfmpijeaaRow
import Derived.Test.YtljifdgfmpijeaaFilt7
namespace Go.Proofs.Ytljifdgfmpijeaa
open Go.ChangeShapes Go.WideShapes Go.ChangeAt Go.RowKit
set_option linter.unusedVariables false
theorem ownFiltClone : ownKnob Try.prog.godebug = none := by kernel_rfl
theorem laidOutFiltClone : laidOutB Try.prog = true := by kernel_rfl
set_option maxRecDepth 100000 in
theorem filtClone_lifted (os : Os) (started : os.Started) (H : Type) (enc : TypeId × Value → H) :
    ReturnsInHanded {} Try.checked os 4 .any (Rows.filtCloneSpec.pre6 enc Try.prog Try.f4 Rows.filtCloneRow.domain false) (Rows.filtCloneSpec.post enc Try.prog Try.f4 false true false false) := by
  refine returnsInHanded_of_change (C := Try.checked) ownFiltClone started (by kernel_rfl) Try.func4
    (ChangeSpec.witness6 (enc := enc) (C := Try.checked) false ⟨#[], #[.int .u64 0, .slice none 0 0, .slice none 0 0], []⟩ 8 (by kernel_rfl) (by kernel_rfl) (by kernel_rfl) (by kernel_rfl)) ?_
  intro W base args ds gs before hval0 hW hcnd _
  have hval : ∀ (j : Nat) t v, Try.f4.params[j]? = some t → args[j]? = some v → Value.okWide Try.prog W .any base t v := hval0
  have hW' := hW
  obtain ⟨p, q, hA0, hV, rfl, hfz, hnd⟩ := hW
  have hA : DataW.TrodAll enc Try.prog W 0 (fun _ => true) true Try.f4.params.toList args.toList ds p := hA0
  rw [Try.params4] at hA hval
  obtain ⟨v0, vs0, d0, ds0, p0, q0, hargs, rfl, rfl, h0, r0⟩ := trodAll_cons hA
  obtain ⟨v1, vs1, d1, ds1, p1, q1, rfl, rfl, rfl, h1, r1⟩ := trodAll_cons r0
  obtain ⟨v2, vs2, d2, ds2, p2, q2, rfl, rfl, rfl, h2, r2⟩ := trodAll_cons r1
  obtain ⟨rfl, rfl, rfl⟩ := trodAll_nil r2
  obtain rfl : args = #[v0, v1, v2] := by cases args; simp_all
  obtain ⟨rfl, rfl⟩ := trodVars_none hV
  have k0 := h0
  have lt0 : ∀ x ∈ p0, x.block < W.heap.size := by obtain ⟨m, hm⟩ := k0; exact DataW.trod_lt m _ _ _ hm
  obtain ⟨a0, rfl, rfl, rfl, w0⟩ := open_int Try.underlying22 (hval 0 22 v0 rfl rfl) h0
  have k1 := h1
  have lt1 : ∀ x ∈ p1, x.block < W.heap.size := by obtain ⟨m, hm⟩ := k1; exact DataW.trod_lt m _ _ _ hm
  obtain ⟨A1, len1, cap1, rfl⟩ := okWide_slice Try.underlying23 (hval 1 23 v1 rfl rfl)
  obtain ⟨xs1, hr1⟩ : ∃ xs, (rdSlice (rdPair rdBool (rdPair (rdInt .u64) (rdPair (rdInt .u64) rdUnit))) 3) W [.slice A1 len1 cap1] xs := by
    obtain ⟨fuel, hf⟩ := h1
    have hf2 : DataW.trod enc Try.prog W 0 (fun _ => true) true fuel 23 [.slice A1 len1 cap1] = some (d1, p1) := hf
    exact (show Opens enc Try.prog W 23 (rdSlice (rdPair rdBool (rdPair (rdInt .u64) (rdPair (rdInt .u64) rdUnit))) 3) from (opens_slice 3 (by omega) Try.underlying23 (by kernel_rfl) (opens_struct 3 Try.underlying29 (by kernel_rfl) (opensF_cons 1 (by kernel_rfl) rfl (opens_bool Try.underlying4) (opensF_cons 1 (by kernel_rfl) rfl (opens_int Try.underlying22) (opensF_cons 1 (by kernel_rfl) rfl (opens_int Try.underlying22) opensF_nil)))))) _ _ _ _ hf2
  have k2 := h2
  have lt2 : ∀ x ∈ p2, x.block < W.heap.size := by obtain ⟨m, hm⟩ := k2; exact DataW.trod_lt m _ _ _ hm
  obtain ⟨A2, len2, cap2, rfl⟩ := okWide_slice Try.underlying23 (hval 2 23 v2 rfl rfl)
  obtain ⟨xs2, hr2⟩ : ∃ xs, (rdSlice (rdPair rdBool (rdPair (rdInt .u64) (rdPair (rdInt .u64) rdUnit))) 3) W [.slice A2 len2 cap2] xs := by
    obtain ⟨fuel, hf⟩ := h2
    have hf2 : DataW.trod enc Try.prog W 0 (fun _ => true) true fuel 23 [.slice A2 len2 cap2] = some (d2, p2) := hf
    exact (show Opens enc Try.prog W 23 (rdSlice (rdPair rdBool (rdPair (rdInt .u64) (rdPair (rdInt .u64) rdUnit))) 3) from (opens_slice 3 (by omega) Try.underlying23 (by kernel_rfl) (opens_struct 3 Try.underlying29 (by kernel_rfl) (opensF_cons 1 (by kernel_rfl) rfl (opens_bool Try.underlying4) (opensF_cons 1 (by kernel_rfl) rfl (opens_int Try.underlying22) (opensF_cons 1 (by kernel_rfl) rfl (opens_int Try.underlying22) opensF_nil)))))) _ _ _ _ hf2
  clear hA0 hval0
  refine (filtClone_c W a0 w0 A1 len1 cap1 xs1 hr1 A2 len2 cap2 xs2 hr2).mono fun e W' ⟨he, hown⟩ => ?_
  have bel := hown.old_below
  subst he
  exact ⟨_, rfl, _, _, _, [], _, [], hW', trodAll_mk1 (shut_bool Try.underlying4 _), (trodAll_cons_mk (Below.trod laidOutFiltClone (by kernel_rfl) (of_decide_eq_true (by kernel_rfl)) k0 bel lt0) (trodAll_cons_mk (Below.trod laidOutFiltClone (by kernel_rfl) (of_decide_eq_true (by kernel_rfl)) k1 bel lt1) (trodAll_cons_mk (Below.trod laidOutFiltClone (by kernel_rfl) (of_decide_eq_true (by kernel_rfl)) k2 bel lt2) trodAll_mk0))), rfl, bel.frame _, fun h => by cases h⟩
theorem filtClone_holds : Rows.FiltCloneSaid :=
  OpenClaim.holds_of_wide 4 Try.f4 rfl rfl rfl rfl rfl rfl rfl ⟨rfl, rfl, rfl, rfl, rfl⟩ rfl rfl rfl rfl rfl (by kernel_rfl) Try.func4 (by kernel_rfl)
    (of_decide_eq_true (by kernel_rfl)) (by unfold Func.isWrapper; first | (rw [if_pos (by decide +kernel)]; kernel_rfl) | (rw [if_neg (by decide +kernel)]; exact ⟨rfl, rfl⟩))
    (fun os started H enc _ => filtClone_lifted os started H enc)
#print axioms filtClone_holds
end Go.Proofs.Ytljifdgfmpijeaa
