/-
  The law BucketTwice holds for every input that the row speaks of: no condition is added. Its arguments are read into plain data, its walk is bucketTwice_c, its arguments read behind the call as before.
-/
import Derived.Test.YtfcappjodichlaaRow
import Derived.Test.YtfcappjodichlaaWalkBucketTwice
namespace Go.Proofs.Ytfcappjodichlaa
open Go.ChangeShapes Go.WideShapes Go.ChangeAt Go.RowKit
set_option linter.unusedVariables false
theorem ownBucketTwice : ownKnob Try.prog.godebug = none := by kernel_rfl
theorem laidOutBucketTwice : laidOutB Try.prog = true := by kernel_rfl
set_option maxRecDepth 100000 in
theorem bucketTwice_lifted (os : Os) (started : os.Started) (H : Type) (enc : TypeId × Value → H) :
    ReturnsInHanded {} Try.checked os 13 .any (Rows.bucketTwiceSpec.pre6 enc Try.prog Try.f13 Rows.bucketTwiceRow.domain false) (Rows.bucketTwiceSpec.post enc Try.prog Try.f13 false true false false) := by
  refine returnsInHanded_of_change (C := Try.checked) ownBucketTwice started (by kernel_rfl) Try.func13
    (ChangeSpec.witness6 (enc := enc) (C := Try.checked) false ⟨#[], #[.int .u64 0, .slice none 0 0, .agg #[.int .u32 0, .int .u32 0]], []⟩ 8 (by kernel_rfl) (by kernel_rfl) (by kernel_rfl) (by kernel_rfl)) ?_
  intro W base args ds gs before hval0 hW hcnd _
  have hval : ∀ (j : Nat) t v, Try.f13.params[j]? = some t → args[j]? = some v → Value.okWide Try.prog W .any base t v := hval0
  have hW' := hW
  obtain ⟨p, q, hA0, hV, rfl, hfz, hnd⟩ := hW
  have hA : DataW.TrodAll enc Try.prog W 0 (fun _ => true) true Try.f13.params.toList args.toList ds p := hA0
  rw [Try.params13] at hA hval
  obtain ⟨v0, vs0, d0, ds0, p0, q0, hargs, rfl, rfl, h0, r0⟩ := trodAll_cons hA
  obtain ⟨v1, vs1, d1, ds1, p1, q1, rfl, rfl, rfl, h1, r1⟩ := trodAll_cons r0
  obtain ⟨v2, vs2, d2, ds2, p2, q2, rfl, rfl, rfl, h2, r2⟩ := trodAll_cons r1
  obtain ⟨rfl, rfl, rfl⟩ := trodAll_nil r2
  obtain rfl : args = #[v0, v1, v2] := by cases args; simp_all
  obtain ⟨rfl, rfl⟩ := trodVars_none hV
  have k0 := h0
  have lt0 : ∀ x ∈ p0, x.block < W.heap.size := by obtain ⟨m, hm⟩ := k0; exact DataW.trod_lt m _ _ _ hm
  obtain ⟨a0, rfl, rfl, rfl, w0⟩ := open_int Try.underlying31 (hval 0 31 v0 rfl rfl) h0
  have k1 := h1
  have lt1 : ∀ x ∈ p1, x.block < W.heap.size := by obtain ⟨m, hm⟩ := k1; exact DataW.trod_lt m _ _ _ hm
  obtain ⟨A1, len1, cap1, rfl⟩ := okWide_slice Try.underlying83 (hval 1 83 v1 rfl rfl)
  obtain ⟨xs1, hr1⟩ : ∃ xs, (rdSlice (rdPair (rdInt .u8) (rdPair (rdInt .u64) rdUnit)) 2) W [.slice A1 len1 cap1] xs := by
    obtain ⟨fuel, hf⟩ := h1
    have hf2 : DataW.trod enc Try.prog W 0 (fun _ => true) true fuel 83 [.slice A1 len1 cap1] = some (d1, p1) := hf
    exact (show Opens enc Try.prog W 83 (rdSlice (rdPair (rdInt .u8) (rdPair (rdInt .u64) rdUnit)) 2) from (opens_slice 2 (by omega) Try.underlying83 (by kernel_rfl) (opens_struct 2 Try.underlying90 (by kernel_rfl) (opensF_cons 1 (by kernel_rfl) rfl (opens_int Try.underlying5) (opensF_cons 1 (by kernel_rfl) rfl (opens_int Try.underlying31) opensF_nil))))) _ _ _ _ hf2
  have k2 := h2
  have lt2 : ∀ x ∈ p2, x.block < W.heap.size := by obtain ⟨m, hm⟩ := k2; exact DataW.trod_lt m _ _ _ hm
  obtain ⟨cs2, rfl, hsz2⟩ := okWide_arr Try.underlying95 (hval 2 95 v2 rfl rfl)
  obtain ⟨xs2, hr2⟩ : ∃ xs, (rdPair (rdInt .u32) (rdPair (rdInt .u32) rdUnit)) W cs2.toList xs := by
    obtain ⟨fuel, hf⟩ := h2
    exact (show Opens enc Try.prog W 95 (rdPair (rdInt .u32) (rdPair (rdInt .u32) rdUnit)) from (opens_array 2 1 Try.underlying95 (by kernel_rfl) (by kernel_rfl) (opensA_cons (by omega) (opens_int Try.underlying94) (opensA_cons (by omega) (opens_int Try.underlying94) (opensA_nil (by omega)))))) _ _ _ _ hf
  have hz2 : cs2.size = 2 := hsz2.trans (by kernel_rfl)
  clear hA0 hval0
  refine (bucketTwice_c W a0 w0 A1 len1 cap1 xs1 hr1 cs2 hz2 xs2 hr2).mono fun e W' ⟨he, hown⟩ => ?_
  have bel := hown.old_below
  subst he
  exact ⟨_, rfl, _, _, _, [], _, [], hW', trodAll_mk1 (shut_bool Try.underlying4 _), (trodAll_cons_mk (Below.trod laidOutBucketTwice (by kernel_rfl) (of_decide_eq_true (by kernel_rfl)) k0 bel lt0) (trodAll_cons_mk (Below.trod laidOutBucketTwice (by kernel_rfl) (of_decide_eq_true (by kernel_rfl)) k1 bel lt1) (trodAll_cons_mk (Below.trod laidOutBucketTwice (by kernel_rfl) (of_decide_eq_true (by kernel_rfl)) k2 bel lt2) trodAll_mk0))), rfl, bel.frame _, fun h => by cases h⟩
theorem bucketTwice_holds : Rows.BucketTwiceSaid :=
  OpenClaim.holds_of_wide 13 Try.f13 rfl rfl rfl rfl rfl rfl rfl ⟨rfl, rfl, rfl, rfl, rfl⟩ rfl rfl rfl rfl rfl (by kernel_rfl) Try.func13 (by kernel_rfl)
    (of_decide_eq_true (by kernel_rfl)) (by unfold Func.isWrapper; first | (rw [if_pos (by decide +kernel)]; kernel_rfl) | (rw [if_neg (by decide +kernel)]; exact ⟨rfl, rfl⟩))
    (fun os started H enc _ => bucketTwice_lifted os started H enc)
#print axioms bucketTwice_holds
end Go.Proofs.Ytfcappjodichlaa
