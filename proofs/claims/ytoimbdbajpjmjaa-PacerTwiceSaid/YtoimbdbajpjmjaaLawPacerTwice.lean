/-
  The law PacerTwice holds for every input that the row speaks of: no condition is added. Its arguments are read into plain data, its walk is pacerTwice_c, its arguments read behind the call as before.
-/
import Derived.Test.YtoimbdbajpjmjaaRow
import Derived.Test.YtoimbdbajpjmjaaPacer8
namespace Go.Proofs.Ytoimbdbajpjmjaa
open Go.ChangeShapes Go.WideShapes Go.ChangeAt Go.RowKit
set_option linter.unusedVariables false
theorem ownPacerTwice : ownKnob Try.prog.godebug = none := by kernel_rfl
theorem laidOutPacerTwice : laidOutB Try.prog = true := by kernel_rfl
set_option maxRecDepth 100000 in
theorem pacerTwice_lifted (os : Os) (started : os.Started) (H : Type) (enc : TypeId × Value → H) :
    ReturnsInHanded {} Try.checked os 15 .any (Rows.pacerTwiceSpec.pre6 enc Try.prog Try.f15 Rows.pacerTwiceRow.domain false) (Rows.pacerTwiceSpec.post enc Try.prog Try.f15 false true false false) := by
  refine returnsInHanded_of_change (C := Try.checked) ownPacerTwice started (by kernel_rfl) Try.func15
    (ChangeSpec.witness6 (enc := enc) (C := Try.checked) false ⟨#[], #[.slice none 0 0, .int .u32 0, .int .u32 0], []⟩ 8 (by kernel_rfl) (by kernel_rfl) (by kernel_rfl) (by kernel_rfl)) ?_
  intro W base args ds gs before hval0 hW hcnd _
  have hval : ∀ (j : Nat) t v, Try.f15.params[j]? = some t → args[j]? = some v → Value.okWide Try.prog W .any base t v := hval0
  have hW' := hW
  obtain ⟨p, q, hA0, hV, rfl, hfz, hnd⟩ := hW
  have hA : DataW.TrodAll enc Try.prog W 0 (fun _ => true) true Try.f15.params.toList args.toList ds p := hA0
  rw [Try.params15] at hA hval
  obtain ⟨v0, vs0, d0, ds0, p0, q0, hargs, rfl, rfl, h0, r0⟩ := trodAll_cons hA
  obtain ⟨v1, vs1, d1, ds1, p1, q1, rfl, rfl, rfl, h1, r1⟩ := trodAll_cons r0
  obtain ⟨v2, vs2, d2, ds2, p2, q2, rfl, rfl, rfl, h2, r2⟩ := trodAll_cons r1
  obtain ⟨rfl, rfl, rfl⟩ := trodAll_nil r2
  obtain rfl : args = #[v0, v1, v2] := by cases args; simp_all
  obtain ⟨rfl, rfl⟩ := trodVars_none hV
  have k0 := h0
  have lt0 : ∀ x ∈ p0, x.block < W.heap.size := by obtain ⟨m, hm⟩ := k0; exact DataW.trod_lt m _ _ _ hm
  obtain ⟨A0, len0, cap0, rfl⟩ := okWide_slice Try.underlying94 (hval 0 94 v0 rfl rfl)
  obtain ⟨xs0, hr0⟩ : ∃ xs, (rdSlice (rdPair (rdInt .u8) (rdPair (rdInt .u64) (rdPair (rdInt .u64) (rdPair (rdInt .u64) (rdPair (rdInt .u64) rdUnit))))) 5) W [.slice A0 len0 cap0] xs := by
    obtain ⟨fuel, hf⟩ := h0
    have hf2 : DataW.trod enc Try.prog W 0 (fun _ => true) true fuel 94 [.slice A0 len0 cap0] = some (d0, p0) := hf
    exact (show Opens enc Try.prog W 94 (rdSlice (rdPair (rdInt .u8) (rdPair (rdInt .u64) (rdPair (rdInt .u64) (rdPair (rdInt .u64) (rdPair (rdInt .u64) rdUnit))))) 5) from (opens_slice 5 (by omega) Try.underlying94 (by kernel_rfl) (opens_struct 5 Try.underlying101 (by kernel_rfl) (opensF_cons 1 (by kernel_rfl) rfl (opens_int Try.underlying5) (opensF_cons 1 (by kernel_rfl) rfl (opens_int Try.underlying22) (opensF_cons 1 (by kernel_rfl) rfl (opens_int Try.underlying22) (opensF_cons 1 (by kernel_rfl) rfl (opens_int Try.underlying22) (opensF_cons 1 (by kernel_rfl) rfl (opens_int Try.underlying22) opensF_nil)))))))) _ _ _ _ hf2
  have k1 := h1
  have lt1 : ∀ x ∈ p1, x.block < W.heap.size := by obtain ⟨m, hm⟩ := k1; exact DataW.trod_lt m _ _ _ hm
  obtain ⟨a1, rfl, rfl, rfl, w1⟩ := open_int Try.underlying109 (hval 1 109 v1 rfl rfl) h1
  have k2 := h2
  have lt2 : ∀ x ∈ p2, x.block < W.heap.size := by obtain ⟨m, hm⟩ := k2; exact DataW.trod_lt m _ _ _ hm
  obtain ⟨a2, rfl, rfl, rfl, w2⟩ := open_int Try.underlying109 (hval 2 109 v2 rfl rfl) h2
  clear hA0 hval0
  refine (pacerTwice_c W A0 len0 cap0 xs0 hr0 a1 w1 a2 w2).mono fun e W' ⟨he, hown⟩ => ?_
  have bel := hown.old_below
  subst he
  exact ⟨_, rfl, _, _, _, [], _, [], hW', trodAll_mk1 (shut_bool Try.underlying4 _), (trodAll_cons_mk (Below.trod laidOutPacerTwice (by kernel_rfl) (of_decide_eq_true (by kernel_rfl)) k0 bel lt0) (trodAll_cons_mk (Below.trod laidOutPacerTwice (by kernel_rfl) (of_decide_eq_true (by kernel_rfl)) k1 bel lt1) (trodAll_cons_mk (Below.trod laidOutPacerTwice (by kernel_rfl) (of_decide_eq_true (by kernel_rfl)) k2 bel lt2) trodAll_mk0))), rfl, bel.frame _, fun h => by cases h⟩
theorem pacerTwice_holds : Rows.PacerTwiceSaid :=
  OpenClaim.holds_of_wide 15 Try.f15 rfl rfl rfl rfl rfl rfl rfl ⟨rfl, rfl, rfl, rfl, rfl⟩ rfl rfl rfl rfl rfl (by kernel_rfl) Try.func15 (by kernel_rfl)
    (of_decide_eq_true (by kernel_rfl)) (by unfold Func.isWrapper; first | (rw [if_pos (by decide +kernel)]; kernel_rfl) | (rw [if_neg (by decide +kernel)]; exact ⟨rfl, rfl⟩))
    (fun os started H enc _ => pacerTwice_lifted os started H enc)
#print axioms pacerTwice_holds
end Go.Proofs.Ytoimbdbajpjmjaa
