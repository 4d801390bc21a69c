/-
  The law SeqsOrder holds for every input that the row speaks of: no condition is added. Its arguments are read into plain data, its walk is seqsOrder_c, its arguments read behind the call as before.
-/
import Derived.Test.YtlhncdbigjgmnaaRow
import Derived.Test.YtlhncdbigjgmnaaSeq14
namespace Go.Proofs.Ytlhncdbigjgmnaa
open Go.ChangeShapes Go.WideShapes Go.ChangeAt Go.RowKit
set_option linter.unusedVariables false
theorem ownSeqsOrder : ownKnob Try.prog.godebug = none := by kernel_rfl
theorem laidOutSeqsOrder : laidOutB Try.prog = true := by kernel_rfl
set_option maxRecDepth 100000 in
theorem seqsOrder_lifted (os : Os) (started : os.Started) (H : Type) (enc : TypeId × Value → H) :
    ReturnsInHanded {} Try.checked os 3 .any (Rows.seqsOrderSpec.pre6 enc Try.prog Try.f3 Rows.seqsOrderRow.domain false) (Rows.seqsOrderSpec.post enc Try.prog Try.f3 false true false false) := by
  refine returnsInHanded_of_change (C := Try.checked) ownSeqsOrder started (by kernel_rfl) Try.func3
    (ChangeSpec.witness6 (enc := enc) (C := Try.checked) false ⟨#[], #[.slice none 0 0, .int .u8 0], []⟩ 8 (by kernel_rfl) (by kernel_rfl) (by kernel_rfl) (by kernel_rfl)) ?_
  intro W base args ds gs before hval0 hW hcnd _
  have hval : ∀ (j : Nat) t v, Try.f3.params[j]? = some t → args[j]? = some v → Value.okWide Try.prog W .any base t v := hval0
  have hW' := hW
  obtain ⟨p, q, hA0, hV, rfl, hfz, hnd⟩ := hW
  have hA : DataW.TrodAll enc Try.prog W 0 (fun _ => true) true Try.f3.params.toList args.toList ds p := hA0
  rw [Try.params3] at hA hval
  obtain ⟨v0, vs0, d0, ds0, p0, q0, hargs, rfl, rfl, h0, r0⟩ := trodAll_cons hA
  obtain ⟨v1, vs1, d1, ds1, p1, q1, rfl, rfl, rfl, h1, r1⟩ := trodAll_cons r0
  obtain ⟨rfl, rfl, rfl⟩ := trodAll_nil r1
  obtain rfl : args = #[v0, v1] := by cases args; simp_all
  obtain ⟨rfl, rfl⟩ := trodVars_none hV
  have k0 := h0
  have lt0 : ∀ x ∈ p0, x.block < W.heap.size := by obtain ⟨m, hm⟩ := k0; exact DataW.trod_lt m _ _ _ hm
  obtain ⟨A0, len0, cap0, rfl⟩ := okWide_slice Try.underlying22 (hval 0 22 v0 rfl rfl)
  obtain ⟨xs0, hr0⟩ : ∃ xs, (rdSlice (rdPair (rdInt .u64) (rdPair (rdInt .u64) rdUnit)) 2) W [.slice A0 len0 cap0] xs := by
    obtain ⟨fuel, hf⟩ := h0
    have hf2 : DataW.trod enc Try.prog W 0 (fun _ => true) true fuel 22 [.slice A0 len0 cap0] = some (d0, p0) := hf
    exact (show Opens enc Try.prog W 22 (rdSlice (rdPair (rdInt .u64) (rdPair (rdInt .u64) rdUnit)) 2) from (opens_slice 2 (by omega) Try.underlying22 (by kernel_rfl) (opens_struct 2 Try.underlying31 (by kernel_rfl) (opensF_cons 1 (by kernel_rfl) rfl (opens_int Try.underlying29) (opensF_cons 1 (by kernel_rfl) rfl (opens_int Try.underlying29) opensF_nil))))) _ _ _ _ hf2
  have k1 := h1
  have lt1 : ∀ x ∈ p1, x.block < W.heap.size := by obtain ⟨m, hm⟩ := k1; exact DataW.trod_lt m _ _ _ hm
  obtain ⟨a1, rfl, rfl, rfl, w1⟩ := open_int Try.underlying5 (hval 1 5 v1 rfl rfl) h1
  clear hA0 hval0
  refine (seqsOrder_c W A0 len0 cap0 xs0 hr0 a1 w1).mono fun e W' ⟨he, hown⟩ => ?_
  have bel := hown.old_below
  subst he
  exact ⟨_, rfl, _, _, _, [], _, [], hW', trodAll_mk1 (shut_bool Try.underlying4 _), (trodAll_cons_mk (Below.trod laidOutSeqsOrder (by kernel_rfl) (of_decide_eq_true (by kernel_rfl)) k0 bel lt0) (trodAll_cons_mk (Below.trod laidOutSeqsOrder (by kernel_rfl) (of_decide_eq_true (by kernel_rfl)) k1 bel lt1) trodAll_mk0)), rfl, bel.frame _, fun h => by cases h⟩
theorem seqsOrder_holds : Rows.SeqsOrderSaid :=
  OpenClaim.holds_of_wide 3 Try.f3 rfl rfl rfl rfl rfl rfl rfl ⟨rfl, rfl, rfl, rfl, rfl⟩ rfl rfl rfl rfl rfl (by kernel_rfl) Try.func3 (by kernel_rfl)
    (of_decide_eq_true (by kernel_rfl)) (by unfold Func.isWrapper; first | (rw [if_pos (by decide +kernel)]; kernel_rfl) | (rw [if_neg (by decide +kernel)]; exact ⟨rfl, rfl⟩))
    (fun os started H enc _ => seqsOrder_lifted os started H enc)
#print axioms seqsOrder_holds
end Go.Proofs.Ytlhncdbigjgmnaa
