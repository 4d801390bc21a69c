/-
 The law SenderStuck holds for every input that the row speaks of: no condition is added. Its arguments are read into plain data, its walk is senderStuck_c, its arguments read behind the call as before.
-/
import Derived.Test.YtmkcpnlbicijoaaGreatLen
import Derived.Test.YtmkcpnlbicijoaaGreatSnd12
namespace Go.Proofs.YtmkcpnlbicijoaaGreat
open Go.ChangeShapes Go.WideShapes Go.ChangeAt Go.RowKit
set_option linter.unusedVariables false
theorem ownSenderStuck : ownKnob Tryz.prog.godebug = none := by kernel_rfl
theorem laidOutSenderStuck : laidOutB Tryz.prog = true := by kernel_rfl
set_option maxRecDepth 100000 in
theorem senderStuck_lifted (os : Os) (started : os.Started) (H : Type) (enc : TypeId × Value → H) :
  ReturnsInHanded {} Tryz.checked os 4 .any (Rows.senderStuckSpec.pre6 enc Tryz.prog Tryz.f4 Rows.senderStuckRow.domain false) (Rows.senderStuckSpec.post enc Tryz.prog Tryz.f4 false true false false) := by
 refine returnsInHanded_of_change (C := Tryz.checked) ownSenderStuck started (by kernel_rfl) Tryz.func4
  (ChangeSpec.witness6 (enc := enc) (C := Tryz.checked) false ⟨#[], #[.agg #[.int .u64 0, .int .u64 0, .int .u64 0, .int .u64 0, .int .u64 0, .int .u64 0], .slice none 0 0], []⟩ 8 (by kernel_rfl) (by kernel_rfl) (by kernel_rfl) (by kernel_rfl)) ?_
 intro W base args ds gs before hval0 hW hcnd _
 have hval : ∀ (j : Nat) t v, Tryz.f4.params[j]? = some t → args[j]? = some v → Value.okWide Tryz.prog W .any base t v := hval0
 have hW' := hW
 obtain ⟨p, q, hA0, hV, rfl, hfz, hnd⟩ := hW
 have hA : DataW.TrodAll enc Tryz.prog W 0 (fun _ => true) true Tryz.f4.params.toList args.toList ds p := hA0
 rw [Tryz.params4] at hA hval
 obtain ⟨v0, vs0, d0, ds0, p0, q0, hargs, rfl, rfl, h0, r0⟩ := trodAll_cons hA
 obtain ⟨v1, vs1, d1, ds1, p1, q1, rfl, rfl, rfl, h1, r1⟩ := trodAll_cons r0
 obtain ⟨rfl, rfl, rfl⟩ := trodAll_nil r1
 obtain rfl : args = #[v0, v1] := by cases args; simp_all
 obtain ⟨rfl, rfl⟩ := trodVars_none hV
 have k0 := h0
 have lt0 : ∀ x ∈ p0, x.block < W.heap.size := by obtain ⟨m, hm⟩ := k0; exact DataW.trod_lt m _ _ _ hm
 obtain ⟨cs0, rfl, hsz0⟩ := okWide_struct Tryz.underlying24 (hval 0 24 v0 rfl rfl)
 obtain ⟨xs0, hr0⟩ : ∃ xs, (rdPair (rdInt .u64) (rdPair (rdInt .u64) (rdPair (rdInt .u64) (rdPair (rdInt .u64) (rdPair (rdInt .u64) (rdPair (rdInt .u64) rdUnit)))))) W cs0.toList xs := by
  obtain ⟨fuel, hf⟩ := h0
  exact (show Opens enc Tryz.prog W 24 (rdPair (rdInt .u64) (rdPair (rdInt .u64) (rdPair (rdInt .u64) (rdPair (rdInt .u64) (rdPair (rdInt .u64) (rdPair (rdInt .u64) rdUnit)))))) from (opens_struct 6 Tryz.underlying24 (by kernel_rfl) (opensF_cons 1 (by kernel_rfl) rfl (opens_int Tryz.underlying22) (opensF_cons 1 (by kernel_rfl) rfl (opens_int Tryz.underlying22) (opensF_cons 1 (by kernel_rfl) rfl (opens_int Tryz.underlying22) (opensF_cons 1 (by kernel_rfl) rfl (opens_int Tryz.underlying22) (opensF_cons 1 (by kernel_rfl) rfl (opens_int Tryz.underlying22) (opensF_cons 1 (by kernel_rfl) rfl (opens_int Tryz.underlying22) opensF_nil)))))))) _ _ _ _ hf
 have hz0 : cs0.size = 6 := hsz0.trans (by kernel_rfl)
 have k1 := h1
 have lt1 : ∀ x ∈ p1, x.block < W.heap.size := by obtain ⟨m, hm⟩ := k1; exact DataW.trod_lt m _ _ _ hm
 obtain ⟨A1, len1, cap1, rfl⟩ := okWide_slice Tryz.underlying25 (hval 1 25 v1 rfl rfl)
 obtain ⟨xs1, hr1⟩ : ∃ xs, (rdSlice (rdPair (rdInt .u8) (rdPair (rdInt .u64) (rdPair (rdSlice (rdPair (rdInt .u64) (rdPair (rdInt .u64) rdUnit)) 2) rdUnit))) 3) W [.slice A1 len1 cap1] xs := by
  obtain ⟨fuel, hf⟩ := h1
  have hf2 : DataW.trod enc Tryz.prog W 0 (fun _ => true) true fuel 25 [.slice A1 len1 cap1] = some (d1, p1) := hf
  exact (show Opens enc Tryz.prog W 25 (rdSlice (rdPair (rdInt .u8) (rdPair (rdInt .u64) (rdPair (rdSlice (rdPair (rdInt .u64) (rdPair (rdInt .u64) rdUnit)) 2) rdUnit))) 3) from (opens_slice 3 (by omega) Tryz.underlying25 (by kernel_rfl) (opens_struct 3 Tryz.underlying37 (by kernel_rfl) (opensF_cons 1 (by kernel_rfl) rfl (opens_int Tryz.underlying5) (opensF_cons 1 (by kernel_rfl) rfl (opens_int Tryz.underlying22) (opensF_cons 1 (by kernel_rfl) rfl (opens_slice 2 (by omega) Tryz.underlying35 (by kernel_rfl) (opens_struct 2 Tryz.underlying55 (by kernel_rfl) (opensF_cons 1 (by kernel_rfl) rfl (opens_int Tryz.underlying22) (opensF_cons 1 (by kernel_rfl) rfl (opens_int Tryz.underlying22) opensF_nil)))) opensF_nil)))))) _ _ _ _ hf2
 clear hA0 hval0
 refine (senderStuck_c W cs0 hz0 xs0 hr0 A1 len1 cap1 xs1 hr1).mono fun e W' ⟨he, hown⟩ => ?_
 have bel := hown.old_below
 subst he
 exact ⟨_, rfl, _, _, _, [], _, [], hW', trodAll_mk1 (shut_bool Tryz.underlying4 _), (trodAll_cons_mk (Below.trod laidOutSenderStuck (by kernel_rfl) (of_decide_eq_true (by kernel_rfl)) k0 bel lt0) (trodAll_cons_mk (Below.trod laidOutSenderStuck (by kernel_rfl) (of_decide_eq_true (by kernel_rfl)) k1 bel lt1) trodAll_mk0)), rfl, bel.frame _, fun h => by cases h⟩
theorem senderStuck_holds : Rows.SenderStuckSaid :=
 OpenClaim.holds_of_wide 4 Tryz.f4 rfl rfl rfl rfl rfl rfl rfl ⟨rfl, rfl, rfl, rfl, rfl⟩ rfl rfl rfl rfl rfl (by kernel_rfl) Tryz.func4 (by kernel_rfl)
  (of_decide_eq_true (by kernel_rfl)) (by unfold Func.isWrapper; first | (rw [if_pos (by decide +kernel)]; kernel_rfl) | (rw [if_neg (by decide +kernel)]; exact ⟨rfl, rfl⟩))
  (fun os started H enc _ => senderStuck_lifted os started H enc)
#print axioms senderStuck_holds
end Go.Proofs.YtmkcpnlbicijoaaGreat
