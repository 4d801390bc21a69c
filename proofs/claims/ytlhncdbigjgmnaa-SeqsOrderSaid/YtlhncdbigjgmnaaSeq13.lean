/- seqs: the live question. -/
import Derived.Test.YtlhncdbigjgmnaaSeq10
import Derived.Test.YtlhncdbigjgmnaaSeq11
import Derived.Test.YtlhncdbigjgmnaaSeq12
namespace Go.Proofs.Ytlhncdbigjgmnaa
open Go.RowKit
/-- A guarded operation that is wanted. -/
theorem wpList_wanted {P : Program} {ops : Array Oper} {Q : Exit → Act → World → Prop} {rest : List Oper} {a : Act} {w : World} {o : Oper} (hw : Region.wanted o (yielded ops a.tmps) = true) (h : wpList P ops Q ({ o with guard := none } :: rest) a w) : wpList P ops Q (o :: rest) a w := by
  unfold wpList at h ⊢
  rw [if_pos hw]
  rw [if_pos (by simp [Region.wanted])] at h
  exact h
theorem SqIn.none (n : Nat) : SqIn [] n := ⟨apart_nil, fun _ hr => absurd hr List.not_mem_nil, Nat.zero_le _⟩
def live3 : List Rg := [(5, 7), (1, 2), (3, 3)]
theorem live3_put : putsL [] live3 = [(1, 3), (5, 7)] := by decide
theorem live3_in (n : Nat) (hn : 2 ≤ n) : SqIn [(1, 3), (5, 7)] n := ⟨by unfold apart; simp, by unfold okRg; simp, hn⟩
theorem live1_in : SqIn [(6, 7)] 2 := ⟨by unfold apart; simp, by unfold okRg; simp, by decide⟩
theorem live3_found {i : Nat} (h : Found [(1, 3), (5, 7)] 6 i) : i = 1 := by
  obtain ⟨h1, h2, h3⟩ := h
  match i with
  | 0 => have := h3 (1, 3) (by simp); simp at this
  | 1 => rfl
  | 2 => have := h2 (5, 7) (by simp); simp at this
  | n + 3 => simp at h1
section
variable (ε w : World) (R : List Asn)
set_option maxRecDepth 100000 in
set_option maxHeartbeats 6400000 in
theorem alive07_c (H : Own ε w R) : Calls Try.prog 7 #[] w fun e w' => e = .returned (.bool true) ∧ Own ε w' R := by
  have HH := Lib.hid H; clear H
  have p1 := Lib.hid live3_put
  go_enter Try.func7, Try.ntmps7
  go_wp2_with fail
  refine (seqNew_c ε _ _ HH.out).mono ?_
  rintro e w1_ ⟨b, rfl, H9_⟩
  replace HH := Lib.hid H9_
  clear H9_
  go_wp2_with (with_reducible refine stop_bs ?_)
  refine Stop.go ?_
  refine wpList_bsv_own HH.out [.int .u64 5, .int .u64 7, .int .u64 1, .int .u64 2, .int .u64 3, .int .u64 3] 2 16 [.int .u64 0, .int .u64 0] Try.underlying22 (by kernel_rfl) (by kernel_rfl) (by decide) (by decide) (by kernel_rfl) ?_
  intro g1 w2_ H9_
  replace HH := Lib.hid H9_
  clear H9_
  replace HH := Lib.hid (HH.out.slc_all (sz := 2) (n := 3) (by decide) rfl).r2
  go_wp2_with fail
  refine (seqPut_c ε _ _ b [] live3 0 (SqIn.none 0) (by intro x hx; simp [live3] at hx; rcases hx with rfl | rfl | rfl <;> decide) (some ⟨g1, 0, none⟩) 3 3 (fun l' wx Hx => slc_rdS (l := live3) encRg_len (by decide) Hx.r2) (by decide) (by decide) HH.out).mono ?_
  rw [p1.out]
  rintro e w3_ ⟨rfl, H9_⟩
  replace HH := Lib.hid H9_
  clear H9_
  go_wp2_with (with_reducible refine stop_bs ?_)
  refine Stop.go ?_
  refine wpList_bsv_own HH.out [.int .u64 2, .int .u64 1] 2 16 [.int .u64 0, .int .u64 0] Try.underlying22 (by kernel_rfl) (by kernel_rfl) (by decide) (by decide) (by kernel_rfl) ?_
  intro g2 w4_ H9_
  replace HH := Lib.hid H9_
  clear H9_
  replace HH := Lib.hid (HH.out.slc_all (sz := 2) (n := 1) (by decide) rfl).r2
  go_wp2_with fail
  refine (seqPut_bad ε _ _ b [(1, 3), (5, 7)] [(2, 1)] (by intro x hx; rw [List.mem_singleton.1 hx]; decide) (some ⟨g2, 0, none⟩) 1 1 (fun wx Hx => slc_rdS (l := [(2, 1)]) encRg_len (by decide) Hx.r2) (by decide) (by decide) HH.out).mono ?_
  rintro e w5_ ⟨rfl, H9_⟩
  replace HH := Lib.hid H9_
  clear H9_
  go_wp2_with fail
  refine (seqAll_c ε _ _ b [(1, 3), (5, 7)] (by decide) HH.out).mono ?_
  rintro e w6_ ⟨v', rfl, H9_⟩
  replace HH := Lib.hid H9_
  clear H9_
  obtain ⟨A, n, cap, rfl, _, _, hit⟩ := HH.out.slc_it encRg_len (by decide)
  obtain rfl : n = 2 := hit.1.symm
  clear hit
  go_wp2_with fail
  refine (seqGap_c ε _ _ b [(1, 3), (5, 7)] 2 (live3_in 2 (Nat.le_refl _)) (by decide) 1 HH.out.r2).mono ?_
  rw [show gapL [(1, 3), (5, 7)] 1 = 4 from by first | rfl | decide]
  rintro e w7_ ⟨rfl, H9_⟩
  replace HH := Lib.hid H9_
  clear H9_
  go_wp2_with fail
  refine (seqCut_c ε _ _ b [(1, 3), (5, 7)] 2 (live3_in 2 (Nat.le_refl _)) (by decide) 6 HH.out).mono ?_
  rintro e w8_ ⟨i, hf, rfl, H9_⟩
  replace HH := Lib.hid H9_
  clear H9_
  obtain rfl := live3_found hf
  replace HH := Lib.hid (show Own ε _ (sqs b [(6, 7)] :: slc 31 2 (.slice A 2 cap) (encs encRg [(1, 3), (5, 7)]) :: _) from HH.out)
  clear hf
  go_wp2_with (with_reducible refine stop_bs ?_)
  refine Stop.go ?_
  refine wpList_wanted rfl ?_
  refine wpList_bsv_own HH.out [.int .u64 1, .int .u64 3, .int .u64 5, .int .u64 7] 2 16 [.int .u64 0, .int .u64 0] Try.underlying22 (by kernel_rfl) (by kernel_rfl) (by decide) (by decide) (by kernel_rfl) ?_
  intro g3 w9a H9a
  replace HH := Lib.hid H9a
  clear H9a
  replace HH := Lib.hid (HH.out.slc_all (sz := 2) (n := 2) (by decide) rfl)
  go_wp2_with fail
  refine (ref07Same_c ε _ _ [(1, 3), (5, 7)] A (some ⟨g3, 0, none⟩) 2 cap 2 (fun wx Hx => slc_rdS encRg_len (by decide) Hx.r3) (fun wx Hx => slc_rdS (l := [(1, 3), (5, 7)]) encRg_len (by decide) Hx) (by decide) HH.out).mono ?_
  rintro e w9_ ⟨rfl, H9_⟩
  replace HH := Lib.hid H9_
  clear H9_
  go_wp2_with fail
  refine (seqHas_c ε _ _ b [(6, 7)] 2 live1_in (by decide) 6 HH.out.r2).mono ?_
  rw [show (gapL [(6, 7)] 6 != 6) = true from by first | rfl | decide]
  rintro e w10_ ⟨rfl, H9_⟩
  replace HH := Lib.hid H9_
  clear H9_
  go_wp2_with fail
  refine (seqHas_c ε _ _ b [(6, 7)] 2 live1_in (by decide) 5 HH.out).mono ?_
  rw [show (gapL [(6, 7)] 5 != 5) = false from by first | rfl | decide]
  rintro e w11_ ⟨rfl, H9_⟩
  replace HH := Lib.hid H9_
  clear H9_
  go_wp2_with fail
  go_ret
  exact ⟨rfl, (Own.pm (HH.out) (by repeat (first | with_reducible exact Pm.refl _ | with_reducible exact Pm.nil _ | with_reducible refine Pm.here ?_ | with_reducible refine Pm.at2 ?_ | with_reducible refine Pm.at3 ?_ | with_reducible refine Pm.at4 ?_ | with_reducible refine Pm.at5 ?_ | with_reducible refine Pm.at6 ?_ | with_reducible refine Pm.at7 ?_ | with_reducible refine Pm.at8 ?_ | with_reducible refine Pm.skip ?_)))⟩
end
end Go.Proofs.Ytlhncdbigjgmnaa
