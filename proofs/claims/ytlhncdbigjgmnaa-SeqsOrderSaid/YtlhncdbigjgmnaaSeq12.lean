/- seqs: the lower numbers are taken away. -/
import Derived.Test.YtlhncdbigjgmnaaSeq9
namespace Go.Proofs.Ytlhncdbigjgmnaa
open Go.RowKit
def capF (n : Int) : List Rg → List Rg
  | [] => []
  | r :: t => (max r.1 n, r.2) :: t
section
variable (ε w : World) (R : List Asn) (b : Nat)
theorem seqFind_o (l : List Rg) (hl : apart l) (hm : l.length ≤ 1000000) (n : Int) (A : Option Addr) (len cap : Nat) (H : Own ε w (pts b (.cells #[.slice A len cap] 68 (0, 0)) :: slc 31 2 (.slice A len cap) (encs encRg l) :: R)) :
    Calls Try.prog 49 #[.pointer (some ⟨b, 0, none⟩), .int .u64 n] w fun e w' => ∃ i, ∃ _ : Found l n i, e = .returned (.int .i64 (i : Nat)) ∧ Own ε w' (pts b (.cells #[.slice A len cap] 68 (0, 0)) :: slc 31 2 (.slice A len cap) (encs encRg l) :: R) := by
  have HH := Lib.hid H; clear H
  have hm2 : len ≤ 1000000 := by rw [← (slc_rdS encRg_len (by decide) HH.out.r2).1]; exact hm
  clear hm
  replace hl := Lib.hid hl
  replace hm2 := Lib.hid hm2
  go_enter Try.func49, Try.ntmps49
  (try clear cc1_); (try clear cc2_); (try clear cc3_); (try clear cc4_); (try clear cc5_); (try clear cc6_); (try clear cc7_)
  have cc1_ := HH.out.cells
  go_wp2_with fail
  refine (bsearch_c ε _ _ l hl.out A len cap (fun wx Hx => slc_rdS encRg_len (by decide) Hx.r2) hm2.out n HH.out).mono ?_
  rintro e w1_ ⟨i, hf, rfl, H9_⟩
  replace HH := Lib.hid H9_
  clear H9_
  go_wp2_with fail
  go_ret
  exact ⟨i, hf, rfl, HH.out⟩
theorem seqDelete_s (v : Value) (l : List Rg) (j : Nat) (hj : j ≤ l.length) (hm : l.length ≤ 1000000) (H : Own ε w (slc 31 2 v (encs encRg l) :: R)) :
    Calls Try.prog 50 #[v, .int .i64 0, .int .i64 (j : Int)] w fun e w' => ∃ A' n' c', e = .returned (.slice A' n' c') ∧ Own ε w' (slc 31 2 (.slice A' n' c') (encs encRg (l.drop j)) :: R) := by
  refine (seqDelete_c ε w R v l j hj hm H).mono ?_
  rintro e w' ⟨v', rfl, H2⟩
  obtain ⟨A', n', c', rfl⟩ := H2.slc_isv
  exact ⟨A', n', c', rfl, H2⟩
set_option maxRecDepth 100000 in
set_option maxHeartbeats 3200000 in
theorem seqCut_c (l : List Rg) (m : Nat) (hl : SqIn l m) (hm : m ≤ 999999) (n : Int) (H : Own ε w (sqs b l :: R)) :
    Calls Try.prog 27 #[.pointer (some ⟨b, 0, none⟩), .int .u64 n] w fun e w' => ∃ i, ∃ _ : Found l n i, e = .returned (.tuple #[]) ∧ Own ε w' (sqs b (capF n (l.drop i)) :: R) := by
  obtain ⟨v, H⟩ := H.sqs_open
  have HH := Lib.hid H; clear H
  obtain ⟨A, len, cap, rfl, _, _, _⟩ := HH.out.r2.slc_it encRg_len (by decide)
  have hm2 : l.length ≤ 1000000 := by have := hl.len; omega
  replace hl := Lib.hid hl
  replace hm2 := Lib.hid hm2
  have ix := max_ite'
  go_enter Try.func27, Try.ntmps27
  go_wp2_with fail
  go_wp2_with fail
  refine wp_region_reg (some 8) HH.out (by kernel_rfl) ?_
  intro wm H9_
  replace HH := Lib.hid H9_
  clear H9_
  refine reg_p (i := 0) rfl (by kernel_rfl) (fun _ _ _ _ h => h) HH.out (fun K hK => ?_)
  go_simp
  first | (refine hK _ ?_; clear hK K) | (apply Exists.intro; refine ⟨?_, hK _ ?_⟩; (focus (intro wx; first | (go_simp; first | rfl) | rfl)); clear hK K)
  refine reg_p (i := 1) rfl (by kernel_rfl) (fun _ _ _ _ h => h) HH.out (fun K hK => ?_)
  go_simp
  first | (refine hK _ ?_; clear hK K) | (apply Exists.intro; refine ⟨?_, hK _ ?_⟩; (focus (intro wx; first | (go_simp; first | rfl) | rfl)); clear hK K)
  refine reg_p (i := 2) rfl (by kernel_rfl) (fun _ _ _ _ h => h) HH.out (fun K hK => ?_)
  go_simp
  first | (refine hK _ ?_; clear hK K) | (apply Exists.intro; refine ⟨?_, hK _ ?_⟩; (focus (intro wx; first | (go_simp; first | rfl) | rfl)); clear hK K)
  refine reg_p (i := 3) rfl (by kernel_rfl) (fun _ _ _ _ h => h) HH.out (fun K hK => ?_)
  go_simp
  first | (refine hK _ ?_; clear hK K) | (apply Exists.intro; refine ⟨?_, hK _ ?_⟩; (focus (intro wx; first | (go_simp; first | rfl) | rfl)); clear hK K)
  refine mixk_q (i := 4) rfl (by kernel_rfl) (fun _ _ _ _ h => h) HH.out (fun K hK => ?_)
  go_simp
  first | (refine hK _ ?_; clear hK K) | (apply Exists.intro; refine ⟨?_, hK _ ?_⟩; (focus (intro wx hx; have x1_ := hx.cells; first | (go_simp; first | rfl | exact ⟨rfl, rfl⟩) | rfl | exact ⟨rfl, rfl⟩)); clear hK K)
  refine reg_p (i := 5) rfl (by kernel_rfl) (fun _ _ _ _ h => h) HH.out (fun K hK => ?_)
  go_simp
  first | (refine hK _ ?_; clear hK K) | (apply Exists.intro; refine ⟨?_, hK _ ?_⟩; (focus (intro wx; first | (go_simp; first | rfl) | rfl)); clear hK K)
  refine reg_p (i := 6) rfl (by kernel_rfl) (fun _ _ _ _ h => h) HH.out (fun K hK => ?_)
  go_simp
  first | (refine hK _ ?_; clear hK K) | (apply Exists.intro; refine ⟨?_, hK _ ?_⟩; (focus (intro wx; first | (go_simp; first | rfl) | rfl)); clear hK K)
  refine reg_l (some 8) (i := 7) rfl (by kernel_rfl) (fun wn hk K hK => ?_)
  replace HH := Lib.hid (hk _ _ HH.out)
  clear hk
  go_simp
  refine (seqFind_o ε wn _ b l hl.out.ap hm2.out n A len cap HH.out).mono ?_
  rintro e wm ⟨i, hf, rfl, H9_⟩
  replace HH := Lib.hid H9_
  clear H9_
  refine hK _ _ _ HH.out (.inr ⟨rfl, fun _ h => (Own.pm (h) (by repeat (first | with_reducible exact Pm.refl _ | with_reducible exact Pm.nil _ | with_reducible refine Pm.here ?_ | with_reducible refine Pm.at2 ?_ | with_reducible refine Pm.at3 ?_ | with_reducible refine Pm.at4 ?_ | with_reducible refine Pm.at5 ?_ | with_reducible refine Pm.at6 ?_ | with_reducible refine Pm.at7 ?_ | with_reducible refine Pm.at8 ?_ | with_reducible refine Pm.skip ?_)))⟩) ?_
  clear hK K
  refine reg_l (some 11) (i := 8) rfl (by kernel_rfl) (fun wn hk K hK => ?_)
  replace HH := Lib.hid (hk _ _ HH.out)
  clear hk
  go_simp
  refine (seqDelete_s ε wn _ (.slice A len cap) l i hf.le hm2.out HH.out.r2).mono ?_
  rintro e wm ⟨A', n', c', rfl, H9_⟩
  replace HH := Lib.hid H9_
  clear H9_
  refine hK _ _ _ HH.out (.inl (by kernel_rfl)) ?_
  clear hK K
  refine reg_p (i := 9) rfl (by kernel_rfl) (fun _ _ _ _ h => h) HH.out (fun K hK => ?_)
  go_simp
  first | (refine hK _ ?_; clear hK K) | (apply Exists.intro; refine ⟨?_, hK _ ?_⟩; (focus (intro wx; first | (go_simp; first | rfl) | rfl)); clear hK K)
  refine reg_p (i := 10) rfl (by kernel_rfl) (fun _ _ _ _ h => h) HH.out (fun K hK => ?_)
  go_simp
  first | (refine hK _ ?_; clear hK K) | (apply Exists.intro; refine ⟨?_, hK _ ?_⟩; (focus (intro wx; first | (go_simp; first | rfl) | rfl)); clear hK K)
  refine reg_l none (i := 11) rfl (by kernel_rfl) (fun wn hk K hK => ?_)
  replace HH := Lib.hid (hk _ _ HH.out)
  clear hk
  have hx := HH.out
  have x1_ := hx.r2.cells
  go_simp
  replace HH := Lib.hid (HH.out.r2.set 0 (.slice A' n' c'))
  simp only [List.setIfInBounds_toArray, List.set_cons_zero] at HH
  generalize wn.setCell ⟨b, 0, none⟩ (.slice A' n' c') = wm at *
  clear hx x1_
  refine hK _ _ _ HH.out (.inl (by kernel_rfl)) ?_
  clear hK K
  refine mixk_done (by kernel_rfl) (fun w2_ hk => ?_) _
  replace HH := Lib.hid (hk _ _ HH.out)
  clear hk
  replace HH := Lib.hid ((Own.pm (HH.out) (by repeat (first | with_reducible exact Pm.refl _ | with_reducible exact Pm.nil _ | with_reducible refine Pm.here ?_ | with_reducible refine Pm.at2 ?_ | with_reducible refine Pm.at3 ?_ | with_reducible refine Pm.at4 ?_ | with_reducible refine Pm.at5 ?_ | with_reducible refine Pm.at6 ?_ | with_reducible refine Pm.at7 ?_ | with_reducible refine Pm.at8 ?_ | with_reducible refine Pm.skip ?_))) : Own _ _ (pts b (.cells #[.slice A' n' c'] 68 (0, 0)) :: slc 31 2 (.slice A' n' c') (encs encRg (l.drop i)) :: R))
  have hlen := (slc_rdS encRg_len (by decide) HH.out.r2).1
  cases hd : l.drop i with
  | nil =>
    rw [hd] at HH hlen
    obtain rfl : n' = 0 := by simpa using hlen.symm
    clear hlen
    (try clear cc1_); (try clear cc2_); (try clear cc3_); (try clear cc4_); (try clear cc5_); (try clear cc6_); (try clear cc7_)
    have cc1_ := HH.out.cells
    go_wp2_with fail
    first | go_end0 | ((try simp only [Exit.inBlock, Exit.then]); refine bodyPost_ret (results_none rfl _ _ _) rfl ?_)
    exact ⟨i, hf, rfl, by rw [hd]; exact Own.sqs_mk ε _ R b HH.out⟩
  | cons r t =>
    rw [hd] at HH hlen
    rcases HH.out.r2.slc_val with ⟨_, hx⟩ | ⟨g, n2, cap2, e, hnc2, _, _, hv, _⟩
    · simp [encs, encRg] at hx
    · cases e
      have c0 := hv 0 (.int .u64 r.1) (by simp [encs, encRg])
      have hcs : ∀ wx, Own ε wx (pts b (.cells #[.slice (some ⟨g, 0, none⟩) n' c'] 68 (0, 0)) :: slc 31 2 (.slice (some ⟨g, 0, none⟩) n' c') (encs encRg (r :: t)) :: R) → wx.cell? ⟨g, 0, none⟩ = some (.int .u64 r.1) ∧ wx.frozen? ⟨g, 0, none⟩ = false := fun wx Hx => by
        rcases Hx.r2.slc_val with ⟨e, _⟩ | ⟨_, _, _, e, _, _, _, hv2, hf2⟩
        · cases e
        · cases e
          exact ⟨hv2 0 _ (by simp [encs, encRg]), hf2 0⟩
      have hn0 : 0 < n' := by rw [← hlen]; simp
      clear hv c0 hlen
      replace hcs := Lib.hid hcs
      (try clear cc1_); (try clear cc2_); (try clear cc3_); (try clear cc4_); (try clear cc5_); (try clear cc6_); (try clear cc7_)
      have cc1_ := HH.out.cells
      go_wp2_with fail
      go_wp2_with fail
      refine wp_region_reg (some 15) HH.out (by kernel_rfl) ?_
      intro wm H9_
      replace HH := Lib.hid H9_
      clear H9_
      refine reg_p (i := 0) rfl (by kernel_rfl) (fun _ _ _ _ h => h) HH.out (fun K hK => ?_)
      go_simp
      first | (refine hK _ ?_; clear hK K) | (apply Exists.intro; refine ⟨?_, hK _ ?_⟩; (focus (intro wx; first | (go_simp; first | rfl) | rfl)); clear hK K)
      refine reg_p (i := 1) rfl (by kernel_rfl) (fun _ _ _ _ h => h) HH.out (fun K hK => ?_)
      go_simp
      first | (refine hK _ ?_; clear hK K) | (apply Exists.intro; refine ⟨?_, hK _ ?_⟩; (focus (intro wx; first | (go_simp; first | rfl) | rfl)); clear hK K)
      refine reg_p (i := 2) rfl (by kernel_rfl) (fun _ _ _ _ h => h) HH.out (fun K hK => ?_)
      go_simp
      first | (refine hK _ ?_; clear hK K) | (apply Exists.intro; refine ⟨?_, hK _ ?_⟩; (focus (intro wx; first | (go_simp; first | rfl) | rfl)); clear hK K)
      refine mixk_q (i := 3) rfl (by kernel_rfl) (fun _ _ _ _ h => h) HH.out (fun K hK => ?_)
      go_simp
      first | (refine hK _ ?_; clear hK K) | (apply Exists.intro; refine ⟨?_, hK _ ?_⟩; (focus (intro wx hx; have x1_ := hx.cells; obtain ⟨y0_, y1_⟩ := hcs.out _ hx; first | (go_simp; first | rfl | exact ⟨rfl, rfl⟩) | rfl | exact ⟨rfl, rfl⟩)); clear hK K)
      refine reg_p (i := 4) rfl (by kernel_rfl) (fun _ _ _ _ h => h) HH.out (fun K hK => ?_)
      go_simp
      first | (refine hK _ ?_; clear hK K) | (apply Exists.intro; refine ⟨?_, hK _ ?_⟩; (focus (intro wx; first | (go_simp; first | rfl) | rfl)); clear hK K)
      refine reg_p (i := 5) rfl (by kernel_rfl) (fun _ _ _ _ h => h) HH.out (fun K hK => ?_)
      go_simp
      first | (refine hK _ ?_; clear hK K) | (apply Exists.intro; refine ⟨?_, hK _ ?_⟩; (focus (intro wx; first | (go_simp; first | rfl) | rfl)); clear hK K)
      refine reg_p (i := 6) rfl (by kernel_rfl) (fun _ _ _ _ h => h) HH.out (fun K hK => ?_)
      go_simp
      first | (refine hK _ ?_; clear hK K) | (apply Exists.intro; refine ⟨?_, hK _ ?_⟩; (focus (intro wx; first | (go_simp; first | rfl) | rfl)); clear hK K)
      refine mixk_q (i := 7) rfl (by kernel_rfl) (fun _ _ _ _ h => h) HH.out (fun K hK => ?_)
      go_simp
      first | (refine hK _ ?_; clear hK K) | (apply Exists.intro; refine ⟨?_, hK _ ?_⟩; (focus (intro wx hx; have x1_ := hx.cells; obtain ⟨y0_, y1_⟩ := hcs.out _ hx; first | (go_simp; first | rfl | exact ⟨rfl, rfl⟩) | rfl | exact ⟨rfl, rfl⟩)); clear hK K)
      refine reg_p (i := 8) rfl (by kernel_rfl) (fun _ _ _ _ h => h) HH.out (fun K hK => ?_)
      go_simp
      first | (refine hK _ ?_; clear hK K) | (apply Exists.intro; refine ⟨?_, hK _ ?_⟩; (focus (intro wx; first | (go_simp; first | rfl) | rfl)); clear hK K)
      refine reg_p (i := 9) rfl (by kernel_rfl) (fun _ _ _ _ h => h) HH.out (fun K hK => ?_)
      go_simp
      first | (refine hK _ ?_; clear hK K) | (apply Exists.intro; refine ⟨?_, hK _ ?_⟩; (focus (intro wx; first | (go_simp; first | rfl) | rfl)); clear hK K)
      refine mixk_q (i := 10) rfl (by kernel_rfl) (fun _ _ _ _ h => h) HH.out (fun K hK => ?_)
      go_simp
      first | (refine hK _ ?_; clear hK K) | (apply Exists.intro; refine ⟨?_, hK _ ?_⟩; (focus (intro wx hx; have x1_ := hx.cells; obtain ⟨y0_, y1_⟩ := hcs.out _ hx; first | (go_simp; first | rfl | exact ⟨rfl, rfl⟩) | rfl | exact ⟨rfl, rfl⟩)); clear hK K)
      refine reg_p (i := 11) rfl (by kernel_rfl) (fun _ _ _ _ h => h) HH.out (fun K hK => ?_)
      go_simp
      first | (refine hK _ ?_; clear hK K) | (apply Exists.intro; refine ⟨?_, hK _ ?_⟩; (focus (intro wx; first | (go_simp; first | rfl) | rfl)); clear hK K)
      refine reg_p (i := 12) rfl (by kernel_rfl) (fun _ _ _ _ h => h) HH.out (fun K hK => ?_)
      go_simp
      first | (refine hK _ ?_; clear hK K) | (apply Exists.intro; refine ⟨?_, hK _ ?_⟩; (focus (intro wx; first | (go_simp; first | rfl) | rfl)); clear hK K)
      refine reg_p (i := 13) rfl (by kernel_rfl) (fun _ _ _ _ h => h) HH.out (fun K hK => ?_)
      go_simp
      first | (refine hK _ ?_; clear hK K) | (apply Exists.intro; refine ⟨?_, hK _ ?_⟩; (focus (intro wx; first | (go_simp; first | rfl) | rfl)); clear hK K)
      refine reg_p (i := 14) rfl (by kernel_rfl) (fun _ _ _ _ h => h) HH.out (fun K hK => ?_)
      go_simp
      first | (refine hK _ ?_; clear hK K) | (apply Exists.intro; refine ⟨?_, hK _ ?_⟩; (focus (intro wx; first | (go_simp; first | rfl) | rfl)); clear hK K)
      refine reg_l none (i := 15) rfl (by kernel_rfl) (fun wn hk K hK => ?_)
      replace HH := Lib.hid (hk _ _ HH.out)
      clear hk
      have hx := HH.out
      have x1_ := hx.cells
      obtain ⟨y0_, y1_⟩ := hcs.out _ hx
      go_simp
      replace HH := Lib.hid (HH.out.r2.slc_set 0 (.int .u64 (max r.1 n)))
      generalize (wn.setCell ⟨g, 0, none⟩ (.int .u64 (max r.1 n))) = wm at *
      clear hx x1_
      refine hK _ _ _ HH.out (.inl (by kernel_rfl)) ?_
      clear hK K
      refine mixk_done (by kernel_rfl) (fun w3_ hk => ?_) _
      replace HH := Lib.hid (hk _ _ HH.out)
      clear hk
      go_wp2_with fail
      first | go_end0 | ((try simp only [Exit.inBlock, Exit.then]); refine bodyPost_ret (results_none rfl _ _ _) rfl ?_)
      refine ⟨i, hf, rfl, ?_⟩
      rw [hd]
      exact Own.sqs_mk ε _ R b HH.out.r2
end
end Go.Proofs.Ytlhncdbigjgmnaa
