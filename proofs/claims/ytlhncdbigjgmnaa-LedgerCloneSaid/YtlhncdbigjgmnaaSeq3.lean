/- seqs: slices.Delete, from the first range on. -/
import Derived.Test.YtlhncdbigjgmnaaSeq2
namespace Go.Proofs.Ytlhncdbigjgmnaa
open Go.RowKit
section
variable (ε w : World) (R : List Asn)
set_option maxRecDepth 100000 in
set_option maxHeartbeats 3200000 in
theorem seqDelete_c (v : Value) (l : List Rg) (j : Nat) (hj : j ≤ l.length) (hm : l.length ≤ 1000000) (H : Own ε w (slc 31 2 v (encs encRg l) :: R)) :
    Calls Try.prog 50 #[v, .int .i64 0, .int .i64 (j : Int)] w fun e w' => ∃ v', e = .returned v' ∧ Own ε w' (slc 31 2 v' (encs encRg (l.drop j)) :: R) := by
  have HH := Lib.hid H; clear H
  rcases HH.out.slc_open with ⟨rfl, hx, _⟩ | ⟨g, n, cap, cur, rfl, hnc, hcm, hcs, hxl, hxt, H2⟩
  · have hl0 : l.length = 0 := by have := encs_len encRg_len l; rw [hx] at this; simp at this; omega
    obtain rfl : j = 0 := by omega
    go_enter Try.func50, Try.ntmps50
    go_wp2_with fail
    go_ret
    exact ⟨_, rfl, HH.out⟩
  · rw [encs_len encRg_len] at hxl
    have hnl : l.length = n := by omega
    clear HH
    have HH := Lib.hid H2
    clear H2
    by_cases h0 : j = 0
    · subst h0
      go_enter Try.func50, Try.ntmps50
      go_wp2_with fail
      go_ret
      exact ⟨_, rfl, HH.out.slc_mk hnc hcm hcs (by rw [List.drop_zero, encs_len encRg_len]; omega) (by rw [List.drop_zero]; exact hxt)⟩
    · replace hxt := Lib.hid hxt
      replace hcs := Lib.hid hcs
      replace hcm := Lib.hid hcm
      have hjn : j ≤ n := by omega
      have hn6 : n ≤ 1000000 := by omega
      have hdl : (encs encRg (l.drop j)).length = (n - j) * 2 := by rw [encs_len encRg_len, List.length_drop, hnl]
      have hsz : (cur.toList.take (0 * 2) ++ encs encRg (l.drop j) ++ cur.toList.drop (0 * 2 + (encs encRg (l.drop j)).length)).length = cap * 2 := by
        have h1 := hcs.out
        rw [List.length_append, List.length_append, List.length_take, List.length_drop, Array.length_toList, hdl]
        omega
      have hpre : (cur.toList.take (0 * 2) ++ encs encRg (l.drop j) ++ cur.toList.drop (0 * 2 + (encs encRg (l.drop j)).length)).take ((n - j) * 2) = encs encRg (l.drop j) := by
        rw [Nat.zero_mul, List.take_zero, List.nil_append]
        exact List.take_left' hdl
      replace hnl := Lib.hid hnl
      replace hdl := Lib.hid hdl
      have hsz2 : (cur.toList.take (0 * 2) ++ encs encRg (l.drop j) ++ cur.toList.drop (0 * 2 + (encs encRg (l.drop j)).length)).toArray.size = cap * 2 := by rw [List.size_toArray, hsz]
      clear hsz
      replace hsz2 := Lib.hid hsz2
      replace hpre := Lib.hid hpre
      clear hj hm hxl
      by_cases hcj : cap = j
      · obtain rfl : n = cap := by omega
        subst hcj
        go_enter Try.func50, Try.ntmps50
        go_wp2_with fail
        go_wp2_with fail
        refine wp_region_reg (some 6) HH.out (by kernel_rfl) ?_
        intro wm H9_
        replace HH := Lib.hid H9_
        clear H9_
        refine reg_p (i := 0) rfl (by kernel_rfl) (fun _ _ _ _ h => h) HH.out (fun K hK => ?_)
        go_simp
        first | (refine hK _ ?_; clear hK K) | (apply Exists.intro; refine ⟨?_, hK _ ?_⟩; (focus (intro wx; first | (go_simp; first | rfl) | rfl)); clear hK K)
        refine reg_p (i := 1) rfl (by kernel_rfl) (fun _ _ _ _ h => h) HH.out (fun K hK => ?_)
        go_simp
        first | (refine hK _ ?_; clear hK K) | (apply Exists.intro; refine ⟨?_, hK _ ?_⟩; (focus (intro wx; first | (go_simp; first | rfl) | rfl)); clear hK K)
        refine reg_p (i := 2) rfl (by kernel_rfl) (fun _ _ _ _ h => h) HH.out (fun K hK => ?_)
        go_simp
        first | (refine hK _ ?_; clear hK K) | (apply Exists.intro; refine ⟨?_, hK _ ?_⟩; (focus (intro wx; first | (go_simp; first | rfl) | rfl)); clear hK K)
        refine reg_p (i := 3) rfl (by kernel_rfl) (fun _ _ _ _ h => h) HH.out (fun K hK => ?_)
        go_simp
        first | (refine hK _ ?_; clear hK K) | (apply Exists.intro; refine ⟨?_, hK _ ?_⟩; (focus (intro wx; first | (go_simp; first | rfl) | rfl)); clear hK K)
        refine reg_p (i := 4) rfl (by kernel_rfl) (fun _ _ _ _ h => h) HH.out (fun K hK => ?_)
        go_simp
        first | (refine hK _ ?_; clear hK K) | (apply Exists.intro; refine ⟨?_, hK _ ?_⟩; (focus (intro wx; first | (go_simp; first | rfl) | rfl)); clear hK K)
        refine reg_p (i := 5) rfl (by kernel_rfl) (fun _ _ _ _ h => h) HH.out (fun K hK => ?_)
        go_simp
        first | (refine hK _ ?_; clear hK K) | (apply Exists.intro; refine ⟨?_, hK _ ?_⟩; (focus (intro wx; first | (go_simp; first | rfl) | rfl)); clear hK K)
        refine reg_l none (i := 6) rfl (by kernel_rfl) (fun wn hk K hK => ?_)
        replace HH := Lib.hid (hk _ _ HH.out)
        clear hk
        have hx := HH.out
        clear hx
        refine want rfl (wp_append_in _ _ _ rfl 31 2 16 Try.underlying22 (by kernel_rfl) (i := 0) (m := 0) (A := some ⟨g, 0, none⟩) (encs encRg (l.drop n)) rfl rfl HH.out hcs.out (by omega) ⟨by rw [hdl.out]; omega, .inl rfl⟩ (encsRg_one _) (by simp) ?_)
        intro wm H9_
        replace HH := Lib.hid (show Own _ _ (pts g (.cells (cur.toList.take (0 * 2) ++ encs encRg (l.drop n) ++ cur.toList.drop (0 * 2 + (encs encRg (l.drop n)).length)).toArray 31 (0, 0)) :: R) from H9_)
        clear H9_
        refine hK _ _ _ HH.out (.inl (by kernel_rfl)) ?_
        clear hK K
        refine reg_p (i := 7) rfl (by kernel_rfl) (fun _ _ _ _ h => h) HH.out (fun K hK => ?_)
        go_simp
        first | (refine hK _ ?_; clear hK K) | (apply Exists.intro; refine ⟨?_, hK _ ?_⟩; (focus (intro wx; first | (go_simp; first | rfl) | rfl)); clear hK K)
        refine mixk_done (by kernel_rfl) (fun w1_ hk => ?_) _
        replace HH := Lib.hid (hk _ _ HH.out)
        clear hk
        go_wp2_with (with_reducible refine stop_clear ?_)
        refine Stop.go ?_
        refine wpList_clear_pts rfl _ _ rfl 31 Try.underlying22 (z := .agg #[.int .u64 0, .int .u64 0]) Try.zeroValue31 (by simp [Value.cells, Value.oneCell']) rfl HH.out (by show _ + _ * 2 ≤ _; rw [hsz2.out]; omega) ?_
        intro cur2 w2 hs2 ht2 H2
        clear HH
        have HH := Lib.hid H2
        clear H2
        replace hs2 := Lib.hid hs2
        replace ht2 := Lib.hid ht2
        go_wp2_with fail
        go_ret
        exact ⟨_, rfl, HH.out.slc_mk (by omega) hcm.out (hs2.out.trans hsz2.out) (by rw [hdl.out]; omega) (by have h9 := hpre.out; rw [Nat.sub_self] at h9; simpa using ht2.out.trans h9)⟩
      · go_enter Try.func50, Try.ntmps50
        go_wp2_with fail
        go_wp2_with fail
        refine wp_region_reg (some 6) HH.out (by kernel_rfl) ?_
        intro wm H9_
        replace HH := Lib.hid H9_
        clear H9_
        refine reg_p (i := 0) rfl (by kernel_rfl) (fun _ _ _ _ h => h) HH.out (fun K hK => ?_)
        go_simp
        first | (refine hK _ ?_; clear hK K) | (apply Exists.intro; refine ⟨?_, hK _ ?_⟩; (focus (intro wx; first | (go_simp; first | rfl) | rfl)); clear hK K)
        refine reg_p (i := 1) rfl (by kernel_rfl) (fun _ _ _ _ h => h) HH.out (fun K hK => ?_)
        go_simp
        first | (refine hK _ ?_; clear hK K) | (apply Exists.intro; refine ⟨?_, hK _ ?_⟩; (focus (intro wx; first | (go_simp; first | rfl) | rfl)); clear hK K)
        refine reg_p (i := 2) rfl (by kernel_rfl) (fun _ _ _ _ h => h) HH.out (fun K hK => ?_)
        go_simp
        first | (refine hK _ ?_; clear hK K) | (apply Exists.intro; refine ⟨?_, hK _ ?_⟩; (focus (intro wx; first | (go_simp; first | rfl) | rfl)); clear hK K)
        refine reg_p (i := 3) rfl (by kernel_rfl) (fun _ _ _ _ h => h) HH.out (fun K hK => ?_)
        go_simp
        first | (refine hK _ ?_; clear hK K) | (apply Exists.intro; refine ⟨?_, hK _ ?_⟩; (focus (intro wx; first | (go_simp; first | rfl) | rfl)); clear hK K)
        refine reg_p (i := 4) rfl (by kernel_rfl) (fun _ _ _ _ h => h) HH.out (fun K hK => ?_)
        go_simp
        first | (refine hK _ ?_; clear hK K) | (apply Exists.intro; refine ⟨?_, hK _ ?_⟩; (focus (intro wx; first | (go_simp; first | rfl) | rfl)); clear hK K)
        refine reg_p (i := 5) rfl (by kernel_rfl) (fun _ _ _ _ h => h) HH.out (fun K hK => ?_)
        go_simp
        first | (refine hK _ ?_; clear hK K) | (apply Exists.intro; refine ⟨?_, hK _ ?_⟩; (focus (intro wx; first | (go_simp; first | rfl) | rfl)); clear hK K)
        refine reg_l none (i := 6) rfl (by kernel_rfl) (fun wn hk K hK => ?_)
        replace HH := Lib.hid (hk _ _ HH.out)
        clear hk
        have hx := HH.out
        clear hx
        refine want rfl (wp_append_in _ _ _ rfl 31 2 16 Try.underlying22 (by kernel_rfl) (i := 0) (m := n - j) (A := some ⟨g, j * 2, none⟩) (encs encRg (l.drop j)) rfl rfl HH.out hcs.out (by omega) (by have := srcAt_tail HH.out hjn hnc hcs.out hxt.out; rw [if_neg hcj, encs_drop encRg_len] at this; exact this) (encsRg_one _) (by simp) ?_)
        intro wm H9_
        replace HH := Lib.hid (show Own _ _ (pts g (.cells (cur.toList.take (0 * 2) ++ encs encRg (l.drop j) ++ cur.toList.drop (0 * 2 + (encs encRg (l.drop j)).length)).toArray 31 (0, 0)) :: R) from H9_)
        clear H9_
        refine hK _ _ _ HH.out (.inl (by kernel_rfl)) ?_
        clear hK K
        refine reg_p (i := 7) rfl (by kernel_rfl) (fun _ _ _ _ h => h) HH.out (fun K hK => ?_)
        go_simp
        first | (refine hK _ ?_; clear hK K) | (apply Exists.intro; refine ⟨?_, hK _ ?_⟩; (focus (intro wx; first | (go_simp; first | rfl) | rfl)); clear hK K)
        refine mixk_done (by kernel_rfl) (fun w2_ hk => ?_) _
        replace HH := Lib.hid (hk _ _ HH.out)
        clear hk
        go_wp2_with (with_reducible refine stop_clear ?_)
        refine Stop.go ?_
        refine wpList_clear_pts rfl _ _ rfl 31 Try.underlying22 (z := .agg #[.int .u64 0, .int .u64 0]) Try.zeroValue31 (by simp [Value.cells, Value.oneCell']) rfl HH.out (by show _ + _ * 2 ≤ _; rw [hsz2.out]; omega) ?_
        intro cur2 w2 hs2 ht2 H2
        clear HH
        have HH := Lib.hid H2
        clear H2
        replace hs2 := Lib.hid hs2
        replace ht2 := Lib.hid ht2
        go_wp2_with fail
        go_ret
        exact ⟨_, rfl, HH.out.slc_mk (by omega) hcm.out (hs2.out.trans hsz2.out) hdl.out (ht2.out.trans hpre.out)⟩
end
end Go.Proofs.Ytlhncdbigjgmnaa
