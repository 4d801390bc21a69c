/- seqs: slices.Insert of one range. -/
import Derived.Test.YtlhncdbigjgmnaaSeq3
import Derived.Lib.Overlaps
namespace Go.Proofs.Ytlhncdbigjgmnaa
open Go.RowKit
theorem encsRg_x (x : Rg) : encs encRg [x] = [.int .u64 x.1, .int .u64 x.2] := rfl
section
variable (ε w : World) (R : List Asn)
theorem src_x {xb : Nat} {x : Rg} (H : Own ε w (pts xb (.cells #[.int .u64 x.1, .int .u64 x.2] 31 (0, 0)) :: R)) : srcAt w (some ⟨xb, 0, none⟩) 1 2 (encs encRg [x]) := by
  refine ⟨rfl, .inr ⟨xb, 0, rfl, fun j u hj => ?_⟩⟩
  rw [encsRg_x] at hj
  rw [Nat.zero_add, H.cells.1 j]
  simpa using hj
theorem overlaps_no {xb g la ca lb cb off : Nat} {cx cur : Array Value} (Hx : Own ε w (pts xb (.cells cx 31 (0, 0)) :: pts g (.cells cur 31 (0, 0)) :: R)) (hc : cur.size ≠ 0) :
    (callFunc 67 #[.slice (some ⟨xb, 0, none⟩) la ca, .slice (some ⟨g, off, none⟩) lb cb]).run Try.prog w = .ok (.value (.bool false)) w := by
  have hs1 : w.shape? xb = some (31, cx.size) := by unfold World.shape?; rw [Hx.blk]
  have hs2 : w.shape? g = some (31, cur.size) := by unfold World.shape?; rw [Hx.r2.blk]
  rw [run_callFunc_extern Try.func67 (by kernel_rfl) (by kernel_rfl) (by kernel_rfl) (e := Extern.SlicesOverlaps.overlaps #[22, 22] #[4]) (by kernel_rfl),
    Lib.run_overlaps_apart w 22 4 31 Try.underlying22 2 Try.sizeOf31 ⟨xb, 0, none⟩ ⟨g, off, none⟩ la ca lb cb Hx.ne 31 31 cx.size cur.size hs1 hs2 hc (Hx.cells.2 0) (Hx.cells.2 cx.size)]
  rfl
set_option maxRecDepth 100000 in
set_option maxHeartbeats 6400000 in
theorem seqInsert_c (v : Value) (l : List Rg) (i : Nat) (hi : i ≤ l.length) (hm : l.length ≤ 1000000) (x : Rg) (xb : Nat) (H : Own ε w (slc 31 2 v (encs encRg l) :: pts xb (.cells #[.int .u64 x.1, .int .u64 x.2] 31 (0, 0)) :: R)) :
    Calls Try.prog 66 #[v, .int .i64 (i : Int), .slice (some ⟨xb, 0, none⟩) 1 1] w fun e w' => ∃ v', e = .returned v' ∧ Own ε w' (slc 31 2 v' (encs encRg (l.take i ++ x :: l.drop i)) :: R) := by
  have HH := Lib.hid H; clear H
  have hsplit : encs encRg (l.take i ++ x :: l.drop i) = encs encRg (l.take i) ++ encs encRg [x] ++ encs encRg (l.drop i) := by
    rw [show l.take i ++ x :: l.drop i = l.take i ++ [x] ++ l.drop i by simp, encs_append, encs_append]
  rcases HH.out.slc_open with ⟨rfl, hx, _⟩ | ⟨g, n, cap, cur, rfl, hnc, hcm, hcs, hxl, hxt, H2⟩
  · have hl0 : l.length = 0 := by have := encs_len encRg_len l; rw [hx] at this; simp at this; omega
    obtain rfl : l = [] := List.eq_nil_of_length_eq_zero hl0
    obtain rfl : i = 0 := by simpa using hi
    go_enter Try.func66, Try.ntmps66
    go_wp2_with (with_reducible refine stop_app ?_)
    refine Stop.go ?_
    refine wpList_append_slc rfl _ _ 22 rfl 31 2 16 Try.underlying22 (by kernel_rfl) (by decide) rfl (HH.out) rfl ((show (encs encRg []).length = 0 * 2 from rfl)) ((src_x _ _ _ HH.out.r2)) ((encsRg_one _)) (by simp only [maxLen]; omega) (by omega) ?_
    intro v6 w1_ H9_
    obtain ⟨A_v6, n_v6, c_v6, rfl⟩ := H9_.slc_isv
    replace HH := Lib.hid H9_
    clear H9_
    go_wp2_with fail
    go_ret
    exact ⟨.slice A_v6 n_v6 c_v6, rfl, HH.out.r2.tail⟩
  · rw [encs_len encRg_len] at hxl
    have hnl : l.length = n := by omega
    by_cases hin : i = n
    · subst hin
      have he : encs encRg (l.take i ++ x :: l.drop i) = encs encRg l ++ encs encRg [x] := by
        rw [hsplit, List.take_of_length_le (by omega), List.drop_of_length_le (by omega)]
        simp [encs]
      rw [he]
      have hlen : (encs encRg l).length = i * 2 := by rw [encs_len encRg_len, hnl]
      replace hlen := Lib.hid hlen
      have hi6 : i ≤ 1000000 := by omega
      clear hsplit he hxt hcs hcm H2 hxl hm hi hnl
      by_cases hci : cap = i
      all_goals
        go_enter Try.func66, Try.ntmps66
        go_wp2_with (with_reducible refine stop_app ?_)
        refine Stop.go ?_
        refine wpList_append_slc rfl _ _ 22 rfl 31 2 16 Try.underlying22 (by kernel_rfl) (by decide) rfl (HH.out) rfl (hlen.out) ((src_x _ _ _ HH.out.r2)) ((encsRg_one _)) (by simp only [maxLen]; omega) (by omega) ?_
        intro v6 w2_ H9_
        obtain ⟨A_v6, n_v6, c_v6, rfl⟩ := H9_.slc_isv
        replace HH := Lib.hid H9_
        clear H9_
        go_wp2_with fail
        go_ret
        exact ⟨.slice A_v6 n_v6 c_v6, rfl, HH.out.r2.tail⟩
    · have hin2 : i < n := by omega
      have htl : (encs encRg (l.take i)).length = i * 2 := by rw [encs_len encRg_len, List.length_take]; omega
      have hdl : (encs encRg (l.drop i)).length = (n - i) * 2 := by rw [encs_len encRg_len, List.length_drop]; omega
      have hn6 : n ≤ 1000000 := by omega
      have hti : cur.toList.take (i * 2) = encs encRg (l.take i) := by
        rw [← encs_take encRg_len, ← hxt, List.take_take]
        congr 1
        omega
      have hfin : (encs encRg (l.take i ++ x :: l.drop i)).length = (n + 1) * 2 := by rw [hsplit, List.length_append, List.length_append, htl, hdl, encsRg_x]; simp only [List.length_cons, List.length_nil]; omega
      clear HH
      have HH := Lib.hid H2
      clear H2 hm hi hxl
      have hci : ¬ cap = i := by omega
      by_cases hroom : n + 1 ≤ cap
      · have hc3 : ¬ cap = i + 1 := by omega
        have hw1 : IntKind.i64.wrap ((n : Int) + 1) = (n : Int) + 1 := by rw [IntKind.wrap_i64]; omega
        have hw3 : IntKind.i64.wrap ((i : Int) + 1) = (i : Int) + 1 := by rw [IntKind.wrap_i64]; omega
        have q1 : (0 : Int) ≤ (i : Int) + 1 := by omega
        have q2 : i ≤ n := by omega
        have q3 : (i : Int) ≤ (n : Int) + 1 := by omega
        have hov : (callFunc 67 #[.slice (some ⟨xb, 0, none⟩) 1 1, .slice (some ⟨g, (i + 1) * 2, none⟩) (n - i) (cap - (i + 1))]).run Try.prog w = .ok (.value (.bool false)) w := overlaps_no ε w _ HH.out.r2 (by rw [hcs]; omega)
        replace hxt := Lib.hid hxt
        replace hcs := Lib.hid hcs
        replace hcm := Lib.hid hcm
        replace htl := Lib.hid htl
        replace hdl := Lib.hid hdl
        replace hti := Lib.hid hti
        replace hsplit := Lib.hid hsplit
        replace hfin := Lib.hid hfin
        replace hnl := Lib.hid hnl
        go_enter Try.func66, Try.ntmps66
        go_wp2_with fail
        clear hov
        go_wp2_with fail
        refine wp_region_reg (some 8) HH.out (by kernel_rfl) ?_
        intro wm H9_
        replace HH := Lib.hid H9_
        clear H9_
        refine reg_p (i := 0) rfl (by kernel_rfl) (fun _ _ _ _ h => h) HH.out (fun K hK => ?_)
        go_simp
        first | (refine hK _ ?_; clear hK K) | (apply Exists.intro; refine ⟨?_, hK _ ?_⟩; (focus (intro wx; first | (go_simp; first | rfl) | rfl)); clear hK K)
        refine reg_p (i := 1) rfl (by kernel_rfl) (fun _ _ _ _ h => h) HH.out (fun K hK => ?_)
        go_simp
        first | (refine hK _ ?_; clear hK K) | (apply Exists.intro; refine ⟨?_, hK _ ?_⟩; (focus (intro wx; first | (go_simp; first | rfl) | rfl)); clear hK K)
        refine reg_p (i := 2) rfl (by kernel_rfl) (fun _ _ _ _ h => h) HH.out (fun K hK => ?_)
        go_simp
        first | (refine hK _ ?_; clear hK K) | (apply Exists.intro; refine ⟨?_, hK _ ?_⟩; (focus (intro wx; first | (go_simp; first | rfl) | rfl)); clear hK K)
        refine reg_p (i := 3) rfl (by kernel_rfl) (fun _ _ _ _ h => h) HH.out (fun K hK => ?_)
        go_simp
        first | (refine hK _ ?_; clear hK K) | (apply Exists.intro; refine ⟨?_, hK _ ?_⟩; (focus (intro wx; first | (go_simp; first | rfl) | rfl)); clear hK K)
        refine reg_p (i := 4) rfl (by kernel_rfl) (fun _ _ _ _ h => h) HH.out (fun K hK => ?_)
        go_simp
        first | (refine hK _ ?_; clear hK K) | (apply Exists.intro; refine ⟨?_, hK _ ?_⟩; (focus (intro wx; first | (go_simp; first | rfl) | rfl)); clear hK K)
        refine reg_p (i := 5) rfl (by kernel_rfl) (fun _ _ _ _ h => h) HH.out (fun K hK => ?_)
        go_simp
        first | (refine hK _ ?_; clear hK K) | (apply Exists.intro; refine ⟨?_, hK _ ?_⟩; (focus (intro wx; first | (go_simp; first | rfl) | rfl)); clear hK K)
        refine reg_p (i := 6) rfl (by kernel_rfl) (fun _ _ _ _ h => h) HH.out (fun K hK => ?_)
        go_simp
        first | (refine hK _ ?_; clear hK K) | (apply Exists.intro; refine ⟨?_, hK _ ?_⟩; (focus (intro wx; first | (go_simp; first | rfl) | rfl)); clear hK K)
        refine reg_p (i := 7) rfl (by kernel_rfl) (fun _ _ _ _ h => h) HH.out (fun K hK => ?_)
        go_simp
        first | (refine hK _ ?_; clear hK K) | (apply Exists.intro; refine ⟨?_, hK _ ?_⟩; (focus (intro wx; first | (go_simp; first | rfl) | rfl)); clear hK K)
        refine reg_l none (i := 8) rfl (by kernel_rfl) (fun wn hk K hK => ?_)
        replace HH := Lib.hid (hk _ _ HH.out)
        clear hk
        have hx := HH.out
        clear hx
        refine want rfl (wp_copy_slc _ _ _ _ rfl 31 2 16 Try.underlying22 (by kernel_rfl) ((i + 1) * 2) (encs encRg (l.drop i)) (n - i) rfl rfl (Nat.min_eq_right (by omega)) HH.out (.inr rfl) (by have := srcAt_tail HH.out (Nat.le_of_lt hin2) hnc hcs.out hxt.out; rw [if_neg hci, encs_drop encRg_len] at this; exact this) (by rw [hcs.out, hdl.out]; omega) (encsRg_one _) ?_)
        intro wm H9_
        replace HH := Lib.hid (show Own _ _ (pts g (.cells (cur.toList.take ((i + 1) * 2) ++ encs encRg (l.drop i) ++ cur.toList.drop ((i + 1) * 2 + (encs encRg (l.drop i)).length)).toArray 31 (0, 0)) :: pts xb (.cells #[.int .u64 x.1, .int .u64 x.2] 31 (0, 0)) :: R) from H9_)
        clear H9_
        refine hK _ _ _ HH.out (.inl (by kernel_rfl)) ?_
        clear hK K
        refine mixk_done (by kernel_rfl) (fun w3_ hk => ?_) _
        replace HH := Lib.hid (hk _ _ HH.out)
        clear hk
        obtain ⟨c1, hc1⟩ : ∃ c1, c1 = cur.toList.take ((i + 1) * 2) ++ encs encRg (l.drop i) ++ cur.toList.drop ((i + 1) * 2 + (encs encRg (l.drop i)).length) := ⟨_, rfl⟩
        have hl1 : (cur.toList.take ((i + 1) * 2)).length = (i + 1) * 2 := by rw [List.length_take, Array.length_toList, hcs.out]; omega
        have c1l : c1.length = cap * 2 := by
          have h2 := hdl.out
          rw [hc1, List.length_append, List.length_append, hl1, h2, List.length_drop, Array.length_toList, hcs.out]
          omega
        have c1t : c1.take (i * 2) = encs encRg (l.take i) := by
          rw [hc1, List.append_assoc, List.take_append_of_le_length (by rw [hl1]; omega), List.take_take, ← hti.out]
          congr 1
          omega
        have c1d : c1.drop (i * 2 + 2) = encs encRg (l.drop i) ++ cur.toList.drop ((i + 1) * 2 + (encs encRg (l.drop i)).length) := by
          rw [hc1, List.append_assoc]
          exact List.drop_left' (by rw [hl1]; omega)
        rw [← hc1] at HH
        clear hc1 hl1
        replace c1l := Lib.hid c1l
        replace c1t := Lib.hid c1t
        replace c1d := Lib.hid c1d
        go_wp2_with (with_reducible refine stop_copy ?_)
        refine Stop.go ?_
        refine wpList_copy_slc rfl _ _ _ _ rfl 31 2 16 Try.underlying22 (by kernel_rfl) (i * 2) (encs encRg [x]) 1 rfl rfl (Nat.min_eq_left (by omega)) HH.out (.inr rfl) (src_x _ _ _ HH.out.r2) (by rw [List.size_toArray, c1l.out]; show _ + 2 ≤ _; omega) (encsRg_one _) ?_
        intro w3 H3
        clear HH
        have HH := Lib.hid H3
        clear H3
        go_wp2_with fail
        go_ret
        refine ⟨.slice (some ⟨g, 0, none⟩) (n + 1) cap, rfl, HH.out.r2.tail.slc_mk hroom hcm.out ?_ hfin.out ?_⟩
        · have h1 := c1l.out
          have hx2 : (encs encRg [x]).length = 2 := rfl
          rw [List.size_toArray, List.length_append, List.length_append, List.length_take, List.length_drop, hx2]
          show min _ c1.length + 2 + (c1.length - _) = _
          omega
        · show List.take _ (c1.take (i * 2) ++ encs encRg [x] ++ c1.drop (i * 2 + 2)) = _
          rw [c1t.out, c1d.out, hsplit.out, ← List.append_assoc]
          exact List.take_left' (by have h3 := hfin.out; rw [hsplit.out] at h3; exact h3)
      · obtain rfl : cap = n := by omega
        have hw1 : IntKind.i64.wrap ((cap : Int) + 1) = (cap : Int) + 1 := by rw [IntKind.wrap_i64]; omega
        have hw2 : IntKind.i64.wrap ((cap : Int) + 1 - (i : Int)) = (cap : Int) + 1 - (i : Int) := by rw [IntKind.wrap_i64]; omega
        have hw3 : IntKind.i64.wrap ((i : Int) + 1) = (i : Int) + 1 := by rw [IntKind.wrap_i64]; omega
        replace hxt := Lib.hid hxt
        replace hcs := Lib.hid hcs
        replace hcm := Lib.hid hcm
        replace htl := Lib.hid htl
        replace hdl := Lib.hid hdl
        replace hti := Lib.hid hti
        replace hsplit := Lib.hid hsplit
        replace hfin := Lib.hid hfin
        replace hnl := Lib.hid hnl
        go_enter Try.func66, Try.ntmps66
        go_wp2_with (with_reducible refine stop_app ?_)
        refine Stop.go ?_
        refine wpList_append_made rfl _ _ _ rfl 31 2 16 Try.underlying22 Try.underlying3 (by kernel_rfl) (by decide) (m := cap + 1 - i) rfl rfl (by omega) HH.out hcs.out (by omega) (by omega) (by simp only [maxLen]; omega) (by omega) ?_
        intro g2 cap2 cur2 w2 k1 k2 k3 k4 H2
        clear HH
        have HH := Lib.hid H2
        clear H2
        have e1 : i + (cap + 1 - i) = cap + 1 := by omega
        rw [e1] at k1 ⊢
        have hc2 : ¬ cap2 = i := by omega
        have hc3 : ¬ cap2 = i + 1 := by omega
        have p4 : (cur2.toList.take (i * 2)).length = i * 2 := by rw [k4, hti.out, htl.out]
        have e2 : cur2.toList.take (i * 2) = encs encRg (l.take i) := by rw [k4, hti.out]
        replace k2 := Lib.hid k2
        replace k3 := Lib.hid k3
        replace k4 := Lib.hid k4
        go_wp2_with (with_reducible refine stop_copy ?_)
        refine Stop.go ?_
        refine wpList_copy_slc rfl _ _ _ _ rfl 31 2 16 Try.underlying22 (by kernel_rfl) (i * 2) (encs encRg [x]) 1 rfl rfl (Nat.min_eq_left (by omega)) HH.out (.inr rfl) (src_x _ _ _ HH.out.r3) (by rw [k3.out]; show _ + 2 ≤ _; omega) (encsRg_one _) ?_
        intro w3 H3
        clear HH
        rw [e2] at H3
        obtain ⟨c3, hc3e⟩ : ∃ c3, c3 = encs encRg (l.take i) ++ encs encRg [x] ++ cur2.toList.drop (i * 2 + (encs encRg [x]).length) := ⟨_, rfl⟩
        have c3l : c3.length = cap2 * 2 := by
          have hx2 : (encs encRg [x]).length = 2 := rfl
          rw [hc3e, List.length_append, List.length_append, htl.out, List.length_drop, hx2, Array.length_toList, k3.out]
          omega
        have c3t : c3.take ((i + 1) * 2) = encs encRg (l.take i) ++ encs encRg [x] := by
          rw [hc3e]
          exact List.take_left' (by rw [List.length_append, htl.out, encsRg_x]; simp only [List.length_cons, List.length_nil]; omega)
        rw [← hc3e] at H3
        clear hc3e e2 p4
        have HH := Lib.hid H3
        clear H3
        replace c3l := Lib.hid c3l
        replace c3t := Lib.hid c3t
        have q1 : (0 : Int) ≤ (i : Int) + 1 := by omega
        have q2 : i ≤ cap := by omega
        go_wp2_with fail
        go_wp2_with fail
        refine wp_region_reg (some 8) HH.out (by kernel_rfl) ?_
        intro wm H9_
        replace HH := Lib.hid H9_
        clear H9_
        refine reg_p (i := 0) rfl (by kernel_rfl) (fun _ _ _ _ h => h) HH.out (fun K hK => ?_)
        go_simp
        first | (refine hK _ ?_; clear hK K) | (apply Exists.intro; refine ⟨?_, hK _ ?_⟩; (focus (intro wx; first | (go_simp; first | rfl) | rfl)); clear hK K)
        refine reg_p (i := 1) rfl (by kernel_rfl) (fun _ _ _ _ h => h) HH.out (fun K hK => ?_)
        go_simp
        first | (refine hK _ ?_; clear hK K) | (apply Exists.intro; refine ⟨?_, hK _ ?_⟩; (focus (intro wx; first | (go_simp; first | rfl) | rfl)); clear hK K)
        refine reg_p (i := 2) rfl (by kernel_rfl) (fun _ _ _ _ h => h) HH.out (fun K hK => ?_)
        go_simp
        first | (refine hK _ ?_; clear hK K) | (apply Exists.intro; refine ⟨?_, hK _ ?_⟩; (focus (intro wx; first | (go_simp; first | rfl) | rfl)); clear hK K)
        refine reg_p (i := 3) rfl (by kernel_rfl) (fun _ _ _ _ h => h) HH.out (fun K hK => ?_)
        go_simp
        first | (refine hK _ ?_; clear hK K) | (apply Exists.intro; refine ⟨?_, hK _ ?_⟩; (focus (intro wx; first | (go_simp; first | rfl) | rfl)); clear hK K)
        refine reg_p (i := 4) rfl (by kernel_rfl) (fun _ _ _ _ h => h) HH.out (fun K hK => ?_)
        go_simp
        first | (refine hK _ ?_; clear hK K) | (apply Exists.intro; refine ⟨?_, hK _ ?_⟩; (focus (intro wx; first | (go_simp; first | rfl) | rfl)); clear hK K)
        refine reg_p (i := 5) rfl (by kernel_rfl) (fun _ _ _ _ h => h) HH.out (fun K hK => ?_)
        go_simp
        first | (refine hK _ ?_; clear hK K) | (apply Exists.intro; refine ⟨?_, hK _ ?_⟩; (focus (intro wx; first | (go_simp; first | rfl) | rfl)); clear hK K)
        refine reg_p (i := 6) rfl (by kernel_rfl) (fun _ _ _ _ h => h) HH.out (fun K hK => ?_)
        go_simp
        first | (refine hK _ ?_; clear hK K) | (apply Exists.intro; refine ⟨?_, hK _ ?_⟩; (focus (intro wx; first | (go_simp; first | rfl) | rfl)); clear hK K)
        refine reg_p (i := 7) rfl (by kernel_rfl) (fun _ _ _ _ h => h) HH.out (fun K hK => ?_)
        go_simp
        first | (refine hK _ ?_; clear hK K) | (apply Exists.intro; refine ⟨?_, hK _ ?_⟩; (focus (intro wx; first | (go_simp; first | rfl) | rfl)); clear hK K)
        refine reg_l none (i := 8) rfl (by kernel_rfl) (fun wn hk K hK => ?_)
        replace HH := Lib.hid (hk _ _ HH.out)
        clear hk
        have hx := HH.out
        clear hx
        refine want rfl (wp_copy_slc _ _ _ _ rfl 31 2 16 Try.underlying22 (by kernel_rfl) ((i + 1) * 2) (encs encRg (l.drop i)) (cap - i) rfl rfl (Nat.min_eq_left (by omega)) HH.out (.inr rfl) (by have := srcAt_tail HH.out.r2 (Nat.le_of_lt hin2) hnc hcs.out hxt.out; rw [if_neg hci, encs_drop encRg_len] at this; exact this) (by rw [List.size_toArray, c3l.out, hdl.out]; omega) (encsRg_one _) ?_)
        intro wm H9_
        replace HH := Lib.hid (show Own _ _ (pts g2 (.cells (c3.toArray.toList.take ((i + 1) * 2) ++ encs encRg (l.drop i) ++ c3.toArray.toList.drop ((i + 1) * 2 + (encs encRg (l.drop i)).length)).toArray 31 (0, 0)) :: pts g (.cells cur 31 (0, 0)) :: pts xb (.cells #[.int .u64 x.1, .int .u64 x.2] 31 (0, 0)) :: R) from H9_)
        clear H9_
        refine hK _ _ _ HH.out (.inl (by kernel_rfl)) ?_
        clear hK K
        refine mixk_done (by kernel_rfl) (fun w4_ hk => ?_) _
        replace HH := Lib.hid (hk _ _ HH.out)
        clear hk
        go_wp2_with fail
        go_ret
        refine ⟨.slice (some ⟨g2, 0, none⟩) (cap + 1) cap2, rfl, HH.out.r2.tail.r2.tail.slc_mk k1 k2.out ?_ hfin.out ?_⟩
        · have h1 := c3l.out
          have h2 := hdl.out
          rw [List.size_toArray, List.length_append, List.length_append, List.length_take, List.length_drop, h2]
          omega
        · have h2 := hdl.out
          show List.take _ (c3.take ((i + 1) * 2) ++ encs encRg (l.drop i) ++ _) = _
          rw [c3t.out, hsplit.out]
          exact List.take_left' (by have h3 := hfin.out; rw [hsplit.out] at h3; exact h3)
end
end Go.Proofs.Ytlhncdbigjgmnaa
