/- goitref06: all numbers, with their cycles: what its last two rows say. -/
import Derived.Test.YtpfbbpiidhhkbaaGreatCycle
namespace Go.Proofs.YtpfbbpiidhhkbaaGreat
open Go.RowKit
def rcyc (b m : Nat) (l1 l0 : List Int) : Asn := exA fun p : Value × Value × Value × List Value =>
  lift (p.2.2.2.length = m ∧ 1 ≤ m ∧ p.2.2.2[m - 1]? = some p.2.2.1 ∧ (m = 1 ∧ l1 = [] ∨ 2 ≤ m ∧ p.2.2.2[m - 2]? = some p.2.1))
    (sep (pts b (.cells #[p.1] 118 (0, 0))) (sep (slc 119 1 p.1 p.2.2.2) (sep (own64 p.2.1 l1) (own64 p.2.2.1 l0))))
section
variable (ε w : World) (R : List Asn) (b m : Nat)
theorem Own.rcyc_open {l1 l0 : List Int} (H : Own ε w (rcyc b m l1 l0 :: R)) : ∃ (og ocap : Nat) (v1 v0 : Value) (vs : List Value), vs.length = m ∧ 1 ≤ m ∧ vs[m - 1]? = some v0 ∧ (m = 1 ∧ l1 = [] ∨ 2 ≤ m ∧ vs[m - 2]? = some v1) ∧
    Own ε w (pts b (.cells #[.slice (some ⟨og, 0, none⟩) m ocap] 118 (0, 0)) :: slc 119 1 (.slice (some ⟨og, 0, none⟩) m ocap) vs :: own64 v1 l1 :: own64 v0 l0 :: R) := by
  obtain ⟨⟨v, v1, v0, vs⟩, H⟩ := H.ex
  obtain ⟨⟨h1, h2, h3, h4⟩, H⟩ := H.lift
  have H2 := H.split.r2.split.r2.split.r4.r4.r2
  simp only at h1 h2 h3 h4 H2
  rcases H2.r2.slc_val with ⟨rfl, rfl⟩ | ⟨og, n, ocap, rfl, _, _, hl, _⟩
  · simp at h1; omega
  · have : n = m := by omega
    subst this
    exact ⟨og, ocap, v1, v0, vs, h1, h2, h3, h4, H2⟩
theorem Own.rcyc_mk {l1 l0 : List Int} {v v1 v0 : Value} {vs : List Value} (h1 : vs.length = m) (h2 : 1 ≤ m) (h3 : vs[m - 1]? = some v0) (h4 : m = 1 ∧ l1 = [] ∨ 2 ≤ m ∧ vs[m - 2]? = some v1)
    (H : Own ε w (pts b (.cells #[v] 118 (0, 0)) :: slc 119 1 v vs :: own64 v1 l1 :: own64 v0 l0 :: R)) : Own ε w (rcyc b m l1 l0 :: R) := by
  refine Own.ex_mk (v, v1, v0, vs) (Own.lift_mk ⟨h1, h2, h3, h4⟩ ?_)
  exact H.r3.r4.r2.join.r3.join.r2.join
set_option maxHeartbeats 800000 in
theorem rcycNew_c {L : List Asn} (H : Own ε w L) :
    Calls Tryz.prog 26 #[] w fun e w' => ∃ b, e = .returned (.pointer (some ⟨b, 0, none⟩)) ∧ Own ε w' (rcyc b 1 [] [] :: L) := by
  have HH := Lib.hid H; clear H
  go_enter Tryz.func26, Tryz.ntmps26
  go_wp2_with (with_reducible first | refine stop_bs ?_ | refine stop_bx ?_ | refine stop_al ?_ | refine stop_ms ?_ | refine stop_app ?_ | refine stop_copy ?_)
  refine Stop.go ?_
  go_step
  go_simp
  have H2 := Lib.hid (HH.out.alloc (.cells #[.slice none 0 0] 119))
  generalize w.alloc (.cells #[.slice none 0 0] 119) = w2 at *
  generalize w.heap.size = sb at *
  go_wp2_with fail
  have H3 := Lib.hid (H2.out.alloc (.cells #[.slice (some ⟨sb, 0, none⟩) 1 1] 118))
  generalize w2.alloc (.cells #[.slice (some ⟨sb, 0, none⟩) 1 1] 118) = w3 at *
  generalize w2.heap.size = ob at *
  go_ret
  refine ⟨_, rfl, ?_⟩
  have H4 := ((H3.out.r2.slc_all (sz := 1) (n := 1) (by decide) rfl).r2)
  have H5 : Own ε w3 (own64 (.slice none 0 0) [] :: own64 (.slice none 0 0) [] :: _) := (H4.slc_none).slc_none
  exact Own.rcyc_mk ε w3 L ob 1 rfl (Nat.le_refl _) rfl (.inl ⟨rfl, rfl⟩) H5.r4.r4
set_option maxHeartbeats 800000 in
theorem rcycPut_c (l1 l0 xs : List Int) (A : Option Addr) (len cap : Nat) (hr : ∀ wx, Own ε wx R → rdSlice (rdInt .u64) 1 wx [.slice A len cap] xs) (h0 : ∀ x ∈ l0, U x) (hb : l0.length + len ≤ 1000000) (H : Own ε w (rcyc b m l1 l0 :: R)) :
    Calls Tryz.prog 94 #[.pointer (some ⟨b, 0, none⟩), .slice A len cap] w fun e w' => e = .returned (.tuple #[]) ∧ Own ε w' (rcyc b m l1 (l0 ++ xs) :: R) := by
  obtain ⟨og, ocap, v1, v0, vs, h1, h2, h3, h4, H⟩ := H.rcyc_open
  have HH := Lib.hid H; clear H
  obtain ⟨A0, n0, cap0, rfl, hr0⟩ := (HH.out.r4).nums_rd h0
  obtain ⟨c0, f0⟩ := HH.out.cells
  have k0 := c0 0
  rcases HH.out.r2.slc_val with ⟨e, _⟩ | ⟨_, _, _, e, hmo, hmm, _, hvs, fvs⟩
  · cases e
  cases e
  have hm3 : m ≤ 9223372036854775807 := Nat.le_trans hmo hmm
  have hm1 : ((m : Int) - 1) = ((m - 1 : Nat) : Int) := by omega
  have hm2 : m - 1 < m := by omega
  clear c0 f0 fvs hmm hmo
  have k1 := hvs _ _ h3
  replace h3 := Lib.hid h3
  clear hvs
  go_enter Tryz.func94, Tryz.ntmps94
  go_wp2_with (with_reducible first | refine stop_bs ?_ | refine stop_bx ?_ | refine stop_al ?_ | refine stop_ms ?_ | refine stop_app ?_ | refine stop_copy ?_)
  refine Stop.go ?_
  go_step
  go_simp
  have H2 := Lib.hid (HH.out.alloc (.cells #[] 22))
  generalize w.alloc (.cells #[] 22) = w2 at *
  generalize w.heap.size = sb at *
  have HS := Lib.hid (H2.out.slc_all (sz := 1) (n := 0) (by decide) rfl)
  clear k0 k1
  have k0 := H2.out.r2.cells.1 0
  rcases H2.out.r3.slc_val with ⟨e, _⟩ | ⟨_, _, _, e, _, _, _, hvs, _⟩
  · cases e
  cases e
  have k1 := hvs _ _ h3.out
  clear hvs
  obtain ⟨_, _, _, e, hr0⟩ := (H2.out.r5).nums_rd h0
  cases e
  have hl0 := (rdInts_cell hr0).1
  have hb0 : n0 + len ≤ 1000000 := by omega
  replace hr := Lib.hid hr
  go_wp2_with (with_reducible first | refine stop_bs ?_ | refine stop_bx ?_ | refine stop_al ?_ | refine stop_ms ?_ | refine stop_app ?_ | refine stop_copy ?_)
  refine Stop.go ?_
  refine wpList_append_slc rfl _ _ 119 rfl 22 1 8 Tryz.underlying119 (by kernel_rfl) (by decide) rfl (HS.out) rfl ((show ([] : List Value).length = 0 * 1 from rfl)) ((srcAt_rd hr0)) (nums_one _) (by simp only [maxLen]; omega) (by omega) ?_
  intro v3 w3 H3
  replace H3 := Lib.hid H3
  have hrx := hr.out w3 H3.out.tail.tail.tail.tail.tail
  have hlx := (rdInts_cell hrx).1
  go_wp2_with (with_reducible first | refine stop_bs ?_ | refine stop_bx ?_ | refine stop_al ?_ | refine stop_ms ?_ | refine stop_app ?_ | refine stop_copy ?_)
  refine Stop.go ?_
  refine wpList_append_slc rfl _ _ 119 rfl 22 1 8 Tryz.underlying119 (by kernel_rfl) (by decide) rfl (H3.out) rfl ((show ([] ++ nums l0).length = n0 * 1 by simp [nums, hl0])) ((srcAt_rd hrx)) (nums_one _) (by simp only [maxLen]; omega) (by omega) ?_
  intro v4 w4 H4
  replace H4 := Lib.hid H4
  clear k0 k1
  obtain ⟨c0, _⟩ := H4.out.r2.cells
  have k0 := c0 0
  rcases H4.out.r3.slc_val with ⟨e, _⟩ | ⟨_, _, _, e, _, _, _, hvs, fvs⟩
  · cases e
  cases e
  have k1 := hvs _ _ h3.out
  have f1 := fvs (m - 1)
  clear hvs fvs
  obtain ⟨A4, n4, cap4, rfl, _⟩ := H4.out.slc_src
  go_wp2_with fail
  first | go_end0 | ((try simp only [Exit.inBlock, Exit.then]); refine bodyPost_ret (results_none rfl _ _ _) rfl ?_)
  refine ⟨rfl, ?_⟩
  have H5 := (H4.out.r3.slc_set (m - 1) (.slice A4 n4 cap4)).r5.tail.r2.l4.r2
  have e5 : [] ++ nums l0 ++ nums xs = nums (l0 ++ xs) := by simp [nums]
  rw [e5] at H5
  refine Own.rcyc_mk ε _ R b m (by simpa using h1) h2 (List.getElem?_set_self (by omega)) ?_ H5
  refine h4.imp id fun ⟨q1, q2⟩ => ⟨q1, ?_⟩
  rw [List.getElem?_set_ne (by omega)]
  exact q2
set_option maxHeartbeats 800000 in
theorem rcycNext_c (l1 l0 : List Int) (hb : m ≤ 1000000) (H : Own ε w (rcyc b m l1 l0 :: R)) :
    Calls Tryz.prog 102 #[.pointer (some ⟨b, 0, none⟩)] w fun e w' => e = .returned (.tuple #[]) ∧ Own ε w' (rcyc b (m + 1) l0 [] :: R) := by
  obtain ⟨og, ocap, v1, v0, vs, h1, h2, h3, h4, H⟩ := H.rcyc_open
  have HH := Lib.hid H; clear H
  have k0 := HH.out.cells.1 0
  go_enter Tryz.func102, Tryz.ntmps102
  go_wp2_with (with_reducible first | refine stop_bs ?_ | refine stop_bx ?_ | refine stop_al ?_ | refine stop_ms ?_ | refine stop_app ?_ | refine stop_copy ?_)
  refine Stop.go ?_
  go_step
  go_simp
  have H2 := Lib.hid (HH.out.alloc (.cells #[.slice none 0 0] 119))
  generalize w.alloc (.cells #[.slice none 0 0] 119) = w2 at *
  generalize w.heap.size = sb at *
  clear k0
  have hs : srcAt w2 (some ⟨sb, 0, none⟩) 1 1 [.slice none 0 0] := ⟨rfl, .inr ⟨sb, 0, rfl, fun j u hj => by rw [Nat.zero_add, H2.out.cells.1 j]; simpa using hj⟩⟩
  go_wp2_with (with_reducible first | refine stop_bs ?_ | refine stop_bx ?_ | refine stop_al ?_ | refine stop_ms ?_ | refine stop_app ?_ | refine stop_copy ?_)
  refine Stop.go ?_
  refine wpList_append_slc rfl _ _ 116 rfl 119 1 24 Tryz.underlying116 (by kernel_rfl) (by decide) rfl (H2.out.r3) rfl ((show vs.length = m * 1 by omega)) (hs) ((by intro u hu; simp at hu; subst hu; rfl)) (by simp only [maxLen]; omega) (by omega) ?_
  intro v3 w3 H3
  replace H3 := Lib.hid H3
  have k0 := H3.out.r3.cells
  obtain ⟨A3, n3, cap3, rfl, _⟩ := H3.out.slc_src
  go_wp2_with fail
  first | go_end0 | ((try simp only [Exit.inBlock, Exit.then]); refine bodyPost_ret (results_none rfl _ _ _) rfl ?_)
  refine ⟨rfl, ?_⟩
  have H4 := (H3.out.r3.set 0 (.slice A3 n3 cap3)).r3.tail.r3.tail
  have H5 : Own ε _ (own64 (.slice none 0 0) [] :: _) := H4.slc_none
  refine Own.rcyc_mk ε _ R b (m + 1) (by simp [h1]) (by omega) ?_ (.inr ⟨by omega, ?_⟩) H5.l4
  · rw [List.getElem?_append_right (by omega), h1]; simp
  · rw [List.getElem?_append_left (by omega)]; exact h3
def rbest (l1 l0 : List Int) : Int := max (maxL l1) (maxL l0)
set_option maxHeartbeats 1600000 in
theorem rcycBest_c (l1 l0 : List Int) (hU1 : ∀ x ∈ l1, U x) (hU0 : ∀ x ∈ l0, U x) (H : Own ε w (rcyc b m l1 l0 :: R)) :
    Calls Tryz.prog 65 #[.pointer (some ⟨b, 0, none⟩)] w fun e w' => e = .returned (.int .u64 (rbest l1 l0)) ∧ w = w' := by
  obtain ⟨og, ocap, v1, v0, vs, h1, h2, h3, h4, H⟩ := H.rcyc_open
  have k0 := H.cells.1 0
  rcases H.r2.slc_val with ⟨e, _⟩ | ⟨_, _, _, e, hmo, hmm, _, hvs, _⟩
  · cases e
  cases e
  have hm3 : m ≤ 9223372036854775807 := Nat.le_trans hmo hmm
  obtain ⟨A0, n0, cap0, rfl, hr0⟩ := (H.r4).nums_rd hU0
  obtain ⟨A1, n1, cap1, rfl, hr1⟩ := (H.r3).nums_rd hU1
  have key : ∀ i, m - 2 ≤ i → i < m → ∃ A n cap l, w.cell? ⟨og, i, none⟩ = some (.slice A n cap) ∧ rdSlice (rdInt .u64) 1 w [.slice A n cap] l ∧
      ∀ x, x = (if i + 2 ≤ m then 0 else maxL l1) → max x (maxL l) = (if i + 1 + 2 ≤ m then 0 else if i + 1 + 1 = m then maxL l1 else rbest l1 l0) := by
    intro i hi hlt
    have p1 := maxL_nonneg l1
    by_cases hlast : i + 1 = m
    · have : i = m - 1 := by omega
      subst this
      refine ⟨A0, n0, cap0, l0, hvs _ _ h3, hr0, fun x hx => ?_⟩
      rw [if_neg (by omega)] at hx
      rw [if_neg (by omega), if_neg (by omega), hx]; rfl
    · rcases h4 with ⟨q, _⟩ | ⟨q1, q2⟩
      · omega
      · have : i = m - 2 := by omega
        subst this
        refine ⟨A1, n1, cap1, l1, hvs _ _ q2, hr1, fun x hx => ?_⟩
        rw [if_pos (by omega)] at hx
        rw [if_neg (by omega), if_pos (by omega), hx]
        show max 0 (maxL l1) = maxL l1
        omega
  replace key := Lib.hid key
  replace h4 := Lib.hid h4
  clear hvs hr0 hr1 H h3 hmo hmm
  have hm1 : (m = 1 ∧ (m : Int) - 2 = -1) ∨ (2 ≤ m ∧ (m : Int) - 2 = ((m - 2 : Nat) : Int)) := by omega
  rcases hm1 with ⟨hm1, hm2⟩ | ⟨hm1, hm2⟩
  all_goals
    go_enter Tryz.func65, Tryz.ntmps65
    go_wp2_with fail
    go_loopw [3, 4] (fun best i wr => wr = w ∧ ∃ k : Nat, m - 2 ≤ k ∧ k ≤ m ∧ i = .int .i64 k ∧ best = .int .u64 (if k + 2 ≤ m then 0 else if k + 1 = m then maxL l1 else rbest l1 l0)) (fun _ i _ => m - (intOf i).toNat)
    case atStart =>
      refine ⟨rfl, m - 2, by omega, by omega, ?_, ?_⟩
      · first | rfl | (rw [hm1]; rfl)
      · rcases h4.out with ⟨q, rfl⟩ | ⟨q, _⟩
        · rw [if_neg (by omega), if_pos (by omega)]; rfl
        · rw [if_pos (by omega)]
    case round =>
      obtain ⟨rfl, k, hk1, hk2, rfl, rfl⟩ := hrel
      clear hm2
      by_cases hlt : k < m
      · obtain ⟨A, n, cap, l, hcell, hrd, hnext⟩ := key.out k hk1 hlt
        replace hnext := hnext _ rfl
        have e1 : (if k + 2 ≤ m then (0 : Int) else if k + 1 = m then maxL l1 else rbest l1 l0) = (if k + 2 ≤ m then 0 else maxL l1) := by
          by_cases q : k + 2 ≤ m
          · rw [if_pos q, if_pos q]
          · rw [if_neg q, if_neg q, if_pos (by omega)]
        rw [e1]
        have hx0 : 0 ≤ (if k + 2 ≤ m then (0 : Int) else maxL l1) := by
          have := maxL_nonneg l1
          split <;> omega
        generalize (if k + 2 ≤ m then (0 : Int) else maxL l1) = x0 at *
        clear e1
        obtain ⟨hl, hn, hx⟩ := rdInts_cell hrd
        replace hnext := Lib.hid hnext
        replace hx0 := Lib.hid hx0
        go_wp2_with fail
        go_loopw [3, 5] (fun best k wq => wq = wr ∧ ∃ j : Nat, j ≤ n ∧ k = .int .i64 j ∧ best = .int .u64 (max x0 (maxL (l.take j)))) (fun _ i _ => n - (intOf i).toNat)
        case atStart =>
          refine ⟨rfl, 0, by omega, rfl, ?_⟩
          have := hx0.out
          rw [List.take_zero, maxL_nil]
          congr 1; omega
        case round =>
          obtain ⟨rfl, j, hj, rfl, rfl⟩ := hrel
          by_cases hjn : j < n
          · rcases hx with hz | ⟨ab, off, rfl, hx⟩
            · omega
            obtain ⟨hc, hU⟩ := hx j (by omega)
            have ht := maxL_take l j (by omega) hU.1
            generalize l[j] = y at *
            clear hx
            go_wp2_with fail
            go_roundw
            case rel => exact ⟨trivial, j + 1, by omega, by go_num, by rw [ht, ite_max]; congr 1; omega⟩
            case measure => simp [intOf]; omega
          · have hjl : j = n := by omega
            subst hjl
            rw [show l.take j = l from List.take_of_length_le (by omega), hnext.out]
            go_wp2_with fail
            go_roundw
            case rel => exact ⟨trivial, k + 1, by omega, by omega, by go_num, rfl⟩
            case measure => simp [intOf]; omega
      · have hkm : k = m := by omega
        subst hkm
        rw [if_neg (by omega), if_neg (by omega)]
        go_wp2_with fail
        go_ret
        exact ⟨rfl, rfl⟩
end
end Go.Proofs.YtpfbbpiidhhkbaaGreat
