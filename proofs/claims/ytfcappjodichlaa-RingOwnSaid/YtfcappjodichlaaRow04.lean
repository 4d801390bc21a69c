/- goitref04: rows of numbers, as lists. -/
import Derived.Test.YtfcappjodichlaaRingU2
namespace Go.Proofs.Ytfcappjodichlaa
open Go.RowKit
def rrow (b : Nat) (l : List Int) : Asn := exA fun v => sep (pts b (.cells #[v] 59 (0, 0))) (own64 v l)
section
variable (ε w : World) (R : List Asn) (b : Nat)
/-- The value of a row that is owned, and its numbers' cells. -/
theorem own64_val {v : Value} {l : List Int} (H : Own ε w (own64 v l :: R)) : ∃ A n cap, v = .slice A n cap ∧ l.length = n ∧ n ≤ cap ∧ cap ≤ maxLen ∧
    (n = 0 ∨ ∃ g, A = some ⟨g, 0, none⟩ ∧ (∀ i, ∀ h : i < l.length, w.cell? ⟨g, i, none⟩ = some (.int .u64 l[i])) ∧ ∀ i, w.frozen? ⟨g, i, none⟩ = false) := by
  rcases H.slc_val with ⟨rfl, h⟩ | ⟨g, n, cap, rfl, h1, h2, h3, h4, h5⟩
  · have hl : l = [] := by simpa [nums] using h
    subst hl
    exact ⟨none, 0, 0, rfl, rfl, Nat.le_refl _, Nat.zero_le _, .inl rfl⟩
  · have hl : l.length = n := by simpa [nums] using h3
    exact ⟨_, n, cap, rfl, hl, h1, h2, .inr ⟨g, rfl, fun i hi => h4 i _ (by simp [nums, hi]), h5⟩⟩
theorem Own.rrow_open {l : List Int} (H : Own ε w (rrow b l :: R)) : ∃ v, Own ε w (pts b (.cells #[v] 59 (0, 0)) :: own64 v l :: R) := by
  obtain ⟨v, H⟩ := H.ex
  exact ⟨v, H.split⟩
theorem Own.rrow_mk {v : Value} {l : List Int} (H : Own ε w (pts b (.cells #[v] 59 (0, 0)) :: own64 v l :: R)) : Own ε w (rrow b l :: R) := Own.ex_mk v H.join
theorem srcAt_cut {n : Nat} {l : List Int} {g lo hi : Nat} (hl : l.length = n) (hc : ∀ i, ∀ h : i < l.length, w.cell? ⟨g, i, none⟩ = some (.int .u64 l[i])) (hlo : lo ≤ hi) (hhi : hi ≤ n) (A' : Option Addr)
    (hA' : hi - lo = 0 ∨ A' = some ⟨g, lo, none⟩) : srcAt w A' (hi - lo) 1 (nums ((l.take hi).drop lo)) := by
  refine ⟨by simp [nums]; omega, hA'.imp id fun e => ⟨g, lo, e, fun j u hj => ?_⟩⟩
  have hj2 : j < ((l.take hi).drop lo).length := by
    rcases Nat.lt_or_ge j ((l.take hi).drop lo).length with q | q
    · exact q
    · rw [List.getElem?_eq_none (by simpa [nums] using q)] at hj; cases hj
  have hj3 : lo + j < l.length := by simp at hj2; omega
  rw [hc (lo + j) hj3, ← hj]
  simp only [nums, List.getElem?_map]
  rw [List.getElem?_eq_getElem hj2]
  simp
theorem atL_in {l : List Int} {k : Nat} (hk : k < l.length) : atL l k = (l[k], true) := by
  rw [atL, if_pos (by omega)]; simp [hk]
set_option maxHeartbeats 800000 in
theorem rrPush_c (l : List Int) (x : Int) (hl : l.length ≤ 1000000) (H : Own ε w (rrow b l :: R)) :
    Calls Try.prog 78 #[.pointer (some ⟨b, 0, none⟩), .int .u64 x] w fun e w' => e = .returned (.tuple #[]) ∧ Own ε w' (rrow b (l ++ [x]) :: R) := by
  obtain ⟨v, H⟩ := H.rrow_open
  have HH := Lib.hid H; clear H
  have k0 := HH.out.cells.1 0
  go_enter Try.func78, Try.ntmps78
  go_wp2_with (first | with_reducible refine stop_bs ?_ | with_reducible refine stop_bx ?_ | with_reducible refine stop_al ?_ | with_reducible refine stop_ms ?_ | with_reducible refine stop_app ?_ | with_reducible refine stop_copy ?_)
  refine Stop.go ?_
  go_step
  go_simp
  have H2 := Lib.hid (HH.out.alloc (.cells #[.int .u64 x] 31))
  generalize w.alloc (.cells #[.int .u64 x] 31) = w2 at *
  generalize w.heap.size = sb at *
  clear k0
  have hs : srcAt w2 (some ⟨sb, 0, none⟩) 1 1 [.int .u64 x] := ⟨rfl, .inr ⟨sb, 0, rfl, fun j u hj => by rw [Nat.zero_add, H2.out.cells.1 j]; simpa using hj⟩⟩
  go_wp2_with (first | with_reducible refine stop_bs ?_ | with_reducible refine stop_bx ?_ | with_reducible refine stop_al ?_ | with_reducible refine stop_ms ?_ | with_reducible refine stop_app ?_ | with_reducible refine stop_copy ?_)
  refine Stop.go ?_
  refine wpList_append_slc rfl _ _ 28 rfl 31 1 8 Try.underlying28 (by kernel_rfl) (by decide) rfl (H2.out.r3) rfl ((show (nums l).length = l.length * 1 by simp [nums])) (hs) ((by intro u hu; simp at hu; subst hu; rfl)) (by simp only [maxLen]; omega) (by omega) ?_
  intro v3 w3 H3
  replace H3 := Lib.hid H3
  have k0 := H3.out.r3.cells
  obtain ⟨A3, n3, cap3, rfl, _⟩ := H3.out.slc_src
  go_wp2_with fail
  first | go_end0 | ((try simp only [Exit.inBlock, Exit.then]); refine bodyPost_ret (results_none rfl _ _ _) rfl ?_)
  refine ⟨rfl, ?_⟩
  have H4 := (H3.out.r3.set 0 (.slice A3 n3 cap3)).r3.tail
  have e5 : nums l ++ [Value.int .u64 x] = nums (l ++ [x]) := by simp [nums]
  rw [e5] at H4
  exact Own.rrow_mk ε _ R b H4
set_option maxHeartbeats 800000 in
theorem rrShift_c (l : List Int) (hl : l.length ≤ 1000000) (H : Own ε w (rrow b l :: R)) :
    Calls Try.prog 79 #[.pointer (some ⟨b, 0, none⟩)] w fun e w' => e = .returned (.tuple #[.int .u64 (atL l 0).1, .bool (atL l 0).2]) ∧ Own ε w' (rrow b (l.drop 1) :: R) := by
  obtain ⟨v, H⟩ := H.rrow_open
  obtain ⟨A, n, cap, rfl, hn, hcap, hmax, hx⟩ := own64_val ε w _ H.r2
  have k0 := H.cells.1 0
  have HH := Lib.hid H; clear H
  by_cases h0 : n = 0
  · subst h0
    have hl0 : l = [] := List.eq_nil_of_length_eq_zero hn
    subst hl0
    go_enter Try.func79, Try.ntmps79
    go_wp2_with fail
    go_ret2
    exact ⟨rfl, Own.rrow_mk ε _ R b HH.out⟩
  obtain ⟨g, rfl, hc, hf⟩ := hx.resolve_left h0
  have hc0 := hc 0 (by omega)
  rw [show atL l 0 = (l[0], true) from atL_in (k := 0) (by omega)]
  have h1n : 1 ≤ n := by omega
  have hnm : n ≤ 9223372036854775807 := Nat.le_trans hcap hmax
  obtain ⟨x, hx1⟩ : ∃ x, l[0] = x := ⟨_, rfl⟩
  rw [hx1] at hc0 ⊢
  clear hx1 hc hf hx
  by_cases hc1 : cap = 1
  all_goals
    replace hcap := Lib.hid hcap; replace hmax := Lib.hid hmax; replace hn := Lib.hid hn
    go_enter Try.func79, Try.ntmps79
    go_wp2_with (first | with_reducible refine stop_bs ?_ | with_reducible refine stop_bx ?_ | with_reducible refine stop_al ?_ | with_reducible refine stop_ms ?_ | with_reducible refine stop_app ?_ | with_reducible refine stop_copy ?_)
    refine Stop.go ?_
    go_step
    go_simp
    have H2 := Lib.hid (HH.out.alloc (.cells #[] 31))
    generalize w.alloc (.cells #[] 31) = w2 at *
    generalize w.heap.size = sb at *
    clear k0 hc0
    have k0 := H2.out.r2.cells.1 0
    obtain ⟨A2, n2, cap2, e2, _, _, _, hx2⟩ := own64_val ε w2 _ H2.out.r3
    cases e2
    obtain ⟨g2, e2, hc, _⟩ := hx2.resolve_left h0
    cases e2
    have hsrc : srcAt w2 (if cap = 1 then some ⟨g, 0, none⟩ else some ⟨g, 1, none⟩) (n - 1) 1 (nums (l.drop 1)) := by
      have := srcAt_cut w2 (hi := n) (lo := 1) hn.out hc (by omega) (Nat.le_refl _) (if cap = 1 then some ⟨g, 0, none⟩ else some ⟨g, 1, none⟩) (by
        by_cases q : cap = 1
        · left; have := hcap.out; omega
        · right; rw [if_neg q])
      rwa [List.take_of_length_le (by have := hn.out; omega)] at this
    first | rw [if_pos hc1] at hsrc | rw [if_neg hc1] at hsrc
    have HS := Lib.hid (H2.out.slc_all (sz := 1) (n := 0) (by decide) rfl)
    replace hsrc := Lib.hid hsrc
    clear hc hx2
    go_wp2_with (first | with_reducible refine stop_bs ?_ | with_reducible refine stop_bx ?_ | with_reducible refine stop_al ?_ | with_reducible refine stop_ms ?_ | with_reducible refine stop_app ?_ | with_reducible refine stop_copy ?_)
    refine Stop.go ?_
    refine wpList_append_slc rfl _ _ 28 rfl 31 1 8 Try.underlying28 (by kernel_rfl) (by decide) rfl (HS.out) rfl ((show ([] : List Value).length = 0 * 1 from rfl)) (hsrc.out) (nums_one _) (by simp only [maxLen]; omega) (by omega) ?_
    intro v3 w3 H3
    replace H3 := Lib.hid H3
    clear k0
    have k0 := H3.out.r2.cells
    obtain ⟨A3, n3, cap3, rfl, _⟩ := H3.out.slc_src
    go_wp2_with fail
    go_ret2
    refine ⟨rfl, ?_⟩
    exact Own.rrow_mk ε _ R b ((H3.out.r2.set 0 (.slice A3 n3 cap3)).r3.tail)
set_option maxHeartbeats 800000 in
theorem rrPop_c (l : List Int) (hl : l.length ≤ 1000000) (H : Own ε w (rrow b l :: R)) :
    Calls Try.prog 80 #[.pointer (some ⟨b, 0, none⟩)] w fun e w' => e = .returned (.tuple #[.int .u64 (atL l (l.length - 1)).1, .bool (atL l (l.length - 1)).2]) ∧ Own ε w' (rrow b l.dropLast :: R) := by
  obtain ⟨v, H⟩ := H.rrow_open
  obtain ⟨A, n, cap, rfl, hn, hcap, hmax, hx⟩ := own64_val ε w _ H.r2
  have k0 := H.cells.1 0
  have HH := Lib.hid H; clear H
  by_cases h0 : n = 0
  · subst h0
    have hl0 : l = [] := List.eq_nil_of_length_eq_zero hn
    subst hl0
    rw [show atL ([] : List Int) ((([] : List Int).length : Int) - 1) = (0, false) by simp [atL]]
    rw [show ([] : List Int).dropLast = [] from rfl]
    go_enter Try.func80, Try.ntmps80
    go_wp2_with fail
    go_ret2
    exact ⟨rfl, Own.rrow_mk ε _ R b HH.out⟩
  obtain ⟨g, rfl, hc, hf⟩ := hx.resolve_left h0
  obtain ⟨k, rfl⟩ : ∃ k, n = k + 1 := ⟨n - 1, by omega⟩
  have hc0 := hc k (by omega)
  rw [show ((l.length : Int) - 1) = (k : Int) by omega]
  rw [atL_in (k := k) (by omega)]
  have hnm : k + 1 ≤ 9223372036854775807 := Nat.le_trans hcap hmax
  obtain ⟨x, hx1⟩ : ∃ x, l[k] = x := ⟨_, rfl⟩
  rw [hx1] at hc0 ⊢
  clear hx1 hc hf hx
  have hdl : l.dropLast = l.take k := by rw [List.dropLast_eq_take, hn]; rfl
  rw [hdl]
  have hkl : (l.take k).length = k := by simp; omega
  have hkc : k ≤ cap := by omega
  have hkb : k ≤ 1000000 := by omega
  replace hcap := Lib.hid hcap; replace hmax := Lib.hid hmax; replace hn := Lib.hid hn; replace hdl := Lib.hid hdl
  go_enter Try.func80, Try.ntmps80
  go_wp2_with (first | with_reducible refine stop_bs ?_ | with_reducible refine stop_bx ?_ | with_reducible refine stop_al ?_ | with_reducible refine stop_ms ?_ | with_reducible refine stop_app ?_ | with_reducible refine stop_copy ?_)
  refine Stop.go ?_
  go_step
  go_simp
  have H2 := Lib.hid (HH.out.alloc (.cells #[] 31))
  generalize w.alloc (.cells #[] 31) = w2 at *
  generalize w.heap.size = sb at *
  clear k0 hc0
  have k0 := H2.out.r2.cells.1 0
  obtain ⟨A2, n2, cap2, e2, _, _, _, hx2⟩ := own64_val ε w2 _ H2.out.r3
  cases e2
  obtain ⟨g2, e2, hc, _⟩ := hx2.resolve_left h0
  cases e2
  have hsrc : srcAt w2 (some ⟨g, 0, none⟩) k 1 (nums (l.take k)) := srcAt_cut w2 (hi := k) (lo := 0) hn.out hc (by omega) (by omega) _ (.inr rfl)
  have HS := Lib.hid (H2.out.slc_all (sz := 1) (n := 0) (by decide) rfl)
  replace hsrc := Lib.hid hsrc
  clear hc hx2
  go_wp2_with (first | with_reducible refine stop_bs ?_ | with_reducible refine stop_bx ?_ | with_reducible refine stop_al ?_ | with_reducible refine stop_ms ?_ | with_reducible refine stop_app ?_ | with_reducible refine stop_copy ?_)
  refine Stop.go ?_
  refine wpList_append_slc rfl _ _ 28 rfl 31 1 8 Try.underlying28 (by kernel_rfl) (by decide) rfl (HS.out) rfl ((show ([] : List Value).length = 0 * 1 from rfl)) (hsrc.out) (nums_one _) (by simp only [maxLen]; omega) (by omega) ?_
  intro v3 w3 H3
  replace H3 := Lib.hid H3
  clear k0
  have k0 := H3.out.r2.cells
  obtain ⟨A3, n3, cap3, rfl, _⟩ := H3.out.slc_src
  go_wp2_with fail
  go_ret2
  refine ⟨rfl, ?_⟩
  exact Own.rrow_mk ε _ R b ((H3.out.r2.set 0 (.slice A3 n3 cap3)).r3.tail)
theorem rrAt_c (l : List Int) (i : Int) (H : Own ε w (rrow b l :: R)) :
    Calls Try.prog 81 #[.pointer (some ⟨b, 0, none⟩), .int .i64 i] w fun e w' => e = .returned (.tuple #[.int .u64 (atL l i).1, .bool (atL l i).2]) ∧ w = w' := by
  obtain ⟨v, H⟩ := H.rrow_open
  obtain ⟨A, n, cap, rfl, hn, hcap, hmax, hx⟩ := own64_val ε w _ H.r2
  have k0 := H.cells.1 0
  clear H
  by_cases h0 : i < 0
  · rw [show atL l i = (0, false) from if_neg (by omega)]
    go_enter Try.func81, Try.ntmps81
    go_wp2_with fail
    go_ret2
    exact ⟨rfl, rfl⟩
  by_cases h1 : (n : Int) ≤ i
  · rw [show atL l i = (0, false) from if_neg (by omega)]
    go_enter Try.func81, Try.ntmps81
    go_wp2_with fail
    go_ret2
    exact ⟨rfl, rfl⟩
  obtain ⟨k, rfl⟩ : ∃ k : Nat, i = k := ⟨i.toNat, by omega⟩
  have hk : k < l.length := by omega
  have hkn : k < n := by omega
  obtain ⟨g, rfl, hc, hf⟩ := hx.resolve_left (by omega)
  have hc0 := hc k hk
  rw [atL_in hk]
  obtain ⟨x, hx1⟩ : ∃ x, l[k] = x := ⟨_, rfl⟩
  rw [hx1] at hc0 ⊢
  clear hx1 hc hf hx hn
  have hnm : n ≤ 9223372036854775807 := Nat.le_trans hcap hmax
  go_enter Try.func81, Try.ntmps81
  go_wp2_with fail
  go_ret2
  exact ⟨rfl, rfl⟩
/-- Two rows are one. -/
theorem rrSame_c (A B : Option Addr) (n m ca cb : Nat) (l : List Int) (h1 : rdSlice (rdInt .u64) 1 w [.slice A n ca] l) (h2 : rdSlice (rdInt .u64) 1 w [.slice B m cb] l) :
    Calls Try.prog 40 #[.slice A n ca, .slice B m cb] w fun e w' => e = .returned (.bool true) ∧ ∃ k, w' = w.drewN k := by
  obtain ⟨hl1, hm1, hx1⟩ := rdInts_cell h1
  obtain ⟨hl2, hm2, hx2⟩ := rdInts_cell h2
  clear h1 h2
  obtain rfl : m = n := by omega
  go_enter Try.func40, Try.ntmps40
  go_wp2_with fail
  go_loopw [5] (fun i wr => (∃ q, wr = w.drewN q) ∧ ∃ (k : Nat), k ≤ m ∧ i = .int .i64 k) (fun i _ => m - (intOf i).toNat)
  case atStart => exact ⟨⟨0, rfl⟩, 0, Nat.zero_le _, rfl⟩
  case round =>
    obtain ⟨⟨q, rfl⟩, k, hk, rfl⟩ := hrel
    by_cases hlt : k < m
    · rcases hx1 with hz | ⟨ab, off, rfl, hx1⟩
      · omega
      rcases hx2 with hz | ⟨ab2, off2, rfl, hx2⟩
      · omega
      have c1 := (hx1 k (by omega)).1
      have c2 := (hx2 k (by omega)).1
      obtain ⟨x, hxk⟩ : ∃ x, l[k]'(by omega) = x := ⟨_, rfl⟩
      rw [hxk] at c1 c2
      clear hx1 hx2 hxk
      go_wp2_with fail
      go_quiet (fail)
      go_wp2_with fail
      go_roundw
      case rel => exact ⟨⟨q + nq, rfl⟩, k + 1, by omega, by go_num⟩
      case measure => simp [intOf]; omega
    · go_wp2_with fail
      go_ret
      exact ⟨rfl, q, rfl⟩
end
end Go.Proofs.Ytfcappjodichlaa
