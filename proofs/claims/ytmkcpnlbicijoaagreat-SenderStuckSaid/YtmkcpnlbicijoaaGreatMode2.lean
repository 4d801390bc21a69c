/- mode: what follows, and what is next. -/
import Derived.Test.YtmkcpnlbicijoaaGreatCalm
import Derived.Test.YtmkcpnlbicijoaaGreatRttD
import Derived.Test.YtmkcpnlbicijoaaGreatGain
import Derived.Test.YtmkcpnlbicijoaaGreatRange
namespace Go.Proofs.YtmkcpnlbicijoaaGreat
open Go.RowKit
def arrows (s : Int) : List Int := if s = 0 then [1] else if s = 1 then [2] else if s = 2 then [3, 4] else if s = 3 then [4] else if s = 4 then [5] else if s = 5 then [2] else if s = 6 then [3, 0] else []
def stOk (s : Int) : Bool := decide (0 ≤ s ∧ s ≤ 6)
def follows (s t : Int) : Bool := stOk s && (s == t || t == 6 || (arrows s).contains t)
theorem st_cases (s : Int) : (s = 0 ∨ s = 1 ∨ s = 2 ∨ s = 3 ∨ s = 4 ∨ s = 5 ∨ s = 6) ∨ ¬ (0 ≤ s ∧ s ≤ 6) := by omega
section
variable (w : World)
theorem index1_c (g c : Nat) (a t : Int) (hc : w.cell? ⟨g, 0, none⟩ = some (.int .i64 a)) :
  Calls Tryz.prog 166 #[.slice (some ⟨g, 0, none⟩) 1 c, .int .i64 t] w fun e w' => e = .returned (.int .i64 (if t = a then 0 else -1)) ∧ w = w' := by
 by_cases h : t = a
 ·rw [if_pos h]
  subst h
  go_enter Tryz.func166, Tryz.ntmps166
  go_wp2
  refine wp_loop_rounds 1 ?_
  rw [rounds_succ]
  go_wp2
  go_ret
  exact ⟨rfl, rfl⟩
 ·rw [if_neg h]
  have h1 := (show (t == a) = false by simpa using h)
  clear h
  go_enter Tryz.func166, Tryz.ntmps166
  go_wp2
  refine wp_loop_rounds 2 ?_
  rw [rounds_succ]
  go_wp2
  rw [rounds_succ]
  go_wp2
  go_ret
  exact ⟨rfl, rfl⟩
theorem index2_c (g c : Nat) (a b t : Int) (hc : w.cell? ⟨g, 0, none⟩ = some (.int .i64 a)) (hd : w.cell? ⟨g, 1, none⟩ = some (.int .i64 b)) :
  Calls Tryz.prog 166 #[.slice (some ⟨g, 0, none⟩) 2 c, .int .i64 t] w fun e w' => e = .returned (.int .i64 (if t = a then 0 else if t = b then 1 else -1)) ∧ w = w' := by
 by_cases h : t = a
 ·rw [if_pos h]
  subst h
  go_enter Tryz.func166, Tryz.ntmps166
  go_wp2
  refine wp_loop_rounds 1 ?_
  rw [rounds_succ]
  go_wp2
  go_ret
  exact ⟨rfl, rfl⟩
 ·rw [if_neg h]
  have h1 := (show (t == a) = false by simpa using h)
  clear h
  by_cases h : t = b
  ·rw [if_pos h]
   subst h
   go_enter Tryz.func166, Tryz.ntmps166
   go_wp2
   refine wp_loop_rounds 2 ?_
   rw [rounds_succ]
   go_wp2
   rw [rounds_succ]
   go_wp2
   go_ret
   exact ⟨rfl, rfl⟩
  ·rw [if_neg h]
   have h2 := (show (t == b) = false by simpa using h)
   clear h
   go_enter Tryz.func166, Tryz.ntmps166
   go_wp2
   refine wp_loop_rounds 3 ?_
   rw [rounds_succ]
   go_wp2
   rw [rounds_succ]
   go_wp2
   rw [rounds_succ]
   go_wp2
   go_ret
   exact ⟨rfl, rfl⟩
theorem contains1_c (g c : Nat) (a t : Int) (hc : w.cell? ⟨g, 0, none⟩ = some (.int .i64 a)) :
  Calls Tryz.prog 162 #[.slice (some ⟨g, 0, none⟩) 1 c, .int .i64 t] w fun e w' => e = .returned (.bool ([a].contains t)) ∧ w = w' := by
 have hi := index1_c w g c a t hc
 by_cases h : t = a
 ·rw [if_pos h] at hi
  rw [show [a].contains t = true by simp [h]]
  clear h
  go_enter Tryz.func162, Tryz.ntmps162
  go_wp2_with fail
  refine (hi).mono ?_
  rintro e w' ⟨rfl, rfl⟩
  go_wp2_with fail
  go_ret
  exact ⟨rfl, rfl⟩
 ·rw [if_neg h] at hi
  rw [show [a].contains t = false by simp [h]]
  clear h
  go_enter Tryz.func162, Tryz.ntmps162
  go_wp2_with fail
  refine (hi).mono ?_
  rintro e w' ⟨rfl, rfl⟩
  go_wp2_with fail
  go_ret
  exact ⟨rfl, rfl⟩
theorem contains2_c (g c : Nat) (a b t : Int) (hc : w.cell? ⟨g, 0, none⟩ = some (.int .i64 a)) (hd : w.cell? ⟨g, 1, none⟩ = some (.int .i64 b)) :
  Calls Tryz.prog 162 #[.slice (some ⟨g, 0, none⟩) 2 c, .int .i64 t] w fun e w' => e = .returned (.bool ([a, b].contains t)) ∧ w = w' := by
 have hi := index2_c w g c a b t hc hd
 by_cases h : t = a
 ·rw [if_pos h] at hi
  rw [show [a, b].contains t = true by simp [h]]
  clear h
  go_enter Tryz.func162, Tryz.ntmps162
  go_wp2_with fail
  refine (hi).mono ?_
  rintro e w' ⟨rfl, rfl⟩
  go_wp2_with fail
  go_ret
  exact ⟨rfl, rfl⟩
 ·rw [if_neg h] at hi
  by_cases h2 : t = b
  ·rw [if_pos h2] at hi
   rw [show [a, b].contains t = true by simp [h2]]
   clear h h2
   go_enter Tryz.func162, Tryz.ntmps162
   go_wp2_with fail
   refine (hi).mono ?_
   rintro e w' ⟨rfl, rfl⟩
   go_wp2_with fail
   go_ret
   exact ⟨rfl, rfl⟩
  ·rw [if_neg h2] at hi
   rw [show [a, b].contains t = false by simp [h, h2]]
   clear h h2
   go_enter Tryz.func162, Tryz.ntmps162
   go_wp2_with fail
   refine (hi).mono ?_
   rintro e w' ⟨rfl, rfl⟩
   go_wp2_with fail
   go_ret
   exact ⟨rfl, rfl⟩
set_option maxHeartbeats 1600000 in
theorem modeArrows_c (ε : World) (L : List Asn) (H : Own ε w L) : Calls Tryz.prog 161 #[] w fun e w' => ∃ b g0 g1 g2 g3 g4 g5 g6, e = .returned (.map (some b)) ∧ Own ε w' (pts b (mpObj [(.int .i64 0, .slice (some ⟨g0, 0, none⟩) 1 1), (.int .i64 1, .slice (some ⟨g1, 0, none⟩) 1 1), (.int .i64 2, .slice (some ⟨g2, 0, none⟩) 2 2), (.int .i64 3, .slice (some ⟨g3, 0, none⟩) 1 1), (.int .i64 4, .slice (some ⟨g4, 0, none⟩) 1 1), (.int .i64 5, .slice (some ⟨g5, 0, none⟩) 1 1), (.int .i64 6, .slice (some ⟨g6, 0, none⟩) 2 2)]) :: pts g6 (.cells #[.int .i64 3, .int .i64 0] 75 (0, 0)) :: pts g5 (.cells #[.int .i64 2] 75 (0, 0)) :: pts g4 (.cells #[.int .i64 5] 75 (0, 0)) :: pts g3 (.cells #[.int .i64 4] 75 (0, 0)) :: pts g2 (.cells #[.int .i64 3, .int .i64 4] 75 (0, 0)) :: pts g1 (.cells #[.int .i64 2] 75 (0, 0)) :: pts g0 (.cells #[.int .i64 1] 75 (0, 0)) :: L) := by
 have HH := Lib.hid H
 clear H
 have hmm := @run_makeMap_plain Tryz.prog
 go_enter Tryz.func161, Tryz.ntmps161
 go_wp2_with (with_reducible first | refine stop_bs ?_ | refine stop_bx ?_ | refine stop_al ?_ | refine stop_ms ?_ | refine stop_app ?_ | refine stop_copy ?_)
 have H1 := Lib.hid (show Own ε (w.alloc (.map #[] 0)) (pts w.heap.size (mpObj []) :: L) from HH.out.alloc _)
 clear HH
 generalize w.alloc (.map #[] 0) = w1 at *
 generalize w.heap.size = b at *
 clear hmm
 refine Stop.go ?_
 go_step
 go_simp
 have H2 := Lib.hid (H1.out.alloc (.cells #[.int .i64 1] 75))
 generalize w1.alloc (.cells #[.int .i64 1] 75) = w2 at *
 generalize w1.heap.size = g0 at *
 clear H1
 go_wp2_with (with_reducible refine stop_in ?_)
 refine Stop.go ?_
 refine wpList_insert_new (l := []) 75 232 (.int .i64) (.int .i64 0) (.slice (some ⟨g0, 0, none⟩) 1 1) Tryz.underlying234 Tryz.underlying75 rfl rfl rfl rfl H2.out.r2 (by kernel_rfl) ?_
 intro w3 H3
 replace H3 := Lib.hid H3
 clear H2
 go_wp2_with (with_reducible first | refine stop_bs ?_ | refine stop_bx ?_ | refine stop_al ?_ | refine stop_ms ?_ | refine stop_app ?_ | refine stop_copy ?_)
 refine Stop.go ?_
 go_step
 go_simp
 have H4 := Lib.hid (H3.out.alloc (.cells #[.int .i64 2] 75))
 generalize w3.alloc (.cells #[.int .i64 2] 75) = w4 at *
 generalize w3.heap.size = g1 at *
 clear H3
 go_wp2_with (with_reducible refine stop_in ?_)
 refine Stop.go ?_
 refine wpList_insert_new (l := [(.int .i64 0, .slice (some ⟨g0, 0, none⟩) 1 1)]) 75 232 (.int .i64) (.int .i64 1) (.slice (some ⟨g1, 0, none⟩) 1 1) Tryz.underlying234 Tryz.underlying75 rfl rfl rfl rfl H4.out.r2 (by kernel_rfl) ?_
 intro w5 H5
 replace H5 := Lib.hid H5
 clear H4
 go_wp2_with (with_reducible first | refine stop_bs ?_ | refine stop_bx ?_ | refine stop_al ?_ | refine stop_ms ?_ | refine stop_app ?_ | refine stop_copy ?_)
 refine Stop.go ?_
 go_step
 go_simp
 have H6 := Lib.hid (H5.out.alloc (.cells #[.int .i64 3, .int .i64 4] 75))
 generalize w5.alloc (.cells #[.int .i64 3, .int .i64 4] 75) = w6 at *
 generalize w5.heap.size = g2 at *
 clear H5
 go_wp2_with (with_reducible refine stop_in ?_)
 refine Stop.go ?_
 refine wpList_insert_new (l := [(.int .i64 0, .slice (some ⟨g0, 0, none⟩) 1 1), (.int .i64 1, .slice (some ⟨g1, 0, none⟩) 1 1)]) 75 232 (.int .i64) (.int .i64 2) (.slice (some ⟨g2, 0, none⟩) 2 2) Tryz.underlying234 Tryz.underlying75 rfl rfl rfl rfl H6.out.r2 (by kernel_rfl) ?_
 intro w7 H7
 replace H7 := Lib.hid H7
 clear H6
 go_wp2_with (with_reducible first | refine stop_bs ?_ | refine stop_bx ?_ | refine stop_al ?_ | refine stop_ms ?_ | refine stop_app ?_ | refine stop_copy ?_)
 refine Stop.go ?_
 go_step
 go_simp
 have H8 := Lib.hid (H7.out.alloc (.cells #[.int .i64 4] 75))
 generalize w7.alloc (.cells #[.int .i64 4] 75) = w8 at *
 generalize w7.heap.size = g3 at *
 clear H7
 go_wp2_with (with_reducible refine stop_in ?_)
 refine Stop.go ?_
 refine wpList_insert_new (l := [(.int .i64 0, .slice (some ⟨g0, 0, none⟩) 1 1), (.int .i64 1, .slice (some ⟨g1, 0, none⟩) 1 1), (.int .i64 2, .slice (some ⟨g2, 0, none⟩) 2 2)]) 75 232 (.int .i64) (.int .i64 3) (.slice (some ⟨g3, 0, none⟩) 1 1) Tryz.underlying234 Tryz.underlying75 rfl rfl rfl rfl H8.out.r2 (by kernel_rfl) ?_
 intro w9 H9
 replace H9 := Lib.hid H9
 clear H8
 go_wp2_with (with_reducible first | refine stop_bs ?_ | refine stop_bx ?_ | refine stop_al ?_ | refine stop_ms ?_ | refine stop_app ?_ | refine stop_copy ?_)
 refine Stop.go ?_
 go_step
 go_simp
 have H10 := Lib.hid (H9.out.alloc (.cells #[.int .i64 5] 75))
 generalize w9.alloc (.cells #[.int .i64 5] 75) = w10 at *
 generalize w9.heap.size = g4 at *
 clear H9
 go_wp2_with (with_reducible refine stop_in ?_)
 refine Stop.go ?_
 refine wpList_insert_new (l := [(.int .i64 0, .slice (some ⟨g0, 0, none⟩) 1 1), (.int .i64 1, .slice (some ⟨g1, 0, none⟩) 1 1), (.int .i64 2, .slice (some ⟨g2, 0, none⟩) 2 2), (.int .i64 3, .slice (some ⟨g3, 0, none⟩) 1 1)]) 75 232 (.int .i64) (.int .i64 4) (.slice (some ⟨g4, 0, none⟩) 1 1) Tryz.underlying234 Tryz.underlying75 rfl rfl rfl rfl H10.out.r2 (by kernel_rfl) ?_
 intro w11 H11
 replace H11 := Lib.hid H11
 clear H10
 go_wp2_with (with_reducible first | refine stop_bs ?_ | refine stop_bx ?_ | refine stop_al ?_ | refine stop_ms ?_ | refine stop_app ?_ | refine stop_copy ?_)
 refine Stop.go ?_
 go_step
 go_simp
 have H12 := Lib.hid (H11.out.alloc (.cells #[.int .i64 2] 75))
 generalize w11.alloc (.cells #[.int .i64 2] 75) = w12 at *
 generalize w11.heap.size = g5 at *
 clear H11
 go_wp2_with (with_reducible refine stop_in ?_)
 refine Stop.go ?_
 refine wpList_insert_new (l := [(.int .i64 0, .slice (some ⟨g0, 0, none⟩) 1 1), (.int .i64 1, .slice (some ⟨g1, 0, none⟩) 1 1), (.int .i64 2, .slice (some ⟨g2, 0, none⟩) 2 2), (.int .i64 3, .slice (some ⟨g3, 0, none⟩) 1 1), (.int .i64 4, .slice (some ⟨g4, 0, none⟩) 1 1)]) 75 232 (.int .i64) (.int .i64 5) (.slice (some ⟨g5, 0, none⟩) 1 1) Tryz.underlying234 Tryz.underlying75 rfl rfl rfl rfl H12.out.r2 (by kernel_rfl) ?_
 intro w13 H13
 replace H13 := Lib.hid H13
 clear H12
 go_wp2_with (with_reducible first | refine stop_bs ?_ | refine stop_bx ?_ | refine stop_al ?_ | refine stop_ms ?_ | refine stop_app ?_ | refine stop_copy ?_)
 refine Stop.go ?_
 go_step
 go_simp
 have H14 := Lib.hid (H13.out.alloc (.cells #[.int .i64 3, .int .i64 0] 75))
 generalize w13.alloc (.cells #[.int .i64 3, .int .i64 0] 75) = w14 at *
 generalize w13.heap.size = g6 at *
 clear H13
 go_wp2_with (with_reducible refine stop_in ?_)
 refine Stop.go ?_
 refine wpList_insert_new (l := [(.int .i64 0, .slice (some ⟨g0, 0, none⟩) 1 1), (.int .i64 1, .slice (some ⟨g1, 0, none⟩) 1 1), (.int .i64 2, .slice (some ⟨g2, 0, none⟩) 2 2), (.int .i64 3, .slice (some ⟨g3, 0, none⟩) 1 1), (.int .i64 4, .slice (some ⟨g4, 0, none⟩) 1 1), (.int .i64 5, .slice (some ⟨g5, 0, none⟩) 1 1)]) 75 232 (.int .i64) (.int .i64 6) (.slice (some ⟨g6, 0, none⟩) 2 2) Tryz.underlying234 Tryz.underlying75 rfl rfl rfl rfl H14.out.r2 (by kernel_rfl) ?_
 intro w15 H15
 replace H15 := Lib.hid H15
 clear H14
 go_wp2_with fail
 go_ret
 exact ⟨b, g0, g1, g2, g3, g4, g5, g6, rfl, H15.out⟩
end
end Go.Proofs.YtmkcpnlbicijoaaGreat
namespace Go.Proofs.YtmkcpnlbicijoaaGreat
open Go.RowKit
section
variable (w : World)
set_option maxHeartbeats 3200000 in
theorem modeFollows_c (s t : Int) : Calls Tryz.prog 146 #[.int .i64 s, .int .i64 t] w fun e w' => e = .returned (.bool (follows s t)) ∧ Below w.heap.size w w' := by
 have HH := Lib.hid (Own.init w)
 have hn := modeArrows_c w w [old w] HH.out
 rcases st_cases s with (rfl | rfl | rfl | rfl | rfl | rfl | rfl) | hs
 ·by_cases h1 : (0 : Int) = t
  ·rw [show follows 0 t = true by subst h1; decide]
   have b1 : ((0 : Int) == t) = true := by simpa using h1
   clear h1
   go_enter Tryz.func146, Tryz.ntmps146
   go_wp2_with fail
   refine (hn).mono ?_
   rintro e w2 ⟨b, g0, g1, g2, g3, g4, g5, g6, rfl, H2⟩
   replace H2 := Lib.hid H2
   clear hn
   have hl := run_lookup_has (P := Tryz.prog) 234 75 232 (.int .i64) (.int .i64 0) (.slice (some ⟨g0, 0, none⟩) 1 1) 0 Tryz.underlying234 Tryz.underlying75 rfl H2.out (by kernel_rfl)
   go_wp2_with fail
   go_ret
   exact ⟨rfl, (H2.out.pn : Own w w2 [old w]).old_below⟩
  have b1 : ((0 : Int) == t) = false := by simpa using h1
  by_cases h2 : t = 6
  ·rw [show follows 0 t = true by subst h2; decide]
   have b2 : (t == 6) = true := by simpa using h2
   clear h1 h2
   go_enter Tryz.func146, Tryz.ntmps146
   go_wp2_with fail
   refine (hn).mono ?_
   rintro e w2 ⟨b, g0, g1, g2, g3, g4, g5, g6, rfl, H2⟩
   replace H2 := Lib.hid H2
   clear hn
   have hl := run_lookup_has (P := Tryz.prog) 234 75 232 (.int .i64) (.int .i64 0) (.slice (some ⟨g0, 0, none⟩) 1 1) 0 Tryz.underlying234 Tryz.underlying75 rfl H2.out (by kernel_rfl)
   go_wp2_with fail
   go_ret
   exact ⟨rfl, (H2.out.pn : Own w w2 [old w]).old_below⟩
  have b2 : (t == 6) = false := by simpa using h2
  rw [show follows 0 t = (decide (t = 1)) by unfold follows; rw [b1, b2, show stOk 0 = true by decide, show arrows 0 = [1] by rfl]; simp]
  clear h1 h2
  go_enter Tryz.func146, Tryz.ntmps146
  go_wp2_with fail
  refine (hn).mono ?_
  rintro e w2 ⟨b, g0, g1, g2, g3, g4, g5, g6, rfl, H2⟩
  replace H2 := Lib.hid H2
  clear hn
  have hl := run_lookup_has (P := Tryz.prog) 234 75 232 (.int .i64) (.int .i64 0) (.slice (some ⟨g0, 0, none⟩) 1 1) 0 Tryz.underlying234 Tryz.underlying75 rfl H2.out (by kernel_rfl)
  have hc := (H2.out.pn : Own w w2 (pts g0 (.cells #[.int .i64 1] 75 (0, 0)) :: _)).cells.1
  have hc0 := hc 0
  clear hc
  go_wp2_with fail
  refine (contains1_c _ g0 1 1 t hc0 ).mono ?_
  rintro e w' ⟨rfl, rfl⟩
  go_wp2_with fail
  go_ret
  exact ⟨rfl, (H2.out.pn : Own w w2 [old w]).old_below⟩
 ·by_cases h1 : (1 : Int) = t
  ·rw [show follows 1 t = true by subst h1; decide]
   have b1 : ((1 : Int) == t) = true := by simpa using h1
   clear h1
   go_enter Tryz.func146, Tryz.ntmps146
   go_wp2_with fail
   refine (hn).mono ?_
   rintro e w2 ⟨b, g0, g1, g2, g3, g4, g5, g6, rfl, H2⟩
   replace H2 := Lib.hid H2
   clear hn
   have hl := run_lookup_has (P := Tryz.prog) 234 75 232 (.int .i64) (.int .i64 1) (.slice (some ⟨g1, 0, none⟩) 1 1) 1 Tryz.underlying234 Tryz.underlying75 rfl H2.out (by kernel_rfl)
   go_wp2_with fail
   go_ret
   exact ⟨rfl, (H2.out.pn : Own w w2 [old w]).old_below⟩
  have b1 : ((1 : Int) == t) = false := by simpa using h1
  by_cases h2 : t = 6
  ·rw [show follows 1 t = true by subst h2; decide]
   have b2 : (t == 6) = true := by simpa using h2
   clear h1 h2
   go_enter Tryz.func146, Tryz.ntmps146
   go_wp2_with fail
   refine (hn).mono ?_
   rintro e w2 ⟨b, g0, g1, g2, g3, g4, g5, g6, rfl, H2⟩
   replace H2 := Lib.hid H2
   clear hn
   have hl := run_lookup_has (P := Tryz.prog) 234 75 232 (.int .i64) (.int .i64 1) (.slice (some ⟨g1, 0, none⟩) 1 1) 1 Tryz.underlying234 Tryz.underlying75 rfl H2.out (by kernel_rfl)
   go_wp2_with fail
   go_ret
   exact ⟨rfl, (H2.out.pn : Own w w2 [old w]).old_below⟩
  have b2 : (t == 6) = false := by simpa using h2
  rw [show follows 1 t = (decide (t = 2)) by unfold follows; rw [b1, b2, show stOk 1 = true by decide, show arrows 1 = [2] by rfl]; simp]
  clear h1 h2
  go_enter Tryz.func146, Tryz.ntmps146
  go_wp2_with fail
  refine (hn).mono ?_
  rintro e w2 ⟨b, g0, g1, g2, g3, g4, g5, g6, rfl, H2⟩
  replace H2 := Lib.hid H2
  clear hn
  have hl := run_lookup_has (P := Tryz.prog) 234 75 232 (.int .i64) (.int .i64 1) (.slice (some ⟨g1, 0, none⟩) 1 1) 1 Tryz.underlying234 Tryz.underlying75 rfl H2.out (by kernel_rfl)
  have hc := (H2.out.pn : Own w w2 (pts g1 (.cells #[.int .i64 2] 75 (0, 0)) :: _)).cells.1
  have hc0 := hc 0
  clear hc
  go_wp2_with fail
  refine (contains1_c _ g1 1 2 t hc0 ).mono ?_
  rintro e w' ⟨rfl, rfl⟩
  go_wp2_with fail
  go_ret
  exact ⟨rfl, (H2.out.pn : Own w w2 [old w]).old_below⟩
 ·by_cases h1 : (2 : Int) = t
  ·rw [show follows 2 t = true by subst h1; decide]
   have b1 : ((2 : Int) == t) = true := by simpa using h1
   clear h1
   go_enter Tryz.func146, Tryz.ntmps146
   go_wp2_with fail
   refine (hn).mono ?_
   rintro e w2 ⟨b, g0, g1, g2, g3, g4, g5, g6, rfl, H2⟩
   replace H2 := Lib.hid H2
   clear hn
   have hl := run_lookup_has (P := Tryz.prog) 234 75 232 (.int .i64) (.int .i64 2) (.slice (some ⟨g2, 0, none⟩) 2 2) 2 Tryz.underlying234 Tryz.underlying75 rfl H2.out (by kernel_rfl)
   go_wp2_with fail
   go_ret
   exact ⟨rfl, (H2.out.pn : Own w w2 [old w]).old_below⟩
  have b1 : ((2 : Int) == t) = false := by simpa using h1
  by_cases h2 : t = 6
  ·rw [show follows 2 t = true by subst h2; decide]
   have b2 : (t == 6) = true := by simpa using h2
   clear h1 h2
   go_enter Tryz.func146, Tryz.ntmps146
   go_wp2_with fail
   refine (hn).mono ?_
   rintro e w2 ⟨b, g0, g1, g2, g3, g4, g5, g6, rfl, H2⟩
   replace H2 := Lib.hid H2
   clear hn
   have hl := run_lookup_has (P := Tryz.prog) 234 75 232 (.int .i64) (.int .i64 2) (.slice (some ⟨g2, 0, none⟩) 2 2) 2 Tryz.underlying234 Tryz.underlying75 rfl H2.out (by kernel_rfl)
   go_wp2_with fail
   go_ret
   exact ⟨rfl, (H2.out.pn : Own w w2 [old w]).old_below⟩
  have b2 : (t == 6) = false := by simpa using h2
  rw [show follows 2 t = (decide (t = 3) || decide (t = 4)) by unfold follows; rw [b1, b2, show stOk 2 = true by decide, show arrows 2 = [3, 4] by rfl]; simp]
  clear h1 h2
  go_enter Tryz.func146, Tryz.ntmps146
  go_wp2_with fail
  refine (hn).mono ?_
  rintro e w2 ⟨b, g0, g1, g2, g3, g4, g5, g6, rfl, H2⟩
  replace H2 := Lib.hid H2
  clear hn
  have hl := run_lookup_has (P := Tryz.prog) 234 75 232 (.int .i64) (.int .i64 2) (.slice (some ⟨g2, 0, none⟩) 2 2) 2 Tryz.underlying234 Tryz.underlying75 rfl H2.out (by kernel_rfl)
  have hc := (H2.out.pn : Own w w2 (pts g2 (.cells #[.int .i64 3, .int .i64 4] 75 (0, 0)) :: _)).cells.1
  have hc0 := hc 0
  have hc1 := hc 1
  clear hc
  go_wp2_with fail
  refine (contains2_c _ g2 2 3 4 t hc0 hc1).mono ?_
  rintro e w' ⟨rfl, rfl⟩
  go_wp2_with fail
  go_ret
  exact ⟨rfl, (H2.out.pn : Own w w2 [old w]).old_below⟩
 ·by_cases h1 : (3 : Int) = t
  ·rw [show follows 3 t = true by subst h1; decide]
   have b1 : ((3 : Int) == t) = true := by simpa using h1
   clear h1
   go_enter Tryz.func146, Tryz.ntmps146
   go_wp2_with fail
   refine (hn).mono ?_
   rintro e w2 ⟨b, g0, g1, g2, g3, g4, g5, g6, rfl, H2⟩
   replace H2 := Lib.hid H2
   clear hn
   have hl := run_lookup_has (P := Tryz.prog) 234 75 232 (.int .i64) (.int .i64 3) (.slice (some ⟨g3, 0, none⟩) 1 1) 3 Tryz.underlying234 Tryz.underlying75 rfl H2.out (by kernel_rfl)
   go_wp2_with fail
   go_ret
   exact ⟨rfl, (H2.out.pn : Own w w2 [old w]).old_below⟩
  have b1 : ((3 : Int) == t) = false := by simpa using h1
  by_cases h2 : t = 6
  ·rw [show follows 3 t = true by subst h2; decide]
   have b2 : (t == 6) = true := by simpa using h2
   clear h1 h2
   go_enter Tryz.func146, Tryz.ntmps146
   go_wp2_with fail
   refine (hn).mono ?_
   rintro e w2 ⟨b, g0, g1, g2, g3, g4, g5, g6, rfl, H2⟩
   replace H2 := Lib.hid H2
   clear hn
   have hl := run_lookup_has (P := Tryz.prog) 234 75 232 (.int .i64) (.int .i64 3) (.slice (some ⟨g3, 0, none⟩) 1 1) 3 Tryz.underlying234 Tryz.underlying75 rfl H2.out (by kernel_rfl)
   go_wp2_with fail
   go_ret
   exact ⟨rfl, (H2.out.pn : Own w w2 [old w]).old_below⟩
  have b2 : (t == 6) = false := by simpa using h2
  rw [show follows 3 t = (decide (t = 4)) by unfold follows; rw [b1, b2, show stOk 3 = true by decide, show arrows 3 = [4] by rfl]; simp]
  clear h1 h2
  go_enter Tryz.func146, Tryz.ntmps146
  go_wp2_with fail
  refine (hn).mono ?_
  rintro e w2 ⟨b, g0, g1, g2, g3, g4, g5, g6, rfl, H2⟩
  replace H2 := Lib.hid H2
  clear hn
  have hl := run_lookup_has (P := Tryz.prog) 234 75 232 (.int .i64) (.int .i64 3) (.slice (some ⟨g3, 0, none⟩) 1 1) 3 Tryz.underlying234 Tryz.underlying75 rfl H2.out (by kernel_rfl)
  have hc := (H2.out.pn : Own w w2 (pts g3 (.cells #[.int .i64 4] 75 (0, 0)) :: _)).cells.1
  have hc0 := hc 0
  clear hc
  go_wp2_with fail
  refine (contains1_c _ g3 1 4 t hc0 ).mono ?_
  rintro e w' ⟨rfl, rfl⟩
  go_wp2_with fail
  go_ret
  exact ⟨rfl, (H2.out.pn : Own w w2 [old w]).old_below⟩
 ·by_cases h1 : (4 : Int) = t
  ·rw [show follows 4 t = true by subst h1; decide]
   have b1 : ((4 : Int) == t) = true := by simpa using h1
   clear h1
   go_enter Tryz.func146, Tryz.ntmps146
   go_wp2_with fail
   refine (hn).mono ?_
   rintro e w2 ⟨b, g0, g1, g2, g3, g4, g5, g6, rfl, H2⟩
   replace H2 := Lib.hid H2
   clear hn
   have hl := run_lookup_has (P := Tryz.prog) 234 75 232 (.int .i64) (.int .i64 4) (.slice (some ⟨g4, 0, none⟩) 1 1) 4 Tryz.underlying234 Tryz.underlying75 rfl H2.out (by kernel_rfl)
   go_wp2_with fail
   go_ret
   exact ⟨rfl, (H2.out.pn : Own w w2 [old w]).old_below⟩
  have b1 : ((4 : Int) == t) = false := by simpa using h1
  by_cases h2 : t = 6
  ·rw [show follows 4 t = true by subst h2; decide]
   have b2 : (t == 6) = true := by simpa using h2
   clear h1 h2
   go_enter Tryz.func146, Tryz.ntmps146
   go_wp2_with fail
   refine (hn).mono ?_
   rintro e w2 ⟨b, g0, g1, g2, g3, g4, g5, g6, rfl, H2⟩
   replace H2 := Lib.hid H2
   clear hn
   have hl := run_lookup_has (P := Tryz.prog) 234 75 232 (.int .i64) (.int .i64 4) (.slice (some ⟨g4, 0, none⟩) 1 1) 4 Tryz.underlying234 Tryz.underlying75 rfl H2.out (by kernel_rfl)
   go_wp2_with fail
   go_ret
   exact ⟨rfl, (H2.out.pn : Own w w2 [old w]).old_below⟩
  have b2 : (t == 6) = false := by simpa using h2
  rw [show follows 4 t = (decide (t = 5)) by unfold follows; rw [b1, b2, show stOk 4 = true by decide, show arrows 4 = [5] by rfl]; simp]
  clear h1 h2
  go_enter Tryz.func146, Tryz.ntmps146
  go_wp2_with fail
  refine (hn).mono ?_
  rintro e w2 ⟨b, g0, g1, g2, g3, g4, g5, g6, rfl, H2⟩
  replace H2 := Lib.hid H2
  clear hn
  have hl := run_lookup_has (P := Tryz.prog) 234 75 232 (.int .i64) (.int .i64 4) (.slice (some ⟨g4, 0, none⟩) 1 1) 4 Tryz.underlying234 Tryz.underlying75 rfl H2.out (by kernel_rfl)
  have hc := (H2.out.pn : Own w w2 (pts g4 (.cells #[.int .i64 5] 75 (0, 0)) :: _)).cells.1
  have hc0 := hc 0
  clear hc
  go_wp2_with fail
  refine (contains1_c _ g4 1 5 t hc0 ).mono ?_
  rintro e w' ⟨rfl, rfl⟩
  go_wp2_with fail
  go_ret
  exact ⟨rfl, (H2.out.pn : Own w w2 [old w]).old_below⟩
 ·by_cases h1 : (5 : Int) = t
  ·rw [show follows 5 t = true by subst h1; decide]
   have b1 : ((5 : Int) == t) = true := by simpa using h1
   clear h1
   go_enter Tryz.func146, Tryz.ntmps146
   go_wp2_with fail
   refine (hn).mono ?_
   rintro e w2 ⟨b, g0, g1, g2, g3, g4, g5, g6, rfl, H2⟩
   replace H2 := Lib.hid H2
   clear hn
   have hl := run_lookup_has (P := Tryz.prog) 234 75 232 (.int .i64) (.int .i64 5) (.slice (some ⟨g5, 0, none⟩) 1 1) 5 Tryz.underlying234 Tryz.underlying75 rfl H2.out (by kernel_rfl)
   go_wp2_with fail
   go_ret
   exact ⟨rfl, (H2.out.pn : Own w w2 [old w]).old_below⟩
  have b1 : ((5 : Int) == t) = false := by simpa using h1
  by_cases h2 : t = 6
  ·rw [show follows 5 t = true by subst h2; decide]
   have b2 : (t == 6) = true := by simpa using h2
   clear h1 h2
   go_enter Tryz.func146, Tryz.ntmps146
   go_wp2_with fail
   refine (hn).mono ?_
   rintro e w2 ⟨b, g0, g1, g2, g3, g4, g5, g6, rfl, H2⟩
   replace H2 := Lib.hid H2
   clear hn
   have hl := run_lookup_has (P := Tryz.prog) 234 75 232 (.int .i64) (.int .i64 5) (.slice (some ⟨g5, 0, none⟩) 1 1) 5 Tryz.underlying234 Tryz.underlying75 rfl H2.out (by kernel_rfl)
   go_wp2_with fail
   go_ret
   exact ⟨rfl, (H2.out.pn : Own w w2 [old w]).old_below⟩
  have b2 : (t == 6) = false := by simpa using h2
  rw [show follows 5 t = (decide (t = 2)) by unfold follows; rw [b1, b2, show stOk 5 = true by decide, show arrows 5 = [2] by rfl]; simp]
  clear h1 h2
  go_enter Tryz.func146, Tryz.ntmps146
  go_wp2_with fail
  refine (hn).mono ?_
  rintro e w2 ⟨b, g0, g1, g2, g3, g4, g5, g6, rfl, H2⟩
  replace H2 := Lib.hid H2
  clear hn
  have hl := run_lookup_has (P := Tryz.prog) 234 75 232 (.int .i64) (.int .i64 5) (.slice (some ⟨g5, 0, none⟩) 1 1) 5 Tryz.underlying234 Tryz.underlying75 rfl H2.out (by kernel_rfl)
  have hc := (H2.out.pn : Own w w2 (pts g5 (.cells #[.int .i64 2] 75 (0, 0)) :: _)).cells.1
  have hc0 := hc 0
  clear hc
  go_wp2_with fail
  refine (contains1_c _ g5 1 2 t hc0 ).mono ?_
  rintro e w' ⟨rfl, rfl⟩
  go_wp2_with fail
  go_ret
  exact ⟨rfl, (H2.out.pn : Own w w2 [old w]).old_below⟩
 ·by_cases h1 : (6 : Int) = t
  ·rw [show follows 6 t = true by subst h1; decide]
   have b1 : ((6 : Int) == t) = true := by simpa using h1
   clear h1
   go_enter Tryz.func146, Tryz.ntmps146
   go_wp2_with fail
   refine (hn).mono ?_
   rintro e w2 ⟨b, g0, g1, g2, g3, g4, g5, g6, rfl, H2⟩
   replace H2 := Lib.hid H2
   clear hn
   have hl := run_lookup_has (P := Tryz.prog) 234 75 232 (.int .i64) (.int .i64 6) (.slice (some ⟨g6, 0, none⟩) 2 2) 6 Tryz.underlying234 Tryz.underlying75 rfl H2.out (by kernel_rfl)
   go_wp2_with fail
   go_ret
   exact ⟨rfl, (H2.out.pn : Own w w2 [old w]).old_below⟩
  have b1 : ((6 : Int) == t) = false := by simpa using h1
  by_cases h2 : t = 6
  ·rw [show follows 6 t = true by subst h2; decide]
   have b2 : (t == 6) = true := by simpa using h2
   clear h1 h2
   go_enter Tryz.func146, Tryz.ntmps146
   go_wp2_with fail
   refine (hn).mono ?_
   rintro e w2 ⟨b, g0, g1, g2, g3, g4, g5, g6, rfl, H2⟩
   replace H2 := Lib.hid H2
   clear hn
   have hl := run_lookup_has (P := Tryz.prog) 234 75 232 (.int .i64) (.int .i64 6) (.slice (some ⟨g6, 0, none⟩) 2 2) 6 Tryz.underlying234 Tryz.underlying75 rfl H2.out (by kernel_rfl)
   go_wp2_with fail
   go_ret
   exact ⟨rfl, (H2.out.pn : Own w w2 [old w]).old_below⟩
  have b2 : (t == 6) = false := by simpa using h2
  rw [show follows 6 t = (decide (t = 3) || decide (t = 0)) by unfold follows; rw [b1, b2, show stOk 6 = true by decide, show arrows 6 = [3, 0] by rfl]; simp]
  clear h1 h2
  go_enter Tryz.func146, Tryz.ntmps146
  go_wp2_with fail
  refine (hn).mono ?_
  rintro e w2 ⟨b, g0, g1, g2, g3, g4, g5, g6, rfl, H2⟩
  replace H2 := Lib.hid H2
  clear hn
  have hl := run_lookup_has (P := Tryz.prog) 234 75 232 (.int .i64) (.int .i64 6) (.slice (some ⟨g6, 0, none⟩) 2 2) 6 Tryz.underlying234 Tryz.underlying75 rfl H2.out (by kernel_rfl)
  have hc := (H2.out.pn : Own w w2 (pts g6 (.cells #[.int .i64 3, .int .i64 0] 75 (0, 0)) :: _)).cells.1
  have hc0 := hc 0
  have hc1 := hc 1
  clear hc
  go_wp2_with fail
  refine (contains2_c _ g6 2 3 0 t hc0 hc1).mono ?_
  rintro e w' ⟨rfl, rfl⟩
  go_wp2_with fail
  go_ret
  exact ⟨rfl, (H2.out.pn : Own w w2 [old w]).old_below⟩
 ·have hk : follows s t = false := by unfold follows stOk; rw [decide_eq_false hs]; rfl
  rw [hk]
  clear hk
  go_enter Tryz.func146, Tryz.ntmps146
  go_wp2_with fail
  refine (hn).mono ?_
  rintro e w2 ⟨b, g0, g1, g2, g3, g4, g5, g6, rfl, H2⟩
  replace H2 := Lib.hid H2
  clear hn
  have hf : ∀ (v0 v1 v2 v3 v4 v5 v6 : Value), Instr.findNow (.int .i64) (.int .i64 s) (entsAt 0 [(.int .i64 0, v0), (.int .i64 1, v1), (.int .i64 2, v2), (.int .i64 3, v3), (.int .i64 4, v4), (.int .i64 5, v5), (.int .i64 6, v6)]) 0 = some none := by
   intro v0 v1 v2 v3 v4 v5 v6
   have e : ∀ j : Int, 0 ≤ j → j ≤ 6 → (s == j) = false := fun j h0 h6 => by simp; omega
   simp only [entsAt, Instr.findNow, Instr.sameNow, if_true, e 0 (by omega) (by omega), e 1 (by omega) (by omega), e 2 (by omega) (by omega), e 3 (by omega) (by omega), e 4 (by omega) (by omega), e 5 (by omega) (by omega), e 6 (by omega) (by omega)]
  have hl := run_lookup_not (P := Tryz.prog) 234 75 232 (.int .i64) (.int .i64 s) (.slice none 0 0) Tryz.underlying234 Tryz.underlying75 rfl H2.out (hf _ _ _ _ _ _ _) (by kernel_rfl)
  clear hf
  go_wp2_with fail
  go_ret
  exact ⟨rfl, (H2.out.pn : Own w w2 [old w]).old_below⟩
end
end Go.Proofs.YtmkcpnlbicijoaaGreat
