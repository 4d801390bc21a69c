/- mode: the arrows, and what follows. -/
import Derived.Test.YtpfbbpiidhhkbaaGreatConf
import Derived.Test.YtpfbbpiidhhkbaaGreatBound
import Derived.Test.YtpfbbpiidhhkbaaGreatGain
import Derived.Test.YtpfbbpiidhhkbaaGreatRingC
namespace Go.Proofs.YtpfbbpiidhhkbaaGreat
open Go.RowKit
def arrows (s : Int) : List Int := if s = 0 then [1] else if s = 1 then [2] else if s = 2 then [3, 4] else if s = 3 then [4] else if s = 4 then [5] else if s = 5 then [2] else if s = 6 then [3, 0] else []
def stOk (s : Int) : Bool := decide (0 ≤ s ∧ s ≤ 6)
def follows (s t : Int) : Bool := stOk s && (s == t || t == 6 || (arrows s).contains t)
theorem st_cases (s : Int) : (s = 0 ∨ s = 1 ∨ s = 2 ∨ s = 3 ∨ s = 4 ∨ s = 5 ∨ s = 6) ∨ ¬ (0 ≤ s ∧ s ≤ 6) := by omega
section
variable (w : World)
theorem index1_c (g c : Nat) (a t : Int) (hc : w.cell? ⟨g, 0, none⟩ = some (.int .i64 a)) :
    Calls Tryz.prog 136 #[.slice (some ⟨g, 0, none⟩) 1 c, .int .i64 t] w fun e w' => e = .returned (.int .i64 (if t = a then 0 else -1)) ∧ w = w' := by
  by_cases h : t = a
  · rw [if_pos h]
    subst h
    go_enter Tryz.func136, Tryz.ntmps136
    go_wp2
    refine wp_loop_rounds 1 ?_
    rw [rounds_succ]
    go_wp2
    go_ret
    exact ⟨rfl, rfl⟩
  · rw [if_neg h]
    have h1 := (show (t == a) = false by simpa using h)
    clear h
    go_enter Tryz.func136, Tryz.ntmps136
    go_wp2
    refine wp_loop_rounds 2 ?_
    rw [rounds_succ]
    go_wp2
    rw [rounds_succ]
    go_wp2
    go_ret
    exact ⟨rfl, rfl⟩
theorem index2_c (g c : Nat) (a b t : Int) (hc : w.cell? ⟨g, 0, none⟩ = some (.int .i64 a)) (hd : w.cell? ⟨g, 1, none⟩ = some (.int .i64 b)) :
    Calls Tryz.prog 136 #[.slice (some ⟨g, 0, none⟩) 2 c, .int .i64 t] w fun e w' => e = .returned (.int .i64 (if t = a then 0 else if t = b then 1 else -1)) ∧ w = w' := by
  by_cases h : t = a
  · rw [if_pos h]
    subst h
    go_enter Tryz.func136, Tryz.ntmps136
    go_wp2
    refine wp_loop_rounds 1 ?_
    rw [rounds_succ]
    go_wp2
    go_ret
    exact ⟨rfl, rfl⟩
  · rw [if_neg h]
    have h1 := (show (t == a) = false by simpa using h)
    clear h
    by_cases h : t = b
    · rw [if_pos h]
      subst h
      go_enter Tryz.func136, Tryz.ntmps136
      go_wp2
      refine wp_loop_rounds 2 ?_
      rw [rounds_succ]
      go_wp2
      rw [rounds_succ]
      go_wp2
      go_ret
      exact ⟨rfl, rfl⟩
    · rw [if_neg h]
      have h2 := (show (t == b) = false by simpa using h)
      clear h
      go_enter Tryz.func136, Tryz.ntmps136
      go_wp2
      refine wp_loop_rounds 3 ?_
      rw [rounds_succ]
      go_wp2
      rw [rounds_succ]
      go_wp2
      rw [rounds_succ]
      go_wp2
      go_ret
      exact ⟨rfl, rfl⟩
theorem contains1_c (g c : Nat) (a t : Int) (hc : w.cell? ⟨g, 0, none⟩ = some (.int .i64 a)) :
    Calls Tryz.prog 134 #[.slice (some ⟨g, 0, none⟩) 1 c, .int .i64 t] w fun e w' => e = .returned (.bool ([a].contains t)) ∧ w = w' := by
  have hi := index1_c w g c a t hc
  by_cases h : t = a
  · rw [if_pos h] at hi
    rw [show [a].contains t = true by simp [h]]
    clear h
    go_enter Tryz.func134, Tryz.ntmps134
    go_wp2_with fail
    refine (hi).mono ?_
    rintro e w' ⟨rfl, rfl⟩
    go_wp2_with fail
    go_ret
    exact ⟨rfl, rfl⟩
  · rw [if_neg h] at hi
    rw [show [a].contains t = false by simp [h]]
    clear h
    go_enter Tryz.func134, Tryz.ntmps134
    go_wp2_with fail
    refine (hi).mono ?_
    rintro e w' ⟨rfl, rfl⟩
    go_wp2_with fail
    go_ret
    exact ⟨rfl, rfl⟩
theorem contains2_c (g c : Nat) (a b t : Int) (hc : w.cell? ⟨g, 0, none⟩ = some (.int .i64 a)) (hd : w.cell? ⟨g, 1, none⟩ = some (.int .i64 b)) :
    Calls Tryz.prog 134 #[.slice (some ⟨g, 0, none⟩) 2 c, .int .i64 t] w fun e w' => e = .returned (.bool ([a, b].contains t)) ∧ w = w' := by
  have hi := index2_c w g c a b t hc hd
  by_cases h : t = a
  · rw [if_pos h] at hi
    rw [show [a, b].contains t = true by simp [h]]
    clear h
    go_enter Tryz.func134, Tryz.ntmps134
    go_wp2_with fail
    refine (hi).mono ?_
    rintro e w' ⟨rfl, rfl⟩
    go_wp2_with fail
    go_ret
    exact ⟨rfl, rfl⟩
  · rw [if_neg h] at hi
    by_cases h2 : t = b
    · rw [if_pos h2] at hi
      rw [show [a, b].contains t = true by simp [h2]]
      clear h h2
      go_enter Tryz.func134, Tryz.ntmps134
      go_wp2_with fail
      refine (hi).mono ?_
      rintro e w' ⟨rfl, rfl⟩
      go_wp2_with fail
      go_ret
      exact ⟨rfl, rfl⟩
    · rw [if_neg h2] at hi
      rw [show [a, b].contains t = false by simp [h, h2]]
      clear h h2
      go_enter Tryz.func134, Tryz.ntmps134
      go_wp2_with fail
      refine (hi).mono ?_
      rintro e w' ⟨rfl, rfl⟩
      go_wp2_with fail
      go_ret
      exact ⟨rfl, rfl⟩
set_option maxHeartbeats 1600000 in
theorem modeArrows_c (ε : World) (L : List Asn) (H : Own ε w L) : Calls Tryz.prog 133 #[] w fun e w' => ∃ b g0 g1 g2 g3 g4 g5 g6, e = .returned (.map (some b)) ∧ Own ε w' (pts b (mpObj [(.int .i64 0, .slice (some ⟨g0, 0, none⟩) 1 1), (.int .i64 1, .slice (some ⟨g1, 0, none⟩) 1 1), (.int .i64 2, .slice (some ⟨g2, 0, none⟩) 2 2), (.int .i64 3, .slice (some ⟨g3, 0, none⟩) 1 1), (.int .i64 4, .slice (some ⟨g4, 0, none⟩) 1 1), (.int .i64 5, .slice (some ⟨g5, 0, none⟩) 1 1), (.int .i64 6, .slice (some ⟨g6, 0, none⟩) 2 2)]) :: pts g6 (.cells #[.int .i64 3, .int .i64 0] 45 (0, 0)) :: pts g5 (.cells #[.int .i64 2] 45 (0, 0)) :: pts g4 (.cells #[.int .i64 5] 45 (0, 0)) :: pts g3 (.cells #[.int .i64 4] 45 (0, 0)) :: pts g2 (.cells #[.int .i64 3, .int .i64 4] 45 (0, 0)) :: pts g1 (.cells #[.int .i64 2] 45 (0, 0)) :: pts g0 (.cells #[.int .i64 1] 45 (0, 0)) :: L) := by
  have HH := Lib.hid H
  clear H
  have hmm := @run_makeMap_plain Tryz.prog
  go_enter Tryz.func133, Tryz.ntmps133
  go_wp2_with (with_reducible first | refine stop_bs ?_ | refine stop_bx ?_ | refine stop_al ?_ | refine stop_ms ?_ | refine stop_app ?_ | refine stop_copy ?_)
  have H1 := Lib.hid (show Own ε (w.alloc (.map #[] 0)) (pts w.heap.size (mpObj []) :: L) from HH.out.alloc _)
  clear HH
  generalize w.alloc (.map #[] 0) = w1 at *
  generalize w.heap.size = b at *
  clear hmm
  refine Stop.go ?_
  go_step
  go_simp
  have H2 := Lib.hid (H1.out.alloc (.cells #[.int .i64 1] 45))
  generalize w1.alloc (.cells #[.int .i64 1] 45) = w2 at *
  generalize w1.heap.size = g0 at *
  clear H1
  go_wp2_with (with_reducible refine stop_in ?_)
  refine Stop.go ?_
  refine wpList_insert_new (l := []) 45 168 (.int .i64) (.int .i64 0) (.slice (some ⟨g0, 0, none⟩) 1 1) Tryz.underlying170 Tryz.underlying45 rfl rfl rfl rfl H2.out.r2 (by kernel_rfl) ?_
  intro w3 H3
  replace H3 := Lib.hid H3
  clear H2
  go_wp2_with (with_reducible first | refine stop_bs ?_ | refine stop_bx ?_ | refine stop_al ?_ | refine stop_ms ?_ | refine stop_app ?_ | refine stop_copy ?_)
  refine Stop.go ?_
  go_step
  go_simp
  have H4 := Lib.hid (H3.out.alloc (.cells #[.int .i64 2] 45))
  generalize w3.alloc (.cells #[.int .i64 2] 45) = w4 at *
  generalize w3.heap.size = g1 at *
  clear H3
  go_wp2_with (with_reducible refine stop_in ?_)
  refine Stop.go ?_
  refine wpList_insert_new (l := [(.int .i64 0, .slice (some ⟨g0, 0, none⟩) 1 1)]) 45 168 (.int .i64) (.int .i64 1) (.slice (some ⟨g1, 0, none⟩) 1 1) Tryz.underlying170 Tryz.underlying45 rfl rfl rfl rfl H4.out.r2 (by kernel_rfl) ?_
  intro w5 H5
  replace H5 := Lib.hid H5
  clear H4
  go_wp2_with (with_reducible first | refine stop_bs ?_ | refine stop_bx ?_ | refine stop_al ?_ | refine stop_ms ?_ | refine stop_app ?_ | refine stop_copy ?_)
  refine Stop.go ?_
  go_step
  go_simp
  have H6 := Lib.hid (H5.out.alloc (.cells #[.int .i64 3, .int .i64 4] 45))
  generalize w5.alloc (.cells #[.int .i64 3, .int .i64 4] 45) = w6 at *
  generalize w5.heap.size = g2 at *
  clear H5
  go_wp2_with (with_reducible refine stop_in ?_)
  refine Stop.go ?_
  refine wpList_insert_new (l := [(.int .i64 0, .slice (some ⟨g0, 0, none⟩) 1 1), (.int .i64 1, .slice (some ⟨g1, 0, none⟩) 1 1)]) 45 168 (.int .i64) (.int .i64 2) (.slice (some ⟨g2, 0, none⟩) 2 2) Tryz.underlying170 Tryz.underlying45 rfl rfl rfl rfl H6.out.r2 (by kernel_rfl) ?_
  intro w7 H7
  replace H7 := Lib.hid H7
  clear H6
  go_wp2_with (with_reducible first | refine stop_bs ?_ | refine stop_bx ?_ | refine stop_al ?_ | refine stop_ms ?_ | refine stop_app ?_ | refine stop_copy ?_)
  refine Stop.go ?_
  go_step
  go_simp
  have H8 := Lib.hid (H7.out.alloc (.cells #[.int .i64 4] 45))
  generalize w7.alloc (.cells #[.int .i64 4] 45) = w8 at *
  generalize w7.heap.size = g3 at *
  clear H7
  go_wp2_with (with_reducible refine stop_in ?_)
  refine Stop.go ?_
  refine wpList_insert_new (l := [(.int .i64 0, .slice (some ⟨g0, 0, none⟩) 1 1), (.int .i64 1, .slice (some ⟨g1, 0, none⟩) 1 1), (.int .i64 2, .slice (some ⟨g2, 0, none⟩) 2 2)]) 45 168 (.int .i64) (.int .i64 3) (.slice (some ⟨g3, 0, none⟩) 1 1) Tryz.underlying170 Tryz.underlying45 rfl rfl rfl rfl H8.out.r2 (by kernel_rfl) ?_
  intro w9 H9
  replace H9 := Lib.hid H9
  clear H8
  go_wp2_with (with_reducible first | refine stop_bs ?_ | refine stop_bx ?_ | refine stop_al ?_ | refine stop_ms ?_ | refine stop_app ?_ | refine stop_copy ?_)
  refine Stop.go ?_
  go_step
  go_simp
  have H10 := Lib.hid (H9.out.alloc (.cells #[.int .i64 5] 45))
  generalize w9.alloc (.cells #[.int .i64 5] 45) = w10 at *
  generalize w9.heap.size = g4 at *
  clear H9
  go_wp2_with (with_reducible refine stop_in ?_)
  refine Stop.go ?_
  refine wpList_insert_new (l := [(.int .i64 0, .slice (some ⟨g0, 0, none⟩) 1 1), (.int .i64 1, .slice (some ⟨g1, 0, none⟩) 1 1), (.int .i64 2, .slice (some ⟨g2, 0, none⟩) 2 2), (.int .i64 3, .slice (some ⟨g3, 0, none⟩) 1 1)]) 45 168 (.int .i64) (.int .i64 4) (.slice (some ⟨g4, 0, none⟩) 1 1) Tryz.underlying170 Tryz.underlying45 rfl rfl rfl rfl H10.out.r2 (by kernel_rfl) ?_
  intro w11 H11
  replace H11 := Lib.hid H11
  clear H10
  go_wp2_with (with_reducible first | refine stop_bs ?_ | refine stop_bx ?_ | refine stop_al ?_ | refine stop_ms ?_ | refine stop_app ?_ | refine stop_copy ?_)
  refine Stop.go ?_
  go_step
  go_simp
  have H12 := Lib.hid (H11.out.alloc (.cells #[.int .i64 2] 45))
  generalize w11.alloc (.cells #[.int .i64 2] 45) = w12 at *
  generalize w11.heap.size = g5 at *
  clear H11
  go_wp2_with (with_reducible refine stop_in ?_)
  refine Stop.go ?_
  refine wpList_insert_new (l := [(.int .i64 0, .slice (some ⟨g0, 0, none⟩) 1 1), (.int .i64 1, .slice (some ⟨g1, 0, none⟩) 1 1), (.int .i64 2, .slice (some ⟨g2, 0, none⟩) 2 2), (.int .i64 3, .slice (some ⟨g3, 0, none⟩) 1 1), (.int .i64 4, .slice (some ⟨g4, 0, none⟩) 1 1)]) 45 168 (.int .i64) (.int .i64 5) (.slice (some ⟨g5, 0, none⟩) 1 1) Tryz.underlying170 Tryz.underlying45 rfl rfl rfl rfl H12.out.r2 (by kernel_rfl) ?_
  intro w13 H13
  replace H13 := Lib.hid H13
  clear H12
  go_wp2_with (with_reducible first | refine stop_bs ?_ | refine stop_bx ?_ | refine stop_al ?_ | refine stop_ms ?_ | refine stop_app ?_ | refine stop_copy ?_)
  refine Stop.go ?_
  go_step
  go_simp
  have H14 := Lib.hid (H13.out.alloc (.cells #[.int .i64 3, .int .i64 0] 45))
  generalize w13.alloc (.cells #[.int .i64 3, .int .i64 0] 45) = w14 at *
  generalize w13.heap.size = g6 at *
  clear H13
  go_wp2_with (with_reducible refine stop_in ?_)
  refine Stop.go ?_
  refine wpList_insert_new (l := [(.int .i64 0, .slice (some ⟨g0, 0, none⟩) 1 1), (.int .i64 1, .slice (some ⟨g1, 0, none⟩) 1 1), (.int .i64 2, .slice (some ⟨g2, 0, none⟩) 2 2), (.int .i64 3, .slice (some ⟨g3, 0, none⟩) 1 1), (.int .i64 4, .slice (some ⟨g4, 0, none⟩) 1 1), (.int .i64 5, .slice (some ⟨g5, 0, none⟩) 1 1)]) 45 168 (.int .i64) (.int .i64 6) (.slice (some ⟨g6, 0, none⟩) 2 2) Tryz.underlying170 Tryz.underlying45 rfl rfl rfl rfl H14.out.r2 (by kernel_rfl) ?_
  intro w15 H15
  replace H15 := Lib.hid H15
  clear H14
  go_wp2_with fail
  go_ret
  exact ⟨b, g0, g1, g2, g3, g4, g5, g6, rfl, H15.out⟩
end
end Go.Proofs.YtpfbbpiidhhkbaaGreat
