/- Layer 4's acts, and its live question. -/
import Derived.Test.YtfcappjodichlaaRow04
namespace Go.Proofs.Ytfcappjodichlaa
open Go.RowKit
def act04 (l : List Int) (k x : Int) : List Int := if k % 4 = 0 then l ++ [x] else if k % 4 = 1 then l.drop 1 else if k % 4 = 2 then l.dropLast else l
theorem act04_len (l : List Int) (k x : Int) : (act04 l k x).length ≤ l.length + 1 := by
  unfold act04; split
  · simp
  · split
    · simp; omega
    · split
      · simp; omega
      · omega
theorem act04_U {l : List Int} {k x : Int} (h : ∀ y ∈ l, U y) (hx : U x) : ∀ y ∈ act04 l k x, U y := by
  intro y hy
  unfold act04 at hy
  split at hy
  · simp at hy
    rcases hy with q | q
    · exact h y q
    · rw [q]; exact hx
  · split at hy
    · exact h y (List.mem_of_mem_drop hy)
    · split at hy
      · exact h y (List.dropLast_subset l hy)
      · exact h y hy
abbrev Act04 := Int × Int × Int × Unit
def rdAct04 : Rd Act04 := rdPair (rdInt .u8) (rdPair (rdInt .u64) (rdPair (rdInt .i64) rdUnit))
theorem rdAct04_open {w : World} {cs : List Value} {p : Act04} (h : rdAct04 w cs p) : cs = [.int .u8 p.1, .int .u64 p.2.1, .int .i64 p.2.2.1] ∧ 0 ≤ p.1 ∧ U p.2.1 ∧ (Lit.int .i64 p.2.2.1).wf = true := by
  obtain ⟨c1, c2, rfl, ⟨rfl, h1⟩, c3, c4, rfl, ⟨rfl, h2⟩, c5, c6, rfl, ⟨rfl, h3⟩, h4⟩ := h
  obtain rfl := h4
  refine ⟨rfl, ?_, U_of_wf h2, h3⟩
  simp [Lit.wf, IntKind.min, IntKind.max, IntKind.signed, IntKind.bits] at h1
  omega
section
variable (ε w : World) (R : List Asn) (b1 b2 : Nat)
set_option maxRecDepth 100000 in
set_option maxHeartbeats 3200000 in
theorem act04_c (l : List Int) (k x i : Int) (hk : 0 ≤ k) (hi : (Lit.int .i64 i).wf = true) (hl : l.length ≤ 1000000) (H : Own ε w (ringU b1 l :: rrow b2 l :: R)) :
    Calls Try.prog 38 #[.pointer (some ⟨b1, 0, none⟩), .pointer (some ⟨b2, 0, none⟩), .agg #[.int .u8 k, .int .u64 x, .int .i64 i]] w fun e w' => e = .returned (.bool true) ∧ Own ε w' (ringU b1 (act04 l k x) :: rrow b2 (act04 l k x) :: R) := by
  have h4 : k % 4 = 0 ∨ k % 4 = 1 ∨ k % 4 = 2 ∨ k % 4 = 3 := by omega
  have HH := Lib.hid H; clear H
  rcases h4 with h4 | h4 | h4 | h4
  · rw [show act04 l k x = l ++ [x] by rw [act04, if_pos h4]]
    go_enter Try.func38, Try.ntmps38
    go_wp2_with (first | with_reducible refine stop_bs ?_ | with_reducible refine stop_bx ?_ | with_reducible refine stop_al ?_ | with_reducible refine stop_ms ?_ | with_reducible refine stop_app ?_ | with_reducible refine stop_copy ?_)
    refine Stop.go ?_
    go_step
    go_simp
    have H2 := Lib.hid (HH.out.alloc (.cells #[.int .u8 k, .int .u64 x, .int .i64 i] 62))
    generalize w.alloc (.cells #[.int .u8 k, .int .u64 x, .int .i64 i] 62) = w2 at *
    generalize w.heap.size = sb at *
    have k0 := H2.out.cells.1
    go_wp2_with fail
    refine (ruPush_c ε w2 _ b1 l x hl H2.out.r2).mono ?_
    rintro e w3 ⟨rfl, H3⟩
    replace H3 := Lib.hid H3
    clear k0 H2
    have k0 := H3.out.r2.cells.1
    go_wp2_with fail
    refine (rrPush_c ε w3 _ b2 l x hl H3.out.r3).mono ?_
    rintro e w4 ⟨rfl, H4⟩
    replace H4 := Lib.hid H4
    clear k0
    go_wp2_with fail
    go_ret
    exact ⟨rfl, H4.out.r2.r3.tail⟩
  · rw [show act04 l k x = l.drop 1 by rw [act04, if_neg (by omega), if_pos h4]]
    obtain ⟨A, B, hA⟩ : ∃ A B, atL l 0 = (A, B) := ⟨_, _, rfl⟩
    go_enter Try.func38, Try.ntmps38
    go_wp2_with (first | with_reducible refine stop_bs ?_ | with_reducible refine stop_bx ?_ | with_reducible refine stop_al ?_ | with_reducible refine stop_ms ?_ | with_reducible refine stop_app ?_ | with_reducible refine stop_copy ?_)
    refine Stop.go ?_
    go_step
    go_simp
    have H2 := Lib.hid (HH.out.alloc (.cells #[.int .u8 k, .int .u64 x, .int .i64 i] 62))
    generalize w.alloc (.cells #[.int .u8 k, .int .u64 x, .int .i64 i] 62) = w2 at *
    generalize w.heap.size = sb at *
    have k0 := H2.out.cells.1
    have c1 := ruShift_c ε w2 _ b1 l H2.out.r2
    rw [hA] at c1
    go_wp2_with fail
    refine (c1).mono ?_
    rintro e w3 ⟨rfl, H3⟩
    replace H3 := Lib.hid H3
    clear k0 H2 c1
    have c1 := rrShift_c ε w3 _ b2 l hl H3.out.r3
    rw [hA] at c1
    clear hA
    go_wp2_with fail
    refine (c1).mono ?_
    rintro e w4 ⟨rfl, H4⟩
    replace H4 := Lib.hid H4
    clear c1
    go_wp2_with fail
    go_ret
    exact ⟨rfl, H4.out.r2.r3.tail⟩
  · rw [show act04 l k x = l.dropLast by rw [act04, if_neg (by omega), if_neg (by omega), if_pos h4]]
    obtain ⟨A, B, hA⟩ : ∃ A B, atL l (l.length - 1) = (A, B) := ⟨_, _, rfl⟩
    go_enter Try.func38, Try.ntmps38
    go_wp2_with (first | with_reducible refine stop_bs ?_ | with_reducible refine stop_bx ?_ | with_reducible refine stop_al ?_ | with_reducible refine stop_ms ?_ | with_reducible refine stop_app ?_ | with_reducible refine stop_copy ?_)
    refine Stop.go ?_
    go_step
    go_simp
    have H2 := Lib.hid (HH.out.alloc (.cells #[.int .u8 k, .int .u64 x, .int .i64 i] 62))
    generalize w.alloc (.cells #[.int .u8 k, .int .u64 x, .int .i64 i] 62) = w2 at *
    generalize w.heap.size = sb at *
    have k0 := H2.out.cells.1
    have c1 := ruPop_c ε w2 _ b1 l H2.out.r2
    rw [hA] at c1
    go_wp2_with fail
    refine (c1).mono ?_
    rintro e w3 ⟨rfl, H3⟩
    replace H3 := Lib.hid H3
    clear k0 H2 c1
    have c1 := rrPop_c ε w3 _ b2 l hl H3.out.r3
    rw [hA] at c1
    clear hA
    go_wp2_with fail
    refine (c1).mono ?_
    rintro e w4 ⟨rfl, H4⟩
    replace H4 := Lib.hid H4
    clear c1
    go_wp2_with fail
    go_ret
    exact ⟨rfl, H4.out.r2.r3.tail⟩
  · rw [show act04 l k x = l by rw [act04, if_neg (by omega), if_neg (by omega), if_neg (by omega)]]
    obtain ⟨A, B, hA⟩ : ∃ A B, atL l i = (A, B) := ⟨_, _, rfl⟩
    go_enter Try.func38, Try.ntmps38
    go_wp2_with (first | with_reducible refine stop_bs ?_ | with_reducible refine stop_bx ?_ | with_reducible refine stop_al ?_ | with_reducible refine stop_ms ?_ | with_reducible refine stop_app ?_ | with_reducible refine stop_copy ?_)
    refine Stop.go ?_
    go_step
    go_simp
    have H2 := Lib.hid (HH.out.alloc (.cells #[.int .u8 k, .int .u64 x, .int .i64 i] 62))
    generalize w.alloc (.cells #[.int .u8 k, .int .u64 x, .int .i64 i] 62) = w2 at *
    generalize w.heap.size = sb at *
    have k0 := H2.out.cells.1
    have c1 := ruAt_c ε w2 _ b1 l i hi H2.out.r2
    rw [hA] at c1
    go_wp2_with fail
    refine (c1).mono ?_
    rintro e w3 ⟨rfl, nd, hnd⟩
    have H3 := Lib.hid (H2.out.drewN nd)
    rw [← hnd] at H3
    clear hnd
    clear k0 H2 c1
    have k0 := H3.out.cells.1
    have c1 := rrAt_c ε w3 _ b2 l i H3.out.r3
    rw [hA] at c1
    clear hA
    go_wp2_with fail
    refine (c1).mono ?_
    rintro e w' ⟨rfl, rfl⟩
    clear c1 k0
    go_wp2_with fail
    go_ret
    exact ⟨rfl, H3.out.tail⟩
set_option maxRecDepth 100000 in
set_option maxHeartbeats 3200000 in
theorem alive04_c (H : Own ε w R) :
    Calls Try.prog 36 #[] w fun e w' => e = .returned (.bool true) ∧ Own ε w' R := by
  have HH := Lib.hid H; clear H
  have u (n : Int) (h0 : 0 ≤ n) (h1 : n ≤ 1000) : U n := ⟨h0, by omega⟩
  go_enter Try.func36, Try.ntmps36
  go_wp2_with (first | with_reducible refine stop_bs ?_ | with_reducible refine stop_bx ?_ | with_reducible refine stop_al ?_ | with_reducible refine stop_ms ?_ | with_reducible refine stop_app ?_ | with_reducible refine stop_copy ?_)
  refine Stop.go ?_
  go_step
  go_simp
  have H2 := Lib.hid (HH.out.alloc (.cells #[.int .u64 3, .int .u64 4] 31))
  generalize w.alloc (.cells #[.int .u64 3, .int .u64 4] 31) = w2 at *
  generalize w.heap.size = sb at *
  go_wp2_with fail
  refine (ruNew_c ε w2 _ [3, 4] _ 2 _ (fun wx Hx => rdInts_pts Hx rfl 2 rfl (by decide) (by intro x hx; simp at hx; rcases hx with rfl | rfl <;> exact u _ (by decide) (by decide))) (by decide) H2.out).mono ?_
  rintro e w3 ⟨b, rfl, H3⟩
  replace H3 := Lib.hid H3
  go_wp2_with fail
  refine (ruPush_c ε w3 _ b [3, 4] 5 (by decide) H3.out).mono ?_
  rintro e w4 ⟨rfl, H4⟩
  replace H4 := Lib.hid H4
  have c1 := ruShift_c ε w4 _ b [3, 4, 5] H4.out
  rw [show atL [3, 4, 5] 0 = (3, true) by decide] at c1
  go_wp2_with fail
  refine (c1).mono ?_
  rintro e w5 ⟨rfl, H5⟩
  replace H5 := Lib.hid H5
  clear c1
  have c1 := ruPop_c ε w5 _ b [4, 5] H5.out
  rw [show atL [4, 5] ((([4, 5] : List Int).length : Int) - 1) = (5, true) by decide] at c1
  go_wp2_with fail
  refine (c1).mono ?_
  rintro e w6 ⟨rfl, H6⟩
  replace H6 := Lib.hid H6
  clear c1
  have c1 := ruAt_c ε w6 _ b [4] 0 (by decide) H6.out
  rw [show atL [4] 0 = (4, true) by decide] at c1
  go_wp2_with fail
  refine (c1).mono ?_
  rintro e w7 ⟨rfl, nd, hnd⟩
  have H7 := Lib.hid (H6.out.drewN nd)
  rw [← hnd] at H7
  clear hnd
  clear c1
  have c1 := ruAt_c ε w7 _ b [4] 1 (by decide) H7.out
  rw [show atL [4] 1 = (0, false) by decide] at c1
  go_wp2_with fail
  refine (c1).mono ?_
  rintro e w8 ⟨rfl, nd, hnd⟩
  have H8 := Lib.hid (H7.out.drewN nd)
  rw [← hnd] at H8
  clear hnd
  clear c1
  go_wp2_with fail
  refine (ruLen_c ε w8 _ b [4] H8.out).mono ?_
  rintro e w' ⟨rfl, rfl⟩
  go_wp2_with fail
  go_ret
  exact ⟨rfl, H8.out.tail.tail⟩
theorem ruPush_nil (x : Int) : Calls Try.prog 52 #[.pointer none, .int .u64 x] w fun e w' => e = .returned (.tuple #[]) ∧ w = w' := by
  go_enter Try.func52, Try.ntmps52
  go_wp2_with fail
  first | go_end0 | ((try simp only [Exit.inBlock, Exit.then]); refine bodyPost_ret (results_none rfl _ _ _) rfl ?_)
  exact ⟨rfl, rfl⟩
theorem ruAt_nil0 : Calls Try.prog 55 #[.pointer none, .int .i64 0] w fun e w' => e = .returned (.tuple #[.int .u64 0, .bool false]) ∧ w = w' := by
  go_enter Try.func55, Try.ntmps55
  go_wp2_with fail
  refine (ruLen_nil _).mono ?_
  rintro e w' ⟨rfl, rfl⟩
  go_wp2_with fail
  go_ret2
  exact ⟨rfl, rfl⟩
theorem ruAt_nil1 : Calls Try.prog 55 #[.pointer none, .int .i64 (-1)] w fun e w' => e = .returned (.tuple #[.int .u64 0, .bool false]) ∧ w = w' := by
  go_enter Try.func55, Try.ntmps55
  go_wp2_with fail
  go_ret2
  exact ⟨rfl, rfl⟩
theorem ruShift_nil : Calls Try.prog 53 #[.pointer none] w fun e w' => e = .returned (.tuple #[.int .u64 0, .bool false]) ∧ w = w' := by
  go_enter Try.func53, Try.ntmps53
  go_wp2_with fail
  refine (ruAt_nil0 _).mono ?_
  rintro e w' ⟨rfl, rfl⟩
  go_wp2_with fail
  go_ret2
  exact ⟨rfl, rfl⟩
theorem ruPop_nil : Calls Try.prog 54 #[.pointer none] w fun e w' => e = .returned (.tuple #[.int .u64 0, .bool false]) ∧ w = w' := by
  go_enter Try.func54, Try.ntmps54
  go_wp2_with fail
  refine (ruLen_nil _).mono ?_
  rintro e w' ⟨rfl, rfl⟩
  go_wp2_with fail
  refine (ruAt_nil1 _).mono ?_
  rintro e w' ⟨rfl, rfl⟩
  go_wp2_with fail
  go_ret2
  exact ⟨rfl, rfl⟩
end
end Go.Proofs.Ytfcappjodichlaa
