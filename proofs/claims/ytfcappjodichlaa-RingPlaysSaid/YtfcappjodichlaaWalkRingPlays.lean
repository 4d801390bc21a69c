/- The walk of RingPlays: whatever items, and acts, come, the law returns true, and nothing that was there is written. -/
import Derived.Test.YtfcappjodichlaaAct04
namespace Go.Proofs.Ytfcappjodichlaa
open Go.RowKit
set_option maxRecDepth 100000 in
set_option maxHeartbeats 6400000 in
theorem ringPlays_c (w : World) (A1 : Option Addr) (len1 cap1 : Nat) (first : List Int) (hr1 : rdSlice (rdInt .u64) 1 w [.slice A1 len1 cap1] first)
    (A : Option Addr) (len cap : Nat) (xs : List Act04) (hr : rdSlice rdAct04 3 w [.slice A len cap] xs) :
    Calls Try.prog 7 #[.slice A1 len1 cap1, .slice A len cap] w fun e w' => e = .returned (.bool true) ∧ Own w w' [old w] := by
  obtain ⟨hl, hm, hx⟩ := rdSlice_cases hr
  clear hr
  obtain ⟨hl1, hm1, _⟩ := rdInts_cell hr1
  have hU1 := rdInts_U hr1
  by_cases hbig1 : 200 < len1
  · go_enter Try.func7, Try.ntmps7
    go_wp2_with fail
    refine (alive04_c w _ _ (Own.init w)).mono ?_
    rintro e w1 ⟨rfl, H1⟩
    replace H1 := Lib.hid H1
    go_wp2_with fail
    go_ret
    exact ⟨rfl, H1.out⟩
  by_cases hbig : 200 < len
  · go_enter Try.func7, Try.ntmps7
    go_wp2_with fail
    refine (alive04_c w _ _ (Own.init w)).mono ?_
    rintro e w1 ⟨rfl, H1⟩
    replace H1 := Lib.hid H1
    go_wp2_with fail
    go_ret
    exact ⟨rfl, H1.out⟩
  have hrx : ∀ wx, (∃ L, Own w wx (old w :: L)) → rdSlice (rdInt .u64) 1 wx [.slice A1 len1 cap1] first := fun wx ⟨_, Hx⟩ => mono_slice (mono_int .u64) 1 w wx _ first (fun _ _ h => Hx.old_cell h) hr1
  replace hrx := Lib.hid hrx
  replace hU1 := Lib.hid hU1
  clear hr1
  rcases hx with hz | ⟨ab, off, rfl, hx⟩
  all_goals
    go_enter Try.func7, Try.ntmps7
    go_wp2_with fail
    refine (ruNew_c w w _ first _ _ _ (fun wx Hx => hrx.out wx ⟨_, Hx⟩) (by omega) (Own.init w)).mono ?_
    rintro e w1 ⟨b1, rfl, H1⟩
    replace H1 := Lib.hid H1
    go_wp2_with (first | with_reducible refine stop_bs ?_ | with_reducible refine stop_bx ?_ | with_reducible refine stop_al ?_ | with_reducible refine stop_ms ?_ | with_reducible refine stop_app ?_ | with_reducible refine stop_copy ?_)
    refine Stop.go ?_
    go_step
    go_simp
    have H2 := Lib.hid (H1.out.alloc (.cells #[] 31))
    generalize w1.alloc (.cells #[] 31) = w2 at *
    generalize w1.heap.size = sb at *
    have HS := Lib.hid (H2.out.slc_all (sz := 1) (n := 0) (by decide) rfl)
    go_wp2_with (first | with_reducible refine stop_bs ?_ | with_reducible refine stop_bx ?_ | with_reducible refine stop_al ?_ | with_reducible refine stop_ms ?_ | with_reducible refine stop_app ?_ | with_reducible refine stop_copy ?_)
    refine Stop.go ?_
    refine wpList_append_slc rfl _ _ 28 rfl 31 1 8 Try.underlying28 (by kernel_rfl) (by decide) rfl (HS.out) rfl ((show ([] : List Value).length = 0 * 1 from rfl)) ((srcAt_rd (hrx.out w2 ⟨_, H2.out.r3⟩))) (nums_one _) (by simp only [maxLen]; omega) (by omega) ?_
    intro v3 w3 H3
    replace H3 := Lib.hid H3
    clear HS H2 H1
    obtain ⟨A3, n3, cap3, rfl, _⟩ := H3.out.slc_src
    go_wp2_with (first | with_reducible refine stop_bs ?_ | with_reducible refine stop_bx ?_ | with_reducible refine stop_al ?_ | with_reducible refine stop_ms ?_ | with_reducible refine stop_app ?_ | with_reducible refine stop_copy ?_)
    refine Stop.go ?_
    go_step
    go_simp
    have H4 := Lib.hid (H3.out.alloc (.cells #[.slice A3 n3 cap3] 59))
    generalize w3.alloc (.cells #[.slice A3 n3 cap3] 59) = w4 at *
    generalize w3.heap.size = b2 at *
    have H5 := Lib.hid ((Own.rrow_mk w w4 _ b2 (l := first) H4.out).r2)
    clear H3 H4
    go_wp2_with fail
    go_loopw [7] (fun i wr => ∃ (k : Nat) (l : List Int), k ≤ len ∧ i = .int .i64 k ∧ l.length ≤ 200 + k ∧ (∀ y ∈ l, U y) ∧ Own w wr (ringU b1 l :: rrow b2 l :: [old w])) (fun i _ => len - (intOf i).toNat)
    case atStart => exact ⟨0, first, Nat.zero_le _, rfl, by omega, hU1.out, H5.out⟩
    case round =>
      obtain ⟨k, l, hk, rfl, hll, hUl, HR⟩ := hrel
      replace HR := Lib.hid HR
      clear H5
      by_cases hlt : k < len
      · first
        | (exfalso; omega)
        | (obtain ⟨c, _, hcell, hR⟩ := hx k (by omega)
           obtain ⟨rfl, hK, hU, hI⟩ := rdAct04_open hR
           have hw0 : w.cell? ⟨ab, off + k * 3, none⟩ = some (.int .u8 xs[k].1) := hcell 0 _ rfl
           have hw1 : w.cell? ⟨ab, off + k * 3 + 1, none⟩ = some (.int .u64 xs[k].2.1) := hcell 1 _ rfl
           have hw2 : w.cell? ⟨ab, off + k * 3 + 2, none⟩ = some (.int .i64 xs[k].2.2.1) := hcell 2 _ rfl
           clear hcell hR hx
           generalize xs[k] = x at *
           obtain ⟨x, n, j, u⟩ := x
           simp only at hU hK hw0 hw1 hw2 hI
           have g0 := HR.out.r3.old_cell hw0
           have g1 := HR.out.r3.old_cell hw1
           have g2 := HR.out.r3.old_cell hw2
           clear hw0 hw1 hw2
           have hl2 := act04_len l x n
           have hU2 := act04_U (k := x) hUl hU
           replace hUl := Lib.hid hUl
           replace hU2 := Lib.hid hU2
           replace hI := Lib.hid hI
           replace hU := Lib.hid hU
           go_wp2_with fail
           refine (act04_c w wr _ b1 b2 l x n j hK hI.out (by omega) HR.out).mono ?_
           rintro e w3 ⟨rfl, H3⟩
           replace H3 := Lib.hid H3
           clear g0 g1 g2 HR
           generalize act04 l x n = l2 at *
           go_wp2_with fail
           refine (ruAll_c w w3 _ b1 l2 H3.out).mono ?_
           rintro e w4 ⟨v4, rfl, H4⟩
           replace H4 := Lib.hid H4
           obtain ⟨A4, n4, cap4, rfl, hr4⟩ := H4.out.nums_rd hU2.out
           obtain ⟨v5, H5⟩ := (H4.out.r3).rrow_open
           have k5 := H5.cells.1 0
           obtain ⟨A5, n5, cap5, rfl, hr5⟩ := H5.r2.nums_rd hU2.out
           have hn5 := (rdInts_cell hr5).1
           clear H5
           replace hr4 := Lib.hid hr4
           replace hr5 := Lib.hid hr5
           replace hl2 := Lib.hid hl2
           have hbeq : (((l2.length : Int)) == (n5 : Int)) = true := by simp [hn5]
           go_wp2_with fail
           go_quiet ((first
             | (go_at_call 40; exact Calls.quiet_of (rrSame_c _ _ _ _ _ _ _ l2 (mono_slice (mono_int _) 1 w4 _ _ _ (fun _ _ h => h) hr4.out) (mono_slice (mono_int _) 1 w4 _ _ _ (fun _ _ h => h) hr5.out)))
             | (go_at_call 41; exact quiet_c (ruLen_c w _ _ b1 l2 (H4.out.r2.drewN _)))))
           clear hr4 hr5 k5
           have H6 := Lib.hid (H4.out.drewN nq).tail
           go_wp2_with fail
           go_roundw
           case rel => exact ⟨k + 1, l2, by omega, by go_num, by have := hl2.out; omega, hU2.out, H6.out⟩
           case measure => simp [intOf]; omega)
      · have hkl : k = len := by omega
        replace hUl := Lib.hid hUl
        go_wp2_with fail
        refine (ruAll_c w wr _ b1 l HR.out).mono ?_
        rintro e w4 ⟨v4, rfl, H4⟩
        replace H4 := Lib.hid H4
        obtain ⟨A4, n4, cap4, rfl, hr4⟩ := H4.out.nums_rd hUl.out
        replace hr4 := Lib.hid hr4
        go_wp2_with fail
        refine (alive04_c w w4 _ H4.out).mono ?_
        rintro e w5 ⟨rfl, H5⟩
        replace H5 := Lib.hid H5
        clear hr4 H4
        obtain ⟨A6, n6, cap6, e6, hr4⟩ := H5.out.nums_rd hUl.out
        cases e6
        obtain ⟨v5, H6⟩ := (H5.out.r3).rrow_open
        have k5 := H6.cells.1 0
        obtain ⟨A5, n5, cap5, rfl, hr5⟩ := H6.r2.nums_rd hUl.out
        clear H6
        replace hr4 := Lib.hid hr4
        replace hr5 := Lib.hid hr5
        go_wp2_with fail
        refine (rrSame_c w5 _ _ _ _ _ _ l hr4.out hr5.out).mono ?_
        rintro e w6 ⟨rfl, nd, hnd⟩
        have H7 := Lib.hid (H5.out.drewN nd)
        rw [← hnd] at H7
        clear hnd k5 hr4 hr5
        go_wp2_with fail
        go_ret
        exact ⟨rfl, H7.out.tail.tail.tail⟩
end Go.Proofs.Ytfcappjodichlaa
