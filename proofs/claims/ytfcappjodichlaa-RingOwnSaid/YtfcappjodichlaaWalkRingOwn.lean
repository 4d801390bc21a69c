/- The walk of RingOwn: whatever items, and acts, come, the law returns true, and nothing that was there is written. -/
import Derived.Test.YtfcappjodichlaaAct04
namespace Go.Proofs.Ytfcappjodichlaa
open Go.RowKit
theorem own64_set {ε w : World} {R : List Asn} {g n cap : Nat} {l : List Int} (H : Own ε w (own64 (.slice (some ⟨g, 0, none⟩) n cap) l :: R)) (j : Nat) (x : Int) :
    Own ε (w.setCell ⟨g, j, none⟩ (.int .u64 x)) (own64 (.slice (some ⟨g, 0, none⟩) n cap) (l.set j x) :: R) := by
  have := H.slc_set j (.int .u64 x)
  rw [show (nums l).set j (.int .u64 x) = nums (l.set j x) by simp [nums, List.map_set]] at this
  exact this
set_option maxRecDepth 100000 in
set_option maxHeartbeats 6400000 in
theorem ringOwn_c (w : World) (A1 : Option Addr) (len1 cap1 : Nat) (first : List Int) (hr1 : rdSlice (rdInt .u64) 1 w [.slice A1 len1 cap1] first)
    (A : Option Addr) (len cap : Nat) (xs : List Act04) (hr : rdSlice rdAct04 3 w [.slice A len cap] xs) :
    Calls Try.prog 10 #[.slice A1 len1 cap1, .slice A len cap] w fun e w' => e = .returned (.bool true) ∧ Own w w' [old w] := by
  obtain ⟨hl, hm, hx⟩ := rdSlice_cases hr
  clear hr
  obtain ⟨hl1, hm1, _⟩ := rdInts_cell hr1
  have hU1 := rdInts_U hr1
  by_cases hbig1 : 200 < len1
  · go_enter Try.func10, Try.ntmps10
    go_wp2_with fail
    refine (alive04_c w _ _ (Own.init w)).mono ?_
    rintro e w1 ⟨rfl, H1⟩
    replace H1 := Lib.hid H1
    go_wp2_with fail
    go_ret
    exact ⟨rfl, H1.out⟩
  by_cases hbig : 200 < len
  · go_enter Try.func10, Try.ntmps10
    go_wp2_with fail
    refine (alive04_c w _ _ (Own.init w)).mono ?_
    rintro e w1 ⟨rfl, H1⟩
    replace H1 := Lib.hid H1
    go_wp2_with fail
    go_ret
    exact ⟨rfl, H1.out⟩
  have hrx : ∀ wx, (∃ L, Own w wx (old w :: L)) → rdSlice (rdInt .u64) 1 wx [.slice A1 len1 cap1] first := fun wx ⟨_, Hx⟩ => mono_slice (mono_int .u64) 1 w wx _ first (fun _ _ h => Hx.old_cell h) hr1
  replace hrx := Lib.hid hrx
  replace hU1 := Lib.hid hU1
  clear hr1
  have H0 := Lib.hid (Own.init w)
  rcases hx with hz | ⟨ab, off, rfl, hx⟩
  all_goals
    go_enter Try.func10, Try.ntmps10
    go_wp2_with (first | with_reducible refine stop_bs ?_ | with_reducible refine stop_bx ?_ | with_reducible refine stop_al ?_ | with_reducible refine stop_ms ?_ | with_reducible refine stop_app ?_ | with_reducible refine stop_copy ?_)
    refine Stop.go ?_
    go_step
    go_simp
    have H2 := Lib.hid (H0.out.alloc (.cells #[] 31))
    generalize w.alloc (.cells #[] 31) = w2 at *
    generalize w.heap.size = sb at *
    have HS := Lib.hid (H2.out.slc_all (sz := 1) (n := 0) (by decide) rfl)
    go_wp2_with (first | with_reducible refine stop_bs ?_ | with_reducible refine stop_bx ?_ | with_reducible refine stop_al ?_ | with_reducible refine stop_ms ?_ | with_reducible refine stop_app ?_ | with_reducible refine stop_copy ?_)
    refine Stop.go ?_
    refine wpList_append_slc rfl _ _ 28 rfl 31 1 8 Try.underlying28 (by kernel_rfl) (by decide) rfl (HS.out) rfl ((show ([] : List Value).length = 0 * 1 from rfl)) ((srcAt_rd (hrx.out w2 ⟨_, H2.out.r2⟩))) (nums_one _) (by simp only [maxLen]; omega) (by omega) ?_
    intro v3 w3 H3
    replace H3 := Lib.hid H3
    clear HS H2 H0
    have H4 : Hid (Own w w3 [own64 v3 first, old w]) := H3
    clear H3
    obtain ⟨A3, n3, cap3, rfl, hr3⟩ := H4.out.nums_rd hU1.out
    have hn3 := (rdInts_cell hr3).1
    clear hr3
    obtain rfl : n3 = len1 := by omega
    have c5 := ruNew_c w w3 _ first A3 n3 cap3 (fun wx Hx => by
      obtain ⟨_, _, _, e, h⟩ := Hx.nums_rd hU1.out
      cases e; exact h) (by omega) H4.out
    go_wp2_with fail
    refine (c5).mono ?_
    rintro e w5 ⟨b1, rfl, H5⟩
    replace H5 := Lib.hid H5
    clear H4 c5
    go_wp2_with fail
    refine (ruClone_c w w5 _ b1 first H5.out).mono ?_
    rintro e w6 ⟨bc, rfl, H6⟩
    replace H6 := Lib.hid H6
    clear H5
    go_wp2_with fail
    refine (ruAll_c w w6 _ b1 first H6.out.r2).mono ?_
    rintro e w7 ⟨v7, rfl, H7⟩
    replace H7 := Lib.hid H7
    clear H6
    obtain ⟨A7, n7, cap7, rfl, hr7⟩ := H7.out.nums_rd hU1.out
    have hn7 := (rdInts_cell hr7).1
    clear hr7
    obtain rfl : n7 = n3 := by omega
    have hbeq : ((n7 : Int) == (n7 : Int)) = true := by simp
    go_wp2_with fail
    go_loopw [9] (fun i wr => ∃ (k : Nat) (l1 l2 : List Int), k ≤ n7 ∧ i = .int .i64 k ∧ l1.length = n7 ∧ l2.length = n7 ∧
      Own w wr (own64 (.slice A7 n7 cap7) l2 :: ringU b1 first :: ringU bc first :: own64 (.slice A3 n7 cap3) l1 :: [old w])) (fun i _ => n7 - (intOf i).toNat)
    case atStart => exact ⟨0, first, first, Nat.zero_le _, rfl, by omega, by omega, H7.out⟩
    case round =>
      obtain ⟨k, l1, l2, hk, rfl, hll1, hll2, HR⟩ := hrel
      replace HR := Lib.hid HR
      clear H7
      by_cases hlt : k < n7
      · obtain ⟨_, _, _, e, _, _, _, hv⟩ := own64_val w wr _ HR.out
        cases e
        obtain ⟨g7, rfl, hv7, hf7⟩ := hv.resolve_left (by omega)
        obtain ⟨_, _, _, e, _, _, _, hv⟩ := own64_val w wr _ HR.out.r4
        cases e
        obtain ⟨g3, rfl, hv3, hf3⟩ := hv.resolve_left (by omega)
        have c3 := hv3 k (by omega)
        have f3 := hf3 k
        obtain ⟨x3, hx3⟩ : ∃ x, l1[k]'(by omega) = x := ⟨_, rfl⟩
        obtain ⟨x7, hx7⟩ : ∃ x, l2[k]'(by omega) = x := ⟨_, rfl⟩
        have c7 := hv7 k (by omega)
        rw [hx3] at c3
        rw [hx7] at c7
        clear hv hv3 hv7 hf3 hf7 hx3 c7
        go_wp2_with (with_reducible refine stop_st ?_)
        refine Stop.go ?_
        go_step
        go_simp
        have H8 := Lib.hid (own64_set HR.out.r4 k (IntKind.u64.wrap (x3 + 1)))
        generalize wr.setCell ⟨g3, k, none⟩ (.int .u64 (IntKind.u64.wrap (x3 + 1))) = w8 at *
        clear c3 f3
        obtain ⟨_, _, _, e, _, _, _, hv⟩ := own64_val w w8 _ H8.out.r2
        cases e
        obtain ⟨g7', e, hv7, hf7⟩ := hv.resolve_left (by omega)
        cases e
        have c7 := hv7 k (by omega)
        have f7 := hf7 k
        rw [hx7] at c7
        clear hv hv7 hf7 hx7
        go_wp2_with (with_reducible refine stop_st ?_)
        refine Stop.go ?_
        go_step
        go_simp
        have H9 := Lib.hid (own64_set H8.out.r2 k (IntKind.u64.wrap (x7 + 2)))
        generalize w8.setCell ⟨g7, k, none⟩ (.int .u64 (IntKind.u64.wrap (x7 + 2))) = w9 at *
        clear c7 f7
        go_wp2_with fail
        go_roundw
        case rel => exact ⟨k + 1, l1.set k _, l2.set k _, by omega, by go_num, by simpa using hll1, by simpa using hll2, H9.out.r2.l4⟩
        case measure => simp [intOf]; omega
      · have H8 := Lib.hid HR.out.tail.r3.tail
        clear HR
        go_wp2_with (first | with_reducible refine stop_bs ?_ | with_reducible refine stop_bx ?_ | with_reducible refine stop_al ?_ | with_reducible refine stop_ms ?_ | with_reducible refine stop_app ?_ | with_reducible refine stop_copy ?_)
        refine Stop.go ?_
        go_step
        go_simp
        have H9 := Lib.hid (H8.out.alloc (.cells #[] 31))
        generalize wr.alloc (.cells #[] 31) = w2 at *
        generalize wr.heap.size = sb2 at *
        have HS := Lib.hid (H9.out.slc_all (sz := 1) (n := 0) (by decide) rfl)
        go_wp2_with (first | with_reducible refine stop_bs ?_ | with_reducible refine stop_bx ?_ | with_reducible refine stop_al ?_ | with_reducible refine stop_ms ?_ | with_reducible refine stop_app ?_ | with_reducible refine stop_copy ?_)
        refine Stop.go ?_
        refine wpList_append_slc rfl _ _ 28 rfl 31 1 8 Try.underlying28 (by kernel_rfl) (by decide) rfl (HS.out) rfl ((show ([] : List Value).length = 0 * 1 from rfl)) ((srcAt_rd (hrx.out w2 ⟨_, H9.out.r4⟩))) (nums_one _) (by simp only [maxLen]; omega) (by omega) ?_
        intro v10 w10 H10
        replace H10 := Lib.hid H10
        clear HS H9 H8
        obtain ⟨A10, n10, cap10, rfl, _⟩ := H10.out.slc_src
        go_wp2_with (first | with_reducible refine stop_bs ?_ | with_reducible refine stop_bx ?_ | with_reducible refine stop_al ?_ | with_reducible refine stop_ms ?_ | with_reducible refine stop_app ?_ | with_reducible refine stop_copy ?_)
        refine Stop.go ?_
        go_step
        go_simp
        have H11 := Lib.hid (H10.out.alloc (.cells #[.slice A10 n10 cap10] 59))
        generalize w10.alloc (.cells #[.slice A10 n10 cap10] 59) = w11 at *
        generalize w10.heap.size = b2 at *
        have H12 := Lib.hid ((Own.rrow_mk w w11 _ b2 (l := first) H11.out).r2)
        clear H10 H11
        go_wp2_with fail
        go_loopw [11] (fun i wr => ∃ (k : Nat) (l : List Int), k ≤ len ∧ i = .int .i64 k ∧ l.length ≤ 200 + k ∧ Own w wr (ringU b1 l :: rrow b2 l :: ringU bc first :: [old w])) (fun i _ => len - (intOf i).toNat)
        case atStart => exact ⟨0, first, Nat.zero_le _, rfl, by omega, H12.out⟩
        case round =>
          obtain ⟨k, l, hk, rfl, hll, HR⟩ := hrel
          replace HR := Lib.hid HR
          clear H12
          by_cases hlt : k < len
          · first
            | (exfalso; omega)
            | (obtain ⟨c, _, hcell, hR⟩ := hx k (by omega)
               obtain ⟨rfl, hK, _, hI⟩ := rdAct04_open hR
               have hw0 : w.cell? ⟨ab, off + k * 3, none⟩ = some (.int .u8 xs[k].1) := hcell 0 _ rfl
               have hw1 : w.cell? ⟨ab, off + k * 3 + 1, none⟩ = some (.int .u64 xs[k].2.1) := hcell 1 _ rfl
               have hw2 : w.cell? ⟨ab, off + k * 3 + 2, none⟩ = some (.int .i64 xs[k].2.2.1) := hcell 2 _ rfl
               clear hcell hR hx
               generalize xs[k] = x at *
               obtain ⟨x, n, j, u⟩ := x
               simp only at hK hw0 hw1 hw2 hI
               have g0 := HR.out.r4.old_cell hw0
               have g1 := HR.out.r4.old_cell hw1
               have g2 := HR.out.r4.old_cell hw2
               clear hw0 hw1 hw2
               have hl2 := act04_len l x n
               replace hI := Lib.hid hI
               go_wp2_with fail
               refine (act04_c w wr _ b1 b2 l x n j hK hI.out (by omega) HR.out).mono ?_
               rintro e w3 ⟨rfl, H3⟩
               replace H3 := Lib.hid H3
               clear g0 g1 g2 HR
               generalize act04 l x n = l2 at *
               go_wp2_with fail
               go_roundw
               case rel => exact ⟨k + 1, l2, by omega, by go_num, by omega, H3.out⟩
               case measure => simp [intOf]; omega)
          · have H13 := Lib.hid HR.out.tail.tail
            clear HR
            go_wp2_with fail
            refine (ruPush_nil wr _).mono ?_
            rintro e w' ⟨rfl, rfl⟩
            go_wp2_with fail
            refine (ruShift_nil wr).mono ?_
            rintro e w' ⟨rfl, rfl⟩
            go_wp2_with fail
            refine (ruPop_nil wr).mono ?_
            rintro e w' ⟨rfl, rfl⟩
            go_wp2_with fail
            refine (ruAt_nil0 wr).mono ?_
            rintro e w' ⟨rfl, rfl⟩
            go_wp2_with fail
            refine (ruAll_c w wr _ bc first H13.out).mono ?_
            rintro e w14 ⟨v14, rfl, H14⟩
            replace H14 := Lib.hid H14
            obtain ⟨A14, n14, cap14, rfl, _⟩ := H14.out.nums_rd hU1.out
            go_wp2_with fail
            refine (alive04_c w w14 _ H14.out).mono ?_
            rintro e w15 ⟨rfl, H15⟩
            replace H15 := Lib.hid H15
            clear H14
            obtain ⟨_, _, _, e14, hr14⟩ := H15.out.nums_rd hU1.out
            cases e14
            replace hr14 := Lib.hid hr14
            go_wp2_with fail
            refine (rrSame_c w15 _ _ _ _ _ _ first hr14.out (hrx.out w15 ⟨_, H15.out.r3⟩)).mono ?_
            rintro e w16 ⟨rfl, nd, hnd⟩
            have H16 := Lib.hid (H15.out.drewN nd)
            rw [← hnd] at H16
            clear hnd hr14
            go_wp2_with fail
            refine (ruLen_nil w16).mono ?_
            rintro e w' ⟨rfl, rfl⟩
            go_wp2_with fail
            refine (ruAll_nil w16).mono ?_
            rintro e w' ⟨rfl, rfl⟩
            go_wp2_with fail
            refine (ruClone_nil w16).mono ?_
            rintro e w' ⟨rfl, rfl⟩
            go_wp2_with fail
            go_ret
            exact ⟨rfl, H16.out.tail.tail⟩
end Go.Proofs.Ytfcappjodichlaa
