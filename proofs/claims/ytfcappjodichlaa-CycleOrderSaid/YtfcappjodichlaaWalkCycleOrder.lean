/- The walk of CycleOrder: whatever numbers come, the law returns true, and nothing that was there is written. -/
import Derived.Test.YtfcappjodichlaaAlive06
namespace Go.Proofs.Ytfcappjodichlaa
open Go.RowKit
theorem maxL_reverse (l : List Int) (h : ∀ x ∈ l, U x) : maxL l.reverse = maxL l := by
  induction l with
  | nil => rfl
  | cons x l ih =>
    rw [List.reverse_cons, maxL_append, ih (fun y hy => h y (by simp [hy])), maxL_cons x [] (h x (by simp)).1, maxL_nil, maxL_cons x l (h x (by simp)).1]
    have := maxL_nonneg l
    omega
set_option maxRecDepth 100000 in
set_option maxHeartbeats 3200000 in
theorem cycleOrder_c (w : World) (A : Option Addr) (len cap : Nat) (xs : List Int) (hr : rdSlice (rdInt .u64) 1 w [.slice A len cap] xs) :
    Calls Try.prog 4 #[.slice A len cap] w fun e w' => e = .returned (.bool true) ∧ Own w w' [old w] := by
  obtain ⟨hl, hm, hx⟩ := rdInts_cell hr
  have hUs := rdInts_U hr
  by_cases hbig : 100 < len
  · go_enter Try.func4, Try.ntmps4
    go_wp2_with fail
    refine (alive06_c w _ _ (Own.init w)).mono ?_
    rintro e w1 ⟨rfl, H1⟩
    replace H1 := Lib.hid H1
    go_wp2_with fail
    go_ret
    exact ⟨rfl, H1.out⟩
  have hrev := maxL_reverse xs hUs
  replace hUs := Lib.hid hUs
  replace hr := Lib.hid hr
  go_enter Try.func4, Try.ntmps4
  go_wp2_with fail
  refine (cycNew_c w _ (Own.init w)).mono ?_
  rintro e w1 ⟨b1, rfl, H1⟩
  replace H1 := Lib.hid H1
  go_wp2_with fail
  refine (cycNew_c w _ H1.out).mono ?_
  rintro e w2 ⟨b2, rfl, H2⟩
  replace H2 := Lib.hid H2
  go_wp2_with fail
  refine (cycNew_c w _ H2.out).mono ?_
  rintro e w3 ⟨b3, rfl, H3⟩
  replace H3 := Lib.hid H3
  have hr3 := mono_slice (mono_int .u64) 1 w w3 _ xs (fun _ _ h => H3.out.r4.old_cell h) hr.out
  go_wp2_with fail
  refine (cycPut_c w w3 _ b1 Cyc.zero _ _ _ xs hr3 Cyc.ok_zero H3.out.r3).mono ?_
  rintro e w4 ⟨rfl, H4⟩
  replace H4 := Lib.hid H4
  go_wp2_with fail
  clear hr3 H1 H2 H3
  go_loopw [6] (fun i wr => ∃ (k : Nat), k ≤ len ∧ i = .int .i64 k ∧ Own w wr (cyc b1 (Cyc.zero.put xs) :: cyc b2 (Cyc.zero.put (xs.take k)) :: cyc b3 (Cyc.zero.put (xs.reverse.take k)) :: [old w])) (fun i _ => len - (intOf i).toNat)
  case atStart => exact ⟨0, Nat.zero_le _, rfl, H4.out.r3.r2⟩
  case round =>
    obtain ⟨k, hk, rfl, HR⟩ := hrel
    replace HR := Lib.hid HR
    clear H4
    by_cases hlt : k < len
    · rcases hx with hz | ⟨ab, off, rfl, hx⟩
      · omega
      obtain ⟨hc, hU⟩ := hx k (by omega)
      obtain ⟨hc2, hU2⟩ := hx (len - 1 - k) (by omega)
      have e1 : xs.take (k + 1) = xs.take k ++ [xs[k]] := List.take_succ_eq_append_getElem (by omega)
      have e2 : xs.reverse.take (k + 1) = xs.reverse.take k ++ [xs[len - 1 - k]] := by
        rw [List.take_succ_eq_append_getElem (by simp; omega), List.getElem_reverse]
        congr 2
        subst hl
        rfl
      have o1 := Cyc.ok_put (s := Cyc.zero) (l := xs.take k) (fun x h => hUs.out x (List.mem_of_mem_take h)) Cyc.ok_zero
      have o2 := Cyc.ok_put (s := Cyc.zero) (l := xs.reverse.take k) (fun x h => hUs.out x (List.mem_reverse.1 (List.mem_of_mem_take h))) Cyc.ok_zero
      replace o1 := Lib.hid o1
      replace o2 := Lib.hid o2
      generalize xs[k] = x at *
      generalize xs[len - 1 - k] = y at *
      replace e1 := Lib.hid e1
      replace e2 := Lib.hid e2
      replace hc2 := Lib.hid hc2
      have g1 := HR.out.r4.old_cell hc
      clear hx hc hbig
      go_wp2_with fail
      have H5 := Lib.hid (HR.out.alloc (.cells #[.int .u64 x] 31))
      generalize wr.alloc (.cells #[.int .u64 x] 31) = w5 at *
      generalize wr.heap.size = sb at *
      refine (cycPut_c w w5 _ b2 _ _ _ _ [x] (rdInts_pts H5.out rfl 1 rfl (by decide) (by intro z hz; simp at hz; subst hz; exact hU)) o1.out H5.out.r3).mono ?_
      rw [Cyc.put_put, ← e1.out]
      rintro e w6 ⟨rfl, H6⟩
      replace H6 := Lib.hid H6.r2.tail
      clear g1 H5
      have g1 := H6.out.r4.old_cell hc2.out
      have hcast : ((len : Int) - 1 - (k : Int)) = ((len - 1 - k : Nat) : Int) := by omega
      go_wp2_with fail
      have H7 := Lib.hid (H6.out.alloc (.cells #[.int .u64 y] 31))
      generalize w6.alloc (.cells #[.int .u64 y] 31) = w7 at *
      generalize w6.heap.size = sb2 at *
      refine (cycPut_c w w7 _ b3 _ _ _ _ [y] (rdInts_pts H7.out rfl 1 rfl (by decide) (by intro z hz; simp at hz; subst hz; exact hU2)) o2.out H7.out.r4).mono ?_
      rw [Cyc.put_put, ← e2.out]
      rintro e w8 ⟨rfl, H8⟩
      replace H8 := Lib.hid H8.r2.tail
      clear g1 H7
      go_wp2_with fail
      go_roundw
      case rel => exact ⟨k + 1, by omega, by go_num, H8.out.r2.r3⟩
      case measure => simp [intOf]; omega
    · have hkl : k = len := by omega
      subst hkl
      have hs : Cyc.zero.put xs.reverse = Cyc.zero.put xs := by simp only [Cyc.put, hrev]
      have H5 := HR.out
      rw [show xs.take k = xs from List.take_of_length_le (by omega), show xs.reverse.take k = xs.reverse from List.take_of_length_le (by simp; omega), hs] at H5
      replace H5 := Lib.hid H5
      have o1 := Lib.hid (Cyc.ok_put (s := Cyc.zero) (l := xs) (fun x h => hUs.out x h) Cyc.ok_zero)
      have n0 : ((Cyc.zero.put xs).next).best = (Cyc.zero.put xs).best := by
        simp only [Cyc.next, Cyc.put, Cyc.best, Cyc.zero]; omega
      have n1 : ((Cyc.zero.put xs).next.next).best = 0 := by
        simp only [Cyc.next, Cyc.best]; omega
      replace n0 := Lib.hid n0
      replace n1 := Lib.hid n1
      have o2 := Lib.hid (Cyc.ok_next o1.out)
      have o3 := Lib.hid (Cyc.ok_next o2.out)
      clear hs HR hrev hx hUs hr
      generalize Cyc.zero.put xs = S at *
      go_wp2_with fail
      refine (cycBest_c w wr _ b1 S o1.out H5.out).mono ?_
      rintro e w6 ⟨rfl, nd, hnd⟩
      have H6 := Lib.hid (H5.out.drewN nd)
      rw [← hnd] at H6
      clear hnd
      go_wp2_with fail
      refine (cycBest_c w w6 _ b2 S o1.out H6.out.r2).mono ?_
      rintro e w7 ⟨rfl, nd, hnd⟩
      have H7 := Lib.hid (H6.out.drewN nd)
      rw [← hnd] at H7
      clear hnd
      go_wp2_with fail
      refine (cycBest_c w w7 _ b2 S o1.out H7.out.r2).mono ?_
      rintro e w8 ⟨rfl, nd, hnd⟩
      have H8 := Lib.hid (H7.out.drewN nd)
      rw [← hnd] at H8
      clear hnd
      go_wp2_with fail
      refine (cycBest_c w w8 _ b3 S o1.out H8.out.r3).mono ?_
      rintro e w9 ⟨rfl, nd, hnd⟩
      have H9 := Lib.hid (H8.out.drewN nd)
      rw [← hnd] at H9
      clear hnd
      go_wp2_with fail
      refine (cycNext_c w w9 _ b1 S H9.out).mono ?_
      rintro e w10 ⟨rfl, H10⟩
      replace H10 := Lib.hid H10
      go_wp2_with fail
      refine (cycNext_c w w10 _ b2 S H10.out.r2).mono ?_
      rintro e w11 ⟨rfl, H11⟩
      replace H11 := Lib.hid H11
      go_wp2_with fail
      refine (cycBest_c w w11 _ b1 S.next o2.out H11.out.r2).mono ?_
      rw [n0.out]
      rintro e w12 ⟨rfl, nd, hnd⟩
      have H12 := Lib.hid (H11.out.drewN nd)
      rw [← hnd] at H12
      clear hnd
      go_wp2_with fail
      refine (cycBest_c w w12 _ b3 S o1.out H12.out.r3).mono ?_
      rintro e w13 ⟨rfl, nd, hnd⟩
      have H13 := Lib.hid (H12.out.drewN nd)
      rw [← hnd] at H13
      clear hnd
      go_wp2_with fail
      refine (cycBest_c w w13 _ b2 S.next o2.out H13.out).mono ?_
      rw [n0.out]
      rintro e w14 ⟨rfl, nd, hnd⟩
      have H14 := Lib.hid (H13.out.drewN nd)
      rw [← hnd] at H14
      clear hnd
      go_wp2_with fail
      refine (cycBest_c w w14 _ b3 S o1.out H14.out.r3).mono ?_
      rintro e w15 ⟨rfl, nd, hnd⟩
      have H15 := Lib.hid (H14.out.drewN nd)
      rw [← hnd] at H15
      clear hnd
      go_wp2_with fail
      refine (cycNext_c w w15 _ b1 S.next H15.out.r2).mono ?_
      rintro e w16 ⟨rfl, H16⟩
      replace H16 := Lib.hid H16
      go_wp2_with fail
      refine (alive06_c w w16 _ H16.out).mono ?_
      rintro e w17 ⟨rfl, H17⟩
      replace H17 := Lib.hid H17
      go_wp2_with fail
      refine (cycBest_c w w17 _ b1 S.next.next o3.out H17.out).mono ?_
      rw [n1.out]
      rintro e w18 ⟨rfl, nd, hnd⟩
      have H18 := Lib.hid (H17.out.drewN nd)
      rw [← hnd] at H18
      clear hnd
      go_wp2_with fail
      go_ret
      exact ⟨rfl, H18.out.tail.tail.tail⟩
end Go.Proofs.Ytfcappjodichlaa
