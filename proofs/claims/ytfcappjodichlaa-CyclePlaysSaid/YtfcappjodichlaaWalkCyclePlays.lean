/- The walk of CyclePlays: whatever cycles come, the law returns true, and nothing that was there is written. -/
import Derived.Test.YtfcappjodichlaaAlive06
import Derived.Test.YtfcappjodichlaaRefCycle
namespace Go.Proofs.Ytfcappjodichlaa
open Go.RowKit
set_option maxRecDepth 100000 in
set_option maxHeartbeats 6400000 in
theorem cyclePlays_c (w : World) (A : Option Addr) (len cap : Nat) (xs : List (List Int)) (hr : rdSlice (rdSlice (rdInt .u64) 1) 1 w [.slice A len cap] xs) :
    Calls Try.prog 3 #[.slice A len cap] w fun e w' => e = .returned (.bool true) ∧ Own w w' [old w] := by
  obtain ⟨hl, hm, hx⟩ := rdSlice_cases hr
  clear hr
  by_cases hbig : 100 < len
  · go_enter Try.func3, Try.ntmps3
    go_wp2_with fail
    refine (alive06_c w _ _ (Own.init w)).mono ?_
    rintro e w1 ⟨rfl, H1⟩
    replace H1 := Lib.hid H1
    go_wp2_with fail
    go_ret
    exact ⟨rfl, H1.out⟩
  rcases hx with hz | ⟨ab, off, rfl, hx⟩
  all_goals
    go_enter Try.func3, Try.ntmps3
    go_wp2_with fail
    refine (cycNew_c w _ (Own.init w)).mono ?_
    rintro e w1 ⟨b1, rfl, H1⟩
    replace H1 := Lib.hid H1
    go_wp2_with fail
    refine (rcycNew_c w _ H1.out).mono ?_
    rintro e w2 ⟨b2, rfl, H2⟩
    replace H2 := Lib.hid H2
    go_wp2_with fail
    go_loopw [5] (fun i wr => ∃ (k : Nat) (l1 : List Int), k ≤ len ∧ i = .int .i64 k ∧ (∀ x ∈ l1, U x) ∧ Own w wr (cyc b1 ⟨0, maxL l1, k⟩ :: rcyc b2 (k + 1) l1 [] :: [old w])) (fun i _ => len - (intOf i).toNat)
    case atStart => exact ⟨0, [], Nat.zero_le _, rfl, by simp, H2.out.r2⟩
    case round =>
      obtain ⟨k, l1, hk, rfl, hU1, HR⟩ := hrel
      replace HR := Lib.hid HR
      clear H1 H2
      by_cases hlt : k < len
      · first
        | (exfalso; omega)
        | (obtain ⟨c, _, hcell, hR⟩ := hx k (by omega)
           clear hx
           generalize xs[k] = l at *
           obtain ⟨A', n, cap', rfl, hrest⟩ := id hR
           have hw0 := hcell 0 _ rfl
           rw [Nat.add_zero, Nat.mul_one] at hw0
           have hUl := rdInts_U hR
           have hln := (rdInts_cell hR).1
           clear hrest hcell
           have g0 := HR.out.r3.old_cell hw0
           by_cases hbn : 100 < n
           · go_wp2_with fail
             go_wp2_with fail
             refine (alive06_c w _ _ HR.out).mono ?_
             rintro e w3 ⟨rfl, H3⟩
             replace H3 := Lib.hid H3
             go_wp2_with fail
             go_ret
             exact ⟨rfl, H3.out.tail.tail⟩
           have hrx : ∀ wx, (∃ L, Own w wx (old w :: L)) → rdSlice (rdInt .u64) 1 wx [.slice A' n cap'] l := fun wx ⟨_, Hx⟩ => mono_slice (mono_int .u64) 1 w wx _ l (fun _ _ h => Hx.old_cell h) hR
           replace hrx := Lib.hid hrx
           replace hw0 := Lib.hid hw0
           replace hR := Lib.hid hR
           have hb1 := U_maxL hU1
           have hb2 := U_maxL hUl
           have o1 : (⟨0, maxL l1, k⟩ : Cyc).Ok := ⟨U_zero, hb1⟩
           have o2 : ((⟨0, maxL l1, k⟩ : Cyc).put l).Ok := Cyc.ok_put hUl o1
           have n1 : ((⟨0, maxL l1, k⟩ : Cyc).put l).best = rbest l1 ([] ++ l) := by
             have := hb2.1
             simp only [Cyc.put, Cyc.best, rbest, List.nil_append]; omega
           have hwr : IntKind.u64.wrap ((k : Int) + 1) = ((k + 1 : Nat) : Int) := by simp [IntKind.wrap, IntKind.bits, IntKind.signed]; omega
           have n2 : ((⟨0, maxL l1, k⟩ : Cyc).put l).next = ⟨0, maxL ([] ++ l), ((k + 1 : Nat) : Int)⟩ := by
             have := hb2.1
             simp only [Cyc.put, Cyc.next, List.nil_append, hwr]
             congr 1; omega
           have hU2 : ∀ x ∈ ([] ++ l), U x := by simpa using hUl
           have o3 : (⟨0, maxL ([] ++ l), ((k + 1 : Nat) : Int)⟩ : Cyc).Ok := ⟨U_zero, U_maxL hU2⟩
           have n3 : (⟨0, maxL ([] ++ l), ((k + 1 : Nat) : Int)⟩ : Cyc).best = rbest ([] ++ l) [] := by
             have := (U_maxL hU2).1
             simp only [Cyc.best, rbest, maxL_nil]; omega
           replace n1 := Lib.hid n1; replace n2 := Lib.hid n2; replace n3 := Lib.hid n3
           replace o1 := Lib.hid o1; replace o2 := Lib.hid o2; replace o3 := Lib.hid o3
           replace hU2 := Lib.hid hU2; replace hU1 := Lib.hid hU1; replace hUl := Lib.hid hUl
           replace hb1 := Lib.hid hb1; replace hb2 := Lib.hid hb2
           go_wp2_with fail
           refine (cycPut_c w wr _ b1 _ _ _ _ l (hrx.out wr ⟨_, HR.out.r3⟩) o1.out HR.out).mono ?_
           rintro e w3 ⟨rfl, H3⟩
           replace H3 := Lib.hid H3
           clear g0
           have g0 := H3.out.r3.old_cell hw0.out
           go_wp2_with fail
           refine (rcycPut_c w w3 _ b2 (k + 1) l1 [] l _ _ _ (fun wx Hx => hrx.out wx ⟨_, Hx.r2⟩) (by simp) (by simp; omega) H3.out.r2).mono ?_
           rintro e w4 ⟨rfl, H4⟩
           replace H4 := Lib.hid H4
           clear g0
           go_wp2_with fail
           refine (cycBest_c w w4 _ b1 _ o2.out H4.out.r2).mono ?_
           rw [n1.out]
           rintro e w5 ⟨rfl, nd, hnd⟩
           have H5 := Lib.hid (H4.out.r2.drewN nd)
           rw [← hnd] at H5
           clear hnd
           go_wp2_with fail
           refine (rcycBest_c w w5 _ b2 (k + 1) l1 ([] ++ l) hU1.out hU2.out H5.out.r2).mono ?_
           rintro e w' ⟨rfl, rfl⟩
           go_wp2_with fail
           refine (cycNext_c w w5 _ b1 _ H5.out).mono ?_
           rw [n2.out]
           rintro e w6 ⟨rfl, H6⟩
           replace H6 := Lib.hid H6
           go_wp2_with fail
           refine (rcycNext_c w w6 _ b2 (k + 1) l1 ([] ++ l) (by omega) H6.out.r2).mono ?_
           rintro e w7 ⟨rfl, H7⟩
           replace H7 := Lib.hid H7
           go_wp2_with fail
           refine (cycBest_c w w7 _ b1 _ o3.out H7.out.r2).mono ?_
           rw [n3.out]
           rintro e w8 ⟨rfl, nd, hnd⟩
           have H8 := Lib.hid (H7.out.r2.drewN nd)
           rw [← hnd] at H8
           clear hnd
           go_wp2_with fail
           refine (rcycBest_c w w8 _ b2 (k + 1 + 1) ([] ++ l) [] hU2.out (by simp) H8.out.r2).mono ?_
           rintro e w' ⟨rfl, rfl⟩
           go_wp2_with fail
           refine (cycCount_c w w8 _ b1 _ H8.out).mono ?_
           rintro e w' ⟨rfl, rfl⟩
           go_wp2_with fail
           go_roundw
           case rel => exact ⟨k + 1, [] ++ l, by omega, by go_num, hU2.out, H8.out⟩
           case measure => simp [intOf]; omega)
      · have hkl : k = len := by omega
        go_wp2_with (first | with_reducible refine stop_bs ?_ | with_reducible refine stop_ms ?_ | with_reducible refine stop_app ?_ | with_reducible refine stop_copy ?_)
        refine Stop.go ?_
        go_step
        go_simp
        have H3 := Lib.hid (HR.out.alloc (.cells #[.int .u64 3] 31))
        generalize wr.alloc (.cells #[.int .u64 3] 31) = w2 at *
        generalize wr.heap.size = sb at *
        go_wp2_with fail
        refine (cycPut_nil w2 _ _ _).mono ?_
        rintro e w' ⟨rfl, rfl⟩
        go_wp2_with fail
        refine (cycNext_nil w2).mono ?_
        rintro e w' ⟨rfl, rfl⟩
        go_wp2_with fail
        refine (alive06_c w w2 _ H3.out).mono ?_
        rintro e w4 ⟨rfl, H4⟩
        replace H4 := Lib.hid H4
        go_wp2_with fail
        refine (cycBest_nil w4).mono ?_
        rintro e w' ⟨rfl, rfl⟩
        go_wp2_with fail
        refine (cycCount_nil w4).mono ?_
        rintro e w' ⟨rfl, rfl⟩
        go_wp2_with fail
        go_ret
        exact ⟨rfl, H4.out.tail.tail.tail⟩
end Go.Proofs.Ytfcappjodichlaa
