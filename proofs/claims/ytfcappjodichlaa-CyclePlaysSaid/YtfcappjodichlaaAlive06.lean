/- The live question of layer 6. -/
import Derived.Test.YtfcappjodichlaaCycle
namespace Go.Proofs.Ytfcappjodichlaa
open Go.RowKit
set_option maxRecDepth 100000 in
set_option maxHeartbeats 1600000 in
theorem alive06_c (ε w : World) (L : List Asn) (H : Own ε w L) :
    Calls Try.prog 16 #[] w fun e w' => e = .returned (.bool true) ∧ Own ε w' L := by
  have HH := Lib.hid H; clear H
  have u (n : Int) (h0 : 0 ≤ n) (h1 : n ≤ 1000) : U n := ⟨h0, by omega⟩
  have p1 := Lib.hid (show Cyc.zero.put [5, 9, 2] = ⟨9, 0, 0⟩ by rfl)
  have p2 := Lib.hid (show (⟨9, 0, 0⟩ : Cyc).next = ⟨0, 9, 1⟩ by rfl)
  have p3 := Lib.hid (show (⟨0, 9, 1⟩ : Cyc).put [4] = ⟨4, 9, 1⟩ by rfl)
  have p4 := Lib.hid (show (⟨4, 9, 1⟩ : Cyc).next = ⟨0, 4, 2⟩ by rfl)
  have o1 := Lib.hid (show (⟨9, 0, 0⟩ : Cyc).Ok from ⟨u _ (by decide) (by decide), u _ (by decide) (by decide)⟩)
  have o2 := Lib.hid (show (⟨0, 9, 1⟩ : Cyc).Ok from ⟨u _ (by decide) (by decide), u _ (by decide) (by decide)⟩)
  have o3 := Lib.hid (show (⟨4, 9, 1⟩ : Cyc).Ok from ⟨u _ (by decide) (by decide), u _ (by decide) (by decide)⟩)
  have o4 := Lib.hid (show (⟨0, 4, 2⟩ : Cyc).Ok from ⟨u _ (by decide) (by decide), u _ (by decide) (by decide)⟩)
  go_enter Try.func16, Try.ntmps16
  go_wp2_with fail
  refine (cycNew_c ε _ HH.out).mono ?_
  rintro e w1 ⟨b, rfl, H1⟩
  replace H1 := Lib.hid H1
  go_wp2_with fail
  have H2 := Lib.hid (H1.out.alloc (.cells #[.int .u64 5, .int .u64 9, .int .u64 2] 31))
  generalize w1.alloc (.cells #[.int .u64 5, .int .u64 9, .int .u64 2] 31) = w2 at *
  generalize w1.heap.size = sb at *
  refine (cycPut_c ε w2 _ b Cyc.zero _ _ _ [5, 9, 2] (rdInts_pts H2.out rfl 3 rfl (by decide) (by intro x hx; simp at hx; rcases hx with rfl | rfl | rfl <;> exact u _ (by decide) (by decide))) Cyc.ok_zero H2.out.r2).mono ?_
  rw [p1.out]
  rintro e w3 ⟨rfl, H3⟩
  replace H3 := Lib.hid H3.r2.tail
  go_wp2_with fail
  refine (cycNext_c ε w3 _ b _ H3.out).mono ?_
  rw [p2.out]
  rintro e w4 ⟨rfl, H4⟩
  replace H4 := Lib.hid H4
  go_wp2_with fail
  have H5 := Lib.hid (H4.out.alloc (.cells #[.int .u64 4] 31))
  generalize w4.alloc (.cells #[.int .u64 4] 31) = w5 at *
  generalize w4.heap.size = sb2 at *
  refine (cycPut_c ε w5 _ b ⟨0, 9, 1⟩ _ _ _ [4] (rdInts_pts H5.out rfl 1 rfl (by decide) (by intro x hx; simp at hx; subst hx; exact u _ (by decide) (by decide))) o2.out H5.out.r2).mono ?_
  rw [p3.out]
  rintro e w6 ⟨rfl, H6⟩
  replace H6 := Lib.hid H6.r2.tail
  go_wp2_with fail
  refine (cycBest_c ε w6 _ b ⟨4, 9, 1⟩ o3.out H6.out).mono ?_
  rintro e w7 ⟨rfl, nd, hnd⟩
  have H7 := Lib.hid (H6.out.drewN nd)
  rw [← hnd] at H7
  clear hnd
  go_wp2_with fail
  refine (cycNext_c ε w7 _ b _ H7.out).mono ?_
  rw [p4.out]
  rintro e w8 ⟨rfl, H8⟩
  replace H8 := Lib.hid H8
  go_wp2_with fail
  refine (cycBest_c ε w8 _ b ⟨0, 4, 2⟩ o4.out H8.out).mono ?_
  rintro e w9 ⟨rfl, nd, hnd⟩
  have H9 := Lib.hid (H8.out.drewN nd)
  rw [← hnd] at H9
  clear hnd
  go_wp2_with fail
  refine (cycCount_c ε _ _ b _ H9.out).mono ?_
  rintro e w' ⟨rfl, rfl⟩
  go_wp2_with fail
  go_ret
  exact ⟨rfl, H9.out.tail⟩
end Go.Proofs.Ytfcappjodichlaa
