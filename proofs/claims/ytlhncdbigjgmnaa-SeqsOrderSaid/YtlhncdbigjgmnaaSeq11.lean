/- goitref07: two rows of the same ranges are one. -/
import Derived.Test.YtlhncdbigjgmnaaSeq10
namespace Go.Proofs.Ytlhncdbigjgmnaa
open Go.RowKit
theorem neqRg_run (a b : Int) (w : World) : (binOp .neq 31 (.agg #[.int .u64 a, .int .u64 b]) (.agg #[.int .u64 a, .int .u64 b])).run Try.prog w = .ok (.bool false) w := by
  go_simp
theorem neqRg_guard (a b : Int) (x y : Operand) (w : World) : (eqGuard .neq 31 x y (.agg #[.int .u64 a, .int .u64 b]) (.agg #[.int .u64 a, .int .u64 b])).run Try.prog w = .ok () w := by
  go_simp
section
variable (ε w : World) (R : List Asn)
set_option maxRecDepth 100000 in
set_option maxHeartbeats 3200000 in
theorem ref07Same_c (xs : List Rg) (A B : Option Addr) (len cap cap2 : Nat) (hA : ∀ wx, Own ε wx R → itAt encRg 2 wx A len xs) (hB : ∀ wx, Own ε wx R → itAt encRg 2 wx B len xs) (hm : len ≤ 9223372036854775807) (H : Own ε w R) :
    Calls Try.prog 11 #[.slice A len cap, .slice B len cap2] w fun e w' => e = .returned (.bool true) ∧ Own ε w' R := by
  have HH := Lib.hid H; clear H
  replace hA := Lib.hid hA
  replace hB := Lib.hid hB
  go_enter Try.func11, Try.ntmps11
  go_wp2_with fail
  go_loopw [5] (fun vi wr => ∃ i : Nat, i ≤ len ∧ vi = .int .i64 i ∧ Own ε wr R) (fun vi _ => len - (intOf vi).toNat)
  case atStart => exact ⟨0, Nat.zero_le _, rfl, HH.out⟩
  case round =>
    clear HH
    obtain ⟨i, hi, rfl, HR⟩ := hrel
    have HH := Lib.hid HR
    clear HR
    by_cases hlt : i < len
    · have w3 : IntKind.i64.wrap ((i : Int) + 1) = ((i + 1 : Nat) : Int) := by rw [IntKind.wrap_i64]; omega
      obtain ⟨g, off, x, rfl, hx, _⟩ := (hA.out _ HH.out).get hlt
      obtain ⟨g2, off2, x2, rfl, hx2, _⟩ := (hB.out _ HH.out).get hlt
      rw [hx] at hx2
      cases hx2
      have hcs := item_cells ε (fun wx Hx => hA.out wx Hx) hlt hx rfl
      have hds := item_cells ε (fun wx Hx => hB.out wx Hx) hlt hx rfl
      have q1 := neqRg_run x.1 x.2
      have q2 := neqRg_guard x.1 x.2
      replace hcs := Lib.hid hcs
      replace hds := Lib.hid hds
      replace hx := Lib.hid hx
      go_wp2_with fail
      go_wp2_with fail
      refine wp_region_reg none HH.out (by kernel_rfl) ?_
      intro wm H9_
      replace HH := Lib.hid H9_
      clear H9_
      refine reg_p (i := 0) rfl (by kernel_rfl) (fun _ _ _ _ h => h) HH.out (fun K hK => ?_)
      go_simp
      first | (refine hK _ ?_; clear hK K) | (apply Exists.intro; refine ⟨?_, hK _ ?_⟩; (focus (intro wx; first | (go_simp; first | rfl) | rfl)); clear hK K)
      refine reg_p (i := 1) rfl (by kernel_rfl) (fun _ _ _ _ h => h) HH.out (fun K hK => ?_)
      go_simp
      first | (refine hK _ ?_; clear hK K) | (apply Exists.intro; refine ⟨?_, hK _ ?_⟩; (focus (intro wx; first | (go_simp; first | rfl) | rfl)); clear hK K)
      refine reg_p (i := 2) rfl (by kernel_rfl) (fun _ _ _ _ h => h) HH.out (fun K hK => ?_)
      go_simp
      first | (refine hK _ ?_; clear hK K) | (apply Exists.intro; refine ⟨?_, hK _ ?_⟩; (focus (intro wx; first | (go_simp; first | rfl) | rfl)); clear hK K)
      refine mixk_q (i := 3) rfl (by kernel_rfl) (fun _ _ _ _ h => h) HH.out (fun K hK => ?_)
      go_simp
      first | (refine hK _ ?_; clear hK K) | (apply Exists.intro; refine ⟨?_, hK _ ?_⟩; (focus (intro wx hx; obtain ⟨y0_, y1_⟩ := hcs.out _ hx; obtain ⟨z0_, z1_⟩ := hds.out _ hx; first | (go_simp; first | rfl | exact ⟨rfl, rfl⟩) | rfl | exact ⟨rfl, rfl⟩)); clear hK K)
      refine reg_p (i := 4) rfl (by kernel_rfl) (fun _ _ _ _ h => h) HH.out (fun K hK => ?_)
      go_simp
      first | (refine hK _ ?_; clear hK K) | (apply Exists.intro; refine ⟨?_, hK _ ?_⟩; (focus (intro wx; first | (go_simp; first | rfl) | rfl)); clear hK K)
      refine reg_p (i := 5) rfl (by kernel_rfl) (fun _ _ _ _ h => h) HH.out (fun K hK => ?_)
      go_simp
      first | (refine hK _ ?_; clear hK K) | (apply Exists.intro; refine ⟨?_, hK _ ?_⟩; (focus (intro wx; first | (go_simp; first | rfl) | rfl)); clear hK K)
      refine reg_p (i := 6) rfl (by kernel_rfl) (fun _ _ _ _ h => h) HH.out (fun K hK => ?_)
      go_simp
      first | (refine hK _ ?_; clear hK K) | (apply Exists.intro; refine ⟨?_, hK _ ?_⟩; (focus (intro wx; first | (go_simp; first | rfl) | rfl)); clear hK K)
      refine mixk_q (i := 7) rfl (by kernel_rfl) (fun _ _ _ _ h => h) HH.out (fun K hK => ?_)
      go_simp
      first | (refine hK _ ?_; clear hK K) | (apply Exists.intro; refine ⟨?_, hK _ ?_⟩; (focus (intro wx hx; obtain ⟨y0_, y1_⟩ := hcs.out _ hx; obtain ⟨z0_, z1_⟩ := hds.out _ hx; first | (go_simp; first | rfl | exact ⟨rfl, rfl⟩) | rfl | exact ⟨rfl, rfl⟩)); clear hK K)
      refine reg_p (i := 8) rfl (by kernel_rfl) (fun _ _ _ _ h => h) HH.out (fun K hK => ?_)
      go_simp
      first | (refine hK _ ?_; clear hK K) | (apply Exists.intro; refine ⟨?_, hK _ ?_⟩; (focus (intro wx; first | (go_simp; first | rfl) | rfl)); clear hK K)
      refine mixk_done (by kernel_rfl) (fun w1_ hk => ?_) _
      replace HH := Lib.hid (hk _ _ HH.out)
      clear hk
      go_wp2_with fail
      go_roundw
      case rel => exact ⟨i + 1, by omega, by go_num, HH.out⟩
      case measure => simp [intOf]; omega
    · go_wp2_with fail
      go_ret
      exact ⟨rfl, HH.out⟩
end
end Go.Proofs.Ytlhncdbigjgmnaa
