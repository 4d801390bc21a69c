/- meter: the laws' helpers, the live question, MeterRuns. -/
import Derived.Test.YtoimbdbajpjmjaaMeter7
import Derived.Laws.StructEq
import Derived.Outline
namespace Go.Proofs.Ytoimbdbajpjmjaa
open Go.RowKit
def MRow.beq (p q : MRow) : Bool := decide (p = q)
theorem MRow.beq_true {p q : MRow} (h : p = q) : p.beq q = true := decide_eq_true h
theorem MRow.beq_false {p q : MRow} (h : ¬ p = q) : p.beq q = false := decide_eq_false h
theorem run_eqI_row22 (a0 a1 a2 a3 a4 b0 b1 b2 b3 b4 : Int) (w : World) : (Op.equalIn 10000 114 (.agg #[.int .u64 a0, .int .u64 a1, .int .u64 a2, .int .u64 a3, .int .u64 a4]) (.agg #[.int .u64 b0, .int .u64 b1, .int .u64 b2, .int .u64 b3, .int .u64 b4])).run Try.prog w = .ok (MRow.beq ⟨a0, a1, a2, a3, a4⟩ ⟨b0, b1, b2, b3, b4⟩) w := by
  unfold MRow.beq
  have u1 := Try.underlying114
  have u3 := Try.underlying22
  have s3 := Try.isAgg22
  rw [show (10000 : Nat) = 9999 + 1 from rfl, run_equalIn_agg _ _ _ _ _ (by kernel_rfl) (by kernel_rfl)]
  simp only [Program.fieldsOf, u1]
  go_simp
  (repeat' split) <;> simp_all
@[go_sem ↓] theorem run_neq_row22 (a0 a1 a2 a3 a4 b0 b1 b2 b3 b4 : Int) (w : World) : (binOp .neq 114 (.agg #[.int .u64 a0, .int .u64 a1, .int .u64 a2, .int .u64 a3, .int .u64 a4]) (.agg #[.int .u64 b0, .int .u64 b1, .int .u64 b2, .int .u64 b3, .int .u64 b4])).run Try.prog w = .ok (.bool (!MRow.beq ⟨a0, a1, a2, a3, a4⟩ ⟨b0, b1, b2, b3, b4⟩)) w := by
  rw [run_neq_struct, run_eqI_row22]; rfl
theorem take_eq_stepM {α : Type} {l m : List α} {k : Nat} {a b : α} (h : l.take k = m.take k) (ha : l[k]? = some a) (hb : m[k]? = some b) : l.take (k + 1) = m.take (k + 1) ↔ a = b := by
  rw [List.take_add_one, List.take_add_one, ha, hb, h]
  simp
theorem drewN_drewNM (w : World) (j k : Nat) : (w.drewN j).drewN k = w.drewN (j + k) := by simp [World.drewN, Nat.add_assoc]
section
variable (ε w : World) (R : List Asn)
set_option maxHeartbeats 1600000 in
theorem rows22_c (A : Option Addr) (n cap : Nat) (ts : List MRow) (hA : ∀ wx, Own ε wx R → itAt MRow.cells 5 wx A n ts) (hn : n ≤ 65536) (H : Own ε w R) :
    Calls Try.prog 21 #[.slice A n cap] w fun e w' => ∃ v, e = .returned v ∧ Own ε w' (slc 114 5 v (encs MRow.cells ts) :: R) := by
  have hl := (hA w H).1
  have HH := Lib.hid H; clear H
  replace hA := Lib.hid hA
  go_enter Try.func21, Try.ntmps21
  replace HH := Lib.hid (HH.out.slc_none (T := 114) (sz := 5))
  go_wp2_with fail
  go_loopw [3, 4] (fun v i wr => ∃ k : Nat, k ≤ n ∧ i = .int .i64 k ∧ Own ε wr (slc 114 5 v (encs MRow.cells (ts.take k)) :: R)) (fun _ i _ => n - (intOf i).toNat)
  case atStart => exact ⟨0, Nat.zero_le _, rfl, HH.out⟩
  case round =>
    obtain ⟨k, hk, rfl, HR⟩ := hrel
    replace HH := Lib.hid HR
    clear HR
    by_cases hlt : k < n
    · obtain ⟨g, off, t, rfl, ht, hc⟩ := (hA.out _ HH.out.tail).get hlt
      have hcb : ∀ wx, Own ε wx R → ∀ j u, t.cells[j]? = some u → wx.cell? ⟨g, off + k * 5 + j, none⟩ = some u := fun wx Hx j u hu => by
        obtain ⟨g2, off2, b2, e, hb2, hc2⟩ := (hA.out wx Hx).get hlt
        cases e
        rw [ht] at hb2
        cases hb2
        exact hc2 j u hu
      have htk : (ts.take k).length = k := by rw [List.length_take]; omega
      have e1 : ts.take (k + 1) = ts.take k ++ [t] := by rw [List.take_add_one, ht]; rfl
      have hlen : (encs MRow.cells (ts.take k)).length = k * 5 := by rw [encs_len MRow.len, htk]
      obtain ⟨x1, x2, x3, x4, x5⟩ := t
      clear hc ht htk
      replace hcb := Lib.hid hcb
      replace e1 := Lib.hid e1
      replace hlen := Lib.hid hlen
      go_wp2_with fail
      go_wp2_with fail
      refine wp_region_reg (some 28) HH.out (by kernel_rfl) ?_
      intro wm H9_
      replace HH := Lib.hid H9_
      clear H9_
      refine reg_p (i := 0) rfl (by kernel_rfl) (fun _ _ _ _ h => h) HH.out (fun K hK => ?_)
      go_simp
      first | (refine hK _ ?_; clear hK K) | (apply Exists.intro; refine ⟨?_, hK _ ?_⟩; (focus (intro wx; first | (go_simp; first | rfl) | rfl)); clear hK K)
      refine reg_p (i := 1) rfl (by kernel_rfl) (fun _ _ _ _ h => h) HH.out (fun K hK => ?_)
      go_simp
      first | (refine hK _ ?_; clear hK K) | (apply Exists.intro; refine ⟨?_, hK _ ?_⟩; (focus (intro wx; first | (go_simp; first | rfl) | rfl)); clear hK K)
      refine reg_p (i := 2) rfl (by kernel_rfl) (fun _ _ _ _ h => h) HH.out (fun K hK => ?_)
      go_simp
      first | (refine hK _ ?_; clear hK K) | (apply Exists.intro; refine ⟨?_, hK _ ?_⟩; (focus (intro wx; first | (go_simp; first | rfl) | rfl)); clear hK K)
      refine reg_p (i := 3) rfl (by kernel_rfl) (fun _ _ _ _ h => h) HH.out (fun K hK => ?_)
      go_simp
      first | (refine hK _ ?_; clear hK K) | (apply Exists.intro; refine ⟨?_, hK _ ?_⟩; (focus (intro wx; first | (go_simp; first | rfl) | rfl)); clear hK K)
      refine reg_p (i := 4) rfl (by kernel_rfl) (fun _ _ _ _ h => h) HH.out (fun K hK => ?_)
      go_simp
      first | (refine hK _ ?_; clear hK K) | (apply Exists.intro; refine ⟨?_, hK _ ?_⟩; (focus (intro wx; first | (go_simp; first | rfl) | rfl)); clear hK K)
      refine mixk_q (i := 5) rfl (by kernel_rfl) (fun _ _ _ _ h => h) HH.out (fun K hK => ?_)
      go_simp
      first | (refine hK _ ?_; clear hK K) | (apply Exists.intro; refine ⟨?_, hK _ ?_⟩; (focus (intro wx hx; have k0_ := hcb.out _ hx.tail 0 _ rfl; have k1_ := hcb.out _ hx.tail 1 _ rfl; have k2_ := hcb.out _ hx.tail 2 _ rfl; have k3_ := hcb.out _ hx.tail 3 _ rfl; have k4_ := hcb.out _ hx.tail 4 _ rfl; rw [Nat.add_zero] at k0_; first | (go_simp; first | rfl | exact ⟨rfl, rfl⟩) | rfl | exact ⟨rfl, rfl⟩)); clear hK K)
      refine reg_p (i := 6) rfl (by kernel_rfl) (fun _ _ _ _ h => h) HH.out (fun K hK => ?_)
      go_simp
      first | (refine hK _ ?_; clear hK K) | (apply Exists.intro; refine ⟨?_, hK _ ?_⟩; (focus (intro wx; first | (go_simp; first | rfl) | rfl)); clear hK K)
      refine reg_p (i := 7) rfl (by kernel_rfl) (fun _ _ _ _ h => h) HH.out (fun K hK => ?_)
      go_simp
      first | (refine hK _ ?_; clear hK K) | (apply Exists.intro; refine ⟨?_, hK _ ?_⟩; (focus (intro wx; first | (go_simp; first | rfl) | rfl)); clear hK K)
      refine reg_p (i := 8) rfl (by kernel_rfl) (fun _ _ _ _ h => h) HH.out (fun K hK => ?_)
      go_simp
      first | (refine hK _ ?_; clear hK K) | (apply Exists.intro; refine ⟨?_, hK _ ?_⟩; (focus (intro wx; first | (go_simp; first | rfl) | rfl)); clear hK K)
      refine reg_p (i := 9) rfl (by kernel_rfl) (fun _ _ _ _ h => h) HH.out (fun K hK => ?_)
      go_simp
      first | (refine hK _ ?_; clear hK K) | (apply Exists.intro; refine ⟨?_, hK _ ?_⟩; (focus (intro wx; first | (go_simp; first | rfl) | rfl)); clear hK K)
      refine mixk_q (i := 10) rfl (by kernel_rfl) (fun _ _ _ _ h => h) HH.out (fun K hK => ?_)
      go_simp
      first | (refine hK _ ?_; clear hK K) | (apply Exists.intro; refine ⟨?_, hK _ ?_⟩; (focus (intro wx hx; have k0_ := hcb.out _ hx.tail 0 _ rfl; have k1_ := hcb.out _ hx.tail 1 _ rfl; have k2_ := hcb.out _ hx.tail 2 _ rfl; have k3_ := hcb.out _ hx.tail 3 _ rfl; have k4_ := hcb.out _ hx.tail 4 _ rfl; rw [Nat.add_zero] at k0_; first | (go_simp; first | rfl | exact ⟨rfl, rfl⟩) | rfl | exact ⟨rfl, rfl⟩)); clear hK K)
      refine reg_p (i := 11) rfl (by kernel_rfl) (fun _ _ _ _ h => h) HH.out (fun K hK => ?_)
      go_simp
      first | (refine hK _ ?_; clear hK K) | (apply Exists.intro; refine ⟨?_, hK _ ?_⟩; (focus (intro wx; first | (go_simp; first | rfl) | rfl)); clear hK K)
      refine reg_p (i := 12) rfl (by kernel_rfl) (fun _ _ _ _ h => h) HH.out (fun K hK => ?_)
      go_simp
      first | (refine hK _ ?_; clear hK K) | (apply Exists.intro; refine ⟨?_, hK _ ?_⟩; (focus (intro wx; first | (go_simp; first | rfl) | rfl)); clear hK K)
      refine reg_p (i := 13) rfl (by kernel_rfl) (fun _ _ _ _ h => h) HH.out (fun K hK => ?_)
      go_simp
      first | (refine hK _ ?_; clear hK K) | (apply Exists.intro; refine ⟨?_, hK _ ?_⟩; (focus (intro wx; first | (go_simp; first | rfl) | rfl)); clear hK K)
      refine reg_p (i := 14) rfl (by kernel_rfl) (fun _ _ _ _ h => h) HH.out (fun K hK => ?_)
      go_simp
      first | (refine hK _ ?_; clear hK K) | (apply Exists.intro; refine ⟨?_, hK _ ?_⟩; (focus (intro wx; first | (go_simp; first | rfl) | rfl)); clear hK K)
      refine mixk_q (i := 15) rfl (by kernel_rfl) (fun _ _ _ _ h => h) HH.out (fun K hK => ?_)
      go_simp
      first | (refine hK _ ?_; clear hK K) | (apply Exists.intro; refine ⟨?_, hK _ ?_⟩; (focus (intro wx hx; have k0_ := hcb.out _ hx.tail 0 _ rfl; have k1_ := hcb.out _ hx.tail 1 _ rfl; have k2_ := hcb.out _ hx.tail 2 _ rfl; have k3_ := hcb.out _ hx.tail 3 _ rfl; have k4_ := hcb.out _ hx.tail 4 _ rfl; rw [Nat.add_zero] at k0_; first | (go_simp; first | rfl | exact ⟨rfl, rfl⟩) | rfl | exact ⟨rfl, rfl⟩)); clear hK K)
      refine reg_p (i := 16) rfl (by kernel_rfl) (fun _ _ _ _ h => h) HH.out (fun K hK => ?_)
      go_simp
      first | (refine hK _ ?_; clear hK K) | (apply Exists.intro; refine ⟨?_, hK _ ?_⟩; (focus (intro wx; first | (go_simp; first | rfl) | rfl)); clear hK K)
      refine reg_p (i := 17) rfl (by kernel_rfl) (fun _ _ _ _ h => h) HH.out (fun K hK => ?_)
      go_simp
      first | (refine hK _ ?_; clear hK K) | (apply Exists.intro; refine ⟨?_, hK _ ?_⟩; (focus (intro wx; first | (go_simp; first | rfl) | rfl)); clear hK K)
      refine reg_p (i := 18) rfl (by kernel_rfl) (fun _ _ _ _ h => h) HH.out (fun K hK => ?_)
      go_simp
      first | (refine hK _ ?_; clear hK K) | (apply Exists.intro; refine ⟨?_, hK _ ?_⟩; (focus (intro wx; first | (go_simp; first | rfl) | rfl)); clear hK K)
      refine reg_p (i := 19) rfl (by kernel_rfl) (fun _ _ _ _ h => h) HH.out (fun K hK => ?_)
      go_simp
      first | (refine hK _ ?_; clear hK K) | (apply Exists.intro; refine ⟨?_, hK _ ?_⟩; (focus (intro wx; first | (go_simp; first | rfl) | rfl)); clear hK K)
      refine mixk_q (i := 20) rfl (by kernel_rfl) (fun _ _ _ _ h => h) HH.out (fun K hK => ?_)
      go_simp
      first | (refine hK _ ?_; clear hK K) | (apply Exists.intro; refine ⟨?_, hK _ ?_⟩; (focus (intro wx hx; have k0_ := hcb.out _ hx.tail 0 _ rfl; have k1_ := hcb.out _ hx.tail 1 _ rfl; have k2_ := hcb.out _ hx.tail 2 _ rfl; have k3_ := hcb.out _ hx.tail 3 _ rfl; have k4_ := hcb.out _ hx.tail 4 _ rfl; rw [Nat.add_zero] at k0_; first | (go_simp; first | rfl | exact ⟨rfl, rfl⟩) | rfl | exact ⟨rfl, rfl⟩)); clear hK K)
      refine reg_p (i := 21) rfl (by kernel_rfl) (fun _ _ _ _ h => h) HH.out (fun K hK => ?_)
      go_simp
      first | (refine hK _ ?_; clear hK K) | (apply Exists.intro; refine ⟨?_, hK _ ?_⟩; (focus (intro wx; first | (go_simp; first | rfl) | rfl)); clear hK K)
      refine reg_p (i := 22) rfl (by kernel_rfl) (fun _ _ _ _ h => h) HH.out (fun K hK => ?_)
      go_simp
      first | (refine hK _ ?_; clear hK K) | (apply Exists.intro; refine ⟨?_, hK _ ?_⟩; (focus (intro wx; first | (go_simp; first | rfl) | rfl)); clear hK K)
      refine reg_p (i := 23) rfl (by kernel_rfl) (fun _ _ _ _ h => h) HH.out (fun K hK => ?_)
      go_simp
      first | (refine hK _ ?_; clear hK K) | (apply Exists.intro; refine ⟨?_, hK _ ?_⟩; (focus (intro wx; first | (go_simp; first | rfl) | rfl)); clear hK K)
      refine reg_p (i := 24) rfl (by kernel_rfl) (fun _ _ _ _ h => h) HH.out (fun K hK => ?_)
      go_simp
      first | (refine hK _ ?_; clear hK K) | (apply Exists.intro; refine ⟨?_, hK _ ?_⟩; (focus (intro wx; first | (go_simp; first | rfl) | rfl)); clear hK K)
      refine mixk_q (i := 25) rfl (by kernel_rfl) (fun _ _ _ _ h => h) HH.out (fun K hK => ?_)
      go_simp
      first | (refine hK _ ?_; clear hK K) | (apply Exists.intro; refine ⟨?_, hK _ ?_⟩; (focus (intro wx hx; have k0_ := hcb.out _ hx.tail 0 _ rfl; have k1_ := hcb.out _ hx.tail 1 _ rfl; have k2_ := hcb.out _ hx.tail 2 _ rfl; have k3_ := hcb.out _ hx.tail 3 _ rfl; have k4_ := hcb.out _ hx.tail 4 _ rfl; rw [Nat.add_zero] at k0_; first | (go_simp; first | rfl | exact ⟨rfl, rfl⟩) | rfl | exact ⟨rfl, rfl⟩)); clear hK K)
      refine reg_p (i := 26) rfl (by kernel_rfl) (fun _ _ _ _ h => h) HH.out (fun K hK => ?_)
      go_simp
      first | (refine hK _ ?_; clear hK K) | (apply Exists.intro; refine ⟨?_, hK _ ?_⟩; (focus (intro wx; first | (go_simp; first | rfl) | rfl)); clear hK K)
      refine reg_l (some 28) (i := 27) rfl (by kernel_rfl) (fun wn hk K hK => ?_)
      replace HH := Lib.hid (hk _ _ HH.out)
      clear hk
      go_simp
      replace HH := Lib.hid (HH.out.alloc (.cells #[.int .u64 x1, .int .u64 x2, .int .u64 x3, .int .u64 x4, .int .u64 x5] 114))
      generalize wn.alloc (.cells #[.int .u64 x1, .int .u64 x2, .int .u64 x3, .int .u64 x4, .int .u64 x5] 114) = wm at *
      generalize wn.heap.size = sb at *
      refine hK _ _ _ HH.out (.inr ⟨rfl, fun _ h => h.tail⟩) ?_
      clear hK K
      refine reg_l none (i := 28) rfl (by kernel_rfl) (fun wn hk K hK => ?_)
      replace HH := Lib.hid (hk _ _ HH.out)
      clear hk
      refine want rfl (wp_append_slc _ _ 29 rfl 114 5 40 Try.underlying29 (by kernel_rfl) (by decide) rfl (HH.out.r2) rfl (hlen.out) ((show srcAt wn (some ⟨sb, 0, none⟩) 1 5 [.int .u64 x1, .int .u64 x2, .int .u64 x3, .int .u64 x4, .int .u64 x5] from ⟨rfl, .inr ⟨sb, 0, rfl, fun j u hj => by rw [Nat.zero_add, HH.out.cells.1 j]; simpa using hj⟩⟩)) ((by repeat (first | (refine List.forall_mem_cons.2 ⟨(by first | with_reducible assumption | rfl), ?_⟩) | exact fun _ h => absurd h List.not_mem_nil))) (by simp only [maxLen]; omega) (by omega) ?_)
      intro v1 wm H9_
      obtain ⟨A_v1, n_v1, c_v1, rfl⟩ := H9_.slc_isv
      replace HH := Lib.hid H9_
      clear H9_
      refine hK _ _ _ HH.out (.inl (by kernel_rfl)) ?_
      clear hK K
      refine reg_p (i := 29) rfl (by kernel_rfl) (fun _ _ _ _ h => h) HH.out (fun K hK => ?_)
      go_simp
      first | (refine hK _ ?_; clear hK K) | (apply Exists.intro; refine ⟨?_, hK _ ?_⟩; (focus (intro wx; first | (go_simp; first | rfl) | rfl)); clear hK K)
      refine mixk_done (by kernel_rfl) (fun w1_ hk => ?_) _
      replace HH := Lib.hid (hk _ _ HH.out)
      clear hk
      go_wp2_with fail
      go_roundw
      case rel =>
        refine ⟨k + 1, by omega, by go_num, ?_⟩
        rw [e1.out, encs_snoc]
        exact HH.out.r2.tail
      case measure => simp [intOf]; omega
    · have hkn : k = n := by omega
      subst hkn
      have e1 : ts.take k = ts := List.take_of_length_le (by omega)
      rw [e1] at HH
      go_wp2_with fail
      go_ret
      exact ⟨_, rfl, HH.out⟩
set_option maxHeartbeats 1600000 in
theorem turns22_c (A : Option Addr) (n cap : Nat) (ts : List MTurn) (hA : ∀ wx, Own ε wx R → itAt MTurn.cells 3 wx A n ts) (hn : n ≤ 65536) (H : Own ε w R) :
    Calls Try.prog 19 #[.slice A n cap] w fun e w' => ∃ v, e = .returned v ∧ Own ε w' (slc 50 3 v (encs MTurn.cells ts) :: R) := by
  have hl := (hA w H).1
  have HH := Lib.hid H; clear H
  replace hA := Lib.hid hA
  go_enter Try.func19, Try.ntmps19
  replace HH := Lib.hid (HH.out.slc_none (T := 50) (sz := 3))
  go_wp2_with fail
  go_loopw [3, 4] (fun v i wr => ∃ k : Nat, k ≤ n ∧ i = .int .i64 k ∧ Own ε wr (slc 50 3 v (encs MTurn.cells (ts.take k)) :: R)) (fun _ i _ => n - (intOf i).toNat)
  case atStart => exact ⟨0, Nat.zero_le _, rfl, HH.out⟩
  case round =>
    obtain ⟨k, hk, rfl, HR⟩ := hrel
    replace HH := Lib.hid HR
    clear HR
    by_cases hlt : k < n
    · obtain ⟨g, off, t, rfl, ht, hc⟩ := (hA.out _ HH.out.tail).get hlt
      have hcb : ∀ wx, Own ε wx R → ∀ j u, t.cells[j]? = some u → wx.cell? ⟨g, off + k * 3 + j, none⟩ = some u := fun wx Hx j u hu => by
        obtain ⟨g2, off2, b2, e, hb2, hc2⟩ := (hA.out wx Hx).get hlt
        cases e
        rw [ht] at hb2
        cases hb2
        exact hc2 j u hu
      have htk : (ts.take k).length = k := by rw [List.length_take]; omega
      have e1 : ts.take (k + 1) = ts.take k ++ [t] := by rw [List.take_add_one, ht]; rfl
      have hlen : (encs MTurn.cells (ts.take k)).length = k * 3 := by rw [encs_len MTurn.len, htk]
      obtain ⟨x1, x2, x3⟩ := t
      clear hc ht htk
      replace hcb := Lib.hid hcb
      replace e1 := Lib.hid e1
      replace hlen := Lib.hid hlen
      go_wp2_with fail
      go_wp2_with fail
      refine wp_region_reg (some 18) HH.out (by kernel_rfl) ?_
      intro wm H9_
      replace HH := Lib.hid H9_
      clear H9_
      refine reg_p (i := 0) rfl (by kernel_rfl) (fun _ _ _ _ h => h) HH.out (fun K hK => ?_)
      go_simp
      first | (refine hK _ ?_; clear hK K) | (apply Exists.intro; refine ⟨?_, hK _ ?_⟩; (focus (intro wx; first | (go_simp; first | rfl) | rfl)); clear hK K)
      refine reg_p (i := 1) rfl (by kernel_rfl) (fun _ _ _ _ h => h) HH.out (fun K hK => ?_)
      go_simp
      first | (refine hK _ ?_; clear hK K) | (apply Exists.intro; refine ⟨?_, hK _ ?_⟩; (focus (intro wx; first | (go_simp; first | rfl) | rfl)); clear hK K)
      refine reg_p (i := 2) rfl (by kernel_rfl) (fun _ _ _ _ h => h) HH.out (fun K hK => ?_)
      go_simp
      first | (refine hK _ ?_; clear hK K) | (apply Exists.intro; refine ⟨?_, hK _ ?_⟩; (focus (intro wx; first | (go_simp; first | rfl) | rfl)); clear hK K)
      refine reg_p (i := 3) rfl (by kernel_rfl) (fun _ _ _ _ h => h) HH.out (fun K hK => ?_)
      go_simp
      first | (refine hK _ ?_; clear hK K) | (apply Exists.intro; refine ⟨?_, hK _ ?_⟩; (focus (intro wx; first | (go_simp; first | rfl) | rfl)); clear hK K)
      refine reg_p (i := 4) rfl (by kernel_rfl) (fun _ _ _ _ h => h) HH.out (fun K hK => ?_)
      go_simp
      first | (refine hK _ ?_; clear hK K) | (apply Exists.intro; refine ⟨?_, hK _ ?_⟩; (focus (intro wx; first | (go_simp; first | rfl) | rfl)); clear hK K)
      refine mixk_q (i := 5) rfl (by kernel_rfl) (fun _ _ _ _ h => h) HH.out (fun K hK => ?_)
      go_simp
      first | (refine hK _ ?_; clear hK K) | (apply Exists.intro; refine ⟨?_, hK _ ?_⟩; (focus (intro wx hx; have k0_ := hcb.out _ hx.tail 0 _ rfl; have k1_ := hcb.out _ hx.tail 1 _ rfl; have k2_ := hcb.out _ hx.tail 2 _ rfl; rw [Nat.add_zero] at k0_; first | (go_simp; first | rfl | exact ⟨rfl, rfl⟩) | rfl | exact ⟨rfl, rfl⟩)); clear hK K)
      refine reg_p (i := 6) rfl (by kernel_rfl) (fun _ _ _ _ h => h) HH.out (fun K hK => ?_)
      go_simp
      first | (refine hK _ ?_; clear hK K) | (apply Exists.intro; refine ⟨?_, hK _ ?_⟩; (focus (intro wx; first | (go_simp; first | rfl) | rfl)); clear hK K)
      refine reg_p (i := 7) rfl (by kernel_rfl) (fun _ _ _ _ h => h) HH.out (fun K hK => ?_)
      go_simp
      first | (refine hK _ ?_; clear hK K) | (apply Exists.intro; refine ⟨?_, hK _ ?_⟩; (focus (intro wx; first | (go_simp; first | rfl) | rfl)); clear hK K)
      refine reg_p (i := 8) rfl (by kernel_rfl) (fun _ _ _ _ h => h) HH.out (fun K hK => ?_)
      go_simp
      first | (refine hK _ ?_; clear hK K) | (apply Exists.intro; refine ⟨?_, hK _ ?_⟩; (focus (intro wx; first | (go_simp; first | rfl) | rfl)); clear hK K)
      refine reg_p (i := 9) rfl (by kernel_rfl) (fun _ _ _ _ h => h) HH.out (fun K hK => ?_)
      go_simp
      first | (refine hK _ ?_; clear hK K) | (apply Exists.intro; refine ⟨?_, hK _ ?_⟩; (focus (intro wx; first | (go_simp; first | rfl) | rfl)); clear hK K)
      refine mixk_q (i := 10) rfl (by kernel_rfl) (fun _ _ _ _ h => h) HH.out (fun K hK => ?_)
      go_simp
      first | (refine hK _ ?_; clear hK K) | (apply Exists.intro; refine ⟨?_, hK _ ?_⟩; (focus (intro wx hx; have k0_ := hcb.out _ hx.tail 0 _ rfl; have k1_ := hcb.out _ hx.tail 1 _ rfl; have k2_ := hcb.out _ hx.tail 2 _ rfl; rw [Nat.add_zero] at k0_; first | (go_simp; first | rfl | exact ⟨rfl, rfl⟩) | rfl | exact ⟨rfl, rfl⟩)); clear hK K)
      refine reg_p (i := 11) rfl (by kernel_rfl) (fun _ _ _ _ h => h) HH.out (fun K hK => ?_)
      go_simp
      first | (refine hK _ ?_; clear hK K) | (apply Exists.intro; refine ⟨?_, hK _ ?_⟩; (focus (intro wx; first | (go_simp; first | rfl) | rfl)); clear hK K)
      refine reg_p (i := 12) rfl (by kernel_rfl) (fun _ _ _ _ h => h) HH.out (fun K hK => ?_)
      go_simp
      first | (refine hK _ ?_; clear hK K) | (apply Exists.intro; refine ⟨?_, hK _ ?_⟩; (focus (intro wx; first | (go_simp; first | rfl) | rfl)); clear hK K)
      refine reg_p (i := 13) rfl (by kernel_rfl) (fun _ _ _ _ h => h) HH.out (fun K hK => ?_)
      go_simp
      first | (refine hK _ ?_; clear hK K) | (apply Exists.intro; refine ⟨?_, hK _ ?_⟩; (focus (intro wx; first | (go_simp; first | rfl) | rfl)); clear hK K)
      refine reg_p (i := 14) rfl (by kernel_rfl) (fun _ _ _ _ h => h) HH.out (fun K hK => ?_)
      go_simp
      first | (refine hK _ ?_; clear hK K) | (apply Exists.intro; refine ⟨?_, hK _ ?_⟩; (focus (intro wx; first | (go_simp; first | rfl) | rfl)); clear hK K)
      refine mixk_q (i := 15) rfl (by kernel_rfl) (fun _ _ _ _ h => h) HH.out (fun K hK => ?_)
      go_simp
      first | (refine hK _ ?_; clear hK K) | (apply Exists.intro; refine ⟨?_, hK _ ?_⟩; (focus (intro wx hx; have k0_ := hcb.out _ hx.tail 0 _ rfl; have k1_ := hcb.out _ hx.tail 1 _ rfl; have k2_ := hcb.out _ hx.tail 2 _ rfl; rw [Nat.add_zero] at k0_; first | (go_simp; first | rfl | exact ⟨rfl, rfl⟩) | rfl | exact ⟨rfl, rfl⟩)); clear hK K)
      refine reg_p (i := 16) rfl (by kernel_rfl) (fun _ _ _ _ h => h) HH.out (fun K hK => ?_)
      go_simp
      first | (refine hK _ ?_; clear hK K) | (apply Exists.intro; refine ⟨?_, hK _ ?_⟩; (focus (intro wx; first | (go_simp; first | rfl) | rfl)); clear hK K)
      refine reg_l (some 18) (i := 17) rfl (by kernel_rfl) (fun wn hk K hK => ?_)
      replace HH := Lib.hid (hk _ _ HH.out)
      clear hk
      go_simp
      replace HH := Lib.hid (HH.out.alloc (.cells #[.int .u64 x1, .int .u64 x2, .int .u64 x3] 50))
      generalize wn.alloc (.cells #[.int .u64 x1, .int .u64 x2, .int .u64 x3] 50) = wm at *
      generalize wn.heap.size = sb at *
      refine hK _ _ _ HH.out (.inr ⟨rfl, fun _ h => h.tail⟩) ?_
      clear hK K
      refine reg_l none (i := 18) rfl (by kernel_rfl) (fun wn hk K hK => ?_)
      replace HH := Lib.hid (hk _ _ HH.out)
      clear hk
      refine want rfl (wp_append_slc _ _ 32 rfl 50 3 24 Try.underlying32 (by kernel_rfl) (by decide) rfl (HH.out.r2) rfl (hlen.out) ((show srcAt wn (some ⟨sb, 0, none⟩) 1 3 [.int .u64 x1, .int .u64 x2, .int .u64 x3] from ⟨rfl, .inr ⟨sb, 0, rfl, fun j u hj => by rw [Nat.zero_add, HH.out.cells.1 j]; simpa using hj⟩⟩)) ((by repeat (first | (refine List.forall_mem_cons.2 ⟨(by first | with_reducible assumption | rfl), ?_⟩) | exact fun _ h => absurd h List.not_mem_nil))) (by simp only [maxLen]; omega) (by omega) ?_)
      intro v1 wm H9_
      obtain ⟨A_v1, n_v1, c_v1, rfl⟩ := H9_.slc_isv
      replace HH := Lib.hid H9_
      clear H9_
      refine hK _ _ _ HH.out (.inl (by kernel_rfl)) ?_
      clear hK K
      refine reg_p (i := 19) rfl (by kernel_rfl) (fun _ _ _ _ h => h) HH.out (fun K hK => ?_)
      go_simp
      first | (refine hK _ ?_; clear hK K) | (apply Exists.intro; refine ⟨?_, hK _ ?_⟩; (focus (intro wx; first | (go_simp; first | rfl) | rfl)); clear hK K)
      refine mixk_done (by kernel_rfl) (fun w2_ hk => ?_) _
      replace HH := Lib.hid (hk _ _ HH.out)
      clear hk
      go_wp2_with fail
      go_roundw
      case rel =>
        refine ⟨k + 1, by omega, by go_num, ?_⟩
        rw [e1.out, encs_snoc]
        exact HH.out.r2.tail
      case measure => simp [intOf]; omega
    · have hkn : k = n := by omega
      subst hkn
      have e1 : ts.take k = ts := List.take_of_length_le (by omega)
      rw [e1] at HH
      go_wp2_with fail
      go_ret
      exact ⟨_, rfl, HH.out⟩
set_option maxHeartbeats 3200000 in
theorem same22_c (A B : Option Addr) (n m c d : Nat) (l l' : List MRow) (hA : itAt MRow.cells 5 w A n l) (hB : itAt MRow.cells 5 w B m l') (hn : n ≤ maxLen) :
    Calls Try.prog 20 #[.slice A n c, .slice B m d] w fun e w' => e = .returned (.bool (decide (l = l'))) ∧ ∃ k, w' = w.drewN k := by
  by_cases hnm : ¬ n = m
  · have hne : decide (l = l') = false := by
      simp only [decide_eq_false_iff_not]
      intro e; apply hnm; rw [← hA.1, ← hB.1, e]
    rw [hne]
    have hb : ((n : Int) == (m : Int)) = false := by simp; omega
    have hb2 : ((n : Int) != (m : Int)) = true := by simp only [bne, hb, Bool.not_false]
    clear hA hB
    go_enter Try.func20, Try.ntmps20
    go_wp2_with fail
    go_ret
    exact ⟨rfl, 0, rfl⟩
  obtain rfl := Decidable.not_not.1 hnm
  clear hnm
  have hls : l.length = l'.length := by rw [hA.1, hB.1]
  have hl1 := hA.1
  replace hA := Lib.hid hA
  replace hB := Lib.hid hB
  unfold maxLen at hn
  go_enter Try.func20, Try.ntmps20
  go_wp2_with fail
  go_loopw [5] (fun i wr => ∃ k j : Nat, k ≤ n ∧ i = .int .i64 k ∧ l.take k = l'.take k ∧ wr = w.drewN j) (fun i _ => n - (intOf i).toNat)
  case atStart => exact ⟨0, 0, Nat.zero_le _, rfl, rfl, rfl⟩
  case round =>
    obtain ⟨k, j, hk, rfl, hT, hwr⟩ := hrel
    have hA2 : itAt MRow.cells 5 wr A n l := by rw [hwr]; exact hA.out
    have hB2 : itAt MRow.cells 5 wr B n l' := by rw [hwr]; exact hB.out
    replace hwr := Lib.hid hwr
    replace hT := Lib.hid hT
    by_cases hlt : k < n
    · obtain ⟨g, off, p, rfl, hp, hc⟩ := hA2.get hlt
      obtain ⟨g', off', q, rfl, hq, hd⟩ := hB2.get hlt
      have hstep := take_eq_stepM hT.out hp hq
      obtain ⟨p0, p1, p2, p3, p4⟩ := p
      obtain ⟨q0, q1, q2, q3, q4⟩ := q
      have k0 := hc 0 _ rfl
      have k1 := hc 1 _ rfl
      have k2 := hc 2 _ rfl
      have k3 := hc 3 _ rfl
      have k4 := hc 4 _ rfl
      have m0 := hd 0 _ rfl
      have m1 := hd 1 _ rfl
      have m2 := hd 2 _ rfl
      have m3 := hd 3 _ rfl
      have m4 := hd 4 _ rfl
      rw [Nat.add_zero] at k0 m0
      clear hA2 hB2 hc hd
      replace hp := Lib.hid hp
      replace hq := Lib.hid hq
      by_cases he : (⟨p0, p1, p2, p3, p4⟩ : MRow) = ⟨q0, q1, q2, q3, q4⟩
      · have hx : MRow.beq ⟨p0, p1, p2, p3, p4⟩ ⟨q0, q1, q2, q3, q4⟩ = true := MRow.beq_true he
        have hs := Lib.hid (hstep.2 he)
        clear hstep he
        go_wp2_with fail
        go_quiet (fail)
        clear k0 k1 k2 k3 k4 m0 m1 m2 m3 m4 hx
        go_wp2_with fail
        go_roundw
        case rel => exact ⟨k + 1, j + nq, by omega, by go_num, hs.out, by rw [hwr.out, drewN_drewNM]⟩
        case measure => simp [intOf]; omega
      · have hx : MRow.beq ⟨p0, p1, p2, p3, p4⟩ ⟨q0, q1, q2, q3, q4⟩ = false := MRow.beq_false he
        have hne : decide (l = l') = false := by
          simp only [decide_eq_false_iff_not]
          intro e; exact he (hstep.1 (by rw [e]))
        clear hstep he
        go_wp2_with fail
        go_quiet (fail)
        clear k0 k1 k2 k3 k4 m0 m1 m2 m3 m4 hx
        go_wp2_with fail
        go_ret
        exact ⟨congrArg (fun x => Ending.returned (Value.bool x)) hne.symm, j + nq, by rw [hwr.out, drewN_drewNM]⟩
    · clear hA2 hB2
      have hkn : k = n := by omega
      subst hkn
      have he : decide (l = l') = true := by
        simp only [decide_eq_true_eq]
        have := hT.out
        rwa [List.take_of_length_le (by omega), List.take_of_length_le (by omega)] at this
      go_wp2_with fail
      go_ret
      exact ⟨congrArg (fun x => Ending.returned (Value.bool x)) he.symm, j, hwr.out⟩
end
end Go.Proofs.Ytoimbdbajpjmjaa
