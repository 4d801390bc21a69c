/- meter: the reference's Run, Check, Turns. -/
import Derived.Test.YtoimbdbajpjmjaaMeter5
namespace Go.Proofs.Ytoimbdbajpjmjaa
open Go.RowKit
section
variable (ε w : World) (R : List Asn)
theorem sub_min {a b : Int} : ssub b a = b - min a b := by
  unfold ssub
  split <;> omega
set_option maxHeartbeats 3200000 in
theorem rCheck_c (room : Int) (A : Option Addr) (n cap : Nat) (ts : List MRow) (hU : ∀ t ∈ ts, t.Ok) (hA : ∀ wx, Own ε wx R → itAt MRow.cells 5 wx A n ts) (hn : n ≤ 9223372036854775807) (H : Own ε w R) :
    Calls Try.prog 23 #[.int .u64 room, .slice A n cap] w fun e w' => e = .returned (.tuple #[.int .i64 (mChecked room ts).1, .int .i64 (mChecked room ts).2]) ∧ Own ε w' R := by
  have hl := (hA w H).1
  have HH := Lib.hid H; clear H
  by_cases h1 : 72057594037927936 < room
  · rw [show mChecked room ts = (0, 1) from if_pos (.inl h1)]
    go_enter Try.func23, Try.ntmps23
    go_wp2_with fail
    go_ret2
    exact ⟨rfl, HH.out⟩
  by_cases h2 : 65536 < n
  · rw [show mChecked room ts = (0, 1) from if_pos (.inr (by omega))]
    go_enter Try.func23, Try.ntmps23
    go_wp2_with fail
    go_ret2
    exact ⟨rfl, HH.out⟩
  rw [show mChecked room ts = mCheck room MRow.zero 0 ts from if_neg (by omega)]
  replace hA := Lib.hid hA
  replace hU := Lib.hid hU
  go_enter Try.func23, Try.ntmps23
  go_wp2_with (with_reducible refine stop_al ?_)
  refine Stop.go ?_
  refine wpList_alloc_own HH.out [.int .u64 0, .int .u64 0, .int .u64 0, .int .u64 0, .int .u64 0] (by kernel_rfl) ?_
  intro bx w1_ H9_
  replace HH := Lib.hid H9_
  clear H9_
  go_wp2_with (with_reducible refine stop_st ?_)
  refine Stop.go ?_
  refine wpList_store_own _ #[_, _, _, _, _] rfl rfl HH.out (by kernel_rfl) rfl (by repeat (first | (refine List.forall_mem_cons.2 ⟨(by first | with_reducible assumption | rfl), ?_⟩) | exact fun _ h => absurd h List.not_mem_nil)) ?_
  intro w2_ H9_
  replace HH := Lib.hid H9_
  clear H9_
  go_wp2_with fail
  go_loopw [7, 8] (fun i _ wr => ∃ (k : Nat) (a : MRow), k ≤ n ∧ i = .int .i64 k ∧ a.Ok ∧ a.few (k * 1099511627776) ∧ mCheck room a k (ts.drop k) = mCheck room MRow.zero 0 ts ∧ Own ε wr (pts bx (.cells a.cells.toArray 114 (0, 0)) :: R)) (fun i _ _ => n - (intOf i).toNat)
  case atStart => exact ⟨0, MRow.zero, Nat.zero_le _, rfl, ⟨U_zero, U_zero, U_zero, U_zero, U_zero⟩, ⟨by decide, by decide, by decide, by decide, by decide⟩, rfl, HH.out⟩
  case round =>
    obtain ⟨k, a, hk, rfl, ha, hfew, hC, HR⟩ := hrel
    replace HH := Lib.hid HR
    clear HR
    by_cases hlt : k < n
    · obtain ⟨g, off, b, rfl, hb, hc⟩ := (hA.out _ HH.out.tail).get hlt
      have hbo := hU.out b (List.mem_of_getElem? hb)
      have hdr := drop_cons_get hb
      rw [hdr, mCheck_cons] at hC
      have hcl := fun wx => rClause_c wx room (k * 1099511627776) a b ha hbo hfew (by omega)
      have hfn : mClause room a b = 0 → b.few ((k + 1 : Nat) * 1099511627776) := fun h => by
        have := MRow.few_next hfew (mClause_zero_falls h)
        rw [show ((k + 1 : Nat) : Int) * 1099511627776 = (k : Int) * 1099511627776 + 1099511627776 by omega]
        exact this
      have hpos : 0 ≤ mClause room a b := by unfold mClause; (repeat' split) <;> omega
      generalize mClause room a b = cl at hC hcl hfn hpos
      have hcb : ∀ wx, Own ε wx R → ∀ j u, b.cells[j]? = some u → wx.cell? ⟨g, off + k * 5 + j, none⟩ = some u := fun wx Hx j u hu => by
        obtain ⟨g2, off2, b2, e, hb2, hc2⟩ := (hA.out wx Hx).get hlt
        cases e
        rw [hb] at hb2
        cases hb2
        exact hc2 j u hu
      obtain ⟨a1, a2, a3, a4, a5⟩ := a
      obtain ⟨b1, b2, b3, b4, b5⟩ := b
      simp only [MRow.cells] at HH
      clear ha hfew hdr hb hc
      replace hcl := Lib.hid hcl
      replace hbo := Lib.hid hbo
      replace hC := Lib.hid hC
      replace hfn := Lib.hid hfn
      replace hcb := Lib.hid hcb
      go_wp2_with fail
      go_wp2_with fail
      refine wp_region_reg none HH.out (by kernel_rfl) ?_
      intro wm H9_
      replace HH := Lib.hid H9_
      clear H9_
      refine reg_p (i := 0) rfl (by kernel_rfl) (fun _ _ _ _ h => h) HH.out (fun K hK => ?_)
      go_simp
      first | (refine hK _ ?_; clear hK K) | (apply Exists.intro; refine ⟨?_, hK _ ?_⟩; (focus (intro wx; first | (go_simp; first | rfl) | rfl)); clear hK K)
      refine mixk_q (i := 1) rfl (by kernel_rfl) (fun _ _ _ _ h => h) HH.out (fun K hK => ?_)
      go_simp
      first | (refine hK _ ?_; clear hK K) | (apply Exists.intro; refine ⟨?_, hK _ ?_⟩; (focus (intro wx hx; have x1_ := hx.cells; have k0_ := hcb.out _ hx.tail 0 _ rfl; have k1_ := hcb.out _ hx.tail 1 _ rfl; have k2_ := hcb.out _ hx.tail 2 _ rfl; have k3_ := hcb.out _ hx.tail 3 _ rfl; have k4_ := hcb.out _ hx.tail 4 _ rfl; rw [Nat.add_zero] at k0_; first | (first | (go_at_call 63; refine (hcl.out wx).mono ?_; rintro e wy ⟨rfl, hbel⟩; exact ⟨rfl, (by first | exact Kp.same hbel | exact Kp.drew hbel | exact Kp.below hbel : Kp wx wy)⟩)) | (go_simp; first | rfl | exact ⟨rfl, rfl⟩) | rfl | exact ⟨rfl, rfl⟩)); clear hK K)
      refine reg_p (i := 2) rfl (by kernel_rfl) (fun _ _ _ _ h => h) HH.out (fun K hK => ?_)
      go_simp
      first | (refine hK _ ?_; clear hK K) | (apply Exists.intro; refine ⟨?_, hK _ ?_⟩; (focus (intro wx; first | (go_simp; first | rfl) | rfl)); clear hK K)
      refine reg_p (i := 3) rfl (by kernel_rfl) (fun _ _ _ _ h => h) HH.out (fun K hK => ?_)
      go_simp
      first | (refine hK _ ?_; clear hK K) | (apply Exists.intro; refine ⟨?_, hK _ ?_⟩; (focus (intro wx; first | (go_simp; first | rfl) | rfl)); clear hK K)
      refine reg_p (i := 4) rfl (by kernel_rfl) (fun _ _ _ _ h => h) HH.out (fun K hK => ?_)
      go_simp
      first | (refine hK _ ?_; clear hK K) | (apply Exists.intro; refine ⟨?_, hK _ ?_⟩; (focus (intro wx; first | (go_simp; first | rfl) | rfl)); clear hK K)
      refine mixk_q (i := 5) rfl (by kernel_rfl) (fun _ _ _ _ h => h) HH.out (fun K hK => ?_)
      go_simp
      first | (refine hK _ ?_; clear hK K) | (apply Exists.intro; refine ⟨?_, hK _ ?_⟩; (focus (intro wx hx; have x1_ := hx.cells; have k0_ := hcb.out _ hx.tail 0 _ rfl; have k1_ := hcb.out _ hx.tail 1 _ rfl; have k2_ := hcb.out _ hx.tail 2 _ rfl; have k3_ := hcb.out _ hx.tail 3 _ rfl; have k4_ := hcb.out _ hx.tail 4 _ rfl; rw [Nat.add_zero] at k0_; first | (first | (go_at_call 63; refine (hcl.out wx).mono ?_; rintro e wy ⟨rfl, hbel⟩; exact ⟨rfl, (by first | exact Kp.same hbel | exact Kp.drew hbel | exact Kp.below hbel : Kp wx wy)⟩)) | (go_simp; first | rfl | exact ⟨rfl, rfl⟩) | rfl | exact ⟨rfl, rfl⟩)); clear hK K)
      refine mixk_q (i := 6) rfl (by kernel_rfl) (fun _ _ _ _ h => h) HH.out (fun K hK => ?_)
      go_simp
      first | (refine hK _ ?_; clear hK K) | (apply Exists.intro; refine ⟨?_, hK _ ?_⟩; (focus (intro wx hx; have x1_ := hx.cells; have k0_ := hcb.out _ hx.tail 0 _ rfl; have k1_ := hcb.out _ hx.tail 1 _ rfl; have k2_ := hcb.out _ hx.tail 2 _ rfl; have k3_ := hcb.out _ hx.tail 3 _ rfl; have k4_ := hcb.out _ hx.tail 4 _ rfl; rw [Nat.add_zero] at k0_; first | (first | (go_at_call 63; refine (hcl.out wx).mono ?_; rintro e wy ⟨rfl, hbel⟩; exact ⟨rfl, (by first | exact Kp.same hbel | exact Kp.drew hbel | exact Kp.below hbel : Kp wx wy)⟩)) | (go_simp; first | rfl | exact ⟨rfl, rfl⟩) | rfl | exact ⟨rfl, rfl⟩)); clear hK K)
      refine reg_p (i := 7) rfl (by kernel_rfl) (fun _ _ _ _ h => h) HH.out (fun K hK => ?_)
      go_simp
      first | (refine hK _ ?_; clear hK K) | (apply Exists.intro; refine ⟨?_, hK _ ?_⟩; (focus (intro wx; first | (go_simp; first | rfl) | rfl)); clear hK K)
      refine mixk_done (by kernel_rfl) (fun w3_ hk => ?_) _
      replace HH := Lib.hid (hk _ _ HH.out)
      clear hk
      by_cases hz : cl = 0
      · subst hz
        have e1 := hC.out
        rw [if_pos rfl] at e1
        replace e1 := Lib.hid e1
        have hfw := hfn.out rfl
        replace hfw := Lib.hid hfw
        clear hfn
        have k0 := hcb.out _ HH.out.tail 0 _ rfl
        have k1 := hcb.out _ HH.out.tail 1 _ rfl
        have k2 := hcb.out _ HH.out.tail 2 _ rfl
        have k3 := hcb.out _ HH.out.tail 3 _ rfl
        have k4 := hcb.out _ HH.out.tail 4 _ rfl
        rw [Nat.add_zero] at k0
        go_wp2_with (with_reducible refine stop_st ?_)
        refine Stop.go ?_
        refine wpList_store_own _ #[_, _, _, _, _] rfl rfl HH.out (by kernel_rfl) rfl (by repeat (first | (refine List.forall_mem_cons.2 ⟨(by first | with_reducible assumption | rfl), ?_⟩) | exact fun _ h => absurd h List.not_mem_nil)) ?_
        intro w4_ H9_
        replace HH := Lib.hid H9_
        clear H9_
        clear k0 k1 k2 k3 k4
        go_wp2_with fail
        go_roundw
        case rel => exact ⟨k + 1, ⟨b1, b2, b3, b4, b5⟩, by omega, by go_num, hbo.out, hfw.out, e1.out, HH.out⟩
        case measure => simp [intOf]; omega
      · have e1 := hC.out
        rw [if_neg hz] at e1
        replace e1 := Lib.hid e1
        have hzb : 0 < cl := by omega
        go_wp2_with fail
        go_ret2
        exact ⟨congrArg (fun p : Int × Int => Ending.returned (Value.tuple #[.int .i64 p.1, .int .i64 p.2])) e1.out, HH.out.tail⟩
    · have hkn : k = n := by omega
      subst hkn
      have e1 : ts.drop k = [] := List.drop_of_length_le (by omega)
      rw [e1] at hC
      replace hC := Lib.hid hC
      go_wp2_with fail
      go_ret2
      exact ⟨congrArg (fun p : Int × Int => Ending.returned (Value.tuple #[.int .i64 p.1, .int .i64 p.2])) hC.out, HH.out.tail⟩
set_option maxHeartbeats 3200000 in
theorem rTurns_c (A : Option Addr) (n cap : Nat) (ts : List MRow) (hU : ∀ t ∈ ts, t.Ok) (hA : ∀ wx, Own ε wx R → itAt MRow.cells 5 wx A n ts) (hn : n ≤ 65536) (H : Own ε w R) :
    Calls Try.prog 25 #[.slice A n cap] w fun e w' => ∃ v, e = .returned v ∧ Own ε w' (slc 50 3 v (encs MTurn.cells (mTurns MRow.zero ts)) :: R) := by
  have hl := (hA w H).1
  have HH := Lib.hid H; clear H
  replace hA := Lib.hid hA
  replace hU := Lib.hid hU
  go_enter Try.func25, Try.ntmps25
  go_wp2_with (with_reducible refine stop_al ?_)
  refine Stop.go ?_
  refine wpList_alloc_own HH.out [.int .u64 0, .int .u64 0, .int .u64 0, .int .u64 0, .int .u64 0] (by kernel_rfl) ?_
  intro bx w5_ H9_
  replace HH := Lib.hid H9_
  clear H9_
  go_wp2_with (with_reducible refine stop_st ?_)
  refine Stop.go ?_
  refine wpList_store_own _ #[_, _, _, _, _] rfl rfl HH.out (by kernel_rfl) rfl (by repeat (first | (refine List.forall_mem_cons.2 ⟨(by first | with_reducible assumption | rfl), ?_⟩) | exact fun _ h => absurd h List.not_mem_nil)) ?_
  intro w6_ H9_
  replace HH := Lib.hid H9_
  clear H9_
  replace HH := Lib.hid (HH.out.slc_none (T := 50) (sz := 3))
  go_wp2_with fail
  go_loopw [3, 5] (fun v i wr => ∃ (k : Nat) (a : MRow) (T0 : List MTurn), k ≤ n ∧ i = .int .i64 k ∧ a.Ok ∧ T0.length = k ∧ T0 ++ mTurns a (ts.drop k) = mTurns MRow.zero ts ∧ Own ε wr (slc 50 3 v (encs MTurn.cells T0) :: pts bx (.cells a.cells.toArray 114 (0, 0)) :: R)) (fun _ i _ => n - (intOf i).toNat)
  case atStart => exact ⟨0, MRow.zero, [], Nat.zero_le _, rfl, ⟨U_zero, U_zero, U_zero, U_zero, U_zero⟩, rfl, rfl, HH.out⟩
  case round =>
    obtain ⟨k, a, T0, hk, rfl, ha, hT0, hC, HR⟩ := hrel
    replace HH := Lib.hid HR
    clear HR
    by_cases hlt : k < n
    · obtain ⟨g, off, b, rfl, hb, hc⟩ := (hA.out _ HH.out.tail.tail).get hlt
      have hcb : ∀ wx, Own ε wx R → ∀ j u, b.cells[j]? = some u → wx.cell? ⟨g, off + k * 5 + j, none⟩ = some u := fun wx Hx j u hu => by
        obtain ⟨g2, off2, b2, e, hb2, hc2⟩ := (hA.out wx Hx).get hlt
        cases e
        rw [hb] at hb2
        cases hb2
        exact hc2 j u hu
      have hbo := hU.out b (List.mem_of_getElem? hb)
      have hdr := drop_cons_get hb
      rw [hdr] at hC
      have hC2 : (T0 ++ [a.turn b]) ++ mTurns b (ts.drop (k + 1)) = mTurns MRow.zero ts := by rw [← hC]; simp [mTurns]
      have hlen : (encs MTurn.cells T0).length = k * 3 := by rw [encs_len MTurn.len, hT0]
      have htn : a.turn b = ⟨ssub b.g a.g, ssub b.c a.c, ssub b.v a.v⟩ := by
        unfold MRow.turn
        rw [sub_min, sub_min, sub_min]
      obtain ⟨s1, hs1⟩ : ∃ s1, ssub b.g a.g = s1 := ⟨_, rfl⟩
      obtain ⟨s2, hs2⟩ : ∃ s2, ssub b.c a.c = s2 := ⟨_, rfl⟩
      obtain ⟨s3, hs3⟩ : ∃ s3, ssub b.v a.v = s3 := ⟨_, rfl⟩
      rw [hs1, hs2, hs3] at htn
      rw [htn] at hC2
      have hb1 := hbo.1
      have hb2 := hbo.2.1
      have hb5 := hbo.2.2.2.2
      have ha1 := ha.1
      have ha2 := ha.2.1
      have ha5 := ha.2.2.2.2
      obtain ⟨a1, a2, a3, a4, a5⟩ := a
      obtain ⟨b1, b2, b3, b4, b5⟩ := b
      simp only [MRow.cells] at HH
      simp only at hs1 hs2 hs3 hb1 hb2 hb5 ha1 ha2 ha5
      clear ha hdr hb hC hc htn
      replace hs1 := Lib.hid hs1
      replace hs2 := Lib.hid hs2
      replace hs3 := Lib.hid hs3
      replace hbo := Lib.hid hbo
      replace hC2 := Lib.hid hC2
      replace hlen := Lib.hid hlen
      replace hT0 := Lib.hid hT0
      replace hcb := Lib.hid hcb
      have hc1 : ∀ wx, Calls Try.prog 64 #[.int .u64 b1, .int .u64 a1] wx fun e w' => e = .returned (.int .u64 s1) ∧ wx = w' := fun wx => by have := refSub_c wx b1 a1 hb1 ha1; rw [hs1.out] at this; exact this
      have hc2 : ∀ wx, Calls Try.prog 64 #[.int .u64 b2, .int .u64 a2] wx fun e w' => e = .returned (.int .u64 s2) ∧ wx = w' := fun wx => by have := refSub_c wx b2 a2 hb2 ha2; rw [hs2.out] at this; exact this
      have hc3 : ∀ wx, Calls Try.prog 64 #[.int .u64 b5, .int .u64 a5] wx fun e w' => e = .returned (.int .u64 s3) ∧ wx = w' := fun wx => by have := refSub_c wx b5 a5 hb5 ha5; rw [hs3.out] at this; exact this
      clear hb1 hb2 hb5 ha1 ha2 ha5
      replace hc1 := Lib.hid hc1
      replace hc2 := Lib.hid hc2
      replace hc3 := Lib.hid hc3
      go_wp2_with fail
      go_wp2_with fail
      refine wp_region_reg (some 27) HH.out (by kernel_rfl) ?_
      intro wm H9_
      replace HH := Lib.hid H9_
      clear H9_
      refine reg_p (i := 0) rfl (by kernel_rfl) (fun _ _ _ _ h => h) HH.out (fun K hK => ?_)
      go_simp
      first | (refine hK _ ?_; clear hK K) | (apply Exists.intro; refine ⟨?_, hK _ ?_⟩; (focus (intro wx; first | (go_simp; first | rfl) | rfl)); clear hK K)
      refine reg_p (i := 1) rfl (by kernel_rfl) (fun _ _ _ _ h => h) HH.out (fun K hK => ?_)
      go_simp
      first | (refine hK _ ?_; clear hK K) | (apply Exists.intro; refine ⟨?_, hK _ ?_⟩; (focus (intro wx; first | (go_simp; first | rfl) | rfl)); clear hK K)
      refine reg_p (i := 2) rfl (by kernel_rfl) (fun _ _ _ _ h => h) HH.out (fun K hK => ?_)
      go_simp
      first | (refine hK _ ?_; clear hK K) | (apply Exists.intro; refine ⟨?_, hK _ ?_⟩; (focus (intro wx; first | (go_simp; first | rfl) | rfl)); clear hK K)
      refine reg_p (i := 3) rfl (by kernel_rfl) (fun _ _ _ _ h => h) HH.out (fun K hK => ?_)
      go_simp
      first | (refine hK _ ?_; clear hK K) | (apply Exists.intro; refine ⟨?_, hK _ ?_⟩; (focus (intro wx; first | (go_simp; first | rfl) | rfl)); clear hK K)
      refine reg_p (i := 4) rfl (by kernel_rfl) (fun _ _ _ _ h => h) HH.out (fun K hK => ?_)
      go_simp
      first | (refine hK _ ?_; clear hK K) | (apply Exists.intro; refine ⟨?_, hK _ ?_⟩; (focus (intro wx; first | (go_simp; first | rfl) | rfl)); clear hK K)
      refine mixk_q (i := 5) rfl (by kernel_rfl) (fun _ _ _ _ h => h) HH.out (fun K hK => ?_)
      go_simp
      first | (refine hK _ ?_; clear hK K) | (apply Exists.intro; refine ⟨?_, hK _ ?_⟩; (focus (intro wx hx; have x2_ := hx.r2.cells; have k0_ := hcb.out _ hx.tail.tail 0 _ rfl; have k1_ := hcb.out _ hx.tail.tail 1 _ rfl; have k4_ := hcb.out _ hx.tail.tail 4 _ rfl; rw [Nat.add_zero] at k0_; first | (first | (go_at_call 64; (with_reducible refine (hc1.out wx).mono ?_); rintro e wy ⟨rfl, hbel⟩; exact ⟨rfl, (by first | exact Kp.same hbel | exact Kp.drew hbel | exact Kp.below hbel : Kp wx wy)⟩) | (go_at_call 64; (with_reducible refine (hc2.out wx).mono ?_); rintro e wy ⟨rfl, hbel⟩; exact ⟨rfl, (by first | exact Kp.same hbel | exact Kp.drew hbel | exact Kp.below hbel : Kp wx wy)⟩) | (go_at_call 64; (with_reducible refine (hc3.out wx).mono ?_); rintro e wy ⟨rfl, hbel⟩; exact ⟨rfl, (by first | exact Kp.same hbel | exact Kp.drew hbel | exact Kp.below hbel : Kp wx wy)⟩)) | (go_simp; first | rfl | exact ⟨rfl, rfl⟩) | rfl | exact ⟨rfl, rfl⟩)); clear hK K)
      refine reg_p (i := 6) rfl (by kernel_rfl) (fun _ _ _ _ h => h) HH.out (fun K hK => ?_)
      go_simp
      first | (refine hK _ ?_; clear hK K) | (apply Exists.intro; refine ⟨?_, hK _ ?_⟩; (focus (intro wx; first | (go_simp; first | rfl) | rfl)); clear hK K)
      refine mixk_q (i := 7) rfl (by kernel_rfl) (fun _ _ _ _ h => h) HH.out (fun K hK => ?_)
      go_simp
      first | (refine hK _ ?_; clear hK K) | (apply Exists.intro; refine ⟨?_, hK _ ?_⟩; (focus (intro wx hx; have x2_ := hx.r2.cells; have k0_ := hcb.out _ hx.tail.tail 0 _ rfl; have k1_ := hcb.out _ hx.tail.tail 1 _ rfl; have k4_ := hcb.out _ hx.tail.tail 4 _ rfl; rw [Nat.add_zero] at k0_; first | (first | (go_at_call 64; (with_reducible refine (hc1.out wx).mono ?_); rintro e wy ⟨rfl, hbel⟩; exact ⟨rfl, (by first | exact Kp.same hbel | exact Kp.drew hbel | exact Kp.below hbel : Kp wx wy)⟩) | (go_at_call 64; (with_reducible refine (hc2.out wx).mono ?_); rintro e wy ⟨rfl, hbel⟩; exact ⟨rfl, (by first | exact Kp.same hbel | exact Kp.drew hbel | exact Kp.below hbel : Kp wx wy)⟩) | (go_at_call 64; (with_reducible refine (hc3.out wx).mono ?_); rintro e wy ⟨rfl, hbel⟩; exact ⟨rfl, (by first | exact Kp.same hbel | exact Kp.drew hbel | exact Kp.below hbel : Kp wx wy)⟩)) | (go_simp; first | rfl | exact ⟨rfl, rfl⟩) | rfl | exact ⟨rfl, rfl⟩)); clear hK K)
      refine mixk_q (i := 8) rfl (by kernel_rfl) (fun _ _ _ _ h => h) HH.out (fun K hK => ?_)
      go_simp
      first | (refine hK _ ?_; clear hK K) | (apply Exists.intro; refine ⟨?_, hK _ ?_⟩; (focus (intro wx hx; have x2_ := hx.r2.cells; have k0_ := hcb.out _ hx.tail.tail 0 _ rfl; have k1_ := hcb.out _ hx.tail.tail 1 _ rfl; have k4_ := hcb.out _ hx.tail.tail 4 _ rfl; rw [Nat.add_zero] at k0_; first | (first | (go_at_call 64; (with_reducible refine (hc1.out wx).mono ?_); rintro e wy ⟨rfl, hbel⟩; exact ⟨rfl, (by first | exact Kp.same hbel | exact Kp.drew hbel | exact Kp.below hbel : Kp wx wy)⟩) | (go_at_call 64; (with_reducible refine (hc2.out wx).mono ?_); rintro e wy ⟨rfl, hbel⟩; exact ⟨rfl, (by first | exact Kp.same hbel | exact Kp.drew hbel | exact Kp.below hbel : Kp wx wy)⟩) | (go_at_call 64; (with_reducible refine (hc3.out wx).mono ?_); rintro e wy ⟨rfl, hbel⟩; exact ⟨rfl, (by first | exact Kp.same hbel | exact Kp.drew hbel | exact Kp.below hbel : Kp wx wy)⟩)) | (go_simp; first | rfl | exact ⟨rfl, rfl⟩) | rfl | exact ⟨rfl, rfl⟩)); clear hK K)
      refine reg_p (i := 9) rfl (by kernel_rfl) (fun _ _ _ _ h => h) HH.out (fun K hK => ?_)
      go_simp
      first | (refine hK _ ?_; clear hK K) | (apply Exists.intro; refine ⟨?_, hK _ ?_⟩; (focus (intro wx; first | (go_simp; first | rfl) | rfl)); clear hK K)
      refine reg_p (i := 10) rfl (by kernel_rfl) (fun _ _ _ _ h => h) HH.out (fun K hK => ?_)
      go_simp
      first | (refine hK _ ?_; clear hK K) | (apply Exists.intro; refine ⟨?_, hK _ ?_⟩; (focus (intro wx; first | (go_simp; first | rfl) | rfl)); clear hK K)
      refine reg_p (i := 11) rfl (by kernel_rfl) (fun _ _ _ _ h => h) HH.out (fun K hK => ?_)
      go_simp
      first | (refine hK _ ?_; clear hK K) | (apply Exists.intro; refine ⟨?_, hK _ ?_⟩; (focus (intro wx; first | (go_simp; first | rfl) | rfl)); clear hK K)
      refine reg_p (i := 12) rfl (by kernel_rfl) (fun _ _ _ _ h => h) HH.out (fun K hK => ?_)
      go_simp
      first | (refine hK _ ?_; clear hK K) | (apply Exists.intro; refine ⟨?_, hK _ ?_⟩; (focus (intro wx; first | (go_simp; first | rfl) | rfl)); clear hK K)
      refine mixk_q (i := 13) rfl (by kernel_rfl) (fun _ _ _ _ h => h) HH.out (fun K hK => ?_)
      go_simp
      first | (refine hK _ ?_; clear hK K) | (apply Exists.intro; refine ⟨?_, hK _ ?_⟩; (focus (intro wx hx; have x2_ := hx.r2.cells; have k0_ := hcb.out _ hx.tail.tail 0 _ rfl; have k1_ := hcb.out _ hx.tail.tail 1 _ rfl; have k4_ := hcb.out _ hx.tail.tail 4 _ rfl; rw [Nat.add_zero] at k0_; first | (first | (go_at_call 64; (with_reducible refine (hc1.out wx).mono ?_); rintro e wy ⟨rfl, hbel⟩; exact ⟨rfl, (by first | exact Kp.same hbel | exact Kp.drew hbel | exact Kp.below hbel : Kp wx wy)⟩) | (go_at_call 64; (with_reducible refine (hc2.out wx).mono ?_); rintro e wy ⟨rfl, hbel⟩; exact ⟨rfl, (by first | exact Kp.same hbel | exact Kp.drew hbel | exact Kp.below hbel : Kp wx wy)⟩) | (go_at_call 64; (with_reducible refine (hc3.out wx).mono ?_); rintro e wy ⟨rfl, hbel⟩; exact ⟨rfl, (by first | exact Kp.same hbel | exact Kp.drew hbel | exact Kp.below hbel : Kp wx wy)⟩)) | (go_simp; first | rfl | exact ⟨rfl, rfl⟩) | rfl | exact ⟨rfl, rfl⟩)); clear hK K)
      refine reg_p (i := 14) rfl (by kernel_rfl) (fun _ _ _ _ h => h) HH.out (fun K hK => ?_)
      go_simp
      first | (refine hK _ ?_; clear hK K) | (apply Exists.intro; refine ⟨?_, hK _ ?_⟩; (focus (intro wx; first | (go_simp; first | rfl) | rfl)); clear hK K)
      refine mixk_q (i := 15) rfl (by kernel_rfl) (fun _ _ _ _ h => h) HH.out (fun K hK => ?_)
      go_simp
      first | (refine hK _ ?_; clear hK K) | (apply Exists.intro; refine ⟨?_, hK _ ?_⟩; (focus (intro wx hx; have x2_ := hx.r2.cells; have k0_ := hcb.out _ hx.tail.tail 0 _ rfl; have k1_ := hcb.out _ hx.tail.tail 1 _ rfl; have k4_ := hcb.out _ hx.tail.tail 4 _ rfl; rw [Nat.add_zero] at k0_; first | (first | (go_at_call 64; (with_reducible refine (hc1.out wx).mono ?_); rintro e wy ⟨rfl, hbel⟩; exact ⟨rfl, (by first | exact Kp.same hbel | exact Kp.drew hbel | exact Kp.below hbel : Kp wx wy)⟩) | (go_at_call 64; (with_reducible refine (hc2.out wx).mono ?_); rintro e wy ⟨rfl, hbel⟩; exact ⟨rfl, (by first | exact Kp.same hbel | exact Kp.drew hbel | exact Kp.below hbel : Kp wx wy)⟩) | (go_at_call 64; (with_reducible refine (hc3.out wx).mono ?_); rintro e wy ⟨rfl, hbel⟩; exact ⟨rfl, (by first | exact Kp.same hbel | exact Kp.drew hbel | exact Kp.below hbel : Kp wx wy)⟩)) | (go_simp; first | rfl | exact ⟨rfl, rfl⟩) | rfl | exact ⟨rfl, rfl⟩)); clear hK K)
      refine mixk_q (i := 16) rfl (by kernel_rfl) (fun _ _ _ _ h => h) HH.out (fun K hK => ?_)
      go_simp
      first | (refine hK _ ?_; clear hK K) | (apply Exists.intro; refine ⟨?_, hK _ ?_⟩; (focus (intro wx hx; have x2_ := hx.r2.cells; have k0_ := hcb.out _ hx.tail.tail 0 _ rfl; have k1_ := hcb.out _ hx.tail.tail 1 _ rfl; have k4_ := hcb.out _ hx.tail.tail 4 _ rfl; rw [Nat.add_zero] at k0_; first | (first | (go_at_call 64; (with_reducible refine (hc1.out wx).mono ?_); rintro e wy ⟨rfl, hbel⟩; exact ⟨rfl, (by first | exact Kp.same hbel | exact Kp.drew hbel | exact Kp.below hbel : Kp wx wy)⟩) | (go_at_call 64; (with_reducible refine (hc2.out wx).mono ?_); rintro e wy ⟨rfl, hbel⟩; exact ⟨rfl, (by first | exact Kp.same hbel | exact Kp.drew hbel | exact Kp.below hbel : Kp wx wy)⟩) | (go_at_call 64; (with_reducible refine (hc3.out wx).mono ?_); rintro e wy ⟨rfl, hbel⟩; exact ⟨rfl, (by first | exact Kp.same hbel | exact Kp.drew hbel | exact Kp.below hbel : Kp wx wy)⟩)) | (go_simp; first | rfl | exact ⟨rfl, rfl⟩) | rfl | exact ⟨rfl, rfl⟩)); clear hK K)
      refine reg_p (i := 17) rfl (by kernel_rfl) (fun _ _ _ _ h => h) HH.out (fun K hK => ?_)
      go_simp
      first | (refine hK _ ?_; clear hK K) | (apply Exists.intro; refine ⟨?_, hK _ ?_⟩; (focus (intro wx; first | (go_simp; first | rfl) | rfl)); clear hK K)
      refine reg_p (i := 18) rfl (by kernel_rfl) (fun _ _ _ _ h => h) HH.out (fun K hK => ?_)
      go_simp
      first | (refine hK _ ?_; clear hK K) | (apply Exists.intro; refine ⟨?_, hK _ ?_⟩; (focus (intro wx; first | (go_simp; first | rfl) | rfl)); clear hK K)
      refine reg_p (i := 19) rfl (by kernel_rfl) (fun _ _ _ _ h => h) HH.out (fun K hK => ?_)
      go_simp
      first | (refine hK _ ?_; clear hK K) | (apply Exists.intro; refine ⟨?_, hK _ ?_⟩; (focus (intro wx; first | (go_simp; first | rfl) | rfl)); clear hK K)
      refine reg_p (i := 20) rfl (by kernel_rfl) (fun _ _ _ _ h => h) HH.out (fun K hK => ?_)
      go_simp
      first | (refine hK _ ?_; clear hK K) | (apply Exists.intro; refine ⟨?_, hK _ ?_⟩; (focus (intro wx; first | (go_simp; first | rfl) | rfl)); clear hK K)
      refine mixk_q (i := 21) rfl (by kernel_rfl) (fun _ _ _ _ h => h) HH.out (fun K hK => ?_)
      go_simp
      first | (refine hK _ ?_; clear hK K) | (apply Exists.intro; refine ⟨?_, hK _ ?_⟩; (focus (intro wx hx; have x2_ := hx.r2.cells; have k0_ := hcb.out _ hx.tail.tail 0 _ rfl; have k1_ := hcb.out _ hx.tail.tail 1 _ rfl; have k4_ := hcb.out _ hx.tail.tail 4 _ rfl; rw [Nat.add_zero] at k0_; first | (first | (go_at_call 64; (with_reducible refine (hc1.out wx).mono ?_); rintro e wy ⟨rfl, hbel⟩; exact ⟨rfl, (by first | exact Kp.same hbel | exact Kp.drew hbel | exact Kp.below hbel : Kp wx wy)⟩) | (go_at_call 64; (with_reducible refine (hc2.out wx).mono ?_); rintro e wy ⟨rfl, hbel⟩; exact ⟨rfl, (by first | exact Kp.same hbel | exact Kp.drew hbel | exact Kp.below hbel : Kp wx wy)⟩) | (go_at_call 64; (with_reducible refine (hc3.out wx).mono ?_); rintro e wy ⟨rfl, hbel⟩; exact ⟨rfl, (by first | exact Kp.same hbel | exact Kp.drew hbel | exact Kp.below hbel : Kp wx wy)⟩)) | (go_simp; first | rfl | exact ⟨rfl, rfl⟩) | rfl | exact ⟨rfl, rfl⟩)); clear hK K)
      refine reg_p (i := 22) rfl (by kernel_rfl) (fun _ _ _ _ h => h) HH.out (fun K hK => ?_)
      go_simp
      first | (refine hK _ ?_; clear hK K) | (apply Exists.intro; refine ⟨?_, hK _ ?_⟩; (focus (intro wx; first | (go_simp; first | rfl) | rfl)); clear hK K)
      refine mixk_q (i := 23) rfl (by kernel_rfl) (fun _ _ _ _ h => h) HH.out (fun K hK => ?_)
      go_simp
      first | (refine hK _ ?_; clear hK K) | (apply Exists.intro; refine ⟨?_, hK _ ?_⟩; (focus (intro wx hx; have x2_ := hx.r2.cells; have k0_ := hcb.out _ hx.tail.tail 0 _ rfl; have k1_ := hcb.out _ hx.tail.tail 1 _ rfl; have k4_ := hcb.out _ hx.tail.tail 4 _ rfl; rw [Nat.add_zero] at k0_; first | (first | (go_at_call 64; (with_reducible refine (hc1.out wx).mono ?_); rintro e wy ⟨rfl, hbel⟩; exact ⟨rfl, (by first | exact Kp.same hbel | exact Kp.drew hbel | exact Kp.below hbel : Kp wx wy)⟩) | (go_at_call 64; (with_reducible refine (hc2.out wx).mono ?_); rintro e wy ⟨rfl, hbel⟩; exact ⟨rfl, (by first | exact Kp.same hbel | exact Kp.drew hbel | exact Kp.below hbel : Kp wx wy)⟩) | (go_at_call 64; (with_reducible refine (hc3.out wx).mono ?_); rintro e wy ⟨rfl, hbel⟩; exact ⟨rfl, (by first | exact Kp.same hbel | exact Kp.drew hbel | exact Kp.below hbel : Kp wx wy)⟩)) | (go_simp; first | rfl | exact ⟨rfl, rfl⟩) | rfl | exact ⟨rfl, rfl⟩)); clear hK K)
      refine mixk_q (i := 24) rfl (by kernel_rfl) (fun _ _ _ _ h => h) HH.out (fun K hK => ?_)
      go_simp
      first | (refine hK _ ?_; clear hK K) | (apply Exists.intro; refine ⟨?_, hK _ ?_⟩; (focus (intro wx hx; have x2_ := hx.r2.cells; have k0_ := hcb.out _ hx.tail.tail 0 _ rfl; have k1_ := hcb.out _ hx.tail.tail 1 _ rfl; have k4_ := hcb.out _ hx.tail.tail 4 _ rfl; rw [Nat.add_zero] at k0_; first | (first | (go_at_call 64; (with_reducible refine (hc1.out wx).mono ?_); rintro e wy ⟨rfl, hbel⟩; exact ⟨rfl, (by first | exact Kp.same hbel | exact Kp.drew hbel | exact Kp.below hbel : Kp wx wy)⟩) | (go_at_call 64; (with_reducible refine (hc2.out wx).mono ?_); rintro e wy ⟨rfl, hbel⟩; exact ⟨rfl, (by first | exact Kp.same hbel | exact Kp.drew hbel | exact Kp.below hbel : Kp wx wy)⟩) | (go_at_call 64; (with_reducible refine (hc3.out wx).mono ?_); rintro e wy ⟨rfl, hbel⟩; exact ⟨rfl, (by first | exact Kp.same hbel | exact Kp.drew hbel | exact Kp.below hbel : Kp wx wy)⟩)) | (go_simp; first | rfl | exact ⟨rfl, rfl⟩) | rfl | exact ⟨rfl, rfl⟩)); clear hK K)
      refine reg_p (i := 25) rfl (by kernel_rfl) (fun _ _ _ _ h => h) HH.out (fun K hK => ?_)
      go_simp
      first | (refine hK _ ?_; clear hK K) | (apply Exists.intro; refine ⟨?_, hK _ ?_⟩; (focus (intro wx; first | (go_simp; first | rfl) | rfl)); clear hK K)
      refine reg_l (some 27) (i := 26) rfl (by kernel_rfl) (fun wn hk K hK => ?_)
      replace HH := Lib.hid (hk _ _ HH.out)
      clear hk
      go_simp
      replace HH := Lib.hid (HH.out.alloc (.cells #[.int .u64 s1, .int .u64 s2, .int .u64 s3] 50))
      generalize wn.alloc (.cells #[.int .u64 s1, .int .u64 s2, .int .u64 s3] 50) = wm at *
      generalize wn.heap.size = sb at *
      refine hK _ _ _ HH.out (.inr ⟨rfl, fun _ h => h.tail⟩) ?_
      clear hK K
      refine reg_l none (i := 27) rfl (by kernel_rfl) (fun wn hk K hK => ?_)
      replace HH := Lib.hid (hk _ _ HH.out)
      clear hk
      refine want rfl (wp_append_slc _ _ 32 rfl 50 3 24 Try.underlying32 (by kernel_rfl) (by decide) rfl (HH.out.r2) rfl (hlen.out) ((show srcAt wn (some ⟨sb, 0, none⟩) 1 3 [.int .u64 s1, .int .u64 s2, .int .u64 s3] from ⟨rfl, .inr ⟨sb, 0, rfl, fun j u hj => by rw [Nat.zero_add, HH.out.cells.1 j]; simpa using hj⟩⟩)) ((by repeat (first | (refine List.forall_mem_cons.2 ⟨(by first | with_reducible assumption | rfl), ?_⟩) | exact fun _ h => absurd h List.not_mem_nil))) (by simp only [maxLen]; omega) (by omega) ?_)
      intro v1 wm H9_
      obtain ⟨A_v1, n_v1, c_v1, rfl⟩ := H9_.slc_isv
      replace HH := Lib.hid H9_
      clear H9_
      refine hK _ _ _ HH.out (.inl (by kernel_rfl)) ?_
      clear hK K
      refine reg_p (i := 28) rfl (by kernel_rfl) (fun _ _ _ _ h => h) HH.out (fun K hK => ?_)
      go_simp
      first | (refine hK _ ?_; clear hK K) | (apply Exists.intro; refine ⟨?_, hK _ ?_⟩; (focus (intro wx; first | (go_simp; first | rfl) | rfl)); clear hK K)
      refine mixk_done (by kernel_rfl) (fun w7_ hk => ?_) _
      replace HH := Lib.hid (hk _ _ HH.out)
      clear hk
      replace HH := Lib.hid ((Own.pm (HH.out) (by repeat (first | with_reducible exact Pm.refl _ | with_reducible exact Pm.nil _ | with_reducible refine Pm.here ?_ | with_reducible refine Pm.at2 ?_ | with_reducible refine Pm.at3 ?_ | with_reducible refine Pm.at4 ?_ | with_reducible refine Pm.at5 ?_ | with_reducible refine Pm.at6 ?_ | with_reducible refine Pm.at7 ?_ | with_reducible refine Pm.at8 ?_ | with_reducible refine Pm.skip ?_))) : Own ε _ (pts bx _ :: slc _ 3 _ _ :: R))
      have k0 := hcb.out _ HH.out.tail.tail 0 _ rfl
      have k1 := hcb.out _ HH.out.tail.tail 1 _ rfl
      have k2 := hcb.out _ HH.out.tail.tail 2 _ rfl
      have k3 := hcb.out _ HH.out.tail.tail 3 _ rfl
      have k4 := hcb.out _ HH.out.tail.tail 4 _ rfl
      rw [Nat.add_zero] at k0
      go_wp2_with (with_reducible refine stop_st ?_)
      refine Stop.go ?_
      refine wpList_store_own _ #[_, _, _, _, _] rfl rfl HH.out (by kernel_rfl) rfl (by repeat (first | (refine List.forall_mem_cons.2 ⟨(by first | with_reducible assumption | rfl), ?_⟩) | exact fun _ h => absurd h List.not_mem_nil)) ?_
      intro w8_ H9_
      replace HH := Lib.hid H9_
      clear H9_
      clear k0 k1 k2 k3 k4
      go_wp2_with fail
      go_roundw
      case rel =>
        refine ⟨k + 1, ⟨b1, b2, b3, b4, b5⟩, T0 ++ [⟨s1, s2, s3⟩], by omega, by go_num, hbo.out, by rw [List.length_append, hT0.out]; rfl, hC2.out, ?_⟩
        rw [encs_snoc]
        exact HH.out.r2
      case measure => simp [intOf]; omega
    · have hkn : k = n := by omega
      subst hkn
      have e1 : ts.drop k = [] := List.drop_of_length_le (by omega)
      rw [e1] at hC
      replace hC := Lib.hid hC
      go_wp2_with fail
      go_ret
      refine ⟨_, rfl, ?_⟩
      rw [← hC.out, show mTurns a [] = [] from rfl, List.append_nil]
      exact HH.out.r2.tail
end
end Go.Proofs.Ytoimbdbajpjmjaa
