/- bound's laws. -/
import Derived.Test.YtnffoiocejfppaaBound2
namespace Go.Proofs.Ytnffoiocejfppaa
open Go.RowKit
@[go_sem] theorem eqBnd_run (s : Bnd) (w : World) : (binOp .eql 36 s.v s.v).run Try.prog w = .ok (.bool true) w := by
  unfold Bnd.v
  go_simp
@[go_sem] theorem eqBnd_guard (s : Bnd) (x y : Operand) (w : World) : (eqGuard .eql 36 x y s.v s.v).run Try.prog w = .ok () w := by
  unfold Bnd.v
  go_simp
theorem alive13_c (ε w : World) (L : List Asn) (H : Own ε w L) :
    Calls Try.prog 27 #[] w fun e w' => e = .returned (.bool true) ∧ Own ε w' L := by
  have HH := Lib.hid H; clear H
  go_enter Try.func27, Try.ntmps27
  go_wp2_with fail
  refine (boundNone_c _).mono ?_
  rw [show Bnd.none.v = .agg #[.int .u64 18446744073709551615, .int .u64 18446744073709551615, .int .u64 18446744073709551615] from by first | rfl | decide]
  rintro e w1 ⟨rfl, hbel⟩
  replace HH := Lib.hid ((by first | exact Kp.same hbel | exact Kp.drew hbel | exact Kp.below hbel : Kp _ w1) _ _ (by first | exact HH.out | exact HH.out.drewN _ | exact (HH.out.alloc _).tail | exact ((HH.out.alloc _).drewN _).tail | exact ((HH.out.alloc _).alloc _).tail.tail))
  clear hbel
  go_wp2_with fail
  refine (boundLose_c _ Bnd.none 50 7 100 (by decide) (by decide) (by decide) (by decide)).mono ?_
  rw [show (Bnd.none.lose 50 7 100).v = .agg #[.int .u64 18446744073709551615, .int .u64 70, .int .u64 7] from by first | rfl | decide]
  rintro e w2 ⟨rfl, hbel⟩
  replace HH := Lib.hid ((by first | exact Kp.same hbel | exact Kp.drew hbel | exact Kp.below hbel : Kp _ w2) _ _ (by first | exact HH.out | exact HH.out.drewN _ | exact (HH.out.alloc _).tail | exact ((HH.out.alloc _).drewN _).tail | exact ((HH.out.alloc _).alloc _).tail.tail))
  clear hbel
  go_wp2_with fail
  refine (boundPull_c _ ⟨18446744073709551615, 70, 7⟩ 10 100 (by decide) (by decide)).mono ?_
  rw [show ((⟨18446744073709551615, 70, 7⟩ : Bnd).pull 10 100).v = .agg #[.int .u64 70, .int .u64 70, .int .u64 7] from by first | rfl | decide]
  rintro e w3 ⟨rfl, hbel⟩
  replace HH := Lib.hid ((by first | exact Kp.same hbel | exact Kp.drew hbel | exact Kp.below hbel : Kp _ w3) _ _ (by first | exact HH.out | exact HH.out.drewN _ | exact (HH.out.alloc _).tail | exact ((HH.out.alloc _).drewN _).tail | exact ((HH.out.alloc _).alloc _).tail.tail))
  clear hbel
  go_wp2_with fail
  refine (boundPush_c _ ⟨70, 70, 7⟩ 5 (by decide) (by decide)).mono ?_
  rw [show ((⟨70, 70, 7⟩ : Bnd).push 5).v = .agg #[.int .u64 75, .int .u64 70, .int .u64 7] from by first | rfl | decide]
  rintro e w4 ⟨rfl, hbel⟩
  replace HH := Lib.hid ((by first | exact Kp.same hbel | exact Kp.drew hbel | exact Kp.below hbel : Kp _ w4) _ _ (by first | exact HH.out | exact HH.out.drewN _ | exact (HH.out.alloc _).tail | exact ((HH.out.alloc _).drewN _).tail | exact ((HH.out.alloc _).alloc _).tail.tail))
  clear hbel
  go_wp2_with (first | with_reducible refine stop_bs ?_ | with_reducible refine stop_bx ?_ | with_reducible refine stop_al ?_ | with_reducible refine stop_ms ?_ | with_reducible refine stop_app ?_ | with_reducible refine stop_copy ?_)
  refine Stop.go ?_
  go_step
  go_simp
  have H5_0 := Lib.hid (HH.out.alloc (.cells #[.int .u64 0, .int .u64 0, .int .u64 0] 34))
  generalize w4.alloc (.cells #[.int .u64 0, .int .u64 0, .int .u64 0] 34) = w5_0 at *
  generalize w4.heap.size = b1 at *
  have k9_ := H5_0.out.cells
  go_wp2_with (with_reducible refine stop_st ?_)
  refine Stop.go ?_
  go_step
  go_simp
  have H5 := Lib.hid ((show Own _ (((w5_0.setCell ⟨b1, 0, none⟩ (.int .u64 75)).setCell ⟨b1, 1, none⟩ (.int .u64 70)).setCell ⟨b1, 2, none⟩ (.int .u64 7)) _ from Own.slc_setsB H5_0.out [.int .u64 75, .int .u64 70, .int .u64 7]))
  generalize (((w5_0.setCell ⟨b1, 0, none⟩ (.int .u64 75)).setCell ⟨b1, 1, none⟩ (.int .u64 70)).setCell ⟨b1, 2, none⟩ (.int .u64 7)) = w5 at *
  clear k9_ H5_0
  (try clear k1); have k1 := H5.out.cells
  go_wp2_with fail
  refine (boundCap_c _ ⟨75, 70, 7⟩ (by decide) _ _ _ [90, 72] (by omega) (rd_new2 _ _ 90 72 (by decide) (by decide))).mono ?_
  rw [show (⟨75, 70, 7⟩ : Bnd).cap [90, 72] = 70 from by first | rfl | decide]
  rintro e w6 ⟨rfl, hbel⟩
  replace H5 := Lib.hid ((by first | exact Kp.same hbel | exact Kp.drew hbel | exact Kp.below hbel : Kp _ w6) _ _ (by first | exact H5.out | exact H5.out.drewN _ | exact (H5.out.alloc _).tail | exact ((H5.out.alloc _).drewN _).tail | exact ((H5.out.alloc _).alloc _).tail.tail))
  clear hbel
  (try clear k1); have k1 := H5.out.cells
  go_wp2_with fail
  refine (boundRoom_c _ ⟨75, 70, 7⟩ (by decide)).mono ?_
  rw [show (⟨75, 70, 7⟩ : Bnd).room = 63 from by first | rfl | decide]
  rintro e w7 ⟨rfl, hbel⟩
  replace H5 := Lib.hid ((by first | exact Kp.same hbel | exact Kp.drew hbel | exact Kp.below hbel : Kp _ w7) _ _ (by first | exact H5.out | exact H5.out.drewN _ | exact (H5.out.alloc _).tail | exact ((H5.out.alloc _).drewN _).tail | exact ((H5.out.alloc _).alloc _).tail.tail))
  clear hbel
  (try clear k1); have k1 := H5.out.cells
  go_wp2_with fail
  refine (boundLimit_c _ ⟨75, 70, 7⟩ 9).mono ?_
  rw [show (⟨75, 70, 7⟩ : Bnd).limit 9 = 7 from by first | rfl | decide]
  rintro e w8 ⟨rfl, hbel⟩
  replace H5 := Lib.hid ((by first | exact Kp.same hbel | exact Kp.drew hbel | exact Kp.below hbel : Kp _ w8) _ _ (by first | exact H5.out | exact H5.out.drewN _ | exact (H5.out.alloc _).tail | exact ((H5.out.alloc _).drewN _).tail | exact ((H5.out.alloc _).alloc _).tail.tail))
  clear hbel
  (try clear k1); have k1 := H5.out.cells
  go_wp2_with fail
  refine (boundShort_c _ ⟨75, 70, 7⟩).mono ?_
  rw [show (⟨75, 70, 7⟩ : Bnd).short.v = .agg #[.int .u64 75, .int .u64 18446744073709551615, .int .u64 18446744073709551615] from by first | rfl | decide]
  rintro e w9 ⟨rfl, hbel⟩
  replace H5 := Lib.hid ((by first | exact Kp.same hbel | exact Kp.drew hbel | exact Kp.below hbel : Kp _ w9) _ _ (by first | exact H5.out | exact H5.out.drewN _ | exact (H5.out.alloc _).tail | exact ((H5.out.alloc _).drewN _).tail | exact ((H5.out.alloc _).alloc _).tail.tail))
  clear hbel
  go_wp2_with fail
  refine (boundLimit_c _ ⟨75, 18446744073709551615, 18446744073709551615⟩ 9).mono ?_
  rw [show (⟨75, 18446744073709551615, 18446744073709551615⟩ : Bnd).limit 9 = 9 from by first | rfl | decide]
  rintro e w10 ⟨rfl, hbel⟩
  replace H5 := Lib.hid ((by first | exact Kp.same hbel | exact Kp.drew hbel | exact Kp.below hbel : Kp _ w10) _ _ (by first | exact H5.out | exact H5.out.drewN _ | exact (H5.out.alloc _).tail | exact ((H5.out.alloc _).drewN _).tail | exact ((H5.out.alloc _).alloc _).tail.tail))
  clear hbel
  go_wp2_with fail
  go_ret
  exact ⟨rfl, H5.out.tail⟩
theorem alive13_k (w : World) : Calls Try.prog 27 #[] w fun e w' => e = .returned (.bool true) ∧ Below w.heap.size w w' :=
  (alive13_c w w [old w] (Own.init w)).mono fun _ _ h => ⟨h.1, h.2.old_below⟩
abbrev B3 := Int × Int × Int × Unit
def rdB3 : Rd B3 := rdPair (rdInt .u64) (rdPair (rdInt .u64) (rdPair (rdInt .u64) rdUnit))
theorem rdB3_open {w : World} {cs : Array Value} {x : B3} (h : rdB3 w cs.toList x) : cs = #[.int .u64 x.1, .int .u64 x.2.1, .int .u64 x.2.2.1] ∧ U x.1 ∧ U x.2.1 ∧ U x.2.2.1 := by
  obtain ⟨c1, c2, e, ⟨rfl, h1⟩, c3, c4, rfl, ⟨rfl, h2⟩, c5, c6, rfl, ⟨rfl, h3⟩, rfl⟩ := h
  exact ⟨arr_of_list e, U_of_wf h1, U_of_wf h2, U_of_wf h3⟩
set_option maxRecDepth 100000 in
set_option maxHeartbeats 1600000 in
theorem boundTells_c (w : World) (bs : Array Value) (hbz : bs.size = 3) (b : B3) (hb : rdB3 w bs.toList b) (xs : Array Value) (hxz : xs.size = 3) (x : B3) (hx : rdB3 w xs.toList x) (A : Option Addr) (len cap : Nat) (l : List Int) (hr : rdSlice (rdInt .u64) 1 w [.slice A len cap] l) :
    Calls Try.prog 8 #[.agg bs, .agg xs, .slice A len cap] w fun e w' => e = .returned (.bool true) ∧ Own w w' [old w] := by
  have HH := Lib.hid (Own.init w)
  obtain ⟨rfl, hb1, hb2, hb3⟩ := rdB3_open hb
  obtain ⟨rfl, hx1, hx2, hx3⟩ := rdB3_open hx
  clear hb hx hbz hxz
  obtain ⟨hi, lo, bw, _⟩ := b
  obtain ⟨x0, x1, x2, _⟩ := x
  simp only at *
  obtain ⟨_, hlen, _⟩ := rdInts_getD hr
  replace hr := Lib.hid hr
  by_cases hbig : 100 < len
  · go_enter Try.func8, Try.ntmps8
    go_wp2_with fail
    refine (alive13_c w _ [old w] (Own.pm ((HH.out.alloc _).alloc _) (by repeat (first | with_reducible exact Pm.refl _ | with_reducible refine Pm.here ?_ | with_reducible refine Pm.at2 ?_ | with_reducible refine Pm.at3 ?_ | with_reducible refine Pm.at4 ?_ | with_reducible refine Pm.at5 ?_ | with_reducible refine Pm.at6 ?_ | with_reducible refine Pm.at7 ?_ | with_reducible refine Pm.at8 ?_ | with_reducible refine Pm.skip ?_)))).mono ?_
    rintro e w2 ⟨rfl, H2⟩
    replace HH := Lib.hid H2
    go_wp2_with fail
    go_ret
    exact ⟨rfl, HH.out⟩
  have hs : (⟨hi, lo, bw⟩ : Bnd).Ok := ⟨hb1, hb2, hb3⟩
  replace hs := Lib.hid hs
  replace hx1 := Lib.hid hx1
  replace hx2 := Lib.hid hx2
  replace hx3 := Lib.hid hx3
  clear hb1 hb2 hb3
  go_enter Try.func8, Try.ntmps8
  go_wp2_with (first | with_reducible refine stop_bs ?_ | with_reducible refine stop_bx ?_ | with_reducible refine stop_al ?_ | with_reducible refine stop_ms ?_ | with_reducible refine stop_app ?_ | with_reducible refine stop_copy ?_)
  refine Stop.go ?_
  go_step
  go_simp
  have H1 := Lib.hid (HH.out.alloc (.cells #[.int .u64 hi, .int .u64 lo, .int .u64 bw] 34))
  generalize w.alloc (.cells #[.int .u64 hi, .int .u64 lo, .int .u64 bw] 34) = w1 at *
  generalize w.heap.size = b1 at *
  go_wp2_with (first | with_reducible refine stop_bs ?_ | with_reducible refine stop_bx ?_ | with_reducible refine stop_al ?_ | with_reducible refine stop_ms ?_ | with_reducible refine stop_app ?_ | with_reducible refine stop_copy ?_)
  refine Stop.go ?_
  go_step
  go_simp
  have H2 := Lib.hid (H1.out.alloc (.cells #[.int .u64 x0, .int .u64 x1, .int .u64 x2] 35))
  generalize w1.alloc (.cells #[.int .u64 x0, .int .u64 x1, .int .u64 x2] 35) = w2 at *
  generalize w1.heap.size = b2 at *
  clear HH H1
  (try clear k1); have k1 := H2.out.cells
  (try clear k2); have k2 := H2.out.r2.cells
  go_wp2_with fail
  refine (of13_c _ ⟨hi, lo, bw⟩).mono ?_
  rintro e w3 ⟨rfl, hbel⟩
  replace H2 := Lib.hid ((by first | exact Kp.same hbel | exact Kp.drew hbel | exact Kp.below hbel : Kp _ w3) _ _ (by first | exact H2.out | exact H2.out.drewN _ | exact (H2.out.alloc _).tail | exact ((H2.out.alloc _).drewN _).tail | exact ((H2.out.alloc _).alloc _).tail.tail))
  clear hbel
  unfold Bnd.v
  simp only
  go_wp2_with (first | with_reducible refine stop_bs ?_ | with_reducible refine stop_bx ?_ | with_reducible refine stop_al ?_ | with_reducible refine stop_ms ?_ | with_reducible refine stop_app ?_ | with_reducible refine stop_copy ?_)
  refine Stop.go ?_
  go_step
  go_simp
  have H4_0 := Lib.hid (H2.out.alloc (.cells #[.int .u64 0, .int .u64 0, .int .u64 0] 36))
  generalize w3.alloc (.cells #[.int .u64 0, .int .u64 0, .int .u64 0] 36) = w4_0 at *
  generalize w3.heap.size = b3 at *
  have k9_ := H4_0.out.cells
  go_wp2_with (with_reducible refine stop_st ?_)
  refine Stop.go ?_
  go_step
  go_simp
  have H4 := Lib.hid ((show Own _ (((w4_0.setCell ⟨b3, 0, none⟩ (.int .u64 hi)).setCell ⟨b3, 1, none⟩ (.int .u64 lo)).setCell ⟨b3, 2, none⟩ (.int .u64 bw)) _ from Own.slc_setsB H4_0.out [.int .u64 hi, .int .u64 lo, .int .u64 bw]))
  generalize (((w4_0.setCell ⟨b3, 0, none⟩ (.int .u64 hi)).setCell ⟨b3, 1, none⟩ (.int .u64 lo)).setCell ⟨b3, 2, none⟩ (.int .u64 bw)) = w4 at *
  clear k9_ H4_0
  clear H2
  (try clear k1); (try clear k2); (try clear k3)
  go_wp2_with fail
  refine wp_region_calm w [pts b3 (.cells #[.int .u64 hi, .int .u64 lo, .int .u64 bw] 36 (0, 0)), pts b2 (.cells #[.int .u64 x0, .int .u64 x1, .int .u64 x2] 35 (0, 0)), pts b1 (.cells #[.int .u64 hi, .int .u64 lo, .int .u64 bw] 34 (0, 0)), old w] (by kernel_rfl) (by kernel_rfl) H4.out ?_
  repeat
    first
    | go_big_quiet_skip
    | (go_big_quiet_want; go_big_quiet_op; first | go_big_quiet_on | (apply Exists.intro; refine ⟨?_, ?_⟩; (focus (intro wx hx; have x1' := hx.cells; have x2' := hx.r2.cells; have x3' := hx.r3.cells; first | (first | (go_at_call 29; refine (boundLose_c wx ⟨hi, lo, bw⟩ x0 x1 x2 hs.out hx1.out hx2.out hx3.out).mono ?_; rintro e wy ⟨rfl, hbel⟩; exact ⟨rfl, (by first | exact Kp.same hbel | exact Kp.drew hbel | exact Kp.below hbel : Kp wx wy) _ _ hx⟩) | (go_at_call 28; refine (of13_c wx _).mono ?_; rintro e wy ⟨rfl, hbel⟩; exact ⟨rfl, (by first | exact Kp.same hbel | exact Kp.drew hbel | exact Kp.below hbel : Kp wx wy) _ _ hx⟩) | (go_at_call 30; refine (refLose_c wx ⟨hi, lo, bw⟩ x0 x1 x2 hs.out hx1.out hx2.out hx3.out).mono ?_; rintro e wy ⟨rfl, hbel⟩; exact ⟨rfl, (by first | exact Kp.same hbel | exact Kp.drew hbel | exact Kp.below hbel : Kp wx wy) _ _ hx⟩)) | (go_simp; first | rfl | exact ⟨rfl, rfl⟩) | rfl | exact ⟨rfl, rfl⟩)); go_big_quiet_on))
    | (refine wpQuiet_step (fun K hK => ?_)
       go_simp
       first
       | (refine hK _ ?_; clear hK K)
       | (apply Exists.intro
          refine ⟨?_, hK _ ?_⟩
          (focus (intro wx hx; have x1' := hx.cells; have x2' := hx.r2.cells; have x3' := hx.r3.cells; first | (first | (go_at_call 29; refine (boundLose_c wx ⟨hi, lo, bw⟩ x0 x1 x2 hs.out hx1.out hx2.out hx3.out).mono ?_; rintro e wy ⟨rfl, hbel⟩; exact ⟨rfl, (by first | exact Kp.same hbel | exact Kp.drew hbel | exact Kp.below hbel : Kp wx wy) _ _ hx⟩) | (go_at_call 28; refine (of13_c wx _).mono ?_; rintro e wy ⟨rfl, hbel⟩; exact ⟨rfl, (by first | exact Kp.same hbel | exact Kp.drew hbel | exact Kp.below hbel : Kp wx wy) _ _ hx⟩) | (go_at_call 30; refine (refLose_c wx ⟨hi, lo, bw⟩ x0 x1 x2 hs.out hx1.out hx2.out hx3.out).mono ?_; rintro e wy ⟨rfl, hbel⟩; exact ⟨rfl, (by first | exact Kp.same hbel | exact Kp.drew hbel | exact Kp.below hbel : Kp wx wy) _ _ hx⟩)) | (go_simp; first | rfl | exact ⟨rfl, rfl⟩) | rfl | exact ⟨rfl, rfl⟩))
          clear hK K))
  refine wpQuiet_nil ?_
  intro w5 H9_
  replace H4 := Lib.hid H9_
  clear H9_
  go_wp2_with fail
  refine wp_region_calm w [pts b3 (.cells #[.int .u64 hi, .int .u64 lo, .int .u64 bw] 36 (0, 0)), pts b2 (.cells #[.int .u64 x0, .int .u64 x1, .int .u64 x2] 35 (0, 0)), pts b1 (.cells #[.int .u64 hi, .int .u64 lo, .int .u64 bw] 34 (0, 0)), old w] (by kernel_rfl) (by kernel_rfl) H4.out ?_
  repeat
    first
    | go_big_quiet_skip
    | (go_big_quiet_want; go_big_quiet_op; first | go_big_quiet_on | (apply Exists.intro; refine ⟨?_, ?_⟩; (focus (intro wx hx; have x1' := hx.cells; have x2' := hx.r2.cells; have x3' := hx.r3.cells; first | (first | (go_at_call 31; refine (boundPull_c wx ⟨hi, lo, bw⟩ x0 x1 hx1.out hx2.out).mono ?_; rintro e wy ⟨rfl, hbel⟩; exact ⟨rfl, (by first | exact Kp.same hbel | exact Kp.drew hbel | exact Kp.below hbel : Kp wx wy) _ _ hx⟩) | (go_at_call 28; refine (of13_c wx _).mono ?_; rintro e wy ⟨rfl, hbel⟩; exact ⟨rfl, (by first | exact Kp.same hbel | exact Kp.drew hbel | exact Kp.below hbel : Kp wx wy) _ _ hx⟩) | (go_at_call 32; refine (refPull_c wx ⟨hi, lo, bw⟩ x0 x1 hx1.out hx2.out).mono ?_; rintro e wy ⟨rfl, hbel⟩; exact ⟨rfl, (by first | exact Kp.same hbel | exact Kp.drew hbel | exact Kp.below hbel : Kp wx wy) _ _ hx⟩)) | (go_simp; first | rfl | exact ⟨rfl, rfl⟩) | rfl | exact ⟨rfl, rfl⟩)); go_big_quiet_on))
    | (refine wpQuiet_step (fun K hK => ?_)
       go_simp
       first
       | (refine hK _ ?_; clear hK K)
       | (apply Exists.intro
          refine ⟨?_, hK _ ?_⟩
          (focus (intro wx hx; have x1' := hx.cells; have x2' := hx.r2.cells; have x3' := hx.r3.cells; first | (first | (go_at_call 31; refine (boundPull_c wx ⟨hi, lo, bw⟩ x0 x1 hx1.out hx2.out).mono ?_; rintro e wy ⟨rfl, hbel⟩; exact ⟨rfl, (by first | exact Kp.same hbel | exact Kp.drew hbel | exact Kp.below hbel : Kp wx wy) _ _ hx⟩) | (go_at_call 28; refine (of13_c wx _).mono ?_; rintro e wy ⟨rfl, hbel⟩; exact ⟨rfl, (by first | exact Kp.same hbel | exact Kp.drew hbel | exact Kp.below hbel : Kp wx wy) _ _ hx⟩) | (go_at_call 32; refine (refPull_c wx ⟨hi, lo, bw⟩ x0 x1 hx1.out hx2.out).mono ?_; rintro e wy ⟨rfl, hbel⟩; exact ⟨rfl, (by first | exact Kp.same hbel | exact Kp.drew hbel | exact Kp.below hbel : Kp wx wy) _ _ hx⟩)) | (go_simp; first | rfl | exact ⟨rfl, rfl⟩) | rfl | exact ⟨rfl, rfl⟩))
          clear hK K))
  refine wpQuiet_nil ?_
  intro w6 H9_
  replace H4 := Lib.hid H9_
  clear H9_
  go_wp2_with fail
  refine wp_region_calm w [pts b3 (.cells #[.int .u64 hi, .int .u64 lo, .int .u64 bw] 36 (0, 0)), pts b2 (.cells #[.int .u64 x0, .int .u64 x1, .int .u64 x2] 35 (0, 0)), pts b1 (.cells #[.int .u64 hi, .int .u64 lo, .int .u64 bw] 34 (0, 0)), old w] (by kernel_rfl) (by kernel_rfl) H4.out ?_
  repeat
    first
    | go_big_quiet_skip
    | (go_big_quiet_want; go_big_quiet_op; first | go_big_quiet_on | (apply Exists.intro; refine ⟨?_, ?_⟩; (focus (intro wx hx; have x1' := hx.cells; have x2' := hx.r2.cells; have x3' := hx.r3.cells; first | (first | (go_at_call 33; refine (boundPush_c wx ⟨hi, lo, bw⟩ x2 hs.out hx3.out).mono ?_; rintro e wy ⟨rfl, hbel⟩; exact ⟨rfl, (by first | exact Kp.same hbel | exact Kp.drew hbel | exact Kp.below hbel : Kp wx wy) _ _ hx⟩) | (go_at_call 28; refine (of13_c wx _).mono ?_; rintro e wy ⟨rfl, hbel⟩; exact ⟨rfl, (by first | exact Kp.same hbel | exact Kp.drew hbel | exact Kp.below hbel : Kp wx wy) _ _ hx⟩) | (go_at_call 34; refine (refPush_c wx ⟨hi, lo, bw⟩ x2 hs.out hx3.out).mono ?_; rintro e wy ⟨rfl, hbel⟩; exact ⟨rfl, (by first | exact Kp.same hbel | exact Kp.drew hbel | exact Kp.below hbel : Kp wx wy) _ _ hx⟩)) | (go_simp; first | rfl | exact ⟨rfl, rfl⟩) | rfl | exact ⟨rfl, rfl⟩)); go_big_quiet_on))
    | (refine wpQuiet_step (fun K hK => ?_)
       go_simp
       first
       | (refine hK _ ?_; clear hK K)
       | (apply Exists.intro
          refine ⟨?_, hK _ ?_⟩
          (focus (intro wx hx; have x1' := hx.cells; have x2' := hx.r2.cells; have x3' := hx.r3.cells; first | (first | (go_at_call 33; refine (boundPush_c wx ⟨hi, lo, bw⟩ x2 hs.out hx3.out).mono ?_; rintro e wy ⟨rfl, hbel⟩; exact ⟨rfl, (by first | exact Kp.same hbel | exact Kp.drew hbel | exact Kp.below hbel : Kp wx wy) _ _ hx⟩) | (go_at_call 28; refine (of13_c wx _).mono ?_; rintro e wy ⟨rfl, hbel⟩; exact ⟨rfl, (by first | exact Kp.same hbel | exact Kp.drew hbel | exact Kp.below hbel : Kp wx wy) _ _ hx⟩) | (go_at_call 34; refine (refPush_c wx ⟨hi, lo, bw⟩ x2 hs.out hx3.out).mono ?_; rintro e wy ⟨rfl, hbel⟩; exact ⟨rfl, (by first | exact Kp.same hbel | exact Kp.drew hbel | exact Kp.below hbel : Kp wx wy) _ _ hx⟩)) | (go_simp; first | rfl | exact ⟨rfl, rfl⟩) | rfl | exact ⟨rfl, rfl⟩))
          clear hK K))
  refine wpQuiet_nil ?_
  intro w7 H9_
  replace H4 := Lib.hid H9_
  clear H9_
  go_wp2_with fail
  have e0 := eqBnd_run (⟨hi, lo, bw⟩ : Bnd).short
  have e1 := eqBnd_guard (⟨hi, lo, bw⟩ : Bnd).short
  have e2 : (⟨hi, lo, bw⟩ : Bnd).short.v = .agg #[.int .u64 hi, .int .u64 18446744073709551615, .int .u64 18446744073709551615] := rfl
  rw [e2] at e0 e1
  refine wp_region_calm w [pts b3 (.cells #[.int .u64 hi, .int .u64 lo, .int .u64 bw] 36 (0, 0)), pts b2 (.cells #[.int .u64 x0, .int .u64 x1, .int .u64 x2] 35 (0, 0)), pts b1 (.cells #[.int .u64 hi, .int .u64 lo, .int .u64 bw] 34 (0, 0)), old w] (by kernel_rfl) (by kernel_rfl) H4.out ?_
  repeat
    first
    | go_big_quiet_skip
    | (go_big_quiet_want; go_big_quiet_op; first | go_big_quiet_on | (apply Exists.intro; refine ⟨?_, ?_⟩; (focus (intro wx hx; have x1' := hx.cells; have x2' := hx.r2.cells; have x3' := hx.r3.cells; first | (first | (go_at_call 35; refine (boundShort_c wx ⟨hi, lo, bw⟩).mono ?_; rw [show (⟨hi, lo, bw⟩ : Bnd).short.v = (⟨hi, 18446744073709551615, 18446744073709551615⟩ : Bnd).v from by first | rfl | decide]; rintro e wy ⟨rfl, hbel⟩; exact ⟨rfl, (by first | exact Kp.same hbel | exact Kp.drew hbel | exact Kp.below hbel : Kp wx wy) _ _ hx⟩) | (go_at_call 28; refine (of13_c wx ⟨hi, 18446744073709551615, 18446744073709551615⟩).mono ?_; rw [show (⟨hi, 18446744073709551615, 18446744073709551615⟩ : Bnd).v = .agg #[.int .u64 hi, .int .u64 18446744073709551615, .int .u64 18446744073709551615] from by first | rfl | decide]; rintro e wy ⟨rfl, hbel⟩; exact ⟨rfl, (by first | exact Kp.same hbel | exact Kp.drew hbel | exact Kp.below hbel : Kp wx wy) _ _ hx⟩)) | (go_simp; first | rfl | exact ⟨rfl, rfl⟩) | rfl | exact ⟨rfl, rfl⟩)); go_big_quiet_on))
    | (refine wpQuiet_step (fun K hK => ?_)
       go_simp
       first
       | (refine hK _ ?_; clear hK K)
       | (apply Exists.intro
          refine ⟨?_, hK _ ?_⟩
          (focus (intro wx hx; have x1' := hx.cells; have x2' := hx.r2.cells; have x3' := hx.r3.cells; first | (first | (go_at_call 35; refine (boundShort_c wx ⟨hi, lo, bw⟩).mono ?_; rw [show (⟨hi, lo, bw⟩ : Bnd).short.v = (⟨hi, 18446744073709551615, 18446744073709551615⟩ : Bnd).v from by first | rfl | decide]; rintro e wy ⟨rfl, hbel⟩; exact ⟨rfl, (by first | exact Kp.same hbel | exact Kp.drew hbel | exact Kp.below hbel : Kp wx wy) _ _ hx⟩) | (go_at_call 28; refine (of13_c wx ⟨hi, 18446744073709551615, 18446744073709551615⟩).mono ?_; rw [show (⟨hi, 18446744073709551615, 18446744073709551615⟩ : Bnd).v = .agg #[.int .u64 hi, .int .u64 18446744073709551615, .int .u64 18446744073709551615] from by first | rfl | decide]; rintro e wy ⟨rfl, hbel⟩; exact ⟨rfl, (by first | exact Kp.same hbel | exact Kp.drew hbel | exact Kp.below hbel : Kp wx wy) _ _ hx⟩)) | (go_simp; first | rfl | exact ⟨rfl, rfl⟩) | rfl | exact ⟨rfl, rfl⟩))
          clear hK K))
  refine wpQuiet_nil ?_
  intro w8 H9_
  replace H4 := Lib.hid H9_
  clear H9_
  clear e0 e1 e2
  go_wp2_with fail
  have im := ite_min
  replace hlen : len ≤ 1000 := by omega
  replace hlen := Lib.hid hlen
  clear hbig
  refine wp_region_calm w [pts b3 (.cells #[.int .u64 hi, .int .u64 lo, .int .u64 bw] 36 (0, 0)), pts b2 (.cells #[.int .u64 x0, .int .u64 x1, .int .u64 x2] 35 (0, 0)), pts b1 (.cells #[.int .u64 hi, .int .u64 lo, .int .u64 bw] 34 (0, 0)), old w] (by kernel_rfl) (by kernel_rfl) H4.out ?_
  repeat
    first
    | go_big_quiet_skip
    | (go_big_quiet_want; go_big_quiet_op; first | go_big_quiet_on | (apply Exists.intro; refine ⟨?_, ?_⟩; (focus (intro wx hx; have x1' := hx.cells; have x2' := hx.r2.cells; have x3' := hx.r3.cells; first | (first | (go_at_call 27; refine (alive13_k wx).mono ?_; rintro e wy ⟨rfl, hbel⟩; exact ⟨rfl, (by first | exact Kp.same hbel | exact Kp.drew hbel | exact Kp.below hbel : Kp wx wy) _ _ hx⟩) | (go_at_call 36; refine (boundCap_c wx ⟨hi, lo, bw⟩ hs.out _ _ _ l hlen.out (mono_slice (mono_int .u64) 1 _ wx _ _ (fun a v h => ((Own.pm (hx) (by repeat (first | with_reducible exact Pm.refl _ | with_reducible refine Pm.here ?_ | with_reducible refine Pm.at2 ?_ | with_reducible refine Pm.at3 ?_ | with_reducible refine Pm.at4 ?_ | with_reducible refine Pm.at5 ?_ | with_reducible refine Pm.at6 ?_ | with_reducible refine Pm.at7 ?_ | with_reducible refine Pm.at8 ?_ | with_reducible refine Pm.skip ?_))) : Own w wx [old w]).old_cell h) hr.out)).mono ?_; rintro e wy ⟨rfl, hbel⟩; exact ⟨rfl, (by first | exact Kp.same hbel | exact Kp.drew hbel | exact Kp.below hbel : Kp wx wy) _ _ hx⟩) | (go_at_call 37; refine (refCap_c wx ⟨hi, lo, bw⟩ _ _ _ l (mono_slice (mono_int .u64) 1 _ wx _ _ (fun a v h => ((Own.pm (hx) (by repeat (first | with_reducible exact Pm.refl _ | with_reducible refine Pm.here ?_ | with_reducible refine Pm.at2 ?_ | with_reducible refine Pm.at3 ?_ | with_reducible refine Pm.at4 ?_ | with_reducible refine Pm.at5 ?_ | with_reducible refine Pm.at6 ?_ | with_reducible refine Pm.at7 ?_ | with_reducible refine Pm.at8 ?_ | with_reducible refine Pm.skip ?_))) : Own w wx [old w]).old_cell h) hr.out)).mono ?_; rintro e wy ⟨rfl, hbel⟩; exact ⟨rfl, (by first | exact Kp.same hbel | exact Kp.drew hbel | exact Kp.below hbel : Kp wx wy) _ _ hx⟩) | (go_at_call 38; refine (boundRoom_c wx ⟨hi, lo, bw⟩ hs.out).mono ?_; rintro e wy ⟨rfl, hbel⟩; exact ⟨rfl, (by first | exact Kp.same hbel | exact Kp.drew hbel | exact Kp.below hbel : Kp wx wy) _ _ hx⟩) | (go_at_call 39; refine (refRoom_c wx ⟨hi, lo, bw⟩ hs.out).mono ?_; rintro e wy ⟨rfl, hbel⟩; exact ⟨rfl, (by first | exact Kp.same hbel | exact Kp.drew hbel | exact Kp.below hbel : Kp wx wy) _ _ hx⟩) | (go_at_call 40; refine (boundLimit_c wx ⟨hi, lo, bw⟩ x0).mono ?_; rw [show (⟨hi, lo, bw⟩ : Bnd).limit x0 = min x0 bw from by first | rfl | decide]; rintro e wy ⟨rfl, hbel⟩; exact ⟨rfl, (by first | exact Kp.same hbel | exact Kp.drew hbel | exact Kp.below hbel : Kp wx wy) _ _ hx⟩)) | (go_simp; first | rfl | exact ⟨rfl, rfl⟩) | rfl | exact ⟨rfl, rfl⟩)); go_big_quiet_on))
    | (refine wpQuiet_step (fun K hK => ?_)
       go_simp
       first
       | (refine hK _ ?_; clear hK K)
       | (apply Exists.intro
          refine ⟨?_, hK _ ?_⟩
          (focus (intro wx hx; have x1' := hx.cells; have x2' := hx.r2.cells; have x3' := hx.r3.cells; first | (first | (go_at_call 27; refine (alive13_k wx).mono ?_; rintro e wy ⟨rfl, hbel⟩; exact ⟨rfl, (by first | exact Kp.same hbel | exact Kp.drew hbel | exact Kp.below hbel : Kp wx wy) _ _ hx⟩) | (go_at_call 36; refine (boundCap_c wx ⟨hi, lo, bw⟩ hs.out _ _ _ l hlen.out (mono_slice (mono_int .u64) 1 _ wx _ _ (fun a v h => ((Own.pm (hx) (by repeat (first | with_reducible exact Pm.refl _ | with_reducible refine Pm.here ?_ | with_reducible refine Pm.at2 ?_ | with_reducible refine Pm.at3 ?_ | with_reducible refine Pm.at4 ?_ | with_reducible refine Pm.at5 ?_ | with_reducible refine Pm.at6 ?_ | with_reducible refine Pm.at7 ?_ | with_reducible refine Pm.at8 ?_ | with_reducible refine Pm.skip ?_))) : Own w wx [old w]).old_cell h) hr.out)).mono ?_; rintro e wy ⟨rfl, hbel⟩; exact ⟨rfl, (by first | exact Kp.same hbel | exact Kp.drew hbel | exact Kp.below hbel : Kp wx wy) _ _ hx⟩) | (go_at_call 37; refine (refCap_c wx ⟨hi, lo, bw⟩ _ _ _ l (mono_slice (mono_int .u64) 1 _ wx _ _ (fun a v h => ((Own.pm (hx) (by repeat (first | with_reducible exact Pm.refl _ | with_reducible refine Pm.here ?_ | with_reducible refine Pm.at2 ?_ | with_reducible refine Pm.at3 ?_ | with_reducible refine Pm.at4 ?_ | with_reducible refine Pm.at5 ?_ | with_reducible refine Pm.at6 ?_ | with_reducible refine Pm.at7 ?_ | with_reducible refine Pm.at8 ?_ | with_reducible refine Pm.skip ?_))) : Own w wx [old w]).old_cell h) hr.out)).mono ?_; rintro e wy ⟨rfl, hbel⟩; exact ⟨rfl, (by first | exact Kp.same hbel | exact Kp.drew hbel | exact Kp.below hbel : Kp wx wy) _ _ hx⟩) | (go_at_call 38; refine (boundRoom_c wx ⟨hi, lo, bw⟩ hs.out).mono ?_; rintro e wy ⟨rfl, hbel⟩; exact ⟨rfl, (by first | exact Kp.same hbel | exact Kp.drew hbel | exact Kp.below hbel : Kp wx wy) _ _ hx⟩) | (go_at_call 39; refine (refRoom_c wx ⟨hi, lo, bw⟩ hs.out).mono ?_; rintro e wy ⟨rfl, hbel⟩; exact ⟨rfl, (by first | exact Kp.same hbel | exact Kp.drew hbel | exact Kp.below hbel : Kp wx wy) _ _ hx⟩) | (go_at_call 40; refine (boundLimit_c wx ⟨hi, lo, bw⟩ x0).mono ?_; rw [show (⟨hi, lo, bw⟩ : Bnd).limit x0 = min x0 bw from by first | rfl | decide]; rintro e wy ⟨rfl, hbel⟩; exact ⟨rfl, (by first | exact Kp.same hbel | exact Kp.drew hbel | exact Kp.below hbel : Kp wx wy) _ _ hx⟩)) | (go_simp; first | rfl | exact ⟨rfl, rfl⟩) | rfl | exact ⟨rfl, rfl⟩))
          clear hK K))
  refine wpQuiet_nil ?_
  intro w9 H9_
  replace H4 := Lib.hid H9_
  clear H9_
  go_wp2_with fail
  go_ret
  exact ⟨rfl, (Own.pm (H4.out) (by repeat (first | with_reducible exact Pm.refl _ | with_reducible refine Pm.here ?_ | with_reducible refine Pm.at2 ?_ | with_reducible refine Pm.at3 ?_ | with_reducible refine Pm.at4 ?_ | with_reducible refine Pm.at5 ?_ | with_reducible refine Pm.at6 ?_ | with_reducible refine Pm.at7 ?_ | with_reducible refine Pm.at8 ?_ | with_reducible refine Pm.skip ?_)))⟩
end Go.Proofs.Ytnffoiocejfppaa
