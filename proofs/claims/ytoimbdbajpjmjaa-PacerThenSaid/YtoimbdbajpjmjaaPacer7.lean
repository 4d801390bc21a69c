/- PacerThen: the walk. -/
import Derived.Test.YtoimbdbajpjmjaaPacer6
namespace Go.Proofs.Ytoimbdbajpjmjaa
open Go.RowKit
section
variable (w : World)
set_option maxRecDepth 100000 in
set_option maxHeartbeats 12800000 in
theorem pacerThen_c (A : Option Addr) (len cap : Nat) (xs : List ActP) (hr : rdSlice rdActP 5 w [.slice A len cap] xs) (look : Int) (hl : (Lit.int .u64 look).wf = true) :
    Calls Try.prog 14 #[.slice A len cap, .int .u64 look] w fun e w' => e = .returned (.bool true) ∧ Own w w' [old w] := by
  have HH := Lib.hid (Own.init w)
  replace hl := Lib.hid (U_of_wf hl)
  obtain ⟨hlen, hm, hx⟩ := rdSlice_cases hr
  clear hr
  by_cases hbig : 200 < len
  · go_enter Try.func14, Try.ntmps14
    go_wp2_with fail
    refine (alive16_k _).mono ?_
    rintro e w1 ⟨rfl, hbel⟩
    replace HH := Lib.hid ((by first | exact Kp.same hbel | exact Kp.drew hbel | exact Kp.below hbel : Kp _ w1) _ _ (by first | exact HH.out | exact HH.out.drewN _ | exact (HH.out.alloc _).tail | exact ((HH.out.alloc _).drewN _).tail | exact ((HH.out.alloc _).alloc _).tail.tail))
    clear hbel
    go_wp2_with fail
    go_ret
    exact ⟨rfl, HH.out⟩
  have hacts : ∀ k, k < len → ∃ ab off kd nw rt qn sz, A = some ⟨ab, off, none⟩ ∧ (0 ≤ kd ∧ kd ≤ 255) ∧ U nw ∧ U rt ∧ U qn ∧ U sz ∧ w.cell? ⟨ab, off + k * 5, none⟩ = some (.int .u8 kd) ∧ w.cell? ⟨ab, off + k * 5 + 1, none⟩ = some (.int .u64 nw) ∧ w.cell? ⟨ab, off + k * 5 + 2, none⟩ = some (.int .u64 rt) ∧ w.cell? ⟨ab, off + k * 5 + 3, none⟩ = some (.int .u64 qn) ∧ w.cell? ⟨ab, off + k * 5 + 4, none⟩ = some (.int .u64 sz) := by
    intro k hk
    rcases hx with hz | ⟨ab, off, rfl, hx⟩
    · omega
    · obtain ⟨c, _, hcell, hR⟩ := hx k (by omega)
      obtain ⟨rfl, h0, h1, h2, h3, h4⟩ := rdActP_open hR
      exact ⟨ab, off, _, _, _, _, _, rfl, h0, h1, h2, h3, h4, hcell 0 _ rfl, hcell 1 _ rfl, hcell 2 _ rfl, hcell 3 _ rfl, hcell 4 _ rfl⟩
  clear hx
  replace hacts := Lib.hid hacts
  replace hlen := Lib.hid hlen
  go_enter Try.func14, Try.ntmps14
  go_wp2_with fail
  refine (pacNew_c w _ _ HH.out).mono ?_
  rintro e w1 ⟨b1, rfl, H1⟩
  replace H1 := Lib.hid H1
  clear HH
  go_wp2_with fail
  refine (pacNew_c w _ _ H1).mono ?_
  rintro e w2 ⟨b2, rfl, H2⟩
  replace H2 := Lib.hid H2
  clear H1
  replace H2 := Lib.hid H2
  go_wp2_with (first | with_reducible refine stop_bs ?_ | with_reducible refine stop_bx ?_ | with_reducible refine stop_al ?_ | with_reducible refine stop_ms ?_ | with_reducible refine stop_app ?_ | with_reducible refine stop_copy ?_)
  refine Stop.go ?_
  go_step
  go_simp
  have H3_0 := Lib.hid (H2.out.alloc (.cells #[.int .u8 0, .int .u64 0, .int .u64 0, .int .u64 0, .int .u64 0] 101))
  generalize w2.alloc (.cells #[.int .u8 0, .int .u64 0, .int .u64 0, .int .u64 0, .int .u64 0] 101) = w3_0 at *
  generalize w2.heap.size = b3 at *
  go_wp2_with (with_reducible refine stop_st ?_)
  refine Stop.go ?_
  refine wpList_store_own _ #[.int .u8 0, .int .u64 0, .int .u64 0, .int .u64 0, .int .u64 0] rfl rfl (H3_0.out) (by kernel_rfl) rfl (by simp [Value.oneCell']) ?_
  intro w3 H3
  replace H3 := Lib.hid H3
  clear H3_0
  clear H2
  go_wp2_with fail
  go_loopw [8] (fun i wr => ∃ (k : Nat) (s : Pac) (ka za : Int), k ≤ len ∧ i = .int .i64 k ∧ TInv s ∧ Own w wr (pac b1 s :: pac b2 s :: pts b3 (.cells #[.int .u8 ka, .int .u64 s.now, .int .u64 s.rate, .int .u64 s.qu, .int .u64 za] 101 (0, 0)) :: [old w])) (fun i _ => len - (intOf i).toNat)
  case atStart => exact ⟨0, Pac.zero, 0, 0, Nat.zero_le _, rfl, TInv.zero, (Own.pm ((show Own w w3 (pts b3 (.cells #[.int .u8 0, .int .u64 Pac.zero.now, .int .u64 Pac.zero.rate, .int .u64 Pac.zero.qu, .int .u64 0] 101 (0, 0)) :: pac b2 Pac.zero :: pac b1 Pac.zero :: [old w]) from H3.out)) (by repeat (first | with_reducible exact Pm.refl _ | with_reducible exact Pm.nil _ | with_reducible refine Pm.here ?_ | with_reducible refine Pm.at2 ?_ | with_reducible refine Pm.at3 ?_ | with_reducible refine Pm.at4 ?_ | with_reducible refine Pm.at5 ?_ | with_reducible refine Pm.at6 ?_ | with_reducible refine Pm.at7 ?_ | with_reducible refine Pm.at8 ?_ | with_reducible refine Pm.skip ?_)))⟩
  case round =>
    obtain ⟨k, s, ka, za, hk, rfl, hI, HR⟩ := hrel
    replace HR := Lib.hid HR
    replace hI := Lib.hid hI
    clear H3
    by_cases hlt : k < len
    · obtain ⟨ab, off, kd, nw, rt, qn, sz, rfl, hkd, u1, u2, u3, u4, c0, c1, c2, c3, c4⟩ := hacts.out k hlt
      have k0 := ((Own.pm (HR.out) (by repeat (first | with_reducible exact Pm.refl _ | with_reducible exact Pm.nil _ | with_reducible refine Pm.here ?_ | with_reducible refine Pm.at2 ?_ | with_reducible refine Pm.at3 ?_ | with_reducible refine Pm.at4 ?_ | with_reducible refine Pm.at5 ?_ | with_reducible refine Pm.at6 ?_ | with_reducible refine Pm.at7 ?_ | with_reducible refine Pm.at8 ?_ | with_reducible refine Pm.skip ?_))) : Own w wr [old w]).old_cell c0
      have k1 := ((Own.pm (HR.out) (by repeat (first | with_reducible exact Pm.refl _ | with_reducible exact Pm.nil _ | with_reducible refine Pm.here ?_ | with_reducible refine Pm.at2 ?_ | with_reducible refine Pm.at3 ?_ | with_reducible refine Pm.at4 ?_ | with_reducible refine Pm.at5 ?_ | with_reducible refine Pm.at6 ?_ | with_reducible refine Pm.at7 ?_ | with_reducible refine Pm.at8 ?_ | with_reducible refine Pm.skip ?_))) : Own w wr [old w]).old_cell c1
      have k2 := ((Own.pm (HR.out) (by repeat (first | with_reducible exact Pm.refl _ | with_reducible exact Pm.nil _ | with_reducible refine Pm.here ?_ | with_reducible refine Pm.at2 ?_ | with_reducible refine Pm.at3 ?_ | with_reducible refine Pm.at4 ?_ | with_reducible refine Pm.at5 ?_ | with_reducible refine Pm.at6 ?_ | with_reducible refine Pm.at7 ?_ | with_reducible refine Pm.at8 ?_ | with_reducible refine Pm.skip ?_))) : Own w wr [old w]).old_cell c2
      have k3 := ((Own.pm (HR.out) (by repeat (first | with_reducible exact Pm.refl _ | with_reducible exact Pm.nil _ | with_reducible refine Pm.here ?_ | with_reducible refine Pm.at2 ?_ | with_reducible refine Pm.at3 ?_ | with_reducible refine Pm.at4 ?_ | with_reducible refine Pm.at5 ?_ | with_reducible refine Pm.at6 ?_ | with_reducible refine Pm.at7 ?_ | with_reducible refine Pm.at8 ?_ | with_reducible refine Pm.skip ?_))) : Own w wr [old w]).old_cell c3
      have k4 := ((Own.pm (HR.out) (by repeat (first | with_reducible exact Pm.refl _ | with_reducible exact Pm.nil _ | with_reducible refine Pm.here ?_ | with_reducible refine Pm.at2 ?_ | with_reducible refine Pm.at3 ?_ | with_reducible refine Pm.at4 ?_ | with_reducible refine Pm.at5 ?_ | with_reducible refine Pm.at6 ?_ | with_reducible refine Pm.at7 ?_ | with_reducible refine Pm.at8 ?_ | with_reducible refine Pm.skip ?_))) : Own w wr [old w]).old_cell c4
      clear c0 c1 c2 c3 c4
      replace u1 := u1.1
      replace u2 := u2.1
      replace u3 := u3.1
      replace u4 := u4.1
      go_wp2_with (first | with_reducible refine stop_bs ?_ | with_reducible refine stop_bx ?_ | with_reducible refine stop_al ?_ | with_reducible refine stop_ms ?_ | with_reducible refine stop_app ?_ | with_reducible refine stop_copy ?_)
      refine Stop.go ?_
      go_step
      go_simp
      have H2_0 := Lib.hid (HR.out.alloc (.cells #[.int .u8 0, .int .u64 0, .int .u64 0, .int .u64 0, .int .u64 0] 101))
      generalize wr.alloc (.cells #[.int .u8 0, .int .u64 0, .int .u64 0, .int .u64 0, .int .u64 0] 101) = w4_0 at *
      generalize wr.heap.size = b4 at *
      go_wp2_with (with_reducible refine stop_st ?_)
      refine Stop.go ?_
      refine wpList_store_own _ #[.int .u8 kd, .int .u64 nw, .int .u64 rt, .int .u64 qn, .int .u64 sz] rfl rfl (H2_0.out) (by kernel_rfl) rfl (by simp [Value.oneCell']) ?_
      intro w4 H2
      replace H2 := Lib.hid H2
      clear H2_0
      clear k0 k1 k2 k3 k4
      clear hacts
      replace HR := H2
      clear H2
      (try clear k1); have k1 := HR.out.cells
      by_cases v1 : 1048576 < nw
      · go_wp2_with fail
        refine (alive16_k _).mono ?_
        rintro e w3 ⟨rfl, hbel⟩
        replace HR := Lib.hid ((by first | exact Kp.same hbel | exact Kp.drew hbel | exact Kp.below hbel : Kp _ w3) _ _ (by first | exact HR.out | exact HR.out.drewN _ | exact (HR.out.alloc _).tail | exact ((HR.out.alloc _).drewN _).tail | exact ((HR.out.alloc _).alloc _).tail.tail))
        clear hbel
        go_wp2_with fail
        go_ret
        exact ⟨rfl, (Own.pm (HR.out) (by repeat (first | with_reducible exact Pm.refl _ | with_reducible exact Pm.nil _ | with_reducible refine Pm.here ?_ | with_reducible refine Pm.at2 ?_ | with_reducible refine Pm.at3 ?_ | with_reducible refine Pm.at4 ?_ | with_reducible refine Pm.at5 ?_ | with_reducible refine Pm.at6 ?_ | with_reducible refine Pm.at7 ?_ | with_reducible refine Pm.at8 ?_ | with_reducible refine Pm.skip ?_)))⟩
      by_cases v2 : 1048576 < rt
      · go_wp2_with fail
        refine (alive16_k _).mono ?_
        rintro e w3 ⟨rfl, hbel⟩
        replace HR := Lib.hid ((by first | exact Kp.same hbel | exact Kp.drew hbel | exact Kp.below hbel : Kp _ w3) _ _ (by first | exact HR.out | exact HR.out.drewN _ | exact (HR.out.alloc _).tail | exact ((HR.out.alloc _).drewN _).tail | exact ((HR.out.alloc _).alloc _).tail.tail))
        clear hbel
        go_wp2_with fail
        go_ret
        exact ⟨rfl, (Own.pm (HR.out) (by repeat (first | with_reducible exact Pm.refl _ | with_reducible exact Pm.nil _ | with_reducible refine Pm.here ?_ | with_reducible refine Pm.at2 ?_ | with_reducible refine Pm.at3 ?_ | with_reducible refine Pm.at4 ?_ | with_reducible refine Pm.at5 ?_ | with_reducible refine Pm.at6 ?_ | with_reducible refine Pm.at7 ?_ | with_reducible refine Pm.at8 ?_ | with_reducible refine Pm.skip ?_)))⟩
      by_cases v3 : 1048576 < qn
      · go_wp2_with fail
        refine (alive16_k _).mono ?_
        rintro e w3 ⟨rfl, hbel⟩
        replace HR := Lib.hid ((by first | exact Kp.same hbel | exact Kp.drew hbel | exact Kp.below hbel : Kp _ w3) _ _ (by first | exact HR.out | exact HR.out.drewN _ | exact (HR.out.alloc _).tail | exact ((HR.out.alloc _).drewN _).tail | exact ((HR.out.alloc _).alloc _).tail.tail))
        clear hbel
        go_wp2_with fail
        go_ret
        exact ⟨rfl, (Own.pm (HR.out) (by repeat (first | with_reducible exact Pm.refl _ | with_reducible exact Pm.nil _ | with_reducible refine Pm.here ?_ | with_reducible refine Pm.at2 ?_ | with_reducible refine Pm.at3 ?_ | with_reducible refine Pm.at4 ?_ | with_reducible refine Pm.at5 ?_ | with_reducible refine Pm.at6 ?_ | with_reducible refine Pm.at7 ?_ | with_reducible refine Pm.at8 ?_ | with_reducible refine Pm.skip ?_)))⟩
      by_cases v4 : 1048576 < sz
      · go_wp2_with fail
        refine (alive16_k _).mono ?_
        rintro e w3 ⟨rfl, hbel⟩
        replace HR := Lib.hid ((by first | exact Kp.same hbel | exact Kp.drew hbel | exact Kp.below hbel : Kp _ w3) _ _ (by first | exact HR.out | exact HR.out.drewN _ | exact (HR.out.alloc _).tail | exact ((HR.out.alloc _).drewN _).tail | exact ((HR.out.alloc _).alloc _).tail.tail))
        clear hbel
        go_wp2_with fail
        go_ret
        exact ⟨rfl, (Own.pm (HR.out) (by repeat (first | with_reducible exact Pm.refl _ | with_reducible exact Pm.nil _ | with_reducible refine Pm.here ?_ | with_reducible refine Pm.at2 ?_ | with_reducible refine Pm.at3 ?_ | with_reducible refine Pm.at4 ?_ | with_reducible refine Pm.at5 ?_ | with_reducible refine Pm.at6 ?_ | with_reducible refine Pm.at7 ?_ | with_reducible refine Pm.at8 ?_ | with_reducible refine Pm.skip ?_)))⟩
      have ho := hI.out.ok
      obtain ⟨md, hmd⟩ : ∃ md, kd % 2 = md := ⟨_, rfl⟩
      have hmd3 : md = 0 ∨ md = 1 := by omega
      rcases hmd3 with rfl | rfl
      · rcases TInv.tick ⟨u1, by omega⟩ ⟨u2, by omega⟩ ⟨u3, by omega⟩ hI.out with he | ⟨s3, he, hT, e1, e2, e3⟩
        · replace HR := Lib.hid HR.out.r2
          clear k1
          have k1 := HR.out.r2.cells
          go_wp2_with fail
          refine (pacTick_c w _ _ b1 s nw rt qn ho ⟨u1, by omega⟩ ⟨u2, by omega⟩ ⟨u3, by omega⟩ HR.out).mono ?_
          rw [he]
          rintro e w5 ⟨rfl, H5⟩
          have H6 : Hid (Own w w5 (pac b2 s :: pts b4 (.cells #[.int .u8 kd, .int .u64 nw, .int .u64 rt, .int .u64 qn, .int .u64 sz] 101 (0, 0)) :: pac b1 s :: pts b3 (.cells #[.int .u8 ka, .int .u64 s.now, .int .u64 s.rate, .int .u64 s.qu, .int .u64 za] 101 (0, 0)) :: [old w])) := Lib.hid (Own.pm (H5) (by repeat (first | with_reducible exact Pm.refl _ | with_reducible exact Pm.nil _ | with_reducible refine Pm.here ?_ | with_reducible refine Pm.at2 ?_ | with_reducible refine Pm.at3 ?_ | with_reducible refine Pm.at4 ?_ | with_reducible refine Pm.at5 ?_ | with_reducible refine Pm.at6 ?_ | with_reducible refine Pm.at7 ?_ | with_reducible refine Pm.at8 ?_ | with_reducible refine Pm.skip ?_)))
          clear H5 HR k1
          have k1 := H6.out.r2.cells
          go_wp2_with fail
          refine (pacTick_c w _ _ b2 s nw rt qn ho ⟨u1, by omega⟩ ⟨u2, by omega⟩ ⟨u3, by omega⟩ H6.out).mono ?_
          rw [he]
          rintro e w6 ⟨rfl, H5⟩
          have H7 : Hid (Own w w6 (pts b3 (.cells #[.int .u8 ka, .int .u64 s.now, .int .u64 s.rate, .int .u64 s.qu, .int .u64 za] 101 (0, 0)) :: pts b4 (.cells #[.int .u8 kd, .int .u64 nw, .int .u64 rt, .int .u64 qn, .int .u64 sz] 101 (0, 0)) :: pac b1 s :: pac b2 s :: [old w])) := Lib.hid (Own.pm (H5) (by repeat (first | with_reducible exact Pm.refl _ | with_reducible exact Pm.nil _ | with_reducible refine Pm.here ?_ | with_reducible refine Pm.at2 ?_ | with_reducible refine Pm.at3 ?_ | with_reducible refine Pm.at4 ?_ | with_reducible refine Pm.at5 ?_ | with_reducible refine Pm.at6 ?_ | with_reducible refine Pm.at7 ?_ | with_reducible refine Pm.at8 ?_ | with_reducible refine Pm.skip ?_)))
          clear H5 H6 k1
          have k1 := H7.out.r2.cells
          go_wp2_with fail
          go_roundw
          case rel => exact ⟨k + 1, s, ka, za, by omega, by go_num, hI.out, (Own.pm (H7.out) (by repeat (first | with_reducible exact Pm.refl _ | with_reducible exact Pm.nil _ | with_reducible refine Pm.here ?_ | with_reducible refine Pm.at2 ?_ | with_reducible refine Pm.at3 ?_ | with_reducible refine Pm.at4 ?_ | with_reducible refine Pm.at5 ?_ | with_reducible refine Pm.at6 ?_ | with_reducible refine Pm.at7 ?_ | with_reducible refine Pm.at8 ?_ | with_reducible refine Pm.skip ?_)))⟩
          case measure => simp [intOf]; omega
        · replace hT := Lib.hid hT
          replace HR := Lib.hid HR.out.r2
          clear k1
          have k1 := HR.out.r2.cells
          go_wp2_with fail
          refine (pacTick_c w _ _ b1 s nw rt qn ho ⟨u1, by omega⟩ ⟨u2, by omega⟩ ⟨u3, by omega⟩ HR.out).mono ?_
          rw [he]
          rintro e w5 ⟨rfl, H5⟩
          have H6 : Hid (Own w w5 (pac b2 s :: pts b4 (.cells #[.int .u8 kd, .int .u64 nw, .int .u64 rt, .int .u64 qn, .int .u64 sz] 101 (0, 0)) :: pac b1 s3 :: pts b3 (.cells #[.int .u8 ka, .int .u64 s.now, .int .u64 s.rate, .int .u64 s.qu, .int .u64 za] 101 (0, 0)) :: [old w])) := Lib.hid (Own.pm (H5) (by repeat (first | with_reducible exact Pm.refl _ | with_reducible exact Pm.nil _ | with_reducible refine Pm.here ?_ | with_reducible refine Pm.at2 ?_ | with_reducible refine Pm.at3 ?_ | with_reducible refine Pm.at4 ?_ | with_reducible refine Pm.at5 ?_ | with_reducible refine Pm.at6 ?_ | with_reducible refine Pm.at7 ?_ | with_reducible refine Pm.at8 ?_ | with_reducible refine Pm.skip ?_)))
          clear H5 HR k1
          have k1 := H6.out.r2.cells
          go_wp2_with fail
          refine (pacTick_c w _ _ b2 s nw rt qn ho ⟨u1, by omega⟩ ⟨u2, by omega⟩ ⟨u3, by omega⟩ H6.out).mono ?_
          rw [he]
          rintro e w6 ⟨rfl, H5⟩
          have H7 : Hid (Own w w6 (pts b3 (.cells #[.int .u8 ka, .int .u64 s.now, .int .u64 s.rate, .int .u64 s.qu, .int .u64 za] 101 (0, 0)) :: pts b4 (.cells #[.int .u8 kd, .int .u64 nw, .int .u64 rt, .int .u64 qn, .int .u64 sz] 101 (0, 0)) :: pac b1 s3 :: pac b2 s3 :: [old w])) := Lib.hid (Own.pm (H5) (by repeat (first | with_reducible exact Pm.refl _ | with_reducible exact Pm.nil _ | with_reducible refine Pm.here ?_ | with_reducible refine Pm.at2 ?_ | with_reducible refine Pm.at3 ?_ | with_reducible refine Pm.at4 ?_ | with_reducible refine Pm.at5 ?_ | with_reducible refine Pm.at6 ?_ | with_reducible refine Pm.at7 ?_ | with_reducible refine Pm.at8 ?_ | with_reducible refine Pm.skip ?_)))
          clear H5 H6 k1
          have k1 := H7.out.r2.cells
          go_wp2_with (with_reducible refine stop_st ?_)
          refine Stop.go ?_
          refine wpList_store_own _ #[.int .u8 kd, .int .u64 nw, .int .u64 rt, .int .u64 qn, .int .u64 sz] rfl rfl (H7.out) (by kernel_rfl) rfl (by simp [Value.oneCell']) ?_
          intro w7 H8
          replace H8 := Lib.hid H8
          subst e1 e2 e3
          go_wp2_with fail
          go_roundw
          case rel => exact ⟨k + 1, s3, kd, sz, by omega, by go_num, hT.out, (Own.pm ((show Own w w7 (pts b3 (.cells #[.int .u8 kd, .int .u64 s3.now, .int .u64 s3.rate, .int .u64 s3.qu, .int .u64 sz] 101 (0, 0)) :: pts b4 (.cells #[.int .u8 kd, .int .u64 s3.now, .int .u64 s3.rate, .int .u64 s3.qu, .int .u64 sz] 101 (0, 0)) :: pac b1 s3 :: pac b2 s3 :: [old w]) from H8.out)) (by repeat (first | with_reducible exact Pm.refl _ | with_reducible exact Pm.nil _ | with_reducible refine Pm.here ?_ | with_reducible refine Pm.at2 ?_ | with_reducible refine Pm.at3 ?_ | with_reducible refine Pm.at4 ?_ | with_reducible refine Pm.at5 ?_ | with_reducible refine Pm.at6 ?_ | with_reducible refine Pm.at7 ?_ | with_reducible refine Pm.at8 ?_ | with_reducible refine Pm.skip ?_)))⟩
          case measure => simp [intOf]; omega
      · obtain ⟨hT, e1, e2, e3⟩ := hI.out.take u4 (show sz ≤ 1048576 by omega)
        obtain ⟨r, s3, he⟩ : ∃ r s3, s.take sz = (r, s3) := ⟨_, _, rfl⟩
        rw [he] at hT e1 e2 e3
        simp only at hT e1 e2 e3
        replace hT := Lib.hid hT
        replace HR := Lib.hid HR.out.r2
        clear k1
        have k1 := HR.out.r2.cells
        go_wp2_with fail
        refine (pacTake_c w _ _ b1 s sz ⟨u4, by omega⟩ ho HR.out).mono ?_
        rw [he]
        rintro e w5 ⟨rfl, H5⟩
        have H6 : Hid (Own w w5 (pac b2 s :: pts b4 (.cells #[.int .u8 kd, .int .u64 nw, .int .u64 rt, .int .u64 qn, .int .u64 sz] 101 (0, 0)) :: pac b1 s3 :: pts b3 (.cells #[.int .u8 ka, .int .u64 s.now, .int .u64 s.rate, .int .u64 s.qu, .int .u64 za] 101 (0, 0)) :: [old w])) := Lib.hid (Own.pm (H5) (by repeat (first | with_reducible exact Pm.refl _ | with_reducible exact Pm.nil _ | with_reducible refine Pm.here ?_ | with_reducible refine Pm.at2 ?_ | with_reducible refine Pm.at3 ?_ | with_reducible refine Pm.at4 ?_ | with_reducible refine Pm.at5 ?_ | with_reducible refine Pm.at6 ?_ | with_reducible refine Pm.at7 ?_ | with_reducible refine Pm.at8 ?_ | with_reducible refine Pm.skip ?_)))
        clear H5 HR k1
        have k1 := H6.out.r2.cells
        go_wp2_with fail
        refine (pacTake_c w _ _ b2 s sz ⟨u4, by omega⟩ ho H6.out).mono ?_
        rw [he]
        rintro e w6 ⟨rfl, H5⟩
        have H7 : Hid (Own w w6 (pts b3 (.cells #[.int .u8 ka, .int .u64 s.now, .int .u64 s.rate, .int .u64 s.qu, .int .u64 za] 101 (0, 0)) :: pts b4 (.cells #[.int .u8 kd, .int .u64 nw, .int .u64 rt, .int .u64 qn, .int .u64 sz] 101 (0, 0)) :: pac b1 s3 :: pac b2 s3 :: [old w])) := Lib.hid (Own.pm (H5) (by repeat (first | with_reducible exact Pm.refl _ | with_reducible exact Pm.nil _ | with_reducible refine Pm.here ?_ | with_reducible refine Pm.at2 ?_ | with_reducible refine Pm.at3 ?_ | with_reducible refine Pm.at4 ?_ | with_reducible refine Pm.at5 ?_ | with_reducible refine Pm.at6 ?_ | with_reducible refine Pm.at7 ?_ | with_reducible refine Pm.at8 ?_ | with_reducible refine Pm.skip ?_)))
        clear H5 H6 k1
        have k1 := H7.out.r2.cells
        go_wp2_with fail
        go_roundw
        case rel => refine ⟨k + 1, s3, ka, za, by omega, by go_num, hT.out, ?_⟩; rw [e1, e2, e3]; exact (Own.pm (H7.out) (by repeat (first | with_reducible exact Pm.refl _ | with_reducible exact Pm.nil _ | with_reducible refine Pm.here ?_ | with_reducible refine Pm.at2 ?_ | with_reducible refine Pm.at3 ?_ | with_reducible refine Pm.at4 ?_ | with_reducible refine Pm.at5 ?_ | with_reducible refine Pm.at6 ?_ | with_reducible refine Pm.at7 ?_ | with_reducible refine Pm.at8 ?_ | with_reducible refine Pm.skip ?_)))
        case measure => simp [intOf]; omega
    · have hkl : k = len := by omega
      clear hacts
      have ho := hI.out.ok
      replace HR := Lib.hid ((Own.pm (HR.out) (by repeat (first | with_reducible exact Pm.refl _ | with_reducible exact Pm.nil _ | with_reducible refine Pm.here ?_ | with_reducible refine Pm.at2 ?_ | with_reducible refine Pm.at3 ?_ | with_reducible refine Pm.at4 ?_ | with_reducible refine Pm.at5 ?_ | with_reducible refine Pm.at6 ?_ | with_reducible refine Pm.at7 ?_ | with_reducible refine Pm.at8 ?_ | with_reducible refine Pm.skip ?_))) : Own w wr (pac b1 s :: pts b3 (.cells #[.int .u8 ka, .int .u64 s.now, .int .u64 s.rate, .int .u64 s.qu, .int .u64 za] 101 (0, 0)) :: pac b2 s :: [old w]))
      by_cases hok : (s.next look).2 = true
      · obtain ⟨g1, g2, g3, g4⟩ := next_then hI.out hok
        obtain ⟨t, ht⟩ : ∃ t, (s.next look).1 = t := ⟨_, rfl⟩
        rw [ht] at g1 g2 g3 g4
        obtain ⟨⟨z1, z2⟩, ⟨z3, z4⟩, ⟨z5, z6⟩, _⟩ := hI.out
        by_cases hgt : s.now < t
        · replace g4 := g4 hgt
          have k1 := HR.out.r2.cells
          go_wp2_with fail
          refine (pacNext_c w _ _ b1 s look hl.out ho HR.out).mono ?_
          rw [hok, ht]
          rintro e w4 ⟨rfl, H4⟩
          replace H4 := Lib.hid H4
          clear HR k1
          have k1 := H4.out.r2.cells
          go_wp2_with fail
          refine (pacTick_c w _ _ b1 s (t - 1) s.rate s.qu ho (by unfold U; omega) ⟨z3, by omega⟩ ⟨z5, by omega⟩ H4.out).mono ?_
          have hq := Pac.ok_tick (now := t - 1) (rate := s.rate) (qu := s.qu) ho (by unfold U; omega) ⟨z3, by omega⟩ ⟨z5, by omega⟩
          generalize s.tick (t - 1) s.rate s.qu = r5 at *
          obtain ⟨r5, s5⟩ := r5
          simp only at g4 hq ⊢
          rintro e w5 ⟨rfl, H5⟩
          replace H5 := Lib.hid H5
          clear H4 k1
          have k1 := H5.out.r2.cells
          go_wp2_with fail
          refine (pacTake_c w _ _ b1 s5 look hl.out hq H5.out).mono ?_
          rw [g4]
          rintro e w6 ⟨rfl, H6⟩
          clear H5 k1
          have H4 : Hid (Own w w6 (pac b2 s :: pts b3 (.cells #[.int .u8 ka, .int .u64 s.now, .int .u64 s.rate, .int .u64 s.qu, .int .u64 za] 101 (0, 0)) :: [old w])) := Lib.hid (Own.pm (H6) (by repeat (first | with_reducible exact Pm.refl _ | with_reducible exact Pm.nil _ | with_reducible refine Pm.here ?_ | with_reducible refine Pm.at2 ?_ | with_reducible refine Pm.at3 ?_ | with_reducible refine Pm.at4 ?_ | with_reducible refine Pm.at5 ?_ | with_reducible refine Pm.at6 ?_ | with_reducible refine Pm.at7 ?_ | with_reducible refine Pm.at8 ?_ | with_reducible refine Pm.skip ?_)))
          clear H6
          have k1 := H4.out.r2.cells
          go_wp2_with fail
          refine (pacTick_c w _ _ b2 s t s.rate s.qu ho (by unfold U; omega) ⟨z3, by omega⟩ ⟨z5, by omega⟩ H4.out).mono ?_
          have hq := Pac.ok_tick (now := t) (rate := s.rate) (qu := s.qu) ho (by unfold U; omega) ⟨z3, by omega⟩ ⟨z5, by omega⟩
          generalize s.tick t s.rate s.qu = r7 at *
          obtain ⟨r7, s7⟩ := r7
          simp only at g3 hq ⊢
          rintro e w7 ⟨rfl, H7⟩
          replace H7 := Lib.hid H7
          clear H4 k1
          go_wp2_with fail
          refine (pacTake_c w _ _ b2 s7 look hl.out hq H7.out).mono ?_
          rw [g3]
          rintro e wz ⟨rfl, HZ⟩
          clear H7
          replace HZ := Lib.hid HZ
          replace HZ := Lib.hid ((Own.pm (HZ.out) (by repeat (first | with_reducible exact Pm.refl _ | with_reducible exact Pm.nil _ | with_reducible refine Pm.here ?_ | with_reducible refine Pm.at2 ?_ | with_reducible refine Pm.at3 ?_ | with_reducible refine Pm.at4 ?_ | with_reducible refine Pm.at5 ?_ | with_reducible refine Pm.at6 ?_ | with_reducible refine Pm.at7 ?_ | with_reducible refine Pm.at8 ?_ | with_reducible refine Pm.skip ?_))) : Own w _ [old w])
          go_wp2_with fail
          refine (pacFill_nil _).mono ?_
          rintro e w' ⟨rfl, rfl⟩
          go_wp2_with fail
          refine (pacNext_nil _ 1).mono ?_
          rintro e w' ⟨rfl, rfl⟩
          go_wp2_with fail
          refine (alive16_k _).mono ?_
          rintro e w8 ⟨rfl, hbel⟩
          replace HZ := Lib.hid ((by first | exact Kp.same hbel | exact Kp.drew hbel | exact Kp.below hbel : Kp _ w8) _ _ (by first | exact HZ.out | exact HZ.out.drewN _ | exact (HZ.out.alloc _).tail | exact ((HZ.out.alloc _).drewN _).tail | exact ((HZ.out.alloc _).alloc _).tail.tail))
          clear hbel
          go_wp2_with fail
          refine (pacTick_nil _ 1 1 1).mono ?_
          rintro e w' ⟨rfl, rfl⟩
          go_wp2_with fail
          refine (pacCredit_nil _).mono ?_
          rintro e w' ⟨rfl, rfl⟩
          go_wp2_with fail
          refine (pacTake_nil _ 0 HZ.out).mono ?_
          rintro e w9 ⟨rfl, H9⟩
          replace H9 := Lib.hid H9
          go_wp2_with fail
          go_ret
          exact ⟨rfl, (Own.pm (H9) (by repeat (first | with_reducible exact Pm.refl _ | with_reducible exact Pm.nil _ | with_reducible refine Pm.here ?_ | with_reducible refine Pm.at2 ?_ | with_reducible refine Pm.at3 ?_ | with_reducible refine Pm.at4 ?_ | with_reducible refine Pm.at5 ?_ | with_reducible refine Pm.at6 ?_ | with_reducible refine Pm.at7 ?_ | with_reducible refine Pm.at8 ?_ | with_reducible refine Pm.skip ?_)))⟩
        · have k1 := HR.out.r2.cells
          go_wp2_with fail
          refine (pacNext_c w _ _ b1 s look hl.out ho HR.out).mono ?_
          rw [hok, ht]
          rintro e w4 ⟨rfl, H4⟩
          replace H4 := Lib.hid H4
          clear HR k1
          have k1 := H4.out.r2.cells
          replace H4 := Lib.hid ((Own.pm (H4.out) (by repeat (first | with_reducible exact Pm.refl _ | with_reducible exact Pm.nil _ | with_reducible refine Pm.here ?_ | with_reducible refine Pm.at2 ?_ | with_reducible refine Pm.at3 ?_ | with_reducible refine Pm.at4 ?_ | with_reducible refine Pm.at5 ?_ | with_reducible refine Pm.at6 ?_ | with_reducible refine Pm.at7 ?_ | with_reducible refine Pm.at8 ?_ | with_reducible refine Pm.skip ?_))) : Own w w4 (pac b2 s :: pts b3 (.cells #[.int .u8 ka, .int .u64 s.now, .int .u64 s.rate, .int .u64 s.qu, .int .u64 za] 101 (0, 0)) :: [old w]))
          clear k1
          have k1 := H4.out.r2.cells
          go_wp2_with fail
          refine (pacTick_c w _ _ b2 s t s.rate s.qu ho (by unfold U; omega) ⟨z3, by omega⟩ ⟨z5, by omega⟩ H4.out).mono ?_
          have hq := Pac.ok_tick (now := t) (rate := s.rate) (qu := s.qu) ho (by unfold U; omega) ⟨z3, by omega⟩ ⟨z5, by omega⟩
          generalize s.tick t s.rate s.qu = r7 at *
          obtain ⟨r7, s7⟩ := r7
          simp only at g3 hq ⊢
          rintro e w7 ⟨rfl, H7⟩
          replace H7 := Lib.hid H7
          clear H4 k1
          go_wp2_with fail
          refine (pacTake_c w _ _ b2 s7 look hl.out hq H7.out).mono ?_
          rw [g3]
          rintro e wz ⟨rfl, HZ⟩
          clear H7
          replace HZ := Lib.hid HZ
          replace HZ := Lib.hid ((Own.pm (HZ.out) (by repeat (first | with_reducible exact Pm.refl _ | with_reducible exact Pm.nil _ | with_reducible refine Pm.here ?_ | with_reducible refine Pm.at2 ?_ | with_reducible refine Pm.at3 ?_ | with_reducible refine Pm.at4 ?_ | with_reducible refine Pm.at5 ?_ | with_reducible refine Pm.at6 ?_ | with_reducible refine Pm.at7 ?_ | with_reducible refine Pm.at8 ?_ | with_reducible refine Pm.skip ?_))) : Own w _ [old w])
          go_wp2_with fail
          refine (pacFill_nil _).mono ?_
          rintro e w' ⟨rfl, rfl⟩
          go_wp2_with fail
          refine (pacNext_nil _ 1).mono ?_
          rintro e w' ⟨rfl, rfl⟩
          go_wp2_with fail
          refine (alive16_k _).mono ?_
          rintro e w8 ⟨rfl, hbel⟩
          replace HZ := Lib.hid ((by first | exact Kp.same hbel | exact Kp.drew hbel | exact Kp.below hbel : Kp _ w8) _ _ (by first | exact HZ.out | exact HZ.out.drewN _ | exact (HZ.out.alloc _).tail | exact ((HZ.out.alloc _).drewN _).tail | exact ((HZ.out.alloc _).alloc _).tail.tail))
          clear hbel
          go_wp2_with fail
          refine (pacTick_nil _ 1 1 1).mono ?_
          rintro e w' ⟨rfl, rfl⟩
          go_wp2_with fail
          refine (pacCredit_nil _).mono ?_
          rintro e w' ⟨rfl, rfl⟩
          go_wp2_with fail
          refine (pacTake_nil _ 0 HZ.out).mono ?_
          rintro e w9 ⟨rfl, H9⟩
          replace H9 := Lib.hid H9
          go_wp2_with fail
          go_ret
          exact ⟨rfl, (Own.pm (H9) (by repeat (first | with_reducible exact Pm.refl _ | with_reducible exact Pm.nil _ | with_reducible refine Pm.here ?_ | with_reducible refine Pm.at2 ?_ | with_reducible refine Pm.at3 ?_ | with_reducible refine Pm.at4 ?_ | with_reducible refine Pm.at5 ?_ | with_reducible refine Pm.at6 ?_ | with_reducible refine Pm.at7 ?_ | with_reducible refine Pm.at8 ?_ | with_reducible refine Pm.skip ?_)))⟩
      · replace hok : (s.next look).2 = false := by simpa using hok
        have k1 := HR.out.r2.cells
        go_wp2_with fail
        refine (pacNext_c w _ _ b1 s look hl.out ho HR.out).mono ?_
        rw [hok]
        rintro e w4 ⟨rfl, H4⟩
        replace H4 := Lib.hid H4
        clear HR k1
        replace H4 := Lib.hid ((Own.pm (H4.out) (by repeat (first | with_reducible exact Pm.refl _ | with_reducible exact Pm.nil _ | with_reducible refine Pm.here ?_ | with_reducible refine Pm.at2 ?_ | with_reducible refine Pm.at3 ?_ | with_reducible refine Pm.at4 ?_ | with_reducible refine Pm.at5 ?_ | with_reducible refine Pm.at6 ?_ | with_reducible refine Pm.at7 ?_ | with_reducible refine Pm.at8 ?_ | with_reducible refine Pm.skip ?_))) : Own w _ [old w])
        go_wp2_with fail
        refine (pacFill_nil _).mono ?_
        rintro e w' ⟨rfl, rfl⟩
        go_wp2_with fail
        refine (pacNext_nil _ 1).mono ?_
        rintro e w' ⟨rfl, rfl⟩
        go_wp2_with fail
        refine (alive16_k _).mono ?_
        rintro e w8 ⟨rfl, hbel⟩
        replace H4 := Lib.hid ((by first | exact Kp.same hbel | exact Kp.drew hbel | exact Kp.below hbel : Kp _ w8) _ _ (by first | exact H4.out | exact H4.out.drewN _ | exact (H4.out.alloc _).tail | exact ((H4.out.alloc _).drewN _).tail | exact ((H4.out.alloc _).alloc _).tail.tail))
        clear hbel
        go_wp2_with fail
        refine (pacTick_nil _ 1 1 1).mono ?_
        rintro e w' ⟨rfl, rfl⟩
        go_wp2_with fail
        refine (pacCredit_nil _).mono ?_
        rintro e w' ⟨rfl, rfl⟩
        go_wp2_with fail
        refine (pacTake_nil _ 0 H4.out).mono ?_
        rintro e w9 ⟨rfl, H9⟩
        replace H9 := Lib.hid H9
        go_wp2_with fail
        go_ret
        exact ⟨rfl, (Own.pm (H9) (by repeat (first | with_reducible exact Pm.refl _ | with_reducible exact Pm.nil _ | with_reducible refine Pm.here ?_ | with_reducible refine Pm.at2 ?_ | with_reducible refine Pm.at3 ?_ | with_reducible refine Pm.at4 ?_ | with_reducible refine Pm.at5 ?_ | with_reducible refine Pm.at6 ?_ | with_reducible refine Pm.at7 ?_ | with_reducible refine Pm.at8 ?_ | with_reducible refine Pm.skip ?_)))⟩
end
end Go.Proofs.Ytoimbdbajpjmjaa
