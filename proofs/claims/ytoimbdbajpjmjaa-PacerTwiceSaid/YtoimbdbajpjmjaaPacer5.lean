/- PacerNoMore: the walk. -/
import Derived.Test.YtoimbdbajpjmjaaPacer4
namespace Go.Proofs.Ytoimbdbajpjmjaa
open Go.RowKit
theorem U16_of_wf {x : Int} (h : (Lit.int .u16 x).wf = true) : 0 ≤ x ∧ x ≤ 65535 := by
  simp [Lit.wf, IntKind.min, IntKind.max, IntKind.signed, IntKind.bits] at h
  omega
section
variable (w : World)
set_option maxRecDepth 100000 in
set_option maxHeartbeats 12800000 in
theorem pacerNoMore_c (A : Option Addr) (len cap : Nat) (xs : List ActP) (hr : rdSlice rdActP 5 w [.slice A len cap] xs) (fr : Int) (hl : (Lit.int .u16 fr).wf = true) :
    Calls Try.prog 13 #[.slice A len cap, .int .u16 fr] w fun e w' => e = .returned (.bool true) ∧ Own w w' [old w] := by
  have HH := Lib.hid (Own.init w)
  replace hl := U16_of_wf hl
  obtain ⟨hlen, hm, hx⟩ := rdSlice_cases hr
  clear hr
  by_cases hbig : 200 < len
  · go_enter Try.func13, Try.ntmps13
    go_wp2_with fail
    refine (alive16_k _).mono ?_
    rintro e w1 ⟨rfl, hbel⟩
    replace HH := Lib.hid ((by first | exact Kp.same hbel | exact Kp.drew hbel | exact Kp.below hbel : Kp _ w1) _ _ (by first | exact HH.out | exact HH.out.drewN _ | exact (HH.out.alloc _).tail | exact ((HH.out.alloc _).drewN _).tail | exact ((HH.out.alloc _).alloc _).tail.tail))
    clear hbel
    go_wp2_with fail
    go_ret
    exact ⟨rfl, HH.out⟩
  have hacts : ∀ k, k < len → ∃ ab off kd nw rt qn sz, A = some ⟨ab, off, none⟩ ∧ (0 ≤ kd ∧ kd ≤ 255) ∧ U nw ∧ U rt ∧ U qn ∧ U sz ∧ w.cell? ⟨ab, off + k * 5, none⟩ = some (.int .u8 kd) ∧ w.cell? ⟨ab, off + k * 5 + 1, none⟩ = some (.int .u64 nw) ∧ w.cell? ⟨ab, off + k * 5 + 2, none⟩ = some (.int .u64 rt) ∧ w.cell? ⟨ab, off + k * 5 + 3, none⟩ = some (.int .u64 qn) ∧ w.cell? ⟨ab, off + k * 5 + 4, none⟩ = some (.int .u64 sz) := by
    intro k hk
    rcases hx with hz | ⟨ab, off, rfl, hx⟩
    · omega
    · obtain ⟨c, _, hcell, hR⟩ := hx k (by omega)
      obtain ⟨rfl, h0, h1, h2, h3, h4⟩ := rdActP_open hR
      exact ⟨ab, off, _, _, _, _, _, rfl, h0, h1, h2, h3, h4, hcell 0 _ rfl, hcell 1 _ rfl, hcell 2 _ rfl, hcell 3 _ rfl, hcell 4 _ rfl⟩
  clear hx
  replace hacts := Lib.hid hacts
  replace hlen := Lib.hid hlen
  obtain ⟨f, hf⟩ : ∃ f, fr % 200 = f := ⟨_, rfl⟩
  have hf0 : 0 ≤ f := by omega
  have hf1 : f < 200 := by omega
  go_enter Try.func13, Try.ntmps13
  go_wp2_with fail
  refine (pacNew_c w _ _ HH.out).mono ?_
  rintro e w1 ⟨b1, rfl, H1⟩
  replace H1 := Lib.hid H1
  clear HH
  go_wp2_with fail
  go_loopw [6, 7, 8, 9, 10] (fun ls qm bg ud i wr => ∃ (k : Nat) (s : Pac) (bd us : Int), k ≤ len ∧ i = .int .i64 k ∧ ls = .int .u64 s.now ∧ qm = .int .u64 s.qu ∧ bg = .int .u64 bd ∧ ud = .int .u64 us ∧ NInv f k s bd us ∧ Own w wr (pac b1 s :: [old w])) (fun _ _ _ _ i _ => len - (intOf i).toNat)
  case atStart => exact ⟨0, Pac.zero, 0, 0, Nat.zero_le _, rfl, rfl, rfl, rfl, rfl, NInv.zero hf0, H1.out⟩
  case round =>
    obtain ⟨k, s, bd, us, hk, rfl, rfl, rfl, rfl, rfl, hI, HR⟩ := hrel
    replace HR := Lib.hid HR
    replace hI := Lib.hid hI
    clear H1
    by_cases hlt : k < len
    · obtain ⟨ab, off, kd, nw, rt, qn, sz, rfl, hkd, u1, u2, u3, u4, c0, c1, c2, c3, c4⟩ := hacts.out k hlt
      have k0 := ((Own.pm (HR.out) (by repeat (first | with_reducible exact Pm.refl _ | with_reducible exact Pm.nil _ | with_reducible refine Pm.here ?_ | with_reducible refine Pm.at2 ?_ | with_reducible refine Pm.at3 ?_ | with_reducible refine Pm.at4 ?_ | with_reducible refine Pm.at5 ?_ | with_reducible refine Pm.at6 ?_ | with_reducible refine Pm.at7 ?_ | with_reducible refine Pm.at8 ?_ | with_reducible refine Pm.skip ?_))) : Own w wr [old w]).old_cell c0
      have k1 := ((Own.pm (HR.out) (by repeat (first | with_reducible exact Pm.refl _ | with_reducible exact Pm.nil _ | with_reducible refine Pm.here ?_ | with_reducible refine Pm.at2 ?_ | with_reducible refine Pm.at3 ?_ | with_reducible refine Pm.at4 ?_ | with_reducible refine Pm.at5 ?_ | with_reducible refine Pm.at6 ?_ | with_reducible refine Pm.at7 ?_ | with_reducible refine Pm.at8 ?_ | with_reducible refine Pm.skip ?_))) : Own w wr [old w]).old_cell c1
      have k2 := ((Own.pm (HR.out) (by repeat (first | with_reducible exact Pm.refl _ | with_reducible exact Pm.nil _ | with_reducible refine Pm.here ?_ | with_reducible refine Pm.at2 ?_ | with_reducible refine Pm.at3 ?_ | with_reducible refine Pm.at4 ?_ | with_reducible refine Pm.at5 ?_ | with_reducible refine Pm.at6 ?_ | with_reducible refine Pm.at7 ?_ | with_reducible refine Pm.at8 ?_ | with_reducible refine Pm.skip ?_))) : Own w wr [old w]).old_cell c2
      have k3 := ((Own.pm (HR.out) (by repeat (first | with_reducible exact Pm.refl _ | with_reducible exact Pm.nil _ | with_reducible refine Pm.here ?_ | with_reducible refine Pm.at2 ?_ | with_reducible refine Pm.at3 ?_ | with_reducible refine Pm.at4 ?_ | with_reducible refine Pm.at5 ?_ | with_reducible refine Pm.at6 ?_ | with_reducible refine Pm.at7 ?_ | with_reducible refine Pm.at8 ?_ | with_reducible refine Pm.skip ?_))) : Own w wr [old w]).old_cell c3
      have k4 := ((Own.pm (HR.out) (by repeat (first | with_reducible exact Pm.refl _ | with_reducible exact Pm.nil _ | with_reducible refine Pm.here ?_ | with_reducible refine Pm.at2 ?_ | with_reducible refine Pm.at3 ?_ | with_reducible refine Pm.at4 ?_ | with_reducible refine Pm.at5 ?_ | with_reducible refine Pm.at6 ?_ | with_reducible refine Pm.at7 ?_ | with_reducible refine Pm.at8 ?_ | with_reducible refine Pm.skip ?_))) : Own w wr [old w]).old_cell c4
      clear c0 c1 c2 c3 c4
      replace u1 := u1.1
      replace u2 := u2.1
      replace u3 := u3.1
      replace u4 := u4.1
      replace hf := Lib.hid hf
      replace hl := Lib.hid hl
      go_wp2_with (first | with_reducible refine stop_bs ?_ | with_reducible refine stop_bx ?_ | with_reducible refine stop_al ?_ | with_reducible refine stop_ms ?_ | with_reducible refine stop_app ?_ | with_reducible refine stop_copy ?_)
      refine Stop.go ?_
      go_step
      go_simp
      have H2_0 := Lib.hid (HR.out.alloc (.cells #[.int .u8 0, .int .u64 0, .int .u64 0, .int .u64 0, .int .u64 0] 101))
      generalize wr.alloc (.cells #[.int .u8 0, .int .u64 0, .int .u64 0, .int .u64 0, .int .u64 0] 101) = w2_0 at *
      generalize wr.heap.size = b2 at *
      go_wp2_with (with_reducible refine stop_st ?_)
      refine Stop.go ?_
      refine wpList_store_own _ #[.int .u8 kd, .int .u64 nw, .int .u64 rt, .int .u64 qn, .int .u64 sz] rfl rfl (H2_0.out) (by kernel_rfl) rfl (by simp [Value.oneCell']) ?_
      intro w2 H2
      replace H2 := Lib.hid H2
      clear H2_0
      clear k0 k1 k2 k3 k4
      clear hacts
      replace HR := H2
      clear H2
      (try clear k1); have k1 := HR.out.cells
      by_cases v1 : 1048576 < nw
      · go_wp2_with fail
        refine (alive16_k _).mono ?_
        rintro e w3 ⟨rfl, hbel⟩
        replace HR := Lib.hid ((by first | exact Kp.same hbel | exact Kp.drew hbel | exact Kp.below hbel : Kp _ w3) _ _ (by first | exact HR.out | exact HR.out.drewN _ | exact (HR.out.alloc _).tail | exact ((HR.out.alloc _).drewN _).tail | exact ((HR.out.alloc _).alloc _).tail.tail))
        clear hbel
        go_wp2_with fail
        go_ret
        exact ⟨rfl, (Own.pm (HR.out) (by repeat (first | with_reducible exact Pm.refl _ | with_reducible exact Pm.nil _ | with_reducible refine Pm.here ?_ | with_reducible refine Pm.at2 ?_ | with_reducible refine Pm.at3 ?_ | with_reducible refine Pm.at4 ?_ | with_reducible refine Pm.at5 ?_ | with_reducible refine Pm.at6 ?_ | with_reducible refine Pm.at7 ?_ | with_reducible refine Pm.at8 ?_ | with_reducible refine Pm.skip ?_)))⟩
      by_cases v2 : 1048576 < rt
      · go_wp2_with fail
        refine (alive16_k _).mono ?_
        rintro e w3 ⟨rfl, hbel⟩
        replace HR := Lib.hid ((by first | exact Kp.same hbel | exact Kp.drew hbel | exact Kp.below hbel : Kp _ w3) _ _ (by first | exact HR.out | exact HR.out.drewN _ | exact (HR.out.alloc _).tail | exact ((HR.out.alloc _).drewN _).tail | exact ((HR.out.alloc _).alloc _).tail.tail))
        clear hbel
        go_wp2_with fail
        go_ret
        exact ⟨rfl, (Own.pm (HR.out) (by repeat (first | with_reducible exact Pm.refl _ | with_reducible exact Pm.nil _ | with_reducible refine Pm.here ?_ | with_reducible refine Pm.at2 ?_ | with_reducible refine Pm.at3 ?_ | with_reducible refine Pm.at4 ?_ | with_reducible refine Pm.at5 ?_ | with_reducible refine Pm.at6 ?_ | with_reducible refine Pm.at7 ?_ | with_reducible refine Pm.at8 ?_ | with_reducible refine Pm.skip ?_)))⟩
      by_cases v3 : 1048576 < qn
      · go_wp2_with fail
        refine (alive16_k _).mono ?_
        rintro e w3 ⟨rfl, hbel⟩
        replace HR := Lib.hid ((by first | exact Kp.same hbel | exact Kp.drew hbel | exact Kp.below hbel : Kp _ w3) _ _ (by first | exact HR.out | exact HR.out.drewN _ | exact (HR.out.alloc _).tail | exact ((HR.out.alloc _).drewN _).tail | exact ((HR.out.alloc _).alloc _).tail.tail))
        clear hbel
        go_wp2_with fail
        go_ret
        exact ⟨rfl, (Own.pm (HR.out) (by repeat (first | with_reducible exact Pm.refl _ | with_reducible exact Pm.nil _ | with_reducible refine Pm.here ?_ | with_reducible refine Pm.at2 ?_ | with_reducible refine Pm.at3 ?_ | with_reducible refine Pm.at4 ?_ | with_reducible refine Pm.at5 ?_ | with_reducible refine Pm.at6 ?_ | with_reducible refine Pm.at7 ?_ | with_reducible refine Pm.at8 ?_ | with_reducible refine Pm.skip ?_)))⟩
      by_cases v4 : 1048576 < sz
      · go_wp2_with fail
        refine (alive16_k _).mono ?_
        rintro e w3 ⟨rfl, hbel⟩
        replace HR := Lib.hid ((by first | exact Kp.same hbel | exact Kp.drew hbel | exact Kp.below hbel : Kp _ w3) _ _ (by first | exact HR.out | exact HR.out.drewN _ | exact (HR.out.alloc _).tail | exact ((HR.out.alloc _).drewN _).tail | exact ((HR.out.alloc _).alloc _).tail.tail))
        clear hbel
        go_wp2_with fail
        go_ret
        exact ⟨rfl, (Own.pm (HR.out) (by repeat (first | with_reducible exact Pm.refl _ | with_reducible exact Pm.nil _ | with_reducible refine Pm.here ?_ | with_reducible refine Pm.at2 ?_ | with_reducible refine Pm.at3 ?_ | with_reducible refine Pm.at4 ?_ | with_reducible refine Pm.at5 ?_ | with_reducible refine Pm.at6 ?_ | with_reducible refine Pm.at7 ?_ | with_reducible refine Pm.at8 ?_ | with_reducible refine Pm.skip ?_)))⟩
      replace HR := Lib.hid HR.out.r2
      clear k1
      have k1 := HR.out.r2.cells
      obtain ⟨md, hmd⟩ : ∃ md, kd % 2 = md := ⟨_, rfl⟩
      have hmd3 : md = 0 ∨ md = 1 := by omega
      have ho := hI.out.ok
      have hfm := hf.out
      have hlm := hl.out
      rcases Int.lt_trichotomy (k : Int) f with hkf | hkf | hkf
      · have hJ := Lib.hid (hI.out.start_not (by omega : (k : Int) ≠ f))
        obtain ⟨rfl, rfl⟩ := hI.out.2.2.2.2.1 (by omega)
        clear hI
        obtain ⟨⟨z1, z2⟩, _, ⟨z3, z4⟩, ⟨z5, z6⟩, _, z7⟩ := hJ.out
        clear z7
        rcases hmd3 with rfl | rfl
        · rcases NInv.tick ⟨u1, by omega⟩ ⟨u2, by omega⟩ ⟨u3, by omega⟩ hJ.out with ⟨ht, he⟩ | ⟨ht, he, hnw, hqn, hb1, hb2⟩
          · clear z5
            go_wp2_with fail
            refine (pacTick_c w _ _ b1 s nw rt qn ho ⟨u1, by omega⟩ ⟨u2, by omega⟩ ⟨u3, by omega⟩ HR.out).mono ?_
            rw [he]
            rintro e w3 ⟨rfl, H3⟩
            replace H3 := Lib.hid H3
            clear k1
            have k1 := H3.out.r2.cells
            clear HR
            go_wp2_with fail
            go_roundw
            case rel => exact ⟨k + 1, s, 0, 0, by omega, by go_num, rfl, rfl, rfl, (by first | rfl | rw [Int.zero_add]), (by rw [Int.natCast_add]; exact hJ.out), (Own.pm (H3.out) (by repeat (first | with_reducible exact Pm.refl _ | with_reducible exact Pm.nil _ | with_reducible refine Pm.here ?_ | with_reducible refine Pm.at2 ?_ | with_reducible refine Pm.at3 ?_ | with_reducible refine Pm.at4 ?_ | with_reducible refine Pm.at5 ?_ | with_reducible refine Pm.at6 ?_ | with_reducible refine Pm.at7 ?_ | with_reducible refine Pm.at8 ?_ | with_reducible refine Pm.skip ?_)))⟩
            case measure => simp [intOf]; omega
          · go_wp2_with fail
            refine (pacTick_c w _ _ b1 s nw rt qn ho ⟨u1, by omega⟩ ⟨u2, by omega⟩ ⟨u3, by omega⟩ HR.out).mono ?_
            rw [he]
            rintro e w3 ⟨rfl, H3⟩
            replace H3 := Lib.hid H3
            clear k1
            have k1 := H3.out.r2.cells
            clear HR
            generalize (s.tick nw rt qn).2 = s3 at *
            replace hb2 := Lib.hid (hb2 (by omega))
            clear hb1
            go_wp2_with fail
            go_roundw
            case rel => exact ⟨k + 1, s3, 0, 0, by omega, by go_num, (by rw [hnw]), (by rw [hqn]), rfl, (by first | rfl | rw [Int.zero_add]), (by rw [Int.natCast_add]; exact hb2.out), (Own.pm (H3.out) (by repeat (first | with_reducible exact Pm.refl _ | with_reducible exact Pm.nil _ | with_reducible refine Pm.here ?_ | with_reducible refine Pm.at2 ?_ | with_reducible refine Pm.at3 ?_ | with_reducible refine Pm.at4 ?_ | with_reducible refine Pm.at5 ?_ | with_reducible refine Pm.at6 ?_ | with_reducible refine Pm.at7 ?_ | with_reducible refine Pm.at8 ?_ | with_reducible refine Pm.skip ?_)))⟩
            case measure => simp [intOf]; omega
        · obtain ⟨hnw, hqn, hT⟩ := NInv.take u4 (show sz ≤ 1048576 by omega) hJ.out
          rcases hT with ⟨he, hb1, hb2⟩ | ⟨he, hb⟩
          · replace hb2 := Lib.hid (hb2 (by omega))
            clear hb1
            go_wp2_with fail
            refine (pacTake_c w _ _ b1 s sz ⟨u4, by omega⟩ ho HR.out).mono ?_
            rw [he]
            rintro e w3 ⟨rfl, H3⟩
            replace H3 := Lib.hid H3
            clear k1
            have k1 := H3.out.r2.cells
            clear HR
            generalize (s.take sz).2 = s3 at *
            go_wp2_with fail
            go_roundw
            case rel => exact ⟨k + 1, s3, 0, 0, by omega, by go_num, (by rw [hnw]), (by rw [hqn]), rfl, (by first | rfl | rw [Int.zero_add]), (by rw [Int.natCast_add]; exact hb2.out), (Own.pm (H3.out) (by repeat (first | with_reducible exact Pm.refl _ | with_reducible exact Pm.nil _ | with_reducible refine Pm.here ?_ | with_reducible refine Pm.at2 ?_ | with_reducible refine Pm.at3 ?_ | with_reducible refine Pm.at4 ?_ | with_reducible refine Pm.at5 ?_ | with_reducible refine Pm.at6 ?_ | with_reducible refine Pm.at7 ?_ | with_reducible refine Pm.at8 ?_ | with_reducible refine Pm.skip ?_)))⟩
            case measure => simp [intOf]; omega
          · replace hb := Lib.hid hb
            go_wp2_with fail
            refine (pacTake_c w _ _ b1 s sz ⟨u4, by omega⟩ ho HR.out).mono ?_
            rw [he]
            rintro e w3 ⟨rfl, H3⟩
            replace H3 := Lib.hid H3
            clear k1
            have k1 := H3.out.r2.cells
            clear HR
            generalize (s.take sz).2 = s3 at *
            go_wp2_with fail
            go_roundw
            case rel => exact ⟨k + 1, s3, 0, 0, by omega, by go_num, (by rw [hnw]), (by rw [hqn]), rfl, (by first | rfl | rw [Int.zero_add]), (by rw [Int.natCast_add]; exact hb.out), (Own.pm (H3.out) (by repeat (first | with_reducible exact Pm.refl _ | with_reducible exact Pm.nil _ | with_reducible refine Pm.here ?_ | with_reducible refine Pm.at2 ?_ | with_reducible refine Pm.at3 ?_ | with_reducible refine Pm.at4 ?_ | with_reducible refine Pm.at5 ?_ | with_reducible refine Pm.at6 ?_ | with_reducible refine Pm.at7 ?_ | with_reducible refine Pm.at8 ?_ | with_reducible refine Pm.skip ?_)))⟩
            case measure => simp [intOf]; omega
      · subst hkf
        obtain ⟨rfl, rfl, hJ⟩ := hI.out.start_at
        replace hJ := Lib.hid hJ
        clear hI
        obtain ⟨⟨z1, z2⟩, _, ⟨z3, z4⟩, ⟨z5, z6⟩, _, z7⟩ := hJ.out
        obtain ⟨z7, z8, z9⟩ := z7 (by omega)
        rcases hmd3 with rfl | rfl
        · rcases NInv.tick ⟨u1, by omega⟩ ⟨u2, by omega⟩ ⟨u3, by omega⟩ hJ.out with ⟨ht, he⟩ | ⟨ht, he, hnw, hqn, hb1, hb2⟩
          · clear z7
            go_wp2_with fail
            refine (pacTick_c w _ _ b1 s nw rt qn ho ⟨u1, by omega⟩ ⟨u2, by omega⟩ ⟨u3, by omega⟩ HR.out).mono ?_
            rw [he]
            rintro e w3 ⟨rfl, H3⟩
            replace H3 := Lib.hid H3
            clear k1
            have k1 := H3.out.r2.cells
            clear HR
            go_wp2_with fail
            go_roundw
            case rel => exact ⟨k + 1, s, (s.qu * 1000000), 0, by omega, by go_num, rfl, rfl, rfl, (by first | rfl | rw [Int.zero_add]), (by rw [Int.natCast_add]; exact hJ.out), (Own.pm (H3.out) (by repeat (first | with_reducible exact Pm.refl _ | with_reducible exact Pm.nil _ | with_reducible refine Pm.here ?_ | with_reducible refine Pm.at2 ?_ | with_reducible refine Pm.at3 ?_ | with_reducible refine Pm.at4 ?_ | with_reducible refine Pm.at5 ?_ | with_reducible refine Pm.at6 ?_ | with_reducible refine Pm.at7 ?_ | with_reducible refine Pm.at8 ?_ | with_reducible refine Pm.skip ?_)))⟩
            case measure => simp [intOf]; omega
          · go_wp2_with fail
            refine (pacTick_c w _ _ b1 s nw rt qn ho ⟨u1, by omega⟩ ⟨u2, by omega⟩ ⟨u3, by omega⟩ HR.out).mono ?_
            rw [he]
            rintro e w3 ⟨rfl, H3⟩
            replace H3 := Lib.hid H3
            clear k1
            have k1 := H3.out.r2.cells
            clear HR
            generalize (s.tick nw rt qn).2 = s3 at *
            replace hb1 := Lib.hid (hb1 (by omega))
            clear hb2
            obtain ⟨m1, m2, m3⟩ := mul_bound u2 v2 (show 0 ≤ nw - s.now by omega) (by omega)
            go_wp2_with fail
            go_roundw
            case rel => exact ⟨k + 1, s3, ((s.qu * 1000000) + rt * (nw - s.now)), 0, by omega, by go_num, (by rw [hnw]), (by rw [hqn]), rfl, (by first | rfl | rw [Int.zero_add]), (by rw [Int.natCast_add]; exact hb1.out), (Own.pm (H3.out) (by repeat (first | with_reducible exact Pm.refl _ | with_reducible exact Pm.nil _ | with_reducible refine Pm.here ?_ | with_reducible refine Pm.at2 ?_ | with_reducible refine Pm.at3 ?_ | with_reducible refine Pm.at4 ?_ | with_reducible refine Pm.at5 ?_ | with_reducible refine Pm.at6 ?_ | with_reducible refine Pm.at7 ?_ | with_reducible refine Pm.at8 ?_ | with_reducible refine Pm.skip ?_)))⟩
            case measure => simp [intOf]; omega
        · obtain ⟨hnw, hqn, hT⟩ := NInv.take u4 (show sz ≤ 1048576 by omega) hJ.out
          rcases hT with ⟨he, hb1, hb2⟩ | ⟨he, hb⟩
          · replace hb1 := Lib.hid (hb1 (by omega))
            clear hb2
            obtain ⟨_, _, _, ⟨y0, _⟩, _, y1⟩ := hb1.out
            obtain ⟨y1, y2, _⟩ := y1 (by omega)
            have y3 : 0 + sz * 1000000 ≤ (s.qu * 1000000) := by omega
            go_wp2_with fail
            refine (pacTake_c w _ _ b1 s sz ⟨u4, by omega⟩ ho HR.out).mono ?_
            rw [he]
            rintro e w3 ⟨rfl, H3⟩
            replace H3 := Lib.hid H3
            clear k1
            have k1 := H3.out.r2.cells
            clear HR
            generalize (s.take sz).2 = s3 at *
            go_wp2_with fail
            go_roundw
            case rel => exact ⟨k + 1, s3, (s.qu * 1000000), (0 + sz * 1000000), by omega, by go_num, (by rw [hnw]), (by rw [hqn]), rfl, (by first | rfl | rw [Int.zero_add]), (by rw [Int.natCast_add]; exact hb1.out), (Own.pm (H3.out) (by repeat (first | with_reducible exact Pm.refl _ | with_reducible exact Pm.nil _ | with_reducible refine Pm.here ?_ | with_reducible refine Pm.at2 ?_ | with_reducible refine Pm.at3 ?_ | with_reducible refine Pm.at4 ?_ | with_reducible refine Pm.at5 ?_ | with_reducible refine Pm.at6 ?_ | with_reducible refine Pm.at7 ?_ | with_reducible refine Pm.at8 ?_ | with_reducible refine Pm.skip ?_)))⟩
            case measure => simp [intOf]; omega
          · replace hb := Lib.hid hb
            have y3 : 0 ≤ (s.qu * 1000000) := by omega
            go_wp2_with fail
            refine (pacTake_c w _ _ b1 s sz ⟨u4, by omega⟩ ho HR.out).mono ?_
            rw [he]
            rintro e w3 ⟨rfl, H3⟩
            replace H3 := Lib.hid H3
            clear k1
            have k1 := H3.out.r2.cells
            clear HR
            generalize (s.take sz).2 = s3 at *
            go_wp2_with fail
            go_roundw
            case rel => exact ⟨k + 1, s3, (s.qu * 1000000), 0, by omega, by go_num, (by rw [hnw]), (by rw [hqn]), rfl, (by first | rfl | rw [Int.zero_add]), (by rw [Int.natCast_add]; exact hb.out), (Own.pm (H3.out) (by repeat (first | with_reducible exact Pm.refl _ | with_reducible exact Pm.nil _ | with_reducible refine Pm.here ?_ | with_reducible refine Pm.at2 ?_ | with_reducible refine Pm.at3 ?_ | with_reducible refine Pm.at4 ?_ | with_reducible refine Pm.at5 ?_ | with_reducible refine Pm.at6 ?_ | with_reducible refine Pm.at7 ?_ | with_reducible refine Pm.at8 ?_ | with_reducible refine Pm.skip ?_)))⟩
            case measure => simp [intOf]; omega
      · have hJ := Lib.hid (hI.out.start_not (by omega : (k : Int) ≠ f))
        clear hI
        obtain ⟨⟨z1, z2⟩, _, ⟨z3, z4⟩, ⟨z5, z6⟩, _, z7⟩ := hJ.out
        obtain ⟨z7, z8, z9⟩ := z7 (by omega)
        rcases hmd3 with rfl | rfl
        · rcases NInv.tick ⟨u1, by omega⟩ ⟨u2, by omega⟩ ⟨u3, by omega⟩ hJ.out with ⟨ht, he⟩ | ⟨ht, he, hnw, hqn, hb1, hb2⟩
          · clear z7
            go_wp2_with fail
            refine (pacTick_c w _ _ b1 s nw rt qn ho ⟨u1, by omega⟩ ⟨u2, by omega⟩ ⟨u3, by omega⟩ HR.out).mono ?_
            rw [he]
            rintro e w3 ⟨rfl, H3⟩
            replace H3 := Lib.hid H3
            clear k1
            have k1 := H3.out.r2.cells
            clear HR
            go_wp2_with fail
            go_roundw
            case rel => exact ⟨k + 1, s, bd, us, by omega, by go_num, rfl, rfl, rfl, (by first | rfl | rw [Int.zero_add]), (by rw [Int.natCast_add]; exact hJ.out), (Own.pm (H3.out) (by repeat (first | with_reducible exact Pm.refl _ | with_reducible exact Pm.nil _ | with_reducible refine Pm.here ?_ | with_reducible refine Pm.at2 ?_ | with_reducible refine Pm.at3 ?_ | with_reducible refine Pm.at4 ?_ | with_reducible refine Pm.at5 ?_ | with_reducible refine Pm.at6 ?_ | with_reducible refine Pm.at7 ?_ | with_reducible refine Pm.at8 ?_ | with_reducible refine Pm.skip ?_)))⟩
            case measure => simp [intOf]; omega
          · go_wp2_with fail
            refine (pacTick_c w _ _ b1 s nw rt qn ho ⟨u1, by omega⟩ ⟨u2, by omega⟩ ⟨u3, by omega⟩ HR.out).mono ?_
            rw [he]
            rintro e w3 ⟨rfl, H3⟩
            replace H3 := Lib.hid H3
            clear k1
            have k1 := H3.out.r2.cells
            clear HR
            generalize (s.tick nw rt qn).2 = s3 at *
            replace hb1 := Lib.hid (hb1 (by omega))
            clear hb2
            obtain ⟨m1, m2, m3⟩ := mul_bound u2 v2 (show 0 ≤ nw - s.now by omega) (by omega)
            go_wp2_with fail
            go_roundw
            case rel => exact ⟨k + 1, s3, (bd + rt * (nw - s.now)), us, by omega, by go_num, (by rw [hnw]), (by rw [hqn]), rfl, (by first | rfl | rw [Int.zero_add]), (by rw [Int.natCast_add]; exact hb1.out), (Own.pm (H3.out) (by repeat (first | with_reducible exact Pm.refl _ | with_reducible exact Pm.nil _ | with_reducible refine Pm.here ?_ | with_reducible refine Pm.at2 ?_ | with_reducible refine Pm.at3 ?_ | with_reducible refine Pm.at4 ?_ | with_reducible refine Pm.at5 ?_ | with_reducible refine Pm.at6 ?_ | with_reducible refine Pm.at7 ?_ | with_reducible refine Pm.at8 ?_ | with_reducible refine Pm.skip ?_)))⟩
            case measure => simp [intOf]; omega
        · obtain ⟨hnw, hqn, hT⟩ := NInv.take u4 (show sz ≤ 1048576 by omega) hJ.out
          rcases hT with ⟨he, hb1, hb2⟩ | ⟨he, hb⟩
          · replace hb1 := Lib.hid (hb1 (by omega))
            clear hb2
            obtain ⟨_, _, _, ⟨y0, _⟩, _, y1⟩ := hb1.out
            obtain ⟨y1, y2, _⟩ := y1 (by omega)
            have y3 : us + sz * 1000000 ≤ bd := by omega
            go_wp2_with fail
            refine (pacTake_c w _ _ b1 s sz ⟨u4, by omega⟩ ho HR.out).mono ?_
            rw [he]
            rintro e w3 ⟨rfl, H3⟩
            replace H3 := Lib.hid H3
            clear k1
            have k1 := H3.out.r2.cells
            clear HR
            generalize (s.take sz).2 = s3 at *
            go_wp2_with fail
            go_roundw
            case rel => exact ⟨k + 1, s3, bd, (us + sz * 1000000), by omega, by go_num, (by rw [hnw]), (by rw [hqn]), rfl, (by first | rfl | rw [Int.zero_add]), (by rw [Int.natCast_add]; exact hb1.out), (Own.pm (H3.out) (by repeat (first | with_reducible exact Pm.refl _ | with_reducible exact Pm.nil _ | with_reducible refine Pm.here ?_ | with_reducible refine Pm.at2 ?_ | with_reducible refine Pm.at3 ?_ | with_reducible refine Pm.at4 ?_ | with_reducible refine Pm.at5 ?_ | with_reducible refine Pm.at6 ?_ | with_reducible refine Pm.at7 ?_ | with_reducible refine Pm.at8 ?_ | with_reducible refine Pm.skip ?_)))⟩
            case measure => simp [intOf]; omega
          · replace hb := Lib.hid hb
            have y3 : us ≤ bd := by omega
            go_wp2_with fail
            refine (pacTake_c w _ _ b1 s sz ⟨u4, by omega⟩ ho HR.out).mono ?_
            rw [he]
            rintro e w3 ⟨rfl, H3⟩
            replace H3 := Lib.hid H3
            clear k1
            have k1 := H3.out.r2.cells
            clear HR
            generalize (s.take sz).2 = s3 at *
            go_wp2_with fail
            go_roundw
            case rel => exact ⟨k + 1, s3, bd, us, by omega, by go_num, (by rw [hnw]), (by rw [hqn]), rfl, (by first | rfl | rw [Int.zero_add]), (by rw [Int.natCast_add]; exact hb.out), (Own.pm (H3.out) (by repeat (first | with_reducible exact Pm.refl _ | with_reducible exact Pm.nil _ | with_reducible refine Pm.here ?_ | with_reducible refine Pm.at2 ?_ | with_reducible refine Pm.at3 ?_ | with_reducible refine Pm.at4 ?_ | with_reducible refine Pm.at5 ?_ | with_reducible refine Pm.at6 ?_ | with_reducible refine Pm.at7 ?_ | with_reducible refine Pm.at8 ?_ | with_reducible refine Pm.skip ?_)))⟩
            case measure => simp [intOf]; omega
    · have hkl : k = len := by omega
      clear hacts
      replace HR := Lib.hid ((Own.pm (HR.out) (by repeat (first | with_reducible exact Pm.refl _ | with_reducible exact Pm.nil _ | with_reducible refine Pm.here ?_ | with_reducible refine Pm.at2 ?_ | with_reducible refine Pm.at3 ?_ | with_reducible refine Pm.at4 ?_ | with_reducible refine Pm.at5 ?_ | with_reducible refine Pm.at6 ?_ | with_reducible refine Pm.at7 ?_ | with_reducible refine Pm.at8 ?_ | with_reducible refine Pm.skip ?_))) : Own w wr [old w])
      go_wp2_with fail
      refine (alive16_k _).mono ?_
      rintro e w3 ⟨rfl, hbel⟩
      replace HR := Lib.hid ((by first | exact Kp.same hbel | exact Kp.drew hbel | exact Kp.below hbel : Kp _ w3) _ _ (by first | exact HR.out | exact HR.out.drewN _ | exact (HR.out.alloc _).tail | exact ((HR.out.alloc _).drewN _).tail | exact ((HR.out.alloc _).alloc _).tail.tail))
      clear hbel
      go_wp2_with fail
      go_ret
      exact ⟨rfl, HR.out⟩
end
end Go.Proofs.Ytoimbdbajpjmjaa
