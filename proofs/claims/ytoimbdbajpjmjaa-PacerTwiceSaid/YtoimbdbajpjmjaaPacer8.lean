/- PacerTwice. -/
import Derived.Test.YtoimbdbajpjmjaaPacer6
namespace Go.Proofs.Ytoimbdbajpjmjaa
open Go.RowKit
theorem U32_of_wf {x : Int} (h : (Lit.int .u32 x).wf = true) : 0 ≤ x ∧ x ≤ 4294967295 := by
  simp [Lit.wf, IntKind.min, IntKind.max, IntKind.signed, IntKind.bits] at h
  omega
theorem tick_twice {s : Pac} {a b : Int} (h : TInv s) (ha : 0 ≤ a) (ha' : a ≤ 1048576) (hb : 0 ≤ b) (hb' : b ≤ 1048576) :
    (s.tick (s.now + a + b) s.rate s.qu).2 = ((s.tick (s.now + a) s.rate s.qu).2.tick (s.now + a + b) s.rate s.qu).2 := by
  obtain ⟨⟨a1, a2⟩, ⟨a3, a4⟩, ⟨a5, a6⟩, ⟨a7, a8⟩⟩ := h
  obtain ⟨m0, _, m1⟩ := mul_bound a3 a4 ha ha'
  obtain ⟨n0, _, n1⟩ := mul_bound a3 a4 hb hb'
  have eq : smul s.qu 1000000 = s.qu * 1000000 := by unfold smul; rw [if_neg (by omega)]
  have t1 : s.tick (s.now + a + b) s.rate s.qu = (0, ⟨s.now + a + b, min (sadd s.cr (smul s.rate (s.now + a + b - s.now))) (smul s.qu 1000000), s.rate, s.qu⟩) := if_neg (by omega)
  have t2 : s.tick (s.now + a) s.rate s.qu = (0, ⟨s.now + a, min (sadd s.cr (smul s.rate (s.now + a - s.now))) (smul s.qu 1000000), s.rate, s.qu⟩) := if_neg (by omega)
  rw [t1, t2]
  show _ = (Pac.tick ⟨s.now + a, min (sadd s.cr (smul s.rate (s.now + a - s.now))) (smul s.qu 1000000), s.rate, s.qu⟩ (s.now + a + b) s.rate s.qu).2
  have t3 : Pac.tick ⟨s.now + a, min (sadd s.cr (smul s.rate (s.now + a - s.now))) (smul s.qu 1000000), s.rate, s.qu⟩ (s.now + a + b) s.rate s.qu = (0, ⟨s.now + a + b, min (sadd (min (sadd s.cr (smul s.rate (s.now + a - s.now))) (smul s.qu 1000000)) (smul s.rate (s.now + a + b - (s.now + a)))) (smul s.qu 1000000), s.rate, s.qu⟩) := if_neg (by show ¬ s.now + a + b < s.now + a; omega)
  rw [t3, eq, show s.now + a + b - s.now = a + b by omega, show s.now + a - s.now = a by omega, show s.now + a + b - (s.now + a) = b by omega]
  have e1 : smul s.rate (a + b) = s.rate * a + s.rate * b := by unfold smul; rw [Int.mul_add, if_neg (by omega)]
  have e2 : smul s.rate a = s.rate * a := by unfold smul; rw [if_neg (by omega)]
  have e3 : smul s.rate b = s.rate * b := by unfold smul; rw [if_neg (by omega)]
  rw [e1, e2, e3]
  have e4 : sadd s.cr (s.rate * a + s.rate * b) = s.cr + (s.rate * a + s.rate * b) := by unfold sadd; rw [if_neg (by omega)]
  have e5 : sadd s.cr (s.rate * a) = s.cr + s.rate * a := by unfold sadd; rw [if_neg (by omega)]
  rw [e4, e5]
  have e6 : sadd (min (s.cr + s.rate * a) (s.qu * 1000000)) (s.rate * b) = min (s.cr + s.rate * a) (s.qu * 1000000) + s.rate * b := by unfold sadd; rw [if_neg (by omega)]
  rw [e6]
  show Pac.mk _ _ _ _ = Pac.mk _ _ _ _
  congr 1
  omega
section
variable (w : World)
set_option maxRecDepth 100000 in
set_option maxHeartbeats 12800000 in
theorem pacerTwice_c (A : Option Addr) (len cap : Nat) (xs : List ActP) (hr : rdSlice rdActP 5 w [.slice A len cap] xs) (a : Int) (ha : (Lit.int .u32 a).wf = true) (b : Int) (hb : (Lit.int .u32 b).wf = true) :
    Calls Try.prog 15 #[.slice A len cap, .int .u32 a, .int .u32 b] w fun e w' => e = .returned (.bool true) ∧ Own w w' [old w] := by
  have HH := Lib.hid (Own.init w)
  replace ha := U32_of_wf ha
  replace hb := U32_of_wf hb
  obtain ⟨hlen, hm, hx⟩ := rdSlice_cases hr
  clear hr
  by_cases hbig : 200 < len
  · go_enter Try.func15, Try.ntmps15
    go_wp2_with fail
    refine (alive16_k _).mono ?_
    rintro e w1 ⟨rfl, hbel⟩
    replace HH := Lib.hid ((by first | exact Kp.same hbel | exact Kp.drew hbel | exact Kp.below hbel : Kp _ w1) _ _ (by first | exact HH.out | exact HH.out.drewN _ | exact (HH.out.alloc _).tail | exact ((HH.out.alloc _).drewN _).tail | exact ((HH.out.alloc _).alloc _).tail.tail))
    clear hbel
    go_wp2_with fail
    go_ret
    exact ⟨rfl, HH.out⟩
  by_cases hba : 1048576 < a
  · go_enter Try.func15, Try.ntmps15
    go_wp2_with fail
    refine (alive16_k _).mono ?_
    rintro e w1 ⟨rfl, hbel⟩
    replace HH := Lib.hid ((by first | exact Kp.same hbel | exact Kp.drew hbel | exact Kp.below hbel : Kp _ w1) _ _ (by first | exact HH.out | exact HH.out.drewN _ | exact (HH.out.alloc _).tail | exact ((HH.out.alloc _).drewN _).tail | exact ((HH.out.alloc _).alloc _).tail.tail))
    clear hbel
    go_wp2_with fail
    go_ret
    exact ⟨rfl, HH.out⟩
  by_cases hbb : 1048576 < b
  · go_enter Try.func15, Try.ntmps15
    go_wp2_with fail
    refine (alive16_k _).mono ?_
    rintro e w1 ⟨rfl, hbel⟩
    replace HH := Lib.hid ((by first | exact Kp.same hbel | exact Kp.drew hbel | exact Kp.below hbel : Kp _ w1) _ _ (by first | exact HH.out | exact HH.out.drewN _ | exact (HH.out.alloc _).tail | exact ((HH.out.alloc _).drewN _).tail | exact ((HH.out.alloc _).alloc _).tail.tail))
    clear hbel
    go_wp2_with fail
    go_ret
    exact ⟨rfl, HH.out⟩
  have hacts : ∀ k, k < len → ∃ ab off kd nw rt qn sz, A = some ⟨ab, off, none⟩ ∧ (0 ≤ kd ∧ kd ≤ 255) ∧ U nw ∧ U rt ∧ U qn ∧ U sz ∧ w.cell? ⟨ab, off + k * 5, none⟩ = some (.int .u8 kd) ∧ w.cell? ⟨ab, off + k * 5 + 1, none⟩ = some (.int .u64 nw) ∧ w.cell? ⟨ab, off + k * 5 + 2, none⟩ = some (.int .u64 rt) ∧ w.cell? ⟨ab, off + k * 5 + 3, none⟩ = some (.int .u64 qn) ∧ w.cell? ⟨ab, off + k * 5 + 4, none⟩ = some (.int .u64 sz) := by
    intro k hk
    rcases hx with hz | ⟨ab, off, rfl, hx⟩
    · omega
    · obtain ⟨c, _, hcell, hR⟩ := hx k (by omega)
      obtain ⟨rfl, h0, h1, h2, h3, h4⟩ := rdActP_open hR
      exact ⟨ab, off, _, _, _, _, _, rfl, h0, h1, h2, h3, h4, hcell 0 _ rfl, hcell 1 _ rfl, hcell 2 _ rfl, hcell 3 _ rfl, hcell 4 _ rfl⟩
  clear hx
  replace hacts := Lib.hid hacts
  replace hlen := Lib.hid hlen
  go_enter Try.func15, Try.ntmps15
  go_wp2_with fail
  refine (pacNew_c w _ _ HH.out).mono ?_
  rintro e w1 ⟨b1, rfl, H1⟩
  replace H1 := Lib.hid H1
  clear HH
  go_wp2_with fail
  refine (pacNew_c w _ _ H1).mono ?_
  rintro e w2 ⟨b2, rfl, H2⟩
  replace H2 := Lib.hid H2
  clear H1
  replace H2 := Lib.hid H2
  go_wp2_with (first | with_reducible refine stop_bs ?_ | with_reducible refine stop_bx ?_ | with_reducible refine stop_al ?_ | with_reducible refine stop_ms ?_ | with_reducible refine stop_app ?_ | with_reducible refine stop_copy ?_)
  refine Stop.go ?_
  go_step
  go_simp
  have H3_0 := Lib.hid (H2.out.alloc (.cells #[.int .u8 0, .int .u64 0, .int .u64 0, .int .u64 0, .int .u64 0] 101))
  generalize w2.alloc (.cells #[.int .u8 0, .int .u64 0, .int .u64 0, .int .u64 0, .int .u64 0] 101) = w3_0 at *
  generalize w2.heap.size = b3 at *
  go_wp2_with (with_reducible refine stop_st ?_)
  refine Stop.go ?_
  refine wpList_store_own _ #[.int .u8 0, .int .u64 0, .int .u64 0, .int .u64 0, .int .u64 0] rfl rfl (H3_0.out) (by kernel_rfl) rfl (by simp [Value.oneCell']) ?_
  intro w3 H3
  replace H3 := Lib.hid H3
  clear H3_0
  clear H2
  go_wp2_with fail
  go_loopw [10] (fun i wr => ∃ (k : Nat) (s : Pac) (ka za : Int), k ≤ len ∧ i = .int .i64 k ∧ TInv s ∧ Own w wr (pac b1 s :: pac b2 s :: pts b3 (.cells #[.int .u8 ka, .int .u64 s.now, .int .u64 s.rate, .int .u64 s.qu, .int .u64 za] 101 (0, 0)) :: [old w])) (fun i _ => len - (intOf i).toNat)
  case atStart => exact ⟨0, Pac.zero, 0, 0, Nat.zero_le _, rfl, TInv.zero, (Own.pm ((show Own w w3 (pts b3 (.cells #[.int .u8 0, .int .u64 Pac.zero.now, .int .u64 Pac.zero.rate, .int .u64 Pac.zero.qu, .int .u64 0] 101 (0, 0)) :: pac b2 Pac.zero :: pac b1 Pac.zero :: [old w]) from H3.out)) (by repeat (first | with_reducible exact Pm.refl _ | with_reducible exact Pm.nil _ | with_reducible refine Pm.here ?_ | with_reducible refine Pm.at2 ?_ | with_reducible refine Pm.at3 ?_ | with_reducible refine Pm.at4 ?_ | with_reducible refine Pm.at5 ?_ | with_reducible refine Pm.at6 ?_ | with_reducible refine Pm.at7 ?_ | with_reducible refine Pm.at8 ?_ | with_reducible refine Pm.skip ?_)))⟩
  case round =>
    obtain ⟨k, s, ka, za, hk, rfl, hI, HR⟩ := hrel
    replace HR := Lib.hid HR
    replace hI := Lib.hid hI
    clear H3
    by_cases hlt : k < len
    · obtain ⟨ab, off, kd, nw, rt, qn, sz, rfl, hkd, u1, u2, u3, u4, c0, c1, c2, c3, c4⟩ := hacts.out k hlt
      have k0 := ((Own.pm (HR.out) (by repeat (first | with_reducible exact Pm.refl _ | with_reducible exact Pm.nil _ | with_reducible refine Pm.here ?_ | with_reducible refine Pm.at2 ?_ | with_reducible refine Pm.at3 ?_ | with_reducible refine Pm.at4 ?_ | with_reducible refine Pm.at5 ?_ | with_reducible refine Pm.at6 ?_ | with_reducible refine Pm.at7 ?_ | with_reducible refine Pm.at8 ?_ | with_reducible refine Pm.skip ?_))) : Own w wr [old w]).old_cell c0
      have k1 := ((Own.pm (HR.out) (by repeat (first | with_reducible exact Pm.refl _ | with_reducible exact Pm.nil _ | with_reducible refine Pm.here ?_ | with_reducible refine Pm.at2 ?_ | with_reducible refine Pm.at3 ?_ | with_reducible refine Pm.at4 ?_ | with_reducible refine Pm.at5 ?_ | with_reducible refine Pm.at6 ?_ | with_reducible refine Pm.at7 ?_ | with_reducible refine Pm.at8 ?_ | with_reducible refine Pm.skip ?_))) : Own w wr [old w]).old_cell c1
      have k2 := ((Own.pm (HR.out) (by repeat (first | with_reducible exact Pm.refl _ | with_reducible exact Pm.nil _ | with_reducible refine Pm.here ?_ | with_reducible refine Pm.at2 ?_ | with_reducible refine Pm.at3 ?_ | with_reducible refine Pm.at4 ?_ | with_reducible refine Pm.at5 ?_ | with_reducible refine Pm.at6 ?_ | with_reducible refine Pm.at7 ?_ | with_reducible refine Pm.at8 ?_ | with_reducible refine Pm.skip ?_))) : Own w wr [old w]).old_cell c2
      have k3 := ((Own.pm (HR.out) (by repeat (first | with_reducible exact Pm.refl _ | with_reducible exact Pm.nil _ | with_reducible refine Pm.here ?_ | with_reducible refine Pm.at2 ?_ | with_reducible refine Pm.at3 ?_ | with_reducible refine Pm.at4 ?_ | with_reducible refine Pm.at5 ?_ | with_reducible refine Pm.at6 ?_ | with_reducible refine Pm.at7 ?_ | with_reducible refine Pm.at8 ?_ | with_reducible refine Pm.skip ?_))) : Own w wr [old w]).old_cell c3
      have k4 := ((Own.pm (HR.out) (by repeat (first | with_reducible exact Pm.refl _ | with_reducible exact Pm.nil _ | with_reducible refine Pm.here ?_ | with_reducible refine Pm.at2 ?_ | with_reducible refine Pm.at3 ?_ | with_reducible refine Pm.at4 ?_ | with_reducible refine Pm.at5 ?_ | with_reducible refine Pm.at6 ?_ | with_reducible refine Pm.at7 ?_ | with_reducible refine Pm.at8 ?_ | with_reducible refine Pm.skip ?_))) : Own w wr [old w]).old_cell c4
      clear c0 c1 c2 c3 c4
      replace u1 := u1.1
      replace u2 := u2.1
      replace u3 := u3.1
      replace u4 := u4.1
      go_wp2_with (first | with_reducible refine stop_bs ?_ | with_reducible refine stop_bx ?_ | with_reducible refine stop_al ?_ | with_reducible refine stop_ms ?_ | with_reducible refine stop_app ?_ | with_reducible refine stop_copy ?_)
      refine Stop.go ?_
      go_step
      go_simp
      have H2_0 := Lib.hid (HR.out.alloc (.cells #[.int .u8 0, .int .u64 0, .int .u64 0, .int .u64 0, .int .u64 0] 101))
      generalize wr.alloc (.cells #[.int .u8 0, .int .u64 0, .int .u64 0, .int .u64 0, .int .u64 0] 101) = w4_0 at *
      generalize wr.heap.size = b4 at *
      go_wp2_with (with_reducible refine stop_st ?_)
      refine Stop.go ?_
      refine wpList_store_own _ #[.int .u8 kd, .int .u64 nw, .int .u64 rt, .int .u64 qn, .int .u64 sz] rfl rfl (H2_0.out) (by kernel_rfl) rfl (by simp [Value.oneCell']) ?_
      intro w4 H2
      replace H2 := Lib.hid H2
      clear H2_0
      clear k0 k1 k2 k3 k4
      clear hacts
      replace HR := H2
      clear H2
      (try clear k1); have k1 := HR.out.cells
      by_cases v1 : 1048576 < nw
      · go_wp2_with fail
        refine (alive16_k _).mono ?_
        rintro e w3 ⟨rfl, hbel⟩
        replace HR := Lib.hid ((by first | exact Kp.same hbel | exact Kp.drew hbel | exact Kp.below hbel : Kp _ w3) _ _ (by first | exact HR.out | exact HR.out.drewN _ | exact (HR.out.alloc _).tail | exact ((HR.out.alloc _).drewN _).tail | exact ((HR.out.alloc _).alloc _).tail.tail))
        clear hbel
        go_wp2_with fail
        go_ret
        exact ⟨rfl, (Own.pm (HR.out) (by repeat (first | with_reducible exact Pm.refl _ | with_reducible exact Pm.nil _ | with_reducible refine Pm.here ?_ | with_reducible refine Pm.at2 ?_ | with_reducible refine Pm.at3 ?_ | with_reducible refine Pm.at4 ?_ | with_reducible refine Pm.at5 ?_ | with_reducible refine Pm.at6 ?_ | with_reducible refine Pm.at7 ?_ | with_reducible refine Pm.at8 ?_ | with_reducible refine Pm.skip ?_)))⟩
      by_cases v2 : 1048576 < rt
      · go_wp2_with fail
        refine (alive16_k _).mono ?_
        rintro e w3 ⟨rfl, hbel⟩
        replace HR := Lib.hid ((by first | exact Kp.same hbel | exact Kp.drew hbel | exact Kp.below hbel : Kp _ w3) _ _ (by first | exact HR.out | exact HR.out.drewN _ | exact (HR.out.alloc _).tail | exact ((HR.out.alloc _).drewN _).tail | exact ((HR.out.alloc _).alloc _).tail.tail))
        clear hbel
        go_wp2_with fail
        go_ret
        exact ⟨rfl, (Own.pm (HR.out) (by repeat (first | with_reducible exact Pm.refl _ | with_reducible exact Pm.nil _ | with_reducible refine Pm.here ?_ | with_reducible refine Pm.at2 ?_ | with_reducible refine Pm.at3 ?_ | with_reducible refine Pm.at4 ?_ | with_reducible refine Pm.at5 ?_ | with_reducible refine Pm.at6 ?_ | with_reducible refine Pm.at7 ?_ | with_reducible refine Pm.at8 ?_ | with_reducible refine Pm.skip ?_)))⟩
      by_cases v3 : 1048576 < qn
      · go_wp2_with fail
        refine (alive16_k _).mono ?_
        rintro e w3 ⟨rfl, hbel⟩
        replace HR := Lib.hid ((by first | exact Kp.same hbel | exact Kp.drew hbel | exact Kp.below hbel : Kp _ w3) _ _ (by first | exact HR.out | exact HR.out.drewN _ | exact (HR.out.alloc _).tail | exact ((HR.out.alloc _).drewN _).tail | exact ((HR.out.alloc _).alloc _).tail.tail))
        clear hbel
        go_wp2_with fail
        go_ret
        exact ⟨rfl, (Own.pm (HR.out) (by repeat (first | with_reducible exact Pm.refl _ | with_reducible exact Pm.nil _ | with_reducible refine Pm.here ?_ | with_reducible refine Pm.at2 ?_ | with_reducible refine Pm.at3 ?_ | with_reducible refine Pm.at4 ?_ | with_reducible refine Pm.at5 ?_ | with_reducible refine Pm.at6 ?_ | with_reducible refine Pm.at7 ?_ | with_reducible refine Pm.at8 ?_ | with_reducible refine Pm.skip ?_)))⟩
      by_cases v4 : 1048576 < sz
      · go_wp2_with fail
        refine (alive16_k _).mono ?_
        rintro e w3 ⟨rfl, hbel⟩
        replace HR := Lib.hid ((by first | exact Kp.same hbel | exact Kp.drew hbel | exact Kp.below hbel : Kp _ w3) _ _ (by first | exact HR.out | exact HR.out.drewN _ | exact (HR.out.alloc _).tail | exact ((HR.out.alloc _).drewN _).tail | exact ((HR.out.alloc _).alloc _).tail.tail))
        clear hbel
        go_wp2_with fail
        go_ret
        exact ⟨rfl, (Own.pm (HR.out) (by repeat (first | with_reducible exact Pm.refl _ | with_reducible exact Pm.nil _ | with_reducible refine Pm.here ?_ | with_reducible refine Pm.at2 ?_ | with_reducible refine Pm.at3 ?_ | with_reducible refine Pm.at4 ?_ | with_reducible refine Pm.at5 ?_ | with_reducible refine Pm.at6 ?_ | with_reducible refine Pm.at7 ?_ | with_reducible refine Pm.at8 ?_ | with_reducible refine Pm.skip ?_)))⟩
      have ho := hI.out.ok
      obtain ⟨md, hmd⟩ : ∃ md, kd % 2 = md := ⟨_, rfl⟩
      have hmd3 : md = 0 ∨ md = 1 := by omega
      rcases hmd3 with rfl | rfl
      · rcases TInv.tick ⟨u1, by omega⟩ ⟨u2, by omega⟩ ⟨u3, by omega⟩ hI.out with he | ⟨s3, he, hT, e1, e2, e3⟩
        · replace HR := Lib.hid HR.out.r2
          clear k1
          have k1 := HR.out.r2.cells
          go_wp2_with fail
          refine (pacTick_c w _ _ b1 s nw rt qn ho ⟨u1, by omega⟩ ⟨u2, by omega⟩ ⟨u3, by omega⟩ HR.out).mono ?_
          rw [he]
          rintro e w5 ⟨rfl, H5⟩
          have H6 : Hid (Own w w5 (pac b2 s :: pts b4 (.cells #[.int .u8 kd, .int .u64 nw, .int .u64 rt, .int .u64 qn, .int .u64 sz] 101 (0, 0)) :: pac b1 s :: pts b3 (.cells #[.int .u8 ka, .int .u64 s.now, .int .u64 s.rate, .int .u64 s.qu, .int .u64 za] 101 (0, 0)) :: [old w])) := Lib.hid (Own.pm (H5) (by repeat (first | with_reducible exact Pm.refl _ | with_reducible exact Pm.nil _ | with_reducible refine Pm.here ?_ | with_reducible refine Pm.at2 ?_ | with_reducible refine Pm.at3 ?_ | with_reducible refine Pm.at4 ?_ | with_reducible refine Pm.at5 ?_ | with_reducible refine Pm.at6 ?_ | with_reducible refine Pm.at7 ?_ | with_reducible refine Pm.at8 ?_ | with_reducible refine Pm.skip ?_)))
          clear H5 HR k1
          have k1 := H6.out.r2.cells
          go_wp2_with fail
          refine (pacTick_c w _ _ b2 s nw rt qn ho ⟨u1, by omega⟩ ⟨u2, by omega⟩ ⟨u3, by omega⟩ H6.out).mono ?_
          rw [he]
          rintro e w6 ⟨rfl, H5⟩
          have H7 : Hid (Own w w6 (pts b3 (.cells #[.int .u8 ka, .int .u64 s.now, .int .u64 s.rate, .int .u64 s.qu, .int .u64 za] 101 (0, 0)) :: pts b4 (.cells #[.int .u8 kd, .int .u64 nw, .int .u64 rt, .int .u64 qn, .int .u64 sz] 101 (0, 0)) :: pac b1 s :: pac b2 s :: [old w])) := Lib.hid (Own.pm (H5) (by repeat (first | with_reducible exact Pm.refl _ | with_reducible exact Pm.nil _ | with_reducible refine Pm.here ?_ | with_reducible refine Pm.at2 ?_ | with_reducible refine Pm.at3 ?_ | with_reducible refine Pm.at4 ?_ | with_reducible refine Pm.at5 ?_ | with_reducible refine Pm.at6 ?_ | with_reducible refine Pm.at7 ?_ | with_reducible refine Pm.at8 ?_ | with_reducible refine Pm.skip ?_)))
          clear H5 H6 k1
          have k1 := H7.out.r2.cells
          go_wp2_with fail
          go_roundw
          case rel => exact ⟨k + 1, s, ka, za, by omega, by go_num, hI.out, (Own.pm (H7.out) (by repeat (first | with_reducible exact Pm.refl _ | with_reducible exact Pm.nil _ | with_reducible refine Pm.here ?_ | with_reducible refine Pm.at2 ?_ | with_reducible refine Pm.at3 ?_ | with_reducible refine Pm.at4 ?_ | with_reducible refine Pm.at5 ?_ | with_reducible refine Pm.at6 ?_ | with_reducible refine Pm.at7 ?_ | with_reducible refine Pm.at8 ?_ | with_reducible refine Pm.skip ?_)))⟩
          case measure => simp [intOf]; omega
        · replace hT := Lib.hid hT
          replace HR := Lib.hid HR.out.r2
          clear k1
          have k1 := HR.out.r2.cells
          go_wp2_with fail
          refine (pacTick_c w _ _ b1 s nw rt qn ho ⟨u1, by omega⟩ ⟨u2, by omega⟩ ⟨u3, by omega⟩ HR.out).mono ?_
          rw [he]
          rintro e w5 ⟨rfl, H5⟩
          have H6 : Hid (Own w w5 (pac b2 s :: pts b4 (.cells #[.int .u8 kd, .int .u64 nw, .int .u64 rt, .int .u64 qn, .int .u64 sz] 101 (0, 0)) :: pac b1 s3 :: pts b3 (.cells #[.int .u8 ka, .int .u64 s.now, .int .u64 s.rate, .int .u64 s.qu, .int .u64 za] 101 (0, 0)) :: [old w])) := Lib.hid (Own.pm (H5) (by repeat (first | with_reducible exact Pm.refl _ | with_reducible exact Pm.nil _ | with_reducible refine Pm.here ?_ | with_reducible refine Pm.at2 ?_ | with_reducible refine Pm.at3 ?_ | with_reducible refine Pm.at4 ?_ | with_reducible refine Pm.at5 ?_ | with_reducible refine Pm.at6 ?_ | with_reducible refine Pm.at7 ?_ | with_reducible refine Pm.at8 ?_ | with_reducible refine Pm.skip ?_)))
          clear H5 HR k1
          have k1 := H6.out.r2.cells
          go_wp2_with fail
          refine (pacTick_c w _ _ b2 s nw rt qn ho ⟨u1, by omega⟩ ⟨u2, by omega⟩ ⟨u3, by omega⟩ H6.out).mono ?_
          rw [he]
          rintro e w6 ⟨rfl, H5⟩
          have H7 : Hid (Own w w6 (pts b3 (.cells #[.int .u8 ka, .int .u64 s.now, .int .u64 s.rate, .int .u64 s.qu, .int .u64 za] 101 (0, 0)) :: pts b4 (.cells #[.int .u8 kd, .int .u64 nw, .int .u64 rt, .int .u64 qn, .int .u64 sz] 101 (0, 0)) :: pac b1 s3 :: pac b2 s3 :: [old w])) := Lib.hid (Own.pm (H5) (by repeat (first | with_reducible exact Pm.refl _ | with_reducible exact Pm.nil _ | with_reducible refine Pm.here ?_ | with_reducible refine Pm.at2 ?_ | with_reducible refine Pm.at3 ?_ | with_reducible refine Pm.at4 ?_ | with_reducible refine Pm.at5 ?_ | with_reducible refine Pm.at6 ?_ | with_reducible refine Pm.at7 ?_ | with_reducible refine Pm.at8 ?_ | with_reducible refine Pm.skip ?_)))
          clear H5 H6 k1
          have k1 := H7.out.r2.cells
          go_wp2_with (with_reducible refine stop_st ?_)
          refine Stop.go ?_
          refine wpList_store_own _ #[.int .u8 kd, .int .u64 nw, .int .u64 rt, .int .u64 qn, .int .u64 sz] rfl rfl (H7.out) (by kernel_rfl) rfl (by simp [Value.oneCell']) ?_
          intro w7 H8
          replace H8 := Lib.hid H8
          subst e1 e2 e3
          go_wp2_with fail
          go_roundw
          case rel => exact ⟨k + 1, s3, kd, sz, by omega, by go_num, hT.out, (Own.pm ((show Own w w7 (pts b3 (.cells #[.int .u8 kd, .int .u64 s3.now, .int .u64 s3.rate, .int .u64 s3.qu, .int .u64 sz] 101 (0, 0)) :: pts b4 (.cells #[.int .u8 kd, .int .u64 s3.now, .int .u64 s3.rate, .int .u64 s3.qu, .int .u64 sz] 101 (0, 0)) :: pac b1 s3 :: pac b2 s3 :: [old w]) from H8.out)) (by repeat (first | with_reducible exact Pm.refl _ | with_reducible exact Pm.nil _ | with_reducible refine Pm.here ?_ | with_reducible refine Pm.at2 ?_ | with_reducible refine Pm.at3 ?_ | with_reducible refine Pm.at4 ?_ | with_reducible refine Pm.at5 ?_ | with_reducible refine Pm.at6 ?_ | with_reducible refine Pm.at7 ?_ | with_reducible refine Pm.at8 ?_ | with_reducible refine Pm.skip ?_)))⟩
          case measure => simp [intOf]; omega
      · obtain ⟨hT, e1, e2, e3⟩ := hI.out.take u4 (show sz ≤ 1048576 by omega)
        obtain ⟨r, s3, he⟩ : ∃ r s3, s.take sz = (r, s3) := ⟨_, _, rfl⟩
        rw [he] at hT e1 e2 e3
        simp only at hT e1 e2 e3
        replace hT := Lib.hid hT
        replace HR := Lib.hid HR.out.r2
        clear k1
        have k1 := HR.out.r2.cells
        go_wp2_with fail
        refine (pacTake_c w _ _ b1 s sz ⟨u4, by omega⟩ ho HR.out).mono ?_
        rw [he]
        rintro e w5 ⟨rfl, H5⟩
        have H6 : Hid (Own w w5 (pac b2 s :: pts b4 (.cells #[.int .u8 kd, .int .u64 nw, .int .u64 rt, .int .u64 qn, .int .u64 sz] 101 (0, 0)) :: pac b1 s3 :: pts b3 (.cells #[.int .u8 ka, .int .u64 s.now, .int .u64 s.rate, .int .u64 s.qu, .int .u64 za] 101 (0, 0)) :: [old w])) := Lib.hid (Own.pm (H5) (by repeat (first | with_reducible exact Pm.refl _ | with_reducible exact Pm.nil _ | with_reducible refine Pm.here ?_ | with_reducible refine Pm.at2 ?_ | with_reducible refine Pm.at3 ?_ | with_reducible refine Pm.at4 ?_ | with_reducible refine Pm.at5 ?_ | with_reducible refine Pm.at6 ?_ | with_reducible refine Pm.at7 ?_ | with_reducible refine Pm.at8 ?_ | with_reducible refine Pm.skip ?_)))
        clear H5 HR k1
        have k1 := H6.out.r2.cells
        go_wp2_with fail
        refine (pacTake_c w _ _ b2 s sz ⟨u4, by omega⟩ ho H6.out).mono ?_
        rw [he]
        rintro e w6 ⟨rfl, H5⟩
        have H7 : Hid (Own w w6 (pts b3 (.cells #[.int .u8 ka, .int .u64 s.now, .int .u64 s.rate, .int .u64 s.qu, .int .u64 za] 101 (0, 0)) :: pts b4 (.cells #[.int .u8 kd, .int .u64 nw, .int .u64 rt, .int .u64 qn, .int .u64 sz] 101 (0, 0)) :: pac b1 s3 :: pac b2 s3 :: [old w])) := Lib.hid (Own.pm (H5) (by repeat (first | with_reducible exact Pm.refl _ | with_reducible exact Pm.nil _ | with_reducible refine Pm.here ?_ | with_reducible refine Pm.at2 ?_ | with_reducible refine Pm.at3 ?_ | with_reducible refine Pm.at4 ?_ | with_reducible refine Pm.at5 ?_ | with_reducible refine Pm.at6 ?_ | with_reducible refine Pm.at7 ?_ | with_reducible refine Pm.at8 ?_ | with_reducible refine Pm.skip ?_)))
        clear H5 H6 k1
        have k1 := H7.out.r2.cells
        go_wp2_with fail
        go_roundw
        case rel => refine ⟨k + 1, s3, ka, za, by omega, by go_num, hT.out, ?_⟩; rw [e1, e2, e3]; exact (Own.pm (H7.out) (by repeat (first | with_reducible exact Pm.refl _ | with_reducible exact Pm.nil _ | with_reducible refine Pm.here ?_ | with_reducible refine Pm.at2 ?_ | with_reducible refine Pm.at3 ?_ | with_reducible refine Pm.at4 ?_ | with_reducible refine Pm.at5 ?_ | with_reducible refine Pm.at6 ?_ | with_reducible refine Pm.at7 ?_ | with_reducible refine Pm.at8 ?_ | with_reducible refine Pm.skip ?_)))
        case measure => simp [intOf]; omega
    · have hkl : k = len := by omega
      clear hacts
      have ho := hI.out.ok
      replace HR := Lib.hid ((Own.pm (HR.out) (by repeat (first | with_reducible exact Pm.refl _ | with_reducible exact Pm.nil _ | with_reducible refine Pm.here ?_ | with_reducible refine Pm.at2 ?_ | with_reducible refine Pm.at3 ?_ | with_reducible refine Pm.at4 ?_ | with_reducible refine Pm.at5 ?_ | with_reducible refine Pm.at6 ?_ | with_reducible refine Pm.at7 ?_ | with_reducible refine Pm.at8 ?_ | with_reducible refine Pm.skip ?_))) : Own w wr (pac b1 s :: pts b3 (.cells #[.int .u8 ka, .int .u64 s.now, .int .u64 s.rate, .int .u64 s.qu, .int .u64 za] 101 (0, 0)) :: pac b2 s :: [old w]))
      have htw := tick_twice (a := a) (b := b) hI.out (by omega) (by omega) (by omega) (by omega)
      obtain ⟨⟨z1, z2⟩, ⟨z3, z4⟩, ⟨z5, z6⟩, _⟩ := hI.out
      have k1 := HR.out.r2.cells
      go_wp2_with fail
      refine (pacTick_c w _ _ b1 s (s.now + a + b) s.rate s.qu ho (by unfold U; omega) ⟨z3, by omega⟩ ⟨z5, by omega⟩ HR.out).mono ?_
      rintro e w4 ⟨rfl, H4⟩
      replace H4 := Lib.hid ((Own.pm (H4) (by repeat (first | with_reducible exact Pm.refl _ | with_reducible exact Pm.nil _ | with_reducible refine Pm.here ?_ | with_reducible refine Pm.at2 ?_ | with_reducible refine Pm.at3 ?_ | with_reducible refine Pm.at4 ?_ | with_reducible refine Pm.at5 ?_ | with_reducible refine Pm.at6 ?_ | with_reducible refine Pm.at7 ?_ | with_reducible refine Pm.at8 ?_ | with_reducible refine Pm.skip ?_))) : Own w w4 (pac b2 s :: pts b3 (.cells #[.int .u8 ka, .int .u64 s.now, .int .u64 s.rate, .int .u64 s.qu, .int .u64 za] 101 (0, 0)) :: pac b1 (s.tick (s.now + a + b) s.rate s.qu).2 :: [old w]))
      clear HR k1
      have k1 := H4.out.r2.cells
      go_wp2_with fail
      refine (pacTick_c w _ _ b2 s (s.now + a) s.rate s.qu ho (by unfold U; omega) ⟨z3, by omega⟩ ⟨z5, by omega⟩ H4.out).mono ?_
      rintro e w5 ⟨rfl, H5⟩
      replace H5 := Lib.hid H5
      clear H4 k1
      have k1 := H5.out.r2.cells
      have hq := Pac.ok_tick (now := s.now + a) (rate := s.rate) (qu := s.qu) ho (by unfold U; omega) ⟨z3, by omega⟩ ⟨z5, by omega⟩
      go_wp2_with fail
      refine (pacTick_c w _ _ b2 _ (s.now + a + b) s.rate s.qu hq (by unfold U; omega) ⟨z3, by omega⟩ ⟨z5, by omega⟩ H5.out).mono ?_
      rw [← htw]
      rintro e w6 ⟨rfl, H6⟩
      replace H6 := Lib.hid ((Own.pm (H6) (by repeat (first | with_reducible exact Pm.refl _ | with_reducible exact Pm.nil _ | with_reducible refine Pm.here ?_ | with_reducible refine Pm.at2 ?_ | with_reducible refine Pm.at3 ?_ | with_reducible refine Pm.at4 ?_ | with_reducible refine Pm.at5 ?_ | with_reducible refine Pm.at6 ?_ | with_reducible refine Pm.at7 ?_ | with_reducible refine Pm.at8 ?_ | with_reducible refine Pm.skip ?_))) : Own w w6 (pac b1 (s.tick (s.now + a + b) s.rate s.qu).2 :: pac b2 (s.tick (s.now + a + b) s.rate s.qu).2 :: [old w]))
      clear H5 k1
      generalize (s.tick (s.now + a + b) s.rate s.qu).2 = s9 at *
      go_wp2_with fail
      refine (alive16_k _).mono ?_
      rintro e w7 ⟨rfl, hbel⟩
      replace H6 := Lib.hid ((by first | exact Kp.same hbel | exact Kp.drew hbel | exact Kp.below hbel : Kp _ w7) _ _ (by first | exact H6.out | exact H6.out.drewN _ | exact (H6.out.alloc _).tail | exact ((H6.out.alloc _).drewN _).tail | exact ((H6.out.alloc _).alloc _).tail.tail))
      clear hbel
      go_wp2_with fail
      refine (pacCredit_c w _ _ b1 s9 H6.out).mono ?_
      rintro e w' ⟨rfl, rfl⟩
      go_wp2_with fail
      refine (pacCredit_c w _ _ b2 s9 H6.out.r2).mono ?_
      rintro e w' ⟨rfl, rfl⟩
      go_wp2_with fail
      go_ret
      exact ⟨rfl, (Own.pm (H6.out) (by repeat (first | with_reducible exact Pm.refl _ | with_reducible exact Pm.nil _ | with_reducible refine Pm.here ?_ | with_reducible refine Pm.at2 ?_ | with_reducible refine Pm.at3 ?_ | with_reducible refine Pm.at4 ?_ | with_reducible refine Pm.at5 ?_ | with_reducible refine Pm.at6 ?_ | with_reducible refine Pm.at7 ?_ | with_reducible refine Pm.at8 ?_ | with_reducible refine Pm.skip ?_)))⟩
end
end Go.Proofs.Ytoimbdbajpjmjaa
