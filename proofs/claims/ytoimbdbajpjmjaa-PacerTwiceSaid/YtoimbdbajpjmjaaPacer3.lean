/- pacer: the live question, and PacerPlays. -/
import Derived.Test.YtoimbdbajpjmjaaPacer2
import Derived.Test.YtoimbdbajpjmjaaRdU
import Derived.Outline
namespace Go.Proofs.Ytoimbdbajpjmjaa
open Go.RowKit
section
variable (w : World)
set_option maxHeartbeats 1600000 in
theorem alive16_k : Calls Try.prog 48 #[] w fun e w' => e = .returned (.bool true) ∧ Below w.heap.size w w' := by
  have HH := Lib.hid (Own.init w)
  go_enter Try.func48, Try.ntmps48
  go_wp2_with fail
  refine (pacNew_c w _ _ HH.out).mono ?_
  rintro e w1 ⟨b, rfl, H1⟩
  replace H1 := Lib.hid H1
  go_wp2_with fail
  refine (pacTick_c w _ _ b Pac.zero 10 1000000 100 (by decide) (by decide) (by decide) (by decide) H1.out).mono ?_
  rw [show Pac.zero.tick 10 1000000 100 = (0, ⟨10, 10000000, 1000000, 100⟩) from rfl]
  rintro e w2 ⟨rfl, H2⟩
  replace H2 := Lib.hid H2
  go_wp2_with fail
  refine (pacTake_c w _ _ b ⟨10, 10000000, 1000000, 100⟩ 11 (by decide) (by decide) H2.out).mono ?_
  rw [show (⟨10, 10000000, 1000000, 100⟩ : Pac).take 11 = (false, ⟨10, 10000000, 1000000, 100⟩) from rfl]
  rintro e w3 ⟨rfl, H3⟩
  replace H3 := Lib.hid H3
  go_wp2_with fail
  refine (pacTake_c w _ _ b ⟨10, 10000000, 1000000, 100⟩ 4 (by decide) (by decide) H3.out).mono ?_
  rw [show (⟨10, 10000000, 1000000, 100⟩ : Pac).take 4 = (true, ⟨10, 6000000, 1000000, 100⟩) from rfl]
  rintro e w4 ⟨rfl, H4⟩
  replace H4 := Lib.hid H4
  go_wp2_with fail
  refine (pacNext_c w _ _ b ⟨10, 6000000, 1000000, 100⟩ 50 (by decide) (by decide) H4.out).mono ?_
  rw [show (⟨10, 6000000, 1000000, 100⟩ : Pac).next 50 = (54, true) from rfl]
  rintro e w5 ⟨rfl, H5⟩
  replace H5 := Lib.hid H5
  go_wp2_with fail
  refine (pacTick_c w _ _ b ⟨10, 6000000, 1000000, 100⟩ 9 1 1 (by decide) (by decide) (by decide) (by decide) H5.out).mono ?_
  rw [show (⟨10, 6000000, 1000000, 100⟩ : Pac).tick 9 1 1 = (2, ⟨10, 6000000, 1000000, 100⟩) from rfl]
  rintro e w6 ⟨rfl, H6⟩
  replace H6 := Lib.hid H6
  go_wp2_with fail
  refine (pacNext_c w _ _ b ⟨10, 6000000, 1000000, 100⟩ 101 (by decide) (by decide) H6.out).mono ?_
  rw [show (⟨10, 6000000, 1000000, 100⟩ : Pac).next 101 = (0, false) from rfl]
  rintro e w7 ⟨rfl, H7⟩
  replace H7 := Lib.hid H7
  go_wp2_with fail
  refine (pacFill_c w _ _ b ⟨10, 6000000, 1000000, 100⟩ (by decide) H7.out).mono ?_
  rw [show (⟨10, 6000000, 1000000, 100⟩ : Pac).fill = ⟨10, 100000000, 1000000, 100⟩ from rfl]
  rintro e w8 ⟨rfl, H8⟩
  replace H8 := Lib.hid H8
  go_wp2_with fail
  refine (pacCredit_c w _ _ b ⟨10, 100000000, 1000000, 100⟩ H8.out).mono ?_
  rintro e w' ⟨rfl, rfl⟩
  go_wp2_with fail
  go_ret
  exact ⟨rfl, H8.out.tail.old_below⟩
abbrev ActP := Int × Int × Int × Int × Int × Unit
def rdActP : Rd ActP := rdPair (rdInt .u8) (rdPair (rdInt .u64) (rdPair (rdInt .u64) (rdPair (rdInt .u64) (rdPair (rdInt .u64) rdUnit))))
theorem U8_of_wf {x : Int} (h : (Lit.int .u8 x).wf = true) : 0 ≤ x ∧ x ≤ 255 := by
  simp [Lit.wf, IntKind.min, IntKind.max, IntKind.signed, IntKind.bits] at h
  omega
theorem rdActP_open {w : World} {c : List Value} {x : ActP} (h : rdActP w c x) : c = [.int .u8 x.1, .int .u64 x.2.1, .int .u64 x.2.2.1, .int .u64 x.2.2.2.1, .int .u64 x.2.2.2.2.1] ∧ (0 ≤ x.1 ∧ x.1 ≤ 255) ∧ U x.2.1 ∧ U x.2.2.1 ∧ U x.2.2.2.1 ∧ U x.2.2.2.2.1 := by
  obtain ⟨c1, d1, rfl, ⟨rfl, h1⟩, c2, d2, rfl, ⟨rfl, h2⟩, c3, d3, rfl, ⟨rfl, h3⟩, c4, d4, rfl, ⟨rfl, h4⟩, c5, d5, rfl, ⟨rfl, h5⟩, rfl⟩ := h
  exact ⟨rfl, U8_of_wf h1, U_of_wf h2, U_of_wf h3, U_of_wf h4, U_of_wf h5⟩
set_option maxRecDepth 100000 in
set_option maxHeartbeats 12800000 in
theorem pacerPlays_c (A : Option Addr) (len cap : Nat) (xs : List ActP) (hr : rdSlice rdActP 5 w [.slice A len cap] xs) (look : Int) (hl : (Lit.int .u64 look).wf = true) :
    Calls Try.prog 12 #[.slice A len cap, .int .u64 look] w fun e w' => e = .returned (.bool true) ∧ Own w w' [old w] := by
  have HH := Lib.hid (Own.init w)
  replace hl := Lib.hid (U_of_wf hl)
  obtain ⟨hlen, hm, hx⟩ := rdSlice_cases hr
  clear hr
  by_cases hbig : 200 < len
  · go_enter Try.func12, Try.ntmps12
    go_wp2_with fail
    refine (alive16_k _).mono ?_
    rintro e w1 ⟨rfl, hbel⟩
    replace HH := Lib.hid ((by first | exact Kp.same hbel | exact Kp.drew hbel | exact Kp.below hbel : Kp _ w1) _ _ (by first | exact HH.out | exact HH.out.drewN _ | exact (HH.out.alloc _).tail | exact ((HH.out.alloc _).drewN _).tail | exact ((HH.out.alloc _).alloc _).tail.tail))
    clear hbel
    go_wp2_with fail
    go_ret
    exact ⟨rfl, HH.out⟩
  have hacts : ∀ k, k < len → ∃ ab off kd nw rt qn sz, A = some ⟨ab, off, none⟩ ∧ (0 ≤ kd ∧ kd ≤ 255) ∧ U nw ∧ U rt ∧ U qn ∧ U sz ∧ w.cell? ⟨ab, off + k * 5, none⟩ = some (.int .u8 kd) ∧ w.cell? ⟨ab, off + k * 5 + 1, none⟩ = some (.int .u64 nw) ∧ w.cell? ⟨ab, off + k * 5 + 2, none⟩ = some (.int .u64 rt) ∧ w.cell? ⟨ab, off + k * 5 + 3, none⟩ = some (.int .u64 qn) ∧ w.cell? ⟨ab, off + k * 5 + 4, none⟩ = some (.int .u64 sz) := by
    intro k hk
    rcases hx with hz | ⟨ab, off, rfl, hx⟩
    · omega
    · obtain ⟨c, _, hcell, hR⟩ := hx k (by omega)
      obtain ⟨rfl, h0, h1, h2, h3, h4⟩ := rdActP_open hR
      exact ⟨ab, off, _, _, _, _, _, rfl, h0, h1, h2, h3, h4, hcell 0 _ rfl, hcell 1 _ rfl, hcell 2 _ rfl, hcell 3 _ rfl, hcell 4 _ rfl⟩
  clear hx
  replace hacts := Lib.hid hacts
  replace hlen := Lib.hid hlen
  go_enter Try.func12, Try.ntmps12
  go_wp2_with fail
  refine (pacNew_c w _ _ HH.out).mono ?_
  rintro e w1 ⟨b1, rfl, H1⟩
  replace H1 := Lib.hid H1
  clear HH
  go_wp2_with (first | with_reducible refine stop_bs ?_ | with_reducible refine stop_bx ?_ | with_reducible refine stop_al ?_ | with_reducible refine stop_ms ?_ | with_reducible refine stop_app ?_ | with_reducible refine stop_copy ?_)
  refine Stop.go ?_
  go_step
  go_simp
  have H2 := Lib.hid (H1.out.alloc (.cells #[.int .u64 0, .int .u64 0, .int .u64 0, .int .u64 0] 99))
  generalize w1.alloc (.cells #[.int .u64 0, .int .u64 0, .int .u64 0, .int .u64 0] 99) = w2 at *
  generalize w1.heap.size = b2 at *
  clear H1
  go_wp2_with fail
  go_loopw [7] (fun i wr => ∃ (k : Nat) (s : Pac), k ≤ len ∧ i = .int .i64 k ∧ s.Ok ∧ Own w wr (pac b1 s :: rpac b2 s :: [old w])) (fun i _ => len - (intOf i).toNat)
  case atStart => exact ⟨0, Pac.zero, Nat.zero_le _, rfl, Pac.ok_zero, (Own.pm ((show Own w w2 (rpac b2 Pac.zero :: pac b1 Pac.zero :: [old w]) from H2.out)) (by repeat (first | with_reducible exact Pm.refl _ | with_reducible exact Pm.nil _ | with_reducible refine Pm.here ?_ | with_reducible refine Pm.at2 ?_ | with_reducible refine Pm.at3 ?_ | with_reducible refine Pm.at4 ?_ | with_reducible refine Pm.at5 ?_ | with_reducible refine Pm.at6 ?_ | with_reducible refine Pm.at7 ?_ | with_reducible refine Pm.at8 ?_ | with_reducible refine Pm.skip ?_)))⟩
  case round =>
    obtain ⟨k, s, hk, rfl, hs, HR⟩ := hrel
    replace HR := Lib.hid HR
    replace hs := Lib.hid hs
    clear H2
    by_cases hlt : k < len
    · obtain ⟨ab, off, kd, nw, rt, qn, sz, rfl, hkd, u1, u2, u3, u4, c0, c1, c2, c3, c4⟩ := hacts.out k hlt
      replace u1 := Lib.hid u1
      replace u2 := Lib.hid u2
      replace u3 := Lib.hid u3
      replace u4 := Lib.hid u4
      have ko := ((Own.pm (HR.out) (by repeat (first | with_reducible exact Pm.refl _ | with_reducible exact Pm.nil _ | with_reducible refine Pm.here ?_ | with_reducible refine Pm.at2 ?_ | with_reducible refine Pm.at3 ?_ | with_reducible refine Pm.at4 ?_ | with_reducible refine Pm.at5 ?_ | with_reducible refine Pm.at6 ?_ | with_reducible refine Pm.at7 ?_ | with_reducible refine Pm.at8 ?_ | with_reducible refine Pm.skip ?_))) : Own w wr [old w]).old_cell c0
      replace c0 := Lib.hid c0
      replace c1 := Lib.hid c1
      replace c2 := Lib.hid c2
      replace c3 := Lib.hid c3
      replace c4 := Lib.hid c4
      obtain ⟨md, hmd⟩ : ∃ md, kd % 3 = md := ⟨_, rfl⟩
      have hmd3 : md = 0 ∨ md = 1 ∨ md = 2 := by omega
      rcases hmd3 with rfl | rfl | rfl
      case' inl =>
        go_wp2_with fail
        clear ko
        refine wp_region_mixk w [old w] none (by kernel_rfl) ?_
        change wpMixK _ _ _ _ _ _ _ _ _ wr.drew
        replace HR := Lib.hid HR.out.drew
        generalize wr.drew = wm at *
        have HS : Own w wm [old w] := (Own.pm (HR.out) (by repeat (first | with_reducible exact Pm.refl _ | with_reducible exact Pm.nil _ | with_reducible refine Pm.here ?_ | with_reducible refine Pm.at2 ?_ | with_reducible refine Pm.at3 ?_ | with_reducible refine Pm.at4 ?_ | with_reducible refine Pm.at5 ?_ | with_reducible refine Pm.at6 ?_ | with_reducible refine Pm.at7 ?_ | with_reducible refine Pm.at8 ?_ | with_reducible refine Pm.skip ?_)))
        refine mixk_q (i := 0) rfl (by kernel_rfl) (fun _ _ _ _ h => h) HS (fun K hK => ?_)
        go_simp
        first | (refine hK _ ?_; clear hK K) | (apply Exists.intro; refine ⟨?_, hK _ ?_⟩; (focus (intro wx hx; have x0 := hx.old_cell c1.out; have x1 := hx.old_cell c2.out; have x2 := hx.old_cell c3.out; first | (go_simp; first | rfl | exact ⟨rfl, rfl⟩) | rfl | exact ⟨rfl, rfl⟩)); clear hK K)
        refine mixk_q (i := 1) rfl (by kernel_rfl) (fun _ _ _ _ h => h) HS (fun K hK => ?_)
        go_simp
        first | (refine hK _ ?_; clear hK K) | (apply Exists.intro; refine ⟨?_, hK _ ?_⟩; (focus (intro wx hx; have x0 := hx.old_cell c1.out; have x1 := hx.old_cell c2.out; have x2 := hx.old_cell c3.out; first | (go_simp; first | rfl | exact ⟨rfl, rfl⟩) | rfl | exact ⟨rfl, rfl⟩)); clear hK K)
        refine mixk_q (i := 2) rfl (by kernel_rfl) (fun _ _ _ _ h => h) HS (fun K hK => ?_)
        go_simp
        first | (refine hK _ ?_; clear hK K) | (apply Exists.intro; refine ⟨?_, hK _ ?_⟩; (focus (intro wx hx; have x0 := hx.old_cell c1.out; have x1 := hx.old_cell c2.out; have x2 := hx.old_cell c3.out; first | (go_simp; first | rfl | exact ⟨rfl, rfl⟩) | rfl | exact ⟨rfl, rfl⟩)); clear hK K)
        refine mixk_q (i := 3) rfl (by kernel_rfl) (fun _ _ _ _ h => h) HS (fun K hK => ?_)
        go_simp
        first | (refine hK _ ?_; clear hK K) | (apply Exists.intro; refine ⟨?_, hK _ ?_⟩; (focus (intro wx hx; have x0 := hx.old_cell c1.out; have x1 := hx.old_cell c2.out; have x2 := hx.old_cell c3.out; first | (go_simp; first | rfl | exact ⟨rfl, rfl⟩) | rfl | exact ⟨rfl, rfl⟩)); clear hK K)
        refine mixk_q (i := 4) rfl (by kernel_rfl) (fun _ _ _ _ h => h) HS (fun K hK => ?_)
        go_simp
        first | (refine hK _ ?_; clear hK K) | (apply Exists.intro; refine ⟨?_, hK _ ?_⟩; (focus (intro wx hx; have x0 := hx.old_cell c1.out; have x1 := hx.old_cell c2.out; have x2 := hx.old_cell c3.out; first | (go_simp; first | rfl | exact ⟨rfl, rfl⟩) | rfl | exact ⟨rfl, rfl⟩)); clear hK K)
        refine mixk_q (i := 5) rfl (by kernel_rfl) (fun _ _ _ _ h => h) HS (fun K hK => ?_)
        go_simp
        first | (refine hK _ ?_; clear hK K) | (apply Exists.intro; refine ⟨?_, hK _ ?_⟩; (focus (intro wx hx; have x0 := hx.old_cell c1.out; have x1 := hx.old_cell c2.out; have x2 := hx.old_cell c3.out; first | (go_simp; first | rfl | exact ⟨rfl, rfl⟩) | rfl | exact ⟨rfl, rfl⟩)); clear hK K)
        refine mixk_q (i := 6) rfl (by kernel_rfl) (fun _ _ _ _ h => h) HS (fun K hK => ?_)
        go_simp
        first | (refine hK _ ?_; clear hK K) | (apply Exists.intro; refine ⟨?_, hK _ ?_⟩; (focus (intro wx hx; have x0 := hx.old_cell c1.out; have x1 := hx.old_cell c2.out; have x2 := hx.old_cell c3.out; first | (go_simp; first | rfl | exact ⟨rfl, rfl⟩) | rfl | exact ⟨rfl, rfl⟩)); clear hK K)
        refine mixk_q (i := 7) rfl (by kernel_rfl) (fun _ _ _ _ h => h) HS (fun K hK => ?_)
        go_simp
        first | (refine hK _ ?_; clear hK K) | (apply Exists.intro; refine ⟨?_, hK _ ?_⟩; (focus (intro wx hx; have x0 := hx.old_cell c1.out; have x1 := hx.old_cell c2.out; have x2 := hx.old_cell c3.out; first | (go_simp; first | rfl | exact ⟨rfl, rfl⟩) | rfl | exact ⟨rfl, rfl⟩)); clear hK K)
        refine mixk_q (i := 8) rfl (by kernel_rfl) (fun _ _ _ _ h => h) HS (fun K hK => ?_)
        go_simp
        first | (refine hK _ ?_; clear hK K) | (apply Exists.intro; refine ⟨?_, hK _ ?_⟩; (focus (intro wx hx; have x0 := hx.old_cell c1.out; have x1 := hx.old_cell c2.out; have x2 := hx.old_cell c3.out; first | (go_simp; first | rfl | exact ⟨rfl, rfl⟩) | rfl | exact ⟨rfl, rfl⟩)); clear hK K)
        refine mixk_q (i := 9) rfl (by kernel_rfl) (fun _ _ _ _ h => h) HS (fun K hK => ?_)
        go_simp
        first | (refine hK _ ?_; clear hK K) | (apply Exists.intro; refine ⟨?_, hK _ ?_⟩; (focus (intro wx hx; have x0 := hx.old_cell c1.out; have x1 := hx.old_cell c2.out; have x2 := hx.old_cell c3.out; first | (go_simp; first | rfl | exact ⟨rfl, rfl⟩) | rfl | exact ⟨rfl, rfl⟩)); clear hK K)
        refine mixk_q (i := 10) rfl (by kernel_rfl) (fun _ _ _ _ h => h) HS (fun K hK => ?_)
        go_simp
        first | (refine hK _ ?_; clear hK K) | (apply Exists.intro; refine ⟨?_, hK _ ?_⟩; (focus (intro wx hx; have x0 := hx.old_cell c1.out; have x1 := hx.old_cell c2.out; have x2 := hx.old_cell c3.out; first | (go_simp; first | rfl | exact ⟨rfl, rfl⟩) | rfl | exact ⟨rfl, rfl⟩)); clear hK K)
        refine mixk_q (i := 11) rfl (by kernel_rfl) (fun _ _ _ _ h => h) HS (fun K hK => ?_)
        go_simp
        first | (refine hK _ ?_; clear hK K) | (apply Exists.intro; refine ⟨?_, hK _ ?_⟩; (focus (intro wx hx; have x0 := hx.old_cell c1.out; have x1 := hx.old_cell c2.out; have x2 := hx.old_cell c3.out; first | (go_simp; first | rfl | exact ⟨rfl, rfl⟩) | rfl | exact ⟨rfl, rfl⟩)); clear hK K)
        refine mixk_q (i := 12) rfl (by kernel_rfl) (fun _ _ _ _ h => h) HS (fun K hK => ?_)
        go_simp
        first | (refine hK _ ?_; clear hK K) | (apply Exists.intro; refine ⟨?_, hK _ ?_⟩; (focus (intro wx hx; have x0 := hx.old_cell c1.out; have x1 := hx.old_cell c2.out; have x2 := hx.old_cell c3.out; first | (go_simp; first | rfl | exact ⟨rfl, rfl⟩) | rfl | exact ⟨rfl, rfl⟩)); clear hK K)
        refine mixk_q (i := 13) rfl (by kernel_rfl) (fun _ _ _ _ h => h) HS (fun K hK => ?_)
        go_simp
        first | (refine hK _ ?_; clear hK K) | (apply Exists.intro; refine ⟨?_, hK _ ?_⟩; (focus (intro wx hx; have x0 := hx.old_cell c1.out; have x1 := hx.old_cell c2.out; have x2 := hx.old_cell c3.out; first | (go_simp; first | rfl | exact ⟨rfl, rfl⟩) | rfl | exact ⟨rfl, rfl⟩)); clear hK K)
        refine mixk_q (i := 14) rfl (by kernel_rfl) (fun _ _ _ _ h => h) HS (fun K hK => ?_)
        go_simp
        first | (refine hK _ ?_; clear hK K) | (apply Exists.intro; refine ⟨?_, hK _ ?_⟩; (focus (intro wx hx; have x0 := hx.old_cell c1.out; have x1 := hx.old_cell c2.out; have x2 := hx.old_cell c3.out; first | (go_simp; first | rfl | exact ⟨rfl, rfl⟩) | rfl | exact ⟨rfl, rfl⟩)); clear hK K)
        refine mixk_q (i := 15) rfl (by kernel_rfl) (fun _ _ _ _ h => h) HS (fun K hK => ?_)
        go_simp
        first | (refine hK _ ?_; clear hK K) | (apply Exists.intro; refine ⟨?_, hK _ ?_⟩; (focus (intro wx hx; have x0 := hx.old_cell c1.out; have x1 := hx.old_cell c2.out; have x2 := hx.old_cell c3.out; first | (go_simp; first | rfl | exact ⟨rfl, rfl⟩) | rfl | exact ⟨rfl, rfl⟩)); clear hK K)
        refine mixk_q (i := 17) rfl (by kernel_rfl) (fun _ _ _ _ h => h) HS (fun K hK => ?_)
        go_simp
        first | (refine hK _ ?_; clear hK K) | (apply Exists.intro; refine ⟨?_, hK _ ?_⟩; (focus (intro wx hx; have x0 := hx.old_cell c1.out; have x1 := hx.old_cell c2.out; have x2 := hx.old_cell c3.out; first | (go_simp; first | rfl | exact ⟨rfl, rfl⟩) | rfl | exact ⟨rfl, rfl⟩)); clear hK K)
        refine mixk_q (i := 18) rfl (by kernel_rfl) (fun _ _ _ _ h => h) HS (fun K hK => ?_)
        go_simp
        first | (refine hK _ ?_; clear hK K) | (apply Exists.intro; refine ⟨?_, hK _ ?_⟩; (focus (intro wx hx; have x0 := hx.old_cell c1.out; have x1 := hx.old_cell c2.out; have x2 := hx.old_cell c3.out; first | (go_simp; first | rfl | exact ⟨rfl, rfl⟩) | rfl | exact ⟨rfl, rfl⟩)); clear hK K)
        refine mixk_q (i := 19) rfl (by kernel_rfl) (fun _ _ _ _ h => h) HS (fun K hK => ?_)
        go_simp
        first | (refine hK _ ?_; clear hK K) | (apply Exists.intro; refine ⟨?_, hK _ ?_⟩; (focus (intro wx hx; have x0 := hx.old_cell c1.out; have x1 := hx.old_cell c2.out; have x2 := hx.old_cell c3.out; first | (go_simp; first | rfl | exact ⟨rfl, rfl⟩) | rfl | exact ⟨rfl, rfl⟩)); clear hK K)
        refine mixk_q (i := 20) rfl (by kernel_rfl) (fun _ _ _ _ h => h) HS (fun K hK => ?_)
        go_simp
        first | (refine hK _ ?_; clear hK K) | (apply Exists.intro; refine ⟨?_, hK _ ?_⟩; (focus (intro wx hx; have x0 := hx.old_cell c1.out; have x1 := hx.old_cell c2.out; have x2 := hx.old_cell c3.out; first | (go_simp; first | rfl | exact ⟨rfl, rfl⟩) | rfl | exact ⟨rfl, rfl⟩)); clear hK K)
        refine mixk_q (i := 21) rfl (by kernel_rfl) (fun _ _ _ _ h => h) HS (fun K hK => ?_)
        go_simp
        first | (refine hK _ ?_; clear hK K) | (apply Exists.intro; refine ⟨?_, hK _ ?_⟩; (focus (intro wx hx; have x0 := hx.old_cell c1.out; have x1 := hx.old_cell c2.out; have x2 := hx.old_cell c3.out; first | (go_simp; first | rfl | exact ⟨rfl, rfl⟩) | rfl | exact ⟨rfl, rfl⟩)); clear hK K)
        refine mixk_q (i := 22) rfl (by kernel_rfl) (fun _ _ _ _ h => h) HS (fun K hK => ?_)
        go_simp
        first | (refine hK _ ?_; clear hK K) | (apply Exists.intro; refine ⟨?_, hK _ ?_⟩; (focus (intro wx hx; have x0 := hx.old_cell c1.out; have x1 := hx.old_cell c2.out; have x2 := hx.old_cell c3.out; first | (go_simp; first | rfl | exact ⟨rfl, rfl⟩) | rfl | exact ⟨rfl, rfl⟩)); clear hK K)
        refine mixk_q (i := 23) rfl (by kernel_rfl) (fun _ _ _ _ h => h) HS (fun K hK => ?_)
        go_simp
        first | (refine hK _ ?_; clear hK K) | (apply Exists.intro; refine ⟨?_, hK _ ?_⟩; (focus (intro wx hx; have x0 := hx.old_cell c1.out; have x1 := hx.old_cell c2.out; have x2 := hx.old_cell c3.out; first | (go_simp; first | rfl | exact ⟨rfl, rfl⟩) | rfl | exact ⟨rfl, rfl⟩)); clear hK K)
        refine mixk_q (i := 24) rfl (by kernel_rfl) (fun _ _ _ _ h => h) HS (fun K hK => ?_)
        go_simp
        first | (refine hK _ ?_; clear hK K) | (apply Exists.intro; refine ⟨?_, hK _ ?_⟩; (focus (intro wx hx; have x0 := hx.old_cell c1.out; have x1 := hx.old_cell c2.out; have x2 := hx.old_cell c3.out; first | (go_simp; first | rfl | exact ⟨rfl, rfl⟩) | rfl | exact ⟨rfl, rfl⟩)); clear hK K)
        refine mixk_q (i := 25) rfl (by kernel_rfl) (fun _ _ _ _ h => h) HS (fun K hK => ?_)
        go_simp
        first | (refine hK _ ?_; clear hK K) | (apply Exists.intro; refine ⟨?_, hK _ ?_⟩; (focus (intro wx hx; have x0 := hx.old_cell c1.out; have x1 := hx.old_cell c2.out; have x2 := hx.old_cell c3.out; first | (go_simp; first | rfl | exact ⟨rfl, rfl⟩) | rfl | exact ⟨rfl, rfl⟩)); clear hK K)
        refine mixk_q (i := 26) rfl (by kernel_rfl) (fun _ _ _ _ h => h) HS (fun K hK => ?_)
        go_simp
        first | (refine hK _ ?_; clear hK K) | (apply Exists.intro; refine ⟨?_, hK _ ?_⟩; (focus (intro wx hx; have x0 := hx.old_cell c1.out; have x1 := hx.old_cell c2.out; have x2 := hx.old_cell c3.out; first | (go_simp; first | rfl | exact ⟨rfl, rfl⟩) | rfl | exact ⟨rfl, rfl⟩)); clear hK K)
        refine mixk_q (i := 27) rfl (by kernel_rfl) (fun _ _ _ _ h => h) HS (fun K hK => ?_)
        go_simp
        first | (refine hK _ ?_; clear hK K) | (apply Exists.intro; refine ⟨?_, hK _ ?_⟩; (focus (intro wx hx; have x0 := hx.old_cell c1.out; have x1 := hx.old_cell c2.out; have x2 := hx.old_cell c3.out; first | (go_simp; first | rfl | exact ⟨rfl, rfl⟩) | rfl | exact ⟨rfl, rfl⟩)); clear hK K)
        refine mixk_q (i := 28) rfl (by kernel_rfl) (fun _ _ _ _ h => h) HS (fun K hK => ?_)
        go_simp
        first | (refine hK _ ?_; clear hK K) | (apply Exists.intro; refine ⟨?_, hK _ ?_⟩; (focus (intro wx hx; have x0 := hx.old_cell c1.out; have x1 := hx.old_cell c2.out; have x2 := hx.old_cell c3.out; first | (go_simp; first | rfl | exact ⟨rfl, rfl⟩) | rfl | exact ⟨rfl, rfl⟩)); clear hK K)
        refine mixk_q (i := 29) rfl (by kernel_rfl) (fun _ _ _ _ h => h) HS (fun K hK => ?_)
        go_simp
        first | (refine hK _ ?_; clear hK K) | (apply Exists.intro; refine ⟨?_, hK _ ?_⟩; (focus (intro wx hx; have x0 := hx.old_cell c1.out; have x1 := hx.old_cell c2.out; have x2 := hx.old_cell c3.out; first | (go_simp; first | rfl | exact ⟨rfl, rfl⟩) | rfl | exact ⟨rfl, rfl⟩)); clear hK K)
        refine mixk_q (i := 30) rfl (by kernel_rfl) (fun _ _ _ _ h => h) HS (fun K hK => ?_)
        go_simp
        first | (refine hK _ ?_; clear hK K) | (apply Exists.intro; refine ⟨?_, hK _ ?_⟩; (focus (intro wx hx; have x0 := hx.old_cell c1.out; have x1 := hx.old_cell c2.out; have x2 := hx.old_cell c3.out; first | (go_simp; first | rfl | exact ⟨rfl, rfl⟩) | rfl | exact ⟨rfl, rfl⟩)); clear hK K)
        refine mixk_q (i := 31) rfl (by kernel_rfl) (fun _ _ _ _ h => h) HS (fun K hK => ?_)
        go_simp
        first | (refine hK _ ?_; clear hK K) | (apply Exists.intro; refine ⟨?_, hK _ ?_⟩; (focus (intro wx hx; have x0 := hx.old_cell c1.out; have x1 := hx.old_cell c2.out; have x2 := hx.old_cell c3.out; first | (go_simp; first | rfl | exact ⟨rfl, rfl⟩) | rfl | exact ⟨rfl, rfl⟩)); clear hK K)
        refine mixk_q (i := 32) rfl (by kernel_rfl) (fun _ _ _ _ h => h) HS (fun K hK => ?_)
        go_simp
        first | (refine hK _ ?_; clear hK K) | (apply Exists.intro; refine ⟨?_, hK _ ?_⟩; (focus (intro wx hx; have x0 := hx.old_cell c1.out; have x1 := hx.old_cell c2.out; have x2 := hx.old_cell c3.out; first | (go_simp; first | rfl | exact ⟨rfl, rfl⟩) | rfl | exact ⟨rfl, rfl⟩)); clear hK K)
        refine mixk_l (i := 16) rfl (by kernel_rfl) (fun K hK wn hk => ?_)
        replace HR := Lib.hid (hk _ _ HR.out)
        clear hk HS
        go_simp
        refine (pacTick_c w wn _ b1 s nw rt qn hs.out u1.out u2.out u3.out HR.out).mono ?_
        rintro e wm ⟨rfl, H9_⟩
        replace HR := Lib.hid H9_
        clear H9_
        have HS : Own w wm [old w] := (Own.pm (HR.out) (by repeat (first | with_reducible exact Pm.refl _ | with_reducible exact Pm.nil _ | with_reducible refine Pm.here ?_ | with_reducible refine Pm.at2 ?_ | with_reducible refine Pm.at3 ?_ | with_reducible refine Pm.at4 ?_ | with_reducible refine Pm.at5 ?_ | with_reducible refine Pm.at6 ?_ | with_reducible refine Pm.at7 ?_ | with_reducible refine Pm.at8 ?_ | with_reducible refine Pm.skip ?_)))
        refine hK _ _ HS ?_
        clear hK K
        refine mixk_l (i := 33) rfl (by kernel_rfl) (fun K hK wn hk => ?_)
        replace HR := Lib.hid (hk _ _ HR.out)
        clear hk HS
        go_simp
        refine (rpacTick_c w wn _ b2 s nw rt qn hs.out u1.out u2.out u3.out HR.out.r2).mono ?_
        rintro e wm ⟨rfl, H9_⟩
        replace HR := Lib.hid H9_
        clear H9_
        have HS : Own w wm [old w] := (Own.pm (HR.out) (by repeat (first | with_reducible exact Pm.refl _ | with_reducible exact Pm.nil _ | with_reducible refine Pm.here ?_ | with_reducible refine Pm.at2 ?_ | with_reducible refine Pm.at3 ?_ | with_reducible refine Pm.at4 ?_ | with_reducible refine Pm.at5 ?_ | with_reducible refine Pm.at6 ?_ | with_reducible refine Pm.at7 ?_ | with_reducible refine Pm.at8 ?_ | with_reducible refine Pm.skip ?_)))
        refine hK _ _ HS ?_
        clear hK K
        refine mixk_q (i := 34) rfl (by kernel_rfl) (fun _ _ _ _ h => h) HS (fun K hK => ?_)
        go_simp
        first | (refine hK _ ?_; clear hK K) | (apply Exists.intro; refine ⟨?_, hK _ ?_⟩; (focus (intro wx hx; have x0 := hx.old_cell c1.out; have x1 := hx.old_cell c2.out; have x2 := hx.old_cell c3.out; first | (go_simp; first | rfl | exact ⟨rfl, rfl⟩) | rfl | exact ⟨rfl, rfl⟩)); clear hK K)
        refine mixk_q (i := 35) rfl (by kernel_rfl) (fun _ _ _ _ h => h) HS (fun K hK => ?_)
        go_simp
        first | (refine hK _ ?_; clear hK K) | (apply Exists.intro; refine ⟨?_, hK _ ?_⟩; (focus (intro wx hx; have x0 := hx.old_cell c1.out; have x1 := hx.old_cell c2.out; have x2 := hx.old_cell c3.out; first | (go_simp; first | rfl | exact ⟨rfl, rfl⟩) | rfl | exact ⟨rfl, rfl⟩)); clear hK K)
        refine mixk_done (by kernel_rfl) (fun w4 hk => ?_) _
        replace HR := Lib.hid (hk _ _ HR.out)
        clear hk HS
        obtain ⟨s3, hs3, HZ⟩ : ∃ s3, Hid (Pac.Ok s3) ∧ Hid (Own w w4 (pac b1 s3 :: rpac b2 s3 :: [old w])) := ⟨_, Lib.hid (Pac.ok_tick hs.out u1.out u2.out u3.out), Lib.hid (Own.pm (HR.out) (by repeat (first | with_reducible exact Pm.refl _ | with_reducible exact Pm.nil _ | with_reducible refine Pm.here ?_ | with_reducible refine Pm.at2 ?_ | with_reducible refine Pm.at3 ?_ | with_reducible refine Pm.at4 ?_ | with_reducible refine Pm.at5 ?_ | with_reducible refine Pm.at6 ?_ | with_reducible refine Pm.at7 ?_ | with_reducible refine Pm.at8 ?_ | with_reducible refine Pm.skip ?_)))⟩
      case' inr.inl =>
        go_wp2_with fail
        clear ko
        refine wp_region_mixk w [old w] none (by kernel_rfl) ?_
        change wpMixK _ _ _ _ _ _ _ _ _ wr.drew
        replace HR := Lib.hid HR.out.drew
        generalize wr.drew = wm at *
        have HS : Own w wm [old w] := (Own.pm (HR.out) (by repeat (first | with_reducible exact Pm.refl _ | with_reducible exact Pm.nil _ | with_reducible refine Pm.here ?_ | with_reducible refine Pm.at2 ?_ | with_reducible refine Pm.at3 ?_ | with_reducible refine Pm.at4 ?_ | with_reducible refine Pm.at5 ?_ | with_reducible refine Pm.at6 ?_ | with_reducible refine Pm.at7 ?_ | with_reducible refine Pm.at8 ?_ | with_reducible refine Pm.skip ?_)))
        refine mixk_q (i := 0) rfl (by kernel_rfl) (fun _ _ _ _ h => h) HS (fun K hK => ?_)
        go_simp
        first | (refine hK _ ?_; clear hK K) | (apply Exists.intro; refine ⟨?_, hK _ ?_⟩; (focus (intro wx hx; have x0 := hx.old_cell c4.out; first | (go_simp; first | rfl | exact ⟨rfl, rfl⟩) | rfl | exact ⟨rfl, rfl⟩)); clear hK K)
        refine mixk_q (i := 1) rfl (by kernel_rfl) (fun _ _ _ _ h => h) HS (fun K hK => ?_)
        go_simp
        first | (refine hK _ ?_; clear hK K) | (apply Exists.intro; refine ⟨?_, hK _ ?_⟩; (focus (intro wx hx; have x0 := hx.old_cell c4.out; first | (go_simp; first | rfl | exact ⟨rfl, rfl⟩) | rfl | exact ⟨rfl, rfl⟩)); clear hK K)
        refine mixk_q (i := 2) rfl (by kernel_rfl) (fun _ _ _ _ h => h) HS (fun K hK => ?_)
        go_simp
        first | (refine hK _ ?_; clear hK K) | (apply Exists.intro; refine ⟨?_, hK _ ?_⟩; (focus (intro wx hx; have x0 := hx.old_cell c4.out; first | (go_simp; first | rfl | exact ⟨rfl, rfl⟩) | rfl | exact ⟨rfl, rfl⟩)); clear hK K)
        refine mixk_q (i := 3) rfl (by kernel_rfl) (fun _ _ _ _ h => h) HS (fun K hK => ?_)
        go_simp
        first | (refine hK _ ?_; clear hK K) | (apply Exists.intro; refine ⟨?_, hK _ ?_⟩; (focus (intro wx hx; have x0 := hx.old_cell c4.out; first | (go_simp; first | rfl | exact ⟨rfl, rfl⟩) | rfl | exact ⟨rfl, rfl⟩)); clear hK K)
        refine mixk_q (i := 4) rfl (by kernel_rfl) (fun _ _ _ _ h => h) HS (fun K hK => ?_)
        go_simp
        first | (refine hK _ ?_; clear hK K) | (apply Exists.intro; refine ⟨?_, hK _ ?_⟩; (focus (intro wx hx; have x0 := hx.old_cell c4.out; first | (go_simp; first | rfl | exact ⟨rfl, rfl⟩) | rfl | exact ⟨rfl, rfl⟩)); clear hK K)
        refine mixk_q (i := 5) rfl (by kernel_rfl) (fun _ _ _ _ h => h) HS (fun K hK => ?_)
        go_simp
        first | (refine hK _ ?_; clear hK K) | (apply Exists.intro; refine ⟨?_, hK _ ?_⟩; (focus (intro wx hx; have x0 := hx.old_cell c4.out; first | (go_simp; first | rfl | exact ⟨rfl, rfl⟩) | rfl | exact ⟨rfl, rfl⟩)); clear hK K)
        refine mixk_q (i := 7) rfl (by kernel_rfl) (fun _ _ _ _ h => h) HS (fun K hK => ?_)
        go_simp
        first | (refine hK _ ?_; clear hK K) | (apply Exists.intro; refine ⟨?_, hK _ ?_⟩; (focus (intro wx hx; have x0 := hx.old_cell c4.out; first | (go_simp; first | rfl | exact ⟨rfl, rfl⟩) | rfl | exact ⟨rfl, rfl⟩)); clear hK K)
        refine mixk_q (i := 8) rfl (by kernel_rfl) (fun _ _ _ _ h => h) HS (fun K hK => ?_)
        go_simp
        first | (refine hK _ ?_; clear hK K) | (apply Exists.intro; refine ⟨?_, hK _ ?_⟩; (focus (intro wx hx; have x0 := hx.old_cell c4.out; first | (go_simp; first | rfl | exact ⟨rfl, rfl⟩) | rfl | exact ⟨rfl, rfl⟩)); clear hK K)
        refine mixk_q (i := 9) rfl (by kernel_rfl) (fun _ _ _ _ h => h) HS (fun K hK => ?_)
        go_simp
        first | (refine hK _ ?_; clear hK K) | (apply Exists.intro; refine ⟨?_, hK _ ?_⟩; (focus (intro wx hx; have x0 := hx.old_cell c4.out; first | (go_simp; first | rfl | exact ⟨rfl, rfl⟩) | rfl | exact ⟨rfl, rfl⟩)); clear hK K)
        refine mixk_q (i := 10) rfl (by kernel_rfl) (fun _ _ _ _ h => h) HS (fun K hK => ?_)
        go_simp
        first | (refine hK _ ?_; clear hK K) | (apply Exists.intro; refine ⟨?_, hK _ ?_⟩; (focus (intro wx hx; have x0 := hx.old_cell c4.out; first | (go_simp; first | rfl | exact ⟨rfl, rfl⟩) | rfl | exact ⟨rfl, rfl⟩)); clear hK K)
        refine mixk_q (i := 11) rfl (by kernel_rfl) (fun _ _ _ _ h => h) HS (fun K hK => ?_)
        go_simp
        first | (refine hK _ ?_; clear hK K) | (apply Exists.intro; refine ⟨?_, hK _ ?_⟩; (focus (intro wx hx; have x0 := hx.old_cell c4.out; first | (go_simp; first | rfl | exact ⟨rfl, rfl⟩) | rfl | exact ⟨rfl, rfl⟩)); clear hK K)
        refine mixk_q (i := 12) rfl (by kernel_rfl) (fun _ _ _ _ h => h) HS (fun K hK => ?_)
        go_simp
        first | (refine hK _ ?_; clear hK K) | (apply Exists.intro; refine ⟨?_, hK _ ?_⟩; (focus (intro wx hx; have x0 := hx.old_cell c4.out; first | (go_simp; first | rfl | exact ⟨rfl, rfl⟩) | rfl | exact ⟨rfl, rfl⟩)); clear hK K)
        refine mixk_l (i := 6) rfl (by kernel_rfl) (fun K hK wn hk => ?_)
        replace HR := Lib.hid (hk _ _ HR.out)
        clear hk HS
        go_simp
        refine (pacTake_c w wn _ b1 s sz u4.out hs.out HR.out).mono ?_
        rintro e wm ⟨rfl, H9_⟩
        replace HR := Lib.hid H9_
        clear H9_
        have HS : Own w wm [old w] := (Own.pm (HR.out) (by repeat (first | with_reducible exact Pm.refl _ | with_reducible exact Pm.nil _ | with_reducible refine Pm.here ?_ | with_reducible refine Pm.at2 ?_ | with_reducible refine Pm.at3 ?_ | with_reducible refine Pm.at4 ?_ | with_reducible refine Pm.at5 ?_ | with_reducible refine Pm.at6 ?_ | with_reducible refine Pm.at7 ?_ | with_reducible refine Pm.at8 ?_ | with_reducible refine Pm.skip ?_)))
        refine hK _ _ HS ?_
        clear hK K
        refine mixk_l (i := 13) rfl (by kernel_rfl) (fun K hK wn hk => ?_)
        replace HR := Lib.hid (hk _ _ HR.out)
        clear hk HS
        go_simp
        refine (rpacTake_c w wn _ b2 s sz u4.out hs.out HR.out.r2).mono ?_
        rintro e wm ⟨rfl, H9_⟩
        replace HR := Lib.hid H9_
        clear H9_
        have HS : Own w wm [old w] := (Own.pm (HR.out) (by repeat (first | with_reducible exact Pm.refl _ | with_reducible exact Pm.nil _ | with_reducible refine Pm.here ?_ | with_reducible refine Pm.at2 ?_ | with_reducible refine Pm.at3 ?_ | with_reducible refine Pm.at4 ?_ | with_reducible refine Pm.at5 ?_ | with_reducible refine Pm.at6 ?_ | with_reducible refine Pm.at7 ?_ | with_reducible refine Pm.at8 ?_ | with_reducible refine Pm.skip ?_)))
        refine hK _ _ HS ?_
        clear hK K
        refine mixk_q (i := 14) rfl (by kernel_rfl) (fun _ _ _ _ h => h) HS (fun K hK => ?_)
        go_simp
        first | (refine hK _ ?_; clear hK K) | (apply Exists.intro; refine ⟨?_, hK _ ?_⟩; (focus (intro wx hx; have x0 := hx.old_cell c4.out; first | (go_simp; first | rfl | exact ⟨rfl, rfl⟩) | rfl | exact ⟨rfl, rfl⟩)); clear hK K)
        refine mixk_q (i := 15) rfl (by kernel_rfl) (fun _ _ _ _ h => h) HS (fun K hK => ?_)
        go_simp
        first | (refine hK _ ?_; clear hK K) | (apply Exists.intro; refine ⟨?_, hK _ ?_⟩; (focus (intro wx hx; have x0 := hx.old_cell c4.out; first | (go_simp; first | rfl | exact ⟨rfl, rfl⟩) | rfl | exact ⟨rfl, rfl⟩)); clear hK K)
        refine mixk_done (by kernel_rfl) (fun w4 hk => ?_) _
        replace HR := Lib.hid (hk _ _ HR.out)
        clear hk HS
        obtain ⟨s3, hs3, HZ⟩ : ∃ s3, Hid (Pac.Ok s3) ∧ Hid (Own w w4 (pac b1 s3 :: rpac b2 s3 :: [old w])) := ⟨_, Lib.hid (Pac.ok_take hs.out u4.out), Lib.hid (Own.pm (HR.out) (by repeat (first | with_reducible exact Pm.refl _ | with_reducible exact Pm.nil _ | with_reducible refine Pm.here ?_ | with_reducible refine Pm.at2 ?_ | with_reducible refine Pm.at3 ?_ | with_reducible refine Pm.at4 ?_ | with_reducible refine Pm.at5 ?_ | with_reducible refine Pm.at6 ?_ | with_reducible refine Pm.at7 ?_ | with_reducible refine Pm.at8 ?_ | with_reducible refine Pm.skip ?_)))⟩
      case' inr.inr =>
        go_wp2_with fail
        refine (pacFill_c w _ _ b1 s hs.out HR.out).mono ?_
        rintro e w3 ⟨rfl, H3⟩
        clear ko HR
        obtain ⟨sn, sc, sr, sq⟩ := s
        unfold rpac at H3
        replace H3 := Lib.hid H3.r2
        (try clear k1); have k1 := H3.out.cells
        go_wp2_with fail
        refine (refMul_c _ sq 1000000 hs.out.2.2.2 U_million).mono ?_
        rintro e w5 ⟨rfl, rfl⟩
        go_wp2_with (with_reducible refine stop_st ?_)
        refine Stop.go ?_
        go_step
        go_simp
        have H4 := Lib.hid (H3.out.set 1 (.int .u64 (smul sq 1000000)))
        generalize w3.setCell ⟨b2, 1, none⟩ (.int .u64 (smul sq 1000000)) = w4 at *
        obtain ⟨s3, hs3, HZ⟩ : ∃ s3, Hid (Pac.Ok s3) ∧ Hid (Own w w4 (pac b1 s3 :: rpac b2 s3 :: [old w])) := ⟨_, Lib.hid (Pac.ok_fill hs.out), Lib.hid (Own.pm ((show Own w w4 (rpac b2 (Pac.fill ⟨sn, sc, sr, sq⟩) :: pac b1 (Pac.fill ⟨sn, sc, sr, sq⟩) :: [old w]) from H4.out)) (by repeat (first | with_reducible exact Pm.refl _ | with_reducible exact Pm.nil _ | with_reducible refine Pm.here ?_ | with_reducible refine Pm.at2 ?_ | with_reducible refine Pm.at3 ?_ | with_reducible refine Pm.at4 ?_ | with_reducible refine Pm.at5 ?_ | with_reducible refine Pm.at6 ?_ | with_reducible refine Pm.at7 ?_ | with_reducible refine Pm.at8 ?_ | with_reducible refine Pm.skip ?_)))⟩
      all_goals
        clear u1 u2 u3 u4 hkd hmd
        go_wp2_with fail
        refine (pacNext_c w _ _ b1 s3 look hl.out hs3.out HZ.out).mono ?_
        rintro e w6 ⟨rfl, H6⟩
        clear HZ
        replace H6 := Lib.hid H6.r2
        go_wp2_with fail
        refine (rpacNext_c w _ _ b2 s3 look hl.out hs3.out H6.out).mono ?_
        rintro e w7 ⟨rfl, H7⟩
        clear H6
        generalize s3.next look = nx at *
        obtain ⟨zn, zc, zr, zq⟩ := s3
        have H8 : Hid (Own w w7 (pac b1 ⟨zn, zc, zr, zq⟩ :: pts b2 (.cells #[.int .u64 zn, .int .u64 zc, .int .u64 zr, .int .u64 zq] 99 (0, 0)) :: [old w])) := Lib.hid H7.r2
        clear H7
        go_wp2_with fail
        refine wp_region_calm w (pac b1 ⟨zn, zc, zr, zq⟩ :: pts b2 (.cells #[.int .u64 zn, .int .u64 zc, .int .u64 zr, .int .u64 zq] 99 (0, 0)) :: [old w]) (by kernel_rfl) (by kernel_rfl) H8.out ?_
        repeat
          first
          | go_big_quiet_skip
          | (go_big_quiet_want; go_big_quiet_op; first | go_big_quiet_on | (apply Exists.intro; refine ⟨?_, ?_⟩; (focus (intro wx hx; have x1' := hx.r2.cells; first | (first | (go_at_call 58; refine (pacCredit_c w wx _ b1 ⟨zn, zc, zr, zq⟩ hx).mono ?_; rintro e wy ⟨rfl, hbel⟩; exact ⟨rfl, (by first | exact Kp.same hbel | exact Kp.drew hbel | exact Kp.below hbel : Kp wx wy) _ _ hx⟩)) | (go_simp; first | rfl | exact ⟨rfl, rfl⟩) | rfl | exact ⟨rfl, rfl⟩)); go_big_quiet_on))
          | (refine wpQuiet_step (fun K hK => ?_)
             go_simp
             first
             | (refine hK _ ?_; clear hK K)
             | (apply Exists.intro
                refine ⟨?_, hK _ ?_⟩
                (focus (intro wx hx; have x1' := hx.r2.cells; first | (first | (go_at_call 58; refine (pacCredit_c w wx _ b1 ⟨zn, zc, zr, zq⟩ hx).mono ?_; rintro e wy ⟨rfl, hbel⟩; exact ⟨rfl, (by first | exact Kp.same hbel | exact Kp.drew hbel | exact Kp.below hbel : Kp wx wy) _ _ hx⟩)) | (go_simp; first | rfl | exact ⟨rfl, rfl⟩) | rfl | exact ⟨rfl, rfl⟩))
                clear hK K))
        refine wpQuiet_nil ?_
        intro w8 H9_
        replace H8 := Lib.hid H9_
        clear H9_
        go_wp2_with fail
        go_roundw
        case rel => exact ⟨k + 1, ⟨zn, zc, zr, zq⟩, by omega, by go_num, hs3.out, H8.out⟩
        case measure => simp [intOf]; omega
    · have hkl : k = len := by omega
      clear hacts
      replace HR := Lib.hid ((Own.pm (HR.out) (by repeat (first | with_reducible exact Pm.refl _ | with_reducible exact Pm.nil _ | with_reducible refine Pm.here ?_ | with_reducible refine Pm.at2 ?_ | with_reducible refine Pm.at3 ?_ | with_reducible refine Pm.at4 ?_ | with_reducible refine Pm.at5 ?_ | with_reducible refine Pm.at6 ?_ | with_reducible refine Pm.at7 ?_ | with_reducible refine Pm.at8 ?_ | with_reducible refine Pm.skip ?_))) : Own w wr [old w])
      go_wp2_with fail
      refine (alive16_k _).mono ?_
      rintro e w3 ⟨rfl, hbel⟩
      replace HR := Lib.hid ((by first | exact Kp.same hbel | exact Kp.drew hbel | exact Kp.below hbel : Kp _ w3) _ _ (by first | exact HR.out | exact HR.out.drewN _ | exact (HR.out.alloc _).tail | exact ((HR.out.alloc _).drewN _).tail | exact ((HR.out.alloc _).alloc _).tail.tail))
      clear hbel
      go_wp2_with fail
      go_ret
      exact ⟨rfl, HR.out⟩
end
end Go.Proofs.Ytoimbdbajpjmjaa
