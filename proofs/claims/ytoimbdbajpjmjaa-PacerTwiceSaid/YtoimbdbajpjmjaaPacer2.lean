/- pacer: the reference. -/
import Derived.Test.YtoimbdbajpjmjaaPacer
namespace Go.Proofs.Ytoimbdbajpjmjaa
open Go.RowKit
def rpac (b : Nat) (s : Pac) : Asn := pts b (.cells #[.int .u64 s.now, .int .u64 s.cr, .int .u64 s.rate, .int .u64 s.qu] 99 (0, 0))
section
variable (ε w : World) (R : List Asn) (b : Nat) (s : Pac)
set_option maxHeartbeats 1600000 in
theorem rpacTick_c (now rate qu : Int) (hs : s.Ok) (h1 : U now) (h2 : U rate) (h3 : U qu) (H : Own ε w (rpac b s :: R)) :
    Calls Try.prog 51 #[.pointer (some ⟨b, 0, none⟩), .int .u64 now, .int .u64 rate, .int .u64 qu] w fun e w' => e = .returned (.int .i64 (s.tick now rate qu).1) ∧ Own ε w' (rpac b (s.tick now rate qu).2 :: R) := by
  obtain ⟨sn, sc, sr, sq⟩ := s
  obtain ⟨g1, g2, g3, g4⟩ := hs
  simp only at g1 g2 g3 g4
  unfold rpac at *
  simp only at *
  have HH := Lib.hid H
  clear H
  by_cases hb : now < sn
  · rw [show (⟨sn, sc, sr, sq⟩ : Pac).tick now rate qu = (2, ⟨sn, sc, sr, sq⟩) from if_pos hb]
    (try clear k1); have k1 := HH.out.cells
    go_enter Try.func51, Try.ntmps51
    go_wp2_with fail
    go_ret
    exact ⟨rfl, HH.out⟩
  · rw [show (⟨sn, sc, sr, sq⟩ : Pac).tick now rate qu = (0, ⟨now, min (sadd sc (smul rate (now - sn))) (smul qu 1000000), rate, qu⟩) from if_neg hb]
    have hd : U (now - sn) := by unfold U at *; omega
    have hw : IntKind.u64.wrap (now - sn) = now - sn := by unfold U at hd; rw [IntKind.wrap_u64]; omega
    have hm := Lib.hid (U_smul h2 hd)
    replace hd := Lib.hid hd
    replace h1 := Lib.hid h1
    replace h2 := Lib.hid h2
    replace h3 := Lib.hid h3
    replace g2 := Lib.hid g2
    clear g1 g3 g4
    have im := ite_min
    have k1 := HH.out.cells
    go_enter Try.func51, Try.ntmps51
    go_wp2_with fail
    clear k1
    refine wp_region_calm ε (pts b (.cells #[.int .u64 sn, .int .u64 sc, .int .u64 sr, .int .u64 sq] 99 (0, 0)) :: R) (by kernel_rfl) (by kernel_rfl) HH.out ?_
    repeat
      first
      | go_big_quiet_skip
      | (go_big_quiet_want; go_big_quiet_op; first | go_big_quiet_on | (apply Exists.intro; refine ⟨?_, ?_⟩; (focus (intro wx hx; have x1' := hx.cells; first | (first | (go_at_call 55; refine (refMul_c wx rate (now - sn) h2.out hd.out).mono ?_; rintro e wy ⟨rfl, hbel⟩; exact ⟨rfl, (by first | exact Kp.same hbel | exact Kp.drew hbel | exact Kp.below hbel : Kp wx wy) _ _ hx⟩) | (go_at_call 72; refine (refAdd_c wx _ _ g2.out hm.out).mono ?_; rintro e wy ⟨rfl, hbel⟩; exact ⟨rfl, (by first | exact Kp.same hbel | exact Kp.drew hbel | exact Kp.below hbel : Kp wx wy) _ _ hx⟩)) | (go_simp; first | rfl | exact ⟨rfl, rfl⟩) | rfl | exact ⟨rfl, rfl⟩)); go_big_quiet_on))
      | (refine wpQuiet_step (fun K hK => ?_)
         go_simp
         first
         | (refine hK _ ?_; clear hK K)
         | (apply Exists.intro
            refine ⟨?_, hK _ ?_⟩
            (focus (intro wx hx; have x1' := hx.cells; first | (first | (go_at_call 55; refine (refMul_c wx rate (now - sn) h2.out hd.out).mono ?_; rintro e wy ⟨rfl, hbel⟩; exact ⟨rfl, (by first | exact Kp.same hbel | exact Kp.drew hbel | exact Kp.below hbel : Kp wx wy) _ _ hx⟩) | (go_at_call 72; refine (refAdd_c wx _ _ g2.out hm.out).mono ?_; rintro e wy ⟨rfl, hbel⟩; exact ⟨rfl, (by first | exact Kp.same hbel | exact Kp.drew hbel | exact Kp.below hbel : Kp wx wy) _ _ hx⟩)) | (go_simp; first | rfl | exact ⟨rfl, rfl⟩) | rfl | exact ⟨rfl, rfl⟩))
            clear hK K))
    refine wpQuiet_nil ?_
    intro w2 H9_
    replace HH := Lib.hid H9_
    clear H9_
    clear hw
    (try clear k1); have k1 := HH.out.cells
    go_wp2_with fail
    refine (refMul_c _ qu 1000000 h3.out U_million).mono ?_
    rintro e w' ⟨rfl, rfl⟩
    go_wp2_with fail
    go_ret
    exact ⟨rfl, (Own.pm ((show Own ε _ (pts b (.cells #[.int .u64 now, .int .u64 (min (sadd sc (smul rate (now - sn))) (smul qu 1000000)), .int .u64 rate, .int .u64 qu] 99 (0, 0)) :: _) from (((HH.out.set 1 (.int .u64 (min (sadd sc (smul rate (now - sn))) (smul qu 1000000)))).set 0 (.int .u64 now)).set 2 (.int .u64 rate)).set 3 (.int .u64 qu))) (by repeat (first | with_reducible exact Pm.refl _ | with_reducible exact Pm.nil _ | with_reducible refine Pm.here ?_ | with_reducible refine Pm.at2 ?_ | with_reducible refine Pm.at3 ?_ | with_reducible refine Pm.at4 ?_ | with_reducible refine Pm.at5 ?_ | with_reducible refine Pm.at6 ?_ | with_reducible refine Pm.at7 ?_ | with_reducible refine Pm.at8 ?_ | with_reducible refine Pm.skip ?_)))⟩
set_option maxHeartbeats 1600000 in
theorem rpacTake_c (n : Int) (hn : U n) (hs : s.Ok) (H : Own ε w (rpac b s :: R)) :
    Calls Try.prog 53 #[.pointer (some ⟨b, 0, none⟩), .int .u64 n] w fun e w' => e = .returned (.bool (s.take n).1) ∧ Own ε w' (rpac b (s.take n).2 :: R) := by
  obtain ⟨sn, sc, sr, sq⟩ := s
  have g2 := hs.2.1
  have hm := U_smul hn U_million
  unfold rpac at *
  have HH := Lib.hid H
  clear H hs
  replace hn := Lib.hid hn
  (try clear k1); have k1 := HH.out.cells
  by_cases hb : sc < smul n 1000000
  · rw [show (⟨sn, sc, sr, sq⟩ : Pac).take n = (false, ⟨sn, sc, sr, sq⟩) from if_pos hb]
    clear g2 hm
    go_enter Try.func53, Try.ntmps53
    go_wp2_with fail
    refine (refMul_c _ n 1000000 hn.out U_million).mono ?_
    rintro e w' ⟨rfl, rfl⟩
    go_wp2_with fail
    go_ret
    exact ⟨rfl, HH.out⟩
  · rw [show (⟨sn, sc, sr, sq⟩ : Pac).take n = (true, ⟨sn, sc - smul n 1000000, sr, sq⟩) from if_neg hb]
    simp only at g2
    have hw : IntKind.u64.wrap (sc - smul n 1000000) = sc - smul n 1000000 := by unfold U at g2 hm; rw [IntKind.wrap_u64]; omega
    unfold U at g2 hm
    go_enter Try.func53, Try.ntmps53
    go_wp2_with fail
    refine (refMul_c _ n 1000000 hn.out U_million).mono ?_
    rintro e w' ⟨rfl, rfl⟩
    go_wp2_with fail
    go_ret
    exact ⟨rfl, HH.out.set 1 (.int .u64 (sc - smul n 1000000))⟩
set_option maxHeartbeats 3200000 in
theorem rpacNext_c (n : Int) (hn : U n) (hs : s.Ok) (H : Own ε w (rpac b s :: R)) :
    Calls Try.prog 57 #[.pointer (some ⟨b, 0, none⟩), .int .u64 n] w fun e w' => e = .returned (.tuple #[.int .u64 (s.next n).1, .bool (s.next n).2]) ∧ Own ε w' (rpac b s :: R) := by
  obtain ⟨sn, sc, sr, sq⟩ := s
  obtain ⟨g1, g2, g3, g4⟩ := hs
  simp only at g1 g2 g3 g4
  have hm := U_smul hn U_million
  have hu := U_ssub hm g2
  have ho := U_sover (c := sr) hu (show U 1 by decide)
  unfold rpac at *
  have HH := Lib.hid H
  clear H
  replace hn := Lib.hid hn
  replace hm := Lib.hid hm
  replace g1 := Lib.hid g1
  replace g2 := Lib.hid g2
  replace g3 := Lib.hid g3
  replace hu := Lib.hid hu
  replace ho := Lib.hid ho
  clear g4
  unfold Pac.next
  simp only
  (try clear k1); have k1 := HH.out.cells
  by_cases h0 : sq < n
  · rw [if_pos h0]
    go_enter Try.func57, Try.ntmps57
    go_wp2
    go_ret2
    exact ⟨rfl, HH.out⟩
  rw [if_neg h0]
  by_cases h1 : ssub (smul n 1000000) sc = 0
  · rw [if_pos h1]
    go_enter Try.func57, Try.ntmps57
    go_wp2_with fail
    clear k1
    refine wp_region_calm ε (pts b (.cells #[.int .u64 sn, .int .u64 sc, .int .u64 sr, .int .u64 sq] 99 (0, 0)) :: R) (by kernel_rfl) (by kernel_rfl) HH.out ?_
    repeat
      first
      | go_big_quiet_skip
      | (go_big_quiet_want; go_big_quiet_op; first | go_big_quiet_on | (apply Exists.intro; refine ⟨?_, ?_⟩; (focus (intro wx hx; have x1' := hx.cells; first | (first | (go_at_call 55; refine (refMul_c wx n 1000000 hn.out U_million).mono ?_; rintro e wy ⟨rfl, hbel⟩; exact ⟨rfl, (by first | exact Kp.same hbel | exact Kp.drew hbel | exact Kp.below hbel : Kp wx wy) _ _ hx⟩) | (go_at_call 64; refine (refSub_c wx _ _ hm.out g2.out).mono ?_; rintro e wy ⟨rfl, hbel⟩; exact ⟨rfl, (by first | exact Kp.same hbel | exact Kp.drew hbel | exact Kp.below hbel : Kp wx wy) _ _ hx⟩)) | (go_simp; first | rfl | exact ⟨rfl, rfl⟩) | rfl | exact ⟨rfl, rfl⟩)); go_big_quiet_on))
      | (refine wpQuiet_step (fun K hK => ?_)
         go_simp
         first
         | (refine hK _ ?_; clear hK K)
         | (apply Exists.intro
            refine ⟨?_, hK _ ?_⟩
            (focus (intro wx hx; have x1' := hx.cells; first | (first | (go_at_call 55; refine (refMul_c wx n 1000000 hn.out U_million).mono ?_; rintro e wy ⟨rfl, hbel⟩; exact ⟨rfl, (by first | exact Kp.same hbel | exact Kp.drew hbel | exact Kp.below hbel : Kp wx wy) _ _ hx⟩) | (go_at_call 64; refine (refSub_c wx _ _ hm.out g2.out).mono ?_; rintro e wy ⟨rfl, hbel⟩; exact ⟨rfl, (by first | exact Kp.same hbel | exact Kp.drew hbel | exact Kp.below hbel : Kp wx wy) _ _ hx⟩)) | (go_simp; first | rfl | exact ⟨rfl, rfl⟩) | rfl | exact ⟨rfl, rfl⟩))
            clear hK K))
    refine wpQuiet_nil ?_
    intro w2 H9_
    replace HH := Lib.hid H9_
    clear H9_
    (try clear k1); have k1 := HH.out.cells
    go_wp2
    go_ret2
    exact ⟨rfl, HH.out⟩
  rw [if_neg h1]
  have b1 : (ssub (smul n 1000000) sc == 0) = false := by simpa using h1
  by_cases h2 : sr = 0
  · rw [if_pos h2]
    have b2 : (sr == 0) = true := by simpa using h2
    go_enter Try.func57, Try.ntmps57
    go_wp2_with fail
    clear k1
    refine wp_region_calm ε (pts b (.cells #[.int .u64 sn, .int .u64 sc, .int .u64 sr, .int .u64 sq] 99 (0, 0)) :: R) (by kernel_rfl) (by kernel_rfl) HH.out ?_
    repeat
      first
      | go_big_quiet_skip
      | (go_big_quiet_want; go_big_quiet_op; first | go_big_quiet_on | (apply Exists.intro; refine ⟨?_, ?_⟩; (focus (intro wx hx; have x1' := hx.cells; first | (first | (go_at_call 55; refine (refMul_c wx n 1000000 hn.out U_million).mono ?_; rintro e wy ⟨rfl, hbel⟩; exact ⟨rfl, (by first | exact Kp.same hbel | exact Kp.drew hbel | exact Kp.below hbel : Kp wx wy) _ _ hx⟩) | (go_at_call 64; refine (refSub_c wx _ _ hm.out g2.out).mono ?_; rintro e wy ⟨rfl, hbel⟩; exact ⟨rfl, (by first | exact Kp.same hbel | exact Kp.drew hbel | exact Kp.below hbel : Kp wx wy) _ _ hx⟩)) | (go_simp; first | rfl | exact ⟨rfl, rfl⟩) | rfl | exact ⟨rfl, rfl⟩)); go_big_quiet_on))
      | (refine wpQuiet_step (fun K hK => ?_)
         go_simp
         first
         | (refine hK _ ?_; clear hK K)
         | (apply Exists.intro
            refine ⟨?_, hK _ ?_⟩
            (focus (intro wx hx; have x1' := hx.cells; first | (first | (go_at_call 55; refine (refMul_c wx n 1000000 hn.out U_million).mono ?_; rintro e wy ⟨rfl, hbel⟩; exact ⟨rfl, (by first | exact Kp.same hbel | exact Kp.drew hbel | exact Kp.below hbel : Kp wx wy) _ _ hx⟩) | (go_at_call 64; refine (refSub_c wx _ _ hm.out g2.out).mono ?_; rintro e wy ⟨rfl, hbel⟩; exact ⟨rfl, (by first | exact Kp.same hbel | exact Kp.drew hbel | exact Kp.below hbel : Kp wx wy) _ _ hx⟩)) | (go_simp; first | rfl | exact ⟨rfl, rfl⟩) | rfl | exact ⟨rfl, rfl⟩))
            clear hK K))
    refine wpQuiet_nil ?_
    intro w2 H9_
    replace HH := Lib.hid H9_
    clear H9_
    (try clear k1); have k1 := HH.out.cells
    go_wp2
    go_ret2
    exact ⟨rfl, HH.out⟩
  · rw [if_neg h2]
    have b2 : (sr == 0) = false := by simpa using h2
    go_enter Try.func57, Try.ntmps57
    go_wp2_with fail
    clear k1
    refine wp_region_calm ε (pts b (.cells #[.int .u64 sn, .int .u64 sc, .int .u64 sr, .int .u64 sq] 99 (0, 0)) :: R) (by kernel_rfl) (by kernel_rfl) HH.out ?_
    repeat
      first
      | go_big_quiet_skip
      | (go_big_quiet_want; go_big_quiet_op; first | go_big_quiet_on | (apply Exists.intro; refine ⟨?_, ?_⟩; (focus (intro wx hx; have x1' := hx.cells; first | (first | (go_at_call 55; refine (refMul_c wx n 1000000 hn.out U_million).mono ?_; rintro e wy ⟨rfl, hbel⟩; exact ⟨rfl, (by first | exact Kp.same hbel | exact Kp.drew hbel | exact Kp.below hbel : Kp wx wy) _ _ hx⟩) | (go_at_call 64; refine (refSub_c wx _ _ hm.out g2.out).mono ?_; rintro e wy ⟨rfl, hbel⟩; exact ⟨rfl, (by first | exact Kp.same hbel | exact Kp.drew hbel | exact Kp.below hbel : Kp wx wy) _ _ hx⟩)) | (go_simp; first | rfl | exact ⟨rfl, rfl⟩) | rfl | exact ⟨rfl, rfl⟩)); go_big_quiet_on))
      | (refine wpQuiet_step (fun K hK => ?_)
         go_simp
         first
         | (refine hK _ ?_; clear hK K)
         | (apply Exists.intro
            refine ⟨?_, hK _ ?_⟩
            (focus (intro wx hx; have x1' := hx.cells; first | (first | (go_at_call 55; refine (refMul_c wx n 1000000 hn.out U_million).mono ?_; rintro e wy ⟨rfl, hbel⟩; exact ⟨rfl, (by first | exact Kp.same hbel | exact Kp.drew hbel | exact Kp.below hbel : Kp wx wy) _ _ hx⟩) | (go_at_call 64; refine (refSub_c wx _ _ hm.out g2.out).mono ?_; rintro e wy ⟨rfl, hbel⟩; exact ⟨rfl, (by first | exact Kp.same hbel | exact Kp.drew hbel | exact Kp.below hbel : Kp wx wy) _ _ hx⟩)) | (go_simp; first | rfl | exact ⟨rfl, rfl⟩) | rfl | exact ⟨rfl, rfl⟩))
            clear hK K))
    refine wpQuiet_nil ?_
    intro w2 H9_
    replace HH := Lib.hid H9_
    clear H9_
    (try clear k1); have k1 := HH.out.cells
    go_wp2_with fail
    clear k1
    refine wp_region_calm ε (pts b (.cells #[.int .u64 sn, .int .u64 sc, .int .u64 sr, .int .u64 sq] 99 (0, 0)) :: R) (by kernel_rfl) (by kernel_rfl) HH.out ?_
    repeat
      first
      | go_big_quiet_skip
      | (go_big_quiet_want; go_big_quiet_op; first | go_big_quiet_on | (apply Exists.intro; refine ⟨?_, ?_⟩; (focus (intro wx hx; have x1' := hx.cells; first | (first | (go_at_call 83; refine (refOver_c wx _ 1 sr hu.out (by decide) g3.out).mono ?_; rintro e wy ⟨rfl, hbel⟩; exact ⟨rfl, (by first | exact Kp.same hbel | exact Kp.drew hbel | exact Kp.below hbel : Kp wx wy) _ _ hx⟩) | (go_at_call 72; refine (refAdd_c wx _ _ g1.out ho.out).mono ?_; rintro e wy ⟨rfl, hbel⟩; exact ⟨rfl, (by first | exact Kp.same hbel | exact Kp.drew hbel | exact Kp.below hbel : Kp wx wy) _ _ hx⟩)) | (go_simp; first | rfl | exact ⟨rfl, rfl⟩) | rfl | exact ⟨rfl, rfl⟩)); go_big_quiet_on))
      | (refine wpQuiet_step (fun K hK => ?_)
         go_simp
         first
         | (refine hK _ ?_; clear hK K)
         | (apply Exists.intro
            refine ⟨?_, hK _ ?_⟩
            (focus (intro wx hx; have x1' := hx.cells; first | (first | (go_at_call 83; refine (refOver_c wx _ 1 sr hu.out (by decide) g3.out).mono ?_; rintro e wy ⟨rfl, hbel⟩; exact ⟨rfl, (by first | exact Kp.same hbel | exact Kp.drew hbel | exact Kp.below hbel : Kp wx wy) _ _ hx⟩) | (go_at_call 72; refine (refAdd_c wx _ _ g1.out ho.out).mono ?_; rintro e wy ⟨rfl, hbel⟩; exact ⟨rfl, (by first | exact Kp.same hbel | exact Kp.drew hbel | exact Kp.below hbel : Kp wx wy) _ _ hx⟩)) | (go_simp; first | rfl | exact ⟨rfl, rfl⟩) | rfl | exact ⟨rfl, rfl⟩))
            clear hK K))
    refine wpQuiet_nil ?_
    intro w3 H9_
    replace HH := Lib.hid H9_
    clear H9_
    go_wp2
    go_ret2
    exact ⟨rfl, HH.out⟩
end
end Go.Proofs.Ytoimbdbajpjmjaa
