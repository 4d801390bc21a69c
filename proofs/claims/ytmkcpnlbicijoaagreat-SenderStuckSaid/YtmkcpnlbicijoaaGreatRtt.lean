/- rtt: its calls. -/
import Derived.Test.YtmkcpnlbicijoaaGreatRttD
import Derived.Test.YtmkcpnlbicijoaaGreatBbr2
namespace Go.Proofs.YtmkcpnlbicijoaaGreat
open Go.RowKit
def rtt (b : Nat) (s : Rtt) : Asn := pts b (.cells #[.int .u64 s.last, .int .u64 s.smooth, .int .u64 s.spread, .bool s.some, .int .i64 s.dbl] 120 (0, 0))
section
variable (ε w : World) (R : List Asn) (b : Nat)
theorem rttNew_c (H : Own ε w R) : Calls Tryz.prog 28 #[] w fun e w' => ∃ b, e = .returned (.pointer (some ⟨b, 0, none⟩)) ∧ Own ε w' (rtt b Rtt.zero :: R) := by
 have HH := Lib.hid H; clear H
 go_enter Tryz.func28, Tryz.ntmps28
 go_wp2_with (with_reducible refine stop_bx ?_)
 refine Stop.go ?_
 refine wpList_box_own HH.out [_, _, _, _, _] rfl ?_
 intro b w1_ H9_
 replace HH := Lib.hid H9_
 clear H9_
 go_wp2_with fail
 go_ret
 exact ⟨_, rfl, HH.out⟩
theorem rttDouble_c (s : Rtt) (hs : s.Ok) (H : Own ε w (rtt b s :: R)) :
  Calls Tryz.prog 72 #[.pointer (some ⟨b, 0, none⟩)] w fun e w' => e = .returned (.tuple #[]) ∧ Own ε w' (rtt b s.double :: R) := by
 obtain ⟨la, sm, sp, so, db⟩ := s
 have h0 := hs.d0
 have h6 := hs.d6
 clear hs
 simp only at h0 h6
 have HH := Lib.hid (show Own ε w (pts b (.cells #[.int .u64 la, .int .u64 sm, .int .u64 sp, .bool so, .int .i64 db] 120 (0, 0)) :: R) from H)
 clear H
 have hw : IntKind.i64.wrap (db + 1) = db + 1 := by rw [IntKind.wrap_i64]; omega
 have im := min_ite'
 go_enter Tryz.func72, Tryz.ntmps72
 (try clear cc1_); (try clear cc2_)
 have cc1_ := HH.out.cells
 go_wp2_with (with_reducible refine stop_st ?_)
 refine Stop.go ?_
 refine wpList_store1_own (v := .int .i64 (min (db + 1) 6)) (k := 4) rfl rfl HH.out (by kernel_rfl) (by simp) (by first | rfl | assumption) ?_
 intro w2_ H9_
 replace HH := Lib.hid H9_
 clear H9_
 simp only [List.setIfInBounds_toArray, List.set_cons_succ, List.set_cons_zero] at HH
 go_wp2_with fail
 first | go_end0 | ((try simp only [Exit.inBlock, Exit.then]); refine bodyPost_ret (results_none rfl _ _ _) rfl ?_)
 exact ⟨rfl, HH.out⟩
set_option maxRecDepth 100000 in
set_option maxHeartbeats 1600000 in
theorem rttDelay_c (s : Rtt) (hs : s.Ok) (H : Own ε w (rtt b s :: R)) :
  Calls Tryz.prog 70 #[.pointer (some ⟨b, 0, none⟩)] w fun e w' => e = .returned (.int .u64 s.delay) ∧ Own ε w' (rtt b s :: R) := by
 obtain ⟨la, sm, sp, so, db⟩ := s
 have hm := U_max2 hs.smooth hs.last
 clear hs
 simp only at hm
 unfold Rtt.delay
 simp only
 have HH := Lib.hid (show Own ε w (pts b (.cells #[.int .u64 la, .int .u64 sm, .int .u64 sp, .bool so, .int .i64 db] 120 (0, 0)) :: R) from H)
 clear H
 replace hm := Lib.hid hm
 have ix := max_ite'
 go_enter Tryz.func70, Tryz.ntmps70
 (try clear cc1_); (try clear cc2_)
 have cc1_ := HH.out.cells
 go_wp2_with fail
 refine wp_region_reg none HH.out (by kernel_rfl) ?_
 intro wm H9_
 replace HH := Lib.hid H9_
 clear H9_
 refine reg_s 0 HH.out ?_
 refine reg_s 1 HH.out ?_
 refine reg_s 2 HH.out ?_
 refine reg_s 3 HH.out ?_
 refine mixk_s 4 HH.out (fun _ hx => hx.cells) ?_
 refine reg_s 5 HH.out ?_
 refine reg_s 6 HH.out ?_
 refine reg_s 7 HH.out ?_
 refine reg_s 8 HH.out ?_
 refine mixk_s 9 HH.out (fun _ hx => hx.cells) ?_
 refine reg_s 10 HH.out ?_
 refine mixk_q (i := 11) rfl (by kernel_rfl) (fun _ _ _ _ h => h) HH.out (fun K hK => ?_)
 go_simp
 (first | refine hK _ ?_ | (apply Exists.intro; refine ⟨?_, hK _ ?_⟩; focus intro wx hx; first | (first | (go_at_call 88; refine (fixOver_c wx (max sm la) 9 8 hm.out (by decide) (by decide)).mono ?_; rintro e wy ⟨rfl, hbel⟩; exact ⟨rfl, (by first | exact .same hbel | exact .drew hbel | exact .below hbel : Kp wx wy)⟩)) | (go_simp; first | rfl | exact ⟨rfl, rfl⟩) | rfl | exact ⟨rfl, rfl⟩)); clear hK K
 refine reg_s 12 HH.out ?_
 refine reg_s 13 HH.out ?_
 refine mixk_done (by kernel_rfl) (fun w3_ hk => ?_) _
 replace HH := Lib.hid (hk _ _ HH.out)
 clear hk
 go_wp2_with fail
 go_ret
 exact ⟨rfl, HH.out⟩
set_option maxRecDepth 100000 in
set_option maxHeartbeats 1600000 in
theorem rttLimit_c (s : Rtt) (hs : s.Ok) (H : Own ε w (rtt b s :: R)) :
  Calls Tryz.prog 71 #[.pointer (some ⟨b, 0, none⟩)] w fun e w' => e = .returned (.int .u64 s.limit) ∧ Own ε w' (rtt b s :: R) := by
 have hb := Lib.hid (Rtt.U_base hs)
 have hp := pow_small hs.d0 hs.d6
 obtain ⟨la, sm, sp, so, db⟩ := s
 have h2 := hs.smooth
 have h3 := hs.spread
 have h0 := hs.d0
 have h6 := hs.d6
 clear hs
 simp only at h0 h6 h2 h3 hp
 have HH := Lib.hid (show Own ε w (pts b (.cells #[.int .u64 la, .int .u64 sm, .int .u64 sp, .bool so, .int .i64 db] 120 (0, 0)) :: R) from H)
 clear H
 have h4 := Lib.hid (U_max2 (U_smul (show U 4 by decide) h3) (show U 1000 by decide))
 replace h2 := Lib.hid h2
 replace h3 := Lib.hid h3
 unfold Rtt.limit
 simp only
 have ix := max_ite'
 obtain ⟨d, rfl⟩ : ∃ d : Nat, db = (d : Int) := ⟨db.toNat, by omega⟩
 rw [Int.toNat_natCast] at hp ⊢
 have hd6 : min d 64 = d := by omega
 have hd0 : ¬ (d : Int) < 0 := by omega
 have hsh : IntKind.u64.wrap (2 ^ d) = 2 ^ d := by rw [IntKind.wrap_u64]; unfold U at hp; omega
 obtain ⟨hp1, _⟩ := hp
 replace hp1 := Lib.hid hp1
 clear h0 h6
 cases so with
 | true =>
  have e1 : Rtt.base ⟨la, sm, sp, true, d⟩ = max (sadd sm (max (smul 4 sp) 1000)) 10000 := rfl
  rw [e1] at hb ⊢
  clear e1
  go_enter Tryz.func71, Tryz.ntmps71
  (try clear cc1_); (try clear cc2_)
  have cc1_ := HH.out.cells
  go_wp2_with fail
  refine wp_region_reg none HH.out (by kernel_rfl) ?_
  intro wm H9_
  replace HH := Lib.hid H9_
  clear H9_
  refine reg_s 0 HH.out ?_
  refine reg_s 1 HH.out ?_
  refine reg_s 2 HH.out ?_
  refine reg_s 3 HH.out ?_
  refine mixk_s 4 HH.out (fun _ hx => hx.cells) ?_
  refine reg_s 5 HH.out ?_
  refine reg_s 6 HH.out ?_
  refine reg_s 7 HH.out ?_
  refine reg_s 8 HH.out ?_
  refine mixk_s 9 HH.out (fun _ hx => hx.cells) ?_
  refine mixk_q (i := 10) rfl (by kernel_rfl) (fun _ _ _ _ h => h) HH.out (fun K hK => ?_)
  go_simp
  (first | refine hK _ ?_ | (apply Exists.intro; refine ⟨?_, hK _ ?_⟩; focus intro wx hx; first | (first | (go_at_call 62; refine (fixMul_c wx 4 sp (by decide) h3.out).mono ?_; rintro e wy ⟨rfl, hbel⟩; exact ⟨rfl, (by first | exact .same hbel | exact .drew hbel | exact .below hbel : Kp wx wy)⟩)) | (go_simp; first | rfl | exact ⟨rfl, rfl⟩) | rfl | exact ⟨rfl, rfl⟩)); clear hK K
  refine reg_s 11 HH.out ?_
  refine reg_l none (i := 12) rfl (by kernel_rfl) (fun wn hk K hK => ?_)
  replace HH := Lib.hid (hk _ _ HH.out)
  clear hk
  go_simp
  replace HH := Lib.hid (HH.out.alloc (.cells #[.int .u64 sm, .int .u64 (max (smul 4 sp) 1000)] 22))
  generalize wn.alloc (.cells #[.int .u64 sm, .int .u64 (max (smul 4 sp) 1000)] 22) = wm at *
  generalize wn.heap.size = xb at *
  refine hK _ _ _ HH.out (.inr ⟨rfl, fun _ h => h.tail⟩) ?_
  clear hK K
  refine reg_l none (i := 13) rfl (by kernel_rfl) (fun wn hk K hK => ?_)
  replace HH := Lib.hid (hk _ _ HH.out)
  clear hk
  go_simp
  refine (fixAdd2_c wn xb sm (max (smul 4 sp) 1000) h2.out h4.out (HH.out.cells.1 0) (HH.out.cells.1 1)).mono ?_
  rintro e wm ⟨rfl, hbel⟩
  replace HH := Lib.hid ((by first | exact .same hbel | exact .drew hbel | exact .below hbel : Kp wn wm) _ _ HH.out)
  clear hbel
  refine hK _ _ _ HH.out (.inr ⟨rfl, fun _ h => h⟩) ?_
  clear hK K
  refine reg_s 14 HH.out ?_
  refine reg_s 15 HH.out ?_
  refine mixk_done (by kernel_rfl) (fun w4_ hk => ?_) _
  replace HH := Lib.hid (hk _ _ HH.out)
  clear hk
  replace HH := Lib.hid (HH.out.pn : Own _ _ (pts b (.cells #[.int .u64 la, .int .u64 sm, .int .u64 sp, .bool true, .int .i64 d] 120 (0, 0)) :: R))
  (try clear cc1_); (try clear cc2_)
  have cc1_ := HH.out.cells
  go_wp2_with fail
  refine (fixMul_c _ (max (sadd sm (max (smul 4 sp) 1000)) 10000) (2 ^ d) hb.out hp1.out).mono ?_
  rintro e w5_ ⟨rfl, hbel⟩
  replace HH := Lib.hid ((by first | exact .same hbel | exact .drew hbel | exact .below hbel : Kp _ w5_) _ _ (by first | exact HH.out | exact HH.out.drewN _ | exact (HH.out.alloc _).tail | exact ((HH.out.alloc _).drewN _).tail | exact ((HH.out.alloc _).alloc _).tail.tail))
  clear hbel
  go_wp2_with fail
  go_ret
  exact ⟨rfl, HH.out⟩
 | false =>
  have e1 : Rtt.base ⟨la, sm, sp, false, d⟩ = 1000000 := rfl
  rw [e1] at hb ⊢
  clear e1
  go_enter Tryz.func71, Tryz.ntmps71
  (try clear cc1_); (try clear cc2_)
  have cc1_ := HH.out.cells
  go_wp2_with fail
  refine (fixMul_c _ 1000000 (2 ^ d) hb.out hp1.out).mono ?_
  rintro e w6_ ⟨rfl, hbel⟩
  replace HH := Lib.hid ((by first | exact .same hbel | exact .drew hbel | exact .below hbel : Kp _ w6_) _ _ (by first | exact HH.out | exact HH.out.drewN _ | exact (HH.out.alloc _).tail | exact ((HH.out.alloc _).drewN _).tail | exact ((HH.out.alloc _).alloc _).tail.tail))
  clear hbel
  go_wp2_with fail
  go_ret
  exact ⟨rfl, HH.out⟩
set_option maxRecDepth 100000 in
set_option maxHeartbeats 3200000 in
theorem rttPut_c (s : Rtt) (hs : s.Ok) (x : Int) (hx : U x) (H : Own ε w (rtt b s :: R)) :
  Calls Tryz.prog 51 #[.pointer (some ⟨b, 0, none⟩), .int .u64 x] w fun e w' => e = .returned (.tuple #[]) ∧ Own ε w' (rtt b (s.put x) :: R) := by
 have hf := Lib.hid (Rtt.ok_far hs hx)
 obtain ⟨la, sm, sp, so, db⟩ := s
 have h2 := Lib.hid hs.smooth
 have h3 := Lib.hid hs.spread
 clear hs
 simp only at h2 h3
 have HH := Lib.hid (show Own ε w (pts b (.cells #[.int .u64 la, .int .u64 sm, .int .u64 sp, .bool so, .int .i64 db] 120 (0, 0)) :: R) from H)
 clear H
 have n3 : (0 : Int) ≤ x := hx.1
 have hm7 := Lib.hid (U_smul (show U 7 by decide) h2.out)
 have hm3 := Lib.hid (U_smul (show U 3 by decide) h3.out)
 replace hx := Lib.hid hx
 have ix := max_ite'
 obtain ⟨fr, hfr⟩ : ∃ fr, fr = Rtt.far ⟨la, sm, sp, so, db⟩ x := ⟨_, rfl⟩
 have hf0 : max (ssub sm x) (ssub x sm) = fr := by rw [hfr]; rfl
 rw [← hfr] at hf
 obtain ⟨q, hq⟩ : ∃ q, q = (⟨la, sm, sp, so, db⟩ : Rtt).put x := ⟨_, rfl⟩
 rw [← hq]
 unfold Rtt.put at hq
 simp only at hq
 rw [← hfr] at hq
 clear hfr
 cases so with
 | true =>
  simp only [if_true] at hq
  replace hq := Lib.hid hq
  have n1 := U_sadd hm3.out hf.out
  have n2 := U_sadd hm7.out hx.out
  have d1 : (sadd (smul 3 sp) fr).tdiv 4 = sadd (smul 3 sp) fr / 4 := Int.tdiv_eq_ediv_of_nonneg n1.1
  have d2 : (sadd (smul 7 sm) x).tdiv 8 = sadd (smul 7 sm) x / 8 := Int.tdiv_eq_ediv_of_nonneg n2.1
  have w1 : IntKind.u64.wrap (sadd (smul 3 sp) fr / 4) = sadd (smul 3 sp) fr / 4 := by have := U_div n1 4 (by decide); unfold U at this; rw [IntKind.wrap_u64]; omega
  have w2 : IntKind.u64.wrap (sadd (smul 7 sm) x / 8) = sadd (smul 7 sm) x / 8 := by have := U_div n2 8 (by decide); unfold U at this; rw [IntKind.wrap_u64]; omega
  clear n1 n2 n3
  obtain ⟨v1, hv1⟩ : ∃ v, v = sadd (smul 3 sp) fr / 4 := ⟨_, rfl⟩
  obtain ⟨v2, hv2⟩ : ∃ v, v = sadd (smul 7 sm) x / 8 := ⟨_, rfl⟩
  rw [← hv1] at d1 w1
  rw [← hv2] at d2 w2
  have hq2 := hq.out
  rw [← hv1, ← hv2] at hq2
  replace hq := Lib.hid hq2
  clear hq2 hv1 hv2
  go_enter Tryz.func51, Tryz.ntmps51
  (try clear cc1_); (try clear cc2_)
  have cc1_ := HH.out.cells
  go_wp2_with fail
  refine wp_region_reg none HH.out (by kernel_rfl) ?_
  intro wm H9_
  replace HH := Lib.hid H9_
  clear H9_
  refine reg_s 0 HH.out ?_
  refine reg_s 1 HH.out ?_
  refine reg_s 2 HH.out ?_
  refine reg_s 3 HH.out ?_
  refine mixk_s 4 HH.out (fun _ hx => hx.cells) ?_
  refine reg_s 5 HH.out ?_
  refine reg_s 8 HH.out ?_
  refine reg_s 9 HH.out ?_
  refine reg_s 10 HH.out ?_
  refine reg_s 11 HH.out ?_
  refine reg_s 12 HH.out ?_
  refine mixk_s 13 HH.out (fun _ hx => hx.cells) ?_
  refine reg_two none none (i := 6) (j := 14) rfl rfl (by kernel_rfl) (fun wn hk K hK => ?g1_) (fun wn hk K hK => ?g2_)
  case' g1_ =>
   replace HH := Lib.hid (hk _ _ HH.out)
   clear hk
   go_simp
   replace HH := Lib.hid (HH.out.alloc (.cells #[.int .u64 x] 22))
   generalize wn.alloc (.cells #[.int .u64 x] 22) = wm at *
   generalize wn.heap.size = xb at *
   refine hK _ _ _ HH.out (.inr ⟨rfl, fun _ h => h.tail⟩) ?_
   clear hK K
   refine reg_two none none (i := 7) (j := 14) rfl rfl (by kernel_rfl) (fun wn hk K hK => ?g3_) (fun wn hk K hK => ?g4_)
   case' g3_ =>
    replace HH := Lib.hid (hk _ _ HH.out)
    clear hk
    go_simp
    refine (fixSub_c wn sm _ 1 1 [x] h2.out (rd1 hx.out (HH.out))).mono ?_
    rw [show sless sm [x] = ssub sm x from by first | rfl | decide]
    rintro e wm ⟨rfl, hbel⟩
    replace HH := Lib.hid ((by first | exact .same hbel | exact .drew hbel | exact .below hbel : Kp wn wm) _ _ HH.out)
    clear hbel
    refine hK _ _ _ HH.out (.inr ⟨rfl, fun _ h => h⟩) ?_
    clear hK K
    refine reg_l none (i := 14) rfl (by kernel_rfl) (fun wn hk K hK => ?_)
    replace HH := Lib.hid (hk _ _ HH.out)
    clear hk
    go_simp
    replace HH := Lib.hid (HH.out.alloc (.cells #[.int .u64 sm] 22))
    generalize wn.alloc (.cells #[.int .u64 sm] 22) = wm at *
    generalize wn.heap.size = yb at *
    refine hK _ _ _ HH.out (.inr ⟨rfl, fun _ h => h.tail⟩) ?_
    clear hK K
    refine reg_l none (i := 15) rfl (by kernel_rfl) (fun wn hk K hK => ?_)
    replace HH := Lib.hid (hk _ _ HH.out)
    clear hk
    go_simp
    refine (fixSub_c wn x _ 1 1 [sm] hx.out (rd1 h2.out (HH.out))).mono ?_
    rw [show sless x [sm] = ssub x sm from by first | rfl | decide]
    rintro e wm ⟨rfl, hbel⟩
    replace HH := Lib.hid ((by first | exact .same hbel | exact .drew hbel | exact .below hbel : Kp wn wm) _ _ HH.out)
    clear hbel
    refine hK _ _ _ HH.out (.inr ⟨rfl, fun _ h => h⟩) ?_
    clear hK K
    refine reg_s 16 HH.out ?_
    refine reg_s 17 HH.out ?_
    refine mixk_done (by kernel_rfl) (fun w7_ hk => ?_) _
    replace HH := Lib.hid (hk _ _ HH.out)
    clear hk
    replace HH := Lib.hid (HH.out.pn : Own _ _ (pts b (.cells #[.int .u64 la, .int .u64 sm, .int .u64 sp, .bool true, .int .i64 db] 120 (0, 0)) :: R))
   case' g4_ =>
    replace HH := Lib.hid (hk _ _ HH.out)
    clear hk
    go_simp
    replace HH := Lib.hid (HH.out.alloc (.cells #[.int .u64 sm] 22))
    generalize wn.alloc (.cells #[.int .u64 sm] 22) = wm at *
    generalize wn.heap.size = yb at *
    refine hK _ _ _ HH.out (.inr ⟨rfl, fun _ h => h.tail⟩) ?_
    clear hK K
    refine reg_l none (i := 7) rfl (by kernel_rfl) (fun wn hk K hK => ?_)
    replace HH := Lib.hid (hk _ _ HH.out)
    clear hk
    go_simp
    refine (fixSub_c wn sm _ 1 1 [x] h2.out (rd1 hx.out (HH.out.r2))).mono ?_
    rw [show sless sm [x] = ssub sm x from by first | rfl | decide]
    rintro e wm ⟨rfl, hbel⟩
    replace HH := Lib.hid ((by first | exact .same hbel | exact .drew hbel | exact .below hbel : Kp wn wm) _ _ HH.out)
    clear hbel
    refine hK _ _ _ HH.out (.inr ⟨rfl, fun _ h => h⟩) ?_
    clear hK K
    refine reg_l none (i := 15) rfl (by kernel_rfl) (fun wn hk K hK => ?_)
    replace HH := Lib.hid (hk _ _ HH.out)
    clear hk
    go_simp
    refine (fixSub_c wn x _ 1 1 [sm] hx.out (rd1 h2.out (HH.out))).mono ?_
    rw [show sless x [sm] = ssub x sm from by first | rfl | decide]
    rintro e wm ⟨rfl, hbel⟩
    replace HH := Lib.hid ((by first | exact .same hbel | exact .drew hbel | exact .below hbel : Kp wn wm) _ _ HH.out)
    clear hbel
    refine hK _ _ _ HH.out (.inr ⟨rfl, fun _ h => h⟩) ?_
    clear hK K
    refine reg_s 16 HH.out ?_
    refine reg_s 17 HH.out ?_
    refine mixk_done (by kernel_rfl) (fun w7_ hk => ?_) _
    replace HH := Lib.hid (hk _ _ HH.out)
    clear hk
    replace HH := Lib.hid (HH.out.pn : Own _ _ (pts b (.cells #[.int .u64 la, .int .u64 sm, .int .u64 sp, .bool true, .int .i64 db] 120 (0, 0)) :: R))
  case' g2_ =>
   replace HH := Lib.hid (hk _ _ HH.out)
   clear hk
   go_simp
   replace HH := Lib.hid (HH.out.alloc (.cells #[.int .u64 sm] 22))
   generalize wn.alloc (.cells #[.int .u64 sm] 22) = wm at *
   generalize wn.heap.size = yb at *
   refine hK _ _ _ HH.out (.inr ⟨rfl, fun _ h => h.tail⟩) ?_
   clear hK K
   refine reg_l none (i := 6) rfl (by kernel_rfl) (fun wn hk K hK => ?_)
   replace HH := Lib.hid (hk _ _ HH.out)
   clear hk
   go_simp
   replace HH := Lib.hid (HH.out.alloc (.cells #[.int .u64 x] 22))
   generalize wn.alloc (.cells #[.int .u64 x] 22) = wm at *
   generalize wn.heap.size = xb at *
   refine hK _ _ _ HH.out (.inr ⟨rfl, fun _ h => h.tail⟩) ?_
   clear hK K
   refine reg_l none (i := 7) rfl (by kernel_rfl) (fun wn hk K hK => ?_)
   replace HH := Lib.hid (hk _ _ HH.out)
   clear hk
   go_simp
   refine (fixSub_c wn sm _ 1 1 [x] h2.out (rd1 hx.out (HH.out))).mono ?_
   rw [show sless sm [x] = ssub sm x from by first | rfl | decide]
   rintro e wm ⟨rfl, hbel⟩
   replace HH := Lib.hid ((by first | exact .same hbel | exact .drew hbel | exact .below hbel : Kp wn wm) _ _ HH.out)
   clear hbel
   refine hK _ _ _ HH.out (.inr ⟨rfl, fun _ h => h⟩) ?_
   clear hK K
   refine reg_l none (i := 15) rfl (by kernel_rfl) (fun wn hk K hK => ?_)
   replace HH := Lib.hid (hk _ _ HH.out)
   clear hk
   go_simp
   refine (fixSub_c wn x _ 1 1 [sm] hx.out (rd1 h2.out (HH.out.r2))).mono ?_
   rw [show sless x [sm] = ssub x sm from by first | rfl | decide]
   rintro e wm ⟨rfl, hbel⟩
   replace HH := Lib.hid ((by first | exact .same hbel | exact .drew hbel | exact .below hbel : Kp wn wm) _ _ HH.out)
   clear hbel
   refine hK _ _ _ HH.out (.inr ⟨rfl, fun _ h => h⟩) ?_
   clear hK K
   refine reg_s 16 HH.out ?_
   refine reg_s 17 HH.out ?_
   refine mixk_done (by kernel_rfl) (fun w7_ hk => ?_) _
   replace HH := Lib.hid (hk _ _ HH.out)
   clear hk
   replace HH := Lib.hid (HH.out.pn : Own _ _ (pts b (.cells #[.int .u64 la, .int .u64 sm, .int .u64 sp, .bool true, .int .i64 db] 120 (0, 0)) :: R))
  all_goals
   (try clear cc1_); (try clear cc2_)
   have cc1_ := HH.out.cells
   go_wp2_with fail
   refine (fixMul_c _ 3 sp (by decide) h3.out).mono ?_
   rintro e w8_ ⟨rfl, hbel⟩
   replace HH := Lib.hid ((by first | exact .same hbel | exact .drew hbel | exact .below hbel : Kp _ w8_) _ _ (by first | exact HH.out | exact HH.out.drewN _ | exact (HH.out.alloc _).tail | exact ((HH.out.alloc _).drewN _).tail | exact ((HH.out.alloc _).alloc _).tail.tail))
   clear hbel
   go_wp2_with (with_reducible refine stop_bs ?_)
   refine Stop.go ?_
   refine wpList_bsv_own HH.out [.int .u64 (smul 3 sp), .int .u64 fr] 1 8 [.int .u64 0] Tryz.underlying141 (by kernel_rfl) (by kernel_rfl) (by decide) (by decide) (by kernel_rfl) ?_
   intro g1 w9_ H9_
   replace HH := Lib.hid H9_
   clear H9_
   go_wp2_with fail
   refine (fixAdd2_c _ g1 (smul 3 sp) fr hm3.out hf.out (HH.out.cells.1 0) (HH.out.cells.1 1)).mono ?_
   rintro e w10_ ⟨rfl, hbel⟩
   replace HH := Lib.hid ((by first | exact .same hbel | exact .drew hbel | exact .below hbel : Kp _ w10_) _ _ (by first | exact HH.out | exact HH.out.drewN _ | exact (HH.out.alloc _).tail | exact ((HH.out.alloc _).drewN _).tail | exact ((HH.out.alloc _).alloc _).tail.tail))
   clear hbel
   (try clear cc1_); (try clear cc2_)
   have cc2_ := HH.out.r2.cells
   go_wp2_with (with_reducible refine stop_st ?_)
   refine Stop.go ?_
   refine wpList_store1_own (v := .int .u64 v1) (k := 2) rfl rfl HH.out.r2 (by kernel_rfl) (by simp) (by first | rfl | assumption) ?_
   intro w11_ H9_
   replace HH := Lib.hid H9_
   clear H9_
   simp only [List.setIfInBounds_toArray, List.set_cons_succ, List.set_cons_zero] at HH
   (try clear cc1_); (try clear cc2_)
   have cc1_ := HH.out.cells
   go_wp2_with fail
   refine (fixMul_c _ 7 sm (by decide) h2.out).mono ?_
   rintro e w12_ ⟨rfl, hbel⟩
   replace HH := Lib.hid ((by first | exact .same hbel | exact .drew hbel | exact .below hbel : Kp _ w12_) _ _ (by first | exact HH.out | exact HH.out.drewN _ | exact (HH.out.alloc _).tail | exact ((HH.out.alloc _).drewN _).tail | exact ((HH.out.alloc _).alloc _).tail.tail))
   clear hbel
   go_wp2_with (with_reducible refine stop_bs ?_)
   refine Stop.go ?_
   refine wpList_bsv_own HH.out [.int .u64 (smul 7 sm), .int .u64 x] 1 8 [.int .u64 0] Tryz.underlying141 (by kernel_rfl) (by kernel_rfl) (by decide) (by decide) (by kernel_rfl) ?_
   intro g2 w13_ H9_
   replace HH := Lib.hid H9_
   clear H9_
   go_wp2_with fail
   refine (fixAdd2_c _ g2 (smul 7 sm) x hm7.out hx.out (HH.out.cells.1 0) (HH.out.cells.1 1)).mono ?_
   rintro e w14_ ⟨rfl, hbel⟩
   replace HH := Lib.hid ((by first | exact .same hbel | exact .drew hbel | exact .below hbel : Kp _ w14_) _ _ (by first | exact HH.out | exact HH.out.drewN _ | exact (HH.out.alloc _).tail | exact ((HH.out.alloc _).drewN _).tail | exact ((HH.out.alloc _).alloc _).tail.tail))
   clear hbel
   (try clear cc1_); (try clear cc2_)
   have cc2_ := HH.out.r2.cells
   go_wp2_with (with_reducible refine stop_st ?_)
   refine Stop.go ?_
   refine wpList_store1_own (v := .int .u64 v2) (k := 1) rfl rfl HH.out.r2 (by kernel_rfl) (by simp) (by first | rfl | assumption) ?_
   intro w15_ H9_
   replace HH := Lib.hid H9_
   clear H9_
   simp only [List.setIfInBounds_toArray, List.set_cons_succ, List.set_cons_zero] at HH
   (try clear cc1_); (try clear cc2_)
   have cc1_ := HH.out.cells
   go_wp2_with (with_reducible refine stop_st ?_)
   refine Stop.go ?_
   refine wpList_store1_own (v := .int .u64 x) (k := 0) rfl rfl HH.out (by kernel_rfl) (by simp) (by first | rfl | assumption) ?_
   intro w16_ H9_
   replace HH := Lib.hid H9_
   clear H9_
   simp only [List.setIfInBounds_toArray, List.set_cons_zero] at HH
   go_wp2_with (with_reducible refine stop_st ?_)
   refine Stop.go ?_
   refine wpList_store1_own (v := .bool true) (k := 3) rfl rfl HH.out (by kernel_rfl) (by simp) (by first | rfl | assumption) ?_
   intro w17_ H9_
   replace HH := Lib.hid H9_
   clear H9_
   simp only [List.setIfInBounds_toArray, List.set_cons_succ, List.set_cons_zero] at HH
   go_wp2_with (with_reducible refine stop_st ?_)
   refine Stop.go ?_
   refine wpList_store1_own (v := .int .i64 0) (k := 4) rfl rfl HH.out (by kernel_rfl) (by simp) (by first | rfl | assumption) ?_
   intro w18_ H9_
   replace HH := Lib.hid H9_
   clear H9_
   simp only [List.setIfInBounds_toArray, List.set_cons_succ, List.set_cons_zero] at HH
   go_wp2_with fail
   first | go_end0 | ((try simp only [Exit.inBlock, Exit.then]); refine bodyPost_ret (results_none rfl _ _ _) rfl ?_)
   have H9 := (HH.out.pn : Own ε _ (pts b _ :: R))
   exact ⟨rfl, by rw [hq.out]; exact H9⟩
 | false =>
  simp only [Bool.false_eq_true, if_false] at hq
  have d1 : x.tdiv 2 = x / 2 := Int.tdiv_eq_ediv_of_nonneg n3
  have w1 : IntKind.u64.wrap (x / 2) = x / 2 := by have := U_div hx.out 2 (by decide); unfold U at this; rw [IntKind.wrap_u64]; omega
  clear n3
  obtain ⟨v1, hv1⟩ : ∃ v, v = x / 2 := ⟨_, rfl⟩
  rw [← hv1] at d1 w1 hq
  clear hv1
  replace hq := Lib.hid hq
  go_enter Tryz.func51, Tryz.ntmps51
  (try clear cc1_); (try clear cc2_)
  have cc1_ := HH.out.cells
  go_wp2_with fail
  refine wp_region_reg none HH.out (by kernel_rfl) ?_
  intro wm H9_
  replace HH := Lib.hid H9_
  clear H9_
  refine reg_s 0 HH.out ?_
  refine reg_s 1 HH.out ?_
  refine reg_s 2 HH.out ?_
  refine reg_s 3 HH.out ?_
  refine mixk_s 4 HH.out (fun _ hx => hx.cells) ?_
  refine reg_s 5 HH.out ?_
  refine reg_s 8 HH.out ?_
  refine reg_s 9 HH.out ?_
  refine reg_s 10 HH.out ?_
  refine reg_s 11 HH.out ?_
  refine reg_s 12 HH.out ?_
  refine mixk_s 13 HH.out (fun _ hx => hx.cells) ?_
  refine reg_two none none (i := 6) (j := 14) rfl rfl (by kernel_rfl) (fun wn hk K hK => ?g5_) (fun wn hk K hK => ?g6_)
  case' g5_ =>
   replace HH := Lib.hid (hk _ _ HH.out)
   clear hk
   go_simp
   replace HH := Lib.hid (HH.out.alloc (.cells #[.int .u64 x] 22))
   generalize wn.alloc (.cells #[.int .u64 x] 22) = wm at *
   generalize wn.heap.size = xb at *
   refine hK _ _ _ HH.out (.inr ⟨rfl, fun _ h => h.tail⟩) ?_
   clear hK K
   refine reg_two none none (i := 7) (j := 14) rfl rfl (by kernel_rfl) (fun wn hk K hK => ?g7_) (fun wn hk K hK => ?g8_)
   case' g7_ =>
    replace HH := Lib.hid (hk _ _ HH.out)
    clear hk
    go_simp
    refine (fixSub_c wn sm _ 1 1 [x] h2.out (rd1 hx.out (HH.out))).mono ?_
    rw [show sless sm [x] = ssub sm x from by first | rfl | decide]
    rintro e wm ⟨rfl, hbel⟩
    replace HH := Lib.hid ((by first | exact .same hbel | exact .drew hbel | exact .below hbel : Kp wn wm) _ _ HH.out)
    clear hbel
    refine hK _ _ _ HH.out (.inr ⟨rfl, fun _ h => h⟩) ?_
    clear hK K
    refine reg_l none (i := 14) rfl (by kernel_rfl) (fun wn hk K hK => ?_)
    replace HH := Lib.hid (hk _ _ HH.out)
    clear hk
    go_simp
    replace HH := Lib.hid (HH.out.alloc (.cells #[.int .u64 sm] 22))
    generalize wn.alloc (.cells #[.int .u64 sm] 22) = wm at *
    generalize wn.heap.size = yb at *
    refine hK _ _ _ HH.out (.inr ⟨rfl, fun _ h => h.tail⟩) ?_
    clear hK K
    refine reg_l none (i := 15) rfl (by kernel_rfl) (fun wn hk K hK => ?_)
    replace HH := Lib.hid (hk _ _ HH.out)
    clear hk
    go_simp
    refine (fixSub_c wn x _ 1 1 [sm] hx.out (rd1 h2.out (HH.out))).mono ?_
    rw [show sless x [sm] = ssub x sm from by first | rfl | decide]
    rintro e wm ⟨rfl, hbel⟩
    replace HH := Lib.hid ((by first | exact .same hbel | exact .drew hbel | exact .below hbel : Kp wn wm) _ _ HH.out)
    clear hbel
    refine hK _ _ _ HH.out (.inr ⟨rfl, fun _ h => h⟩) ?_
    clear hK K
    refine reg_s 16 HH.out ?_
    refine reg_s 17 HH.out ?_
    refine mixk_done (by kernel_rfl) (fun w19_ hk => ?_) _
    replace HH := Lib.hid (hk _ _ HH.out)
    clear hk
    replace HH := Lib.hid (HH.out.pn : Own _ _ (pts b (.cells #[.int .u64 la, .int .u64 sm, .int .u64 sp, .bool false, .int .i64 db] 120 (0, 0)) :: R))
   case' g8_ =>
    replace HH := Lib.hid (hk _ _ HH.out)
    clear hk
    go_simp
    replace HH := Lib.hid (HH.out.alloc (.cells #[.int .u64 sm] 22))
    generalize wn.alloc (.cells #[.int .u64 sm] 22) = wm at *
    generalize wn.heap.size = yb at *
    refine hK _ _ _ HH.out (.inr ⟨rfl, fun _ h => h.tail⟩) ?_
    clear hK K
    refine reg_l none (i := 7) rfl (by kernel_rfl) (fun wn hk K hK => ?_)
    replace HH := Lib.hid (hk _ _ HH.out)
    clear hk
    go_simp
    refine (fixSub_c wn sm _ 1 1 [x] h2.out (rd1 hx.out (HH.out.r2))).mono ?_
    rw [show sless sm [x] = ssub sm x from by first | rfl | decide]
    rintro e wm ⟨rfl, hbel⟩
    replace HH := Lib.hid ((by first | exact .same hbel | exact .drew hbel | exact .below hbel : Kp wn wm) _ _ HH.out)
    clear hbel
    refine hK _ _ _ HH.out (.inr ⟨rfl, fun _ h => h⟩) ?_
    clear hK K
    refine reg_l none (i := 15) rfl (by kernel_rfl) (fun wn hk K hK => ?_)
    replace HH := Lib.hid (hk _ _ HH.out)
    clear hk
    go_simp
    refine (fixSub_c wn x _ 1 1 [sm] hx.out (rd1 h2.out (HH.out))).mono ?_
    rw [show sless x [sm] = ssub x sm from by first | rfl | decide]
    rintro e wm ⟨rfl, hbel⟩
    replace HH := Lib.hid ((by first | exact .same hbel | exact .drew hbel | exact .below hbel : Kp wn wm) _ _ HH.out)
    clear hbel
    refine hK _ _ _ HH.out (.inr ⟨rfl, fun _ h => h⟩) ?_
    clear hK K
    refine reg_s 16 HH.out ?_
    refine reg_s 17 HH.out ?_
    refine mixk_done (by kernel_rfl) (fun w19_ hk => ?_) _
    replace HH := Lib.hid (hk _ _ HH.out)
    clear hk
    replace HH := Lib.hid (HH.out.pn : Own _ _ (pts b (.cells #[.int .u64 la, .int .u64 sm, .int .u64 sp, .bool false, .int .i64 db] 120 (0, 0)) :: R))
  case' g6_ =>
   replace HH := Lib.hid (hk _ _ HH.out)
   clear hk
   go_simp
   replace HH := Lib.hid (HH.out.alloc (.cells #[.int .u64 sm] 22))
   generalize wn.alloc (.cells #[.int .u64 sm] 22) = wm at *
   generalize wn.heap.size = yb at *
   refine hK _ _ _ HH.out (.inr ⟨rfl, fun _ h => h.tail⟩) ?_
   clear hK K
   refine reg_l none (i := 6) rfl (by kernel_rfl) (fun wn hk K hK => ?_)
   replace HH := Lib.hid (hk _ _ HH.out)
   clear hk
   go_simp
   replace HH := Lib.hid (HH.out.alloc (.cells #[.int .u64 x] 22))
   generalize wn.alloc (.cells #[.int .u64 x] 22) = wm at *
   generalize wn.heap.size = xb at *
   refine hK _ _ _ HH.out (.inr ⟨rfl, fun _ h => h.tail⟩) ?_
   clear hK K
   refine reg_l none (i := 7) rfl (by kernel_rfl) (fun wn hk K hK => ?_)
   replace HH := Lib.hid (hk _ _ HH.out)
   clear hk
   go_simp
   refine (fixSub_c wn sm _ 1 1 [x] h2.out (rd1 hx.out (HH.out))).mono ?_
   rw [show sless sm [x] = ssub sm x from by first | rfl | decide]
   rintro e wm ⟨rfl, hbel⟩
   replace HH := Lib.hid ((by first | exact .same hbel | exact .drew hbel | exact .below hbel : Kp wn wm) _ _ HH.out)
   clear hbel
   refine hK _ _ _ HH.out (.inr ⟨rfl, fun _ h => h⟩) ?_
   clear hK K
   refine reg_l none (i := 15) rfl (by kernel_rfl) (fun wn hk K hK => ?_)
   replace HH := Lib.hid (hk _ _ HH.out)
   clear hk
   go_simp
   refine (fixSub_c wn x _ 1 1 [sm] hx.out (rd1 h2.out (HH.out.r2))).mono ?_
   rw [show sless x [sm] = ssub x sm from by first | rfl | decide]
   rintro e wm ⟨rfl, hbel⟩
   replace HH := Lib.hid ((by first | exact .same hbel | exact .drew hbel | exact .below hbel : Kp wn wm) _ _ HH.out)
   clear hbel
   refine hK _ _ _ HH.out (.inr ⟨rfl, fun _ h => h⟩) ?_
   clear hK K
   refine reg_s 16 HH.out ?_
   refine reg_s 17 HH.out ?_
   refine mixk_done (by kernel_rfl) (fun w19_ hk => ?_) _
   replace HH := Lib.hid (hk _ _ HH.out)
   clear hk
   replace HH := Lib.hid (HH.out.pn : Own _ _ (pts b (.cells #[.int .u64 la, .int .u64 sm, .int .u64 sp, .bool false, .int .i64 db] 120 (0, 0)) :: R))
  all_goals
   (try clear cc1_); (try clear cc2_)
   have cc1_ := HH.out.cells
   go_wp2_with (with_reducible refine stop_st ?_)
   refine Stop.go ?_
   refine wpList_store1_own (v := .int .u64 x) (k := 1) rfl rfl HH.out (by kernel_rfl) (by simp) (by first | rfl | assumption) ?_
   intro w20_ H9_
   replace HH := Lib.hid H9_
   clear H9_
   simp only [List.setIfInBounds_toArray, List.set_cons_succ, List.set_cons_zero] at HH
   go_wp2_with (with_reducible refine stop_st ?_)
   refine Stop.go ?_
   refine wpList_store1_own (v := .int .u64 v1) (k := 2) rfl rfl HH.out (by kernel_rfl) (by simp) (by first | rfl | assumption) ?_
   intro w21_ H9_
   replace HH := Lib.hid H9_
   clear H9_
   simp only [List.setIfInBounds_toArray, List.set_cons_succ, List.set_cons_zero] at HH
   go_wp2_with (with_reducible refine stop_st ?_)
   refine Stop.go ?_
   refine wpList_store1_own (v := .int .u64 x) (k := 0) rfl rfl HH.out (by kernel_rfl) (by simp) (by first | rfl | assumption) ?_
   intro w22_ H9_
   replace HH := Lib.hid H9_
   clear H9_
   simp only [List.setIfInBounds_toArray, List.set_cons_zero] at HH
   go_wp2_with (with_reducible refine stop_st ?_)
   refine Stop.go ?_
   refine wpList_store1_own (v := .bool true) (k := 3) rfl rfl HH.out (by kernel_rfl) (by simp) (by first | rfl | assumption) ?_
   intro w23_ H9_
   replace HH := Lib.hid H9_
   clear H9_
   simp only [List.setIfInBounds_toArray, List.set_cons_succ, List.set_cons_zero] at HH
   go_wp2_with (with_reducible refine stop_st ?_)
   refine Stop.go ?_
   refine wpList_store1_own (v := .int .i64 0) (k := 4) rfl rfl HH.out (by kernel_rfl) (by simp) (by first | rfl | assumption) ?_
   intro w24_ H9_
   replace HH := Lib.hid H9_
   clear H9_
   simp only [List.setIfInBounds_toArray, List.set_cons_succ, List.set_cons_zero] at HH
   go_wp2_with fail
   first | go_end0 | ((try simp only [Exit.inBlock, Exit.then]); refine bodyPost_ret (results_none rfl _ _ _) rfl ?_)
   exact ⟨rfl, by rw [hq.out]; exact HH.out⟩
end
end Go.Proofs.YtmkcpnlbicijoaaGreat
