/- rate: a sample. -/
import Derived.Test.YtmkcpnlbicijoaaGreatRate2
namespace Go.Proofs.YtmkcpnlbicijoaaGreat
open Go.RowKit
section
variable (ε w : World) (R : List Asn) (b : Nat)
set_option maxRecDepth 100000 in
theorem rateAck_none (s : Smp) (now : Int) (A : Option Addr) (cap : Nat) (H : Own ε w (smp b s :: R)) :
  Calls Tryz.prog 50 #[.pointer (some ⟨b, 0, none⟩), .int .u64 now, .slice A 0 cap] w fun e w' => e = .returned (.tuple #[.agg #[.int .u64 0, .int .u64 0, .int .u64 0, .int .u64 0, .bool false], .bool false]) ∧ Own ε w' (smp b s :: R) := by
 have HH := Lib.hid H; clear H
 go_enter Tryz.func50, Tryz.ntmps50
 go_wp2_with (with_reducible refine stop_al ?_)
 refine Stop.go ?_
 refine wpList_alloc_own HH.out [.int .u64 0, .int .u64 0, .int .u64 0, .int .u64 0, .bool false] (by kernel_rfl) ?_
 intro rx w1_ H9_
 replace HH := Lib.hid H9_
 clear H9_
 go_wp2_with (with_reducible refine stop_st ?_)
 refine Stop.go ?_
 refine wpList_store_own _ #[_, _, _, _, _] rfl rfl HH.out (by kernel_rfl) rfl (by repeat (first | (refine List.forall_mem_cons.2 ⟨(by first | with_reducible assumption | rfl), ?_⟩) | exact fun _ h => absurd h List.not_mem_nil)) ?_
 intro w2_ H9_
 replace HH := Lib.hid H9_
 clear H9_
 go_wp2_with fail
 refine bodyPost_cell rfl rfl rfl rfl Tryz.underlying85 rfl (by kernel_rfl) (HH.out) ?_
 exact ⟨rfl, HH.out.tail⟩
set_option maxRecDepth 100000 in
set_option maxHeartbeats 12800000 in
theorem rateAck_c (s : Smp) (hs : s.Ok) (now : Int) (h1 : U now) (A : Option Addr) (n cap : Nat) (l : List Pk) (hl : ∀ p ∈ l, p.Ok) (hA : ∀ wx, Own ε wx R → pkAt wx A n l) (hn : 0 < n) (hn2 : n ≤ 1000000) (H : Own ε w (smp b s :: R)) :
  Calls Tryz.prog 50 #[.pointer (some ⟨b, 0, none⟩), .int .u64 now, .slice A n cap] w fun e w' => ∃ p0, l[0]? = some p0 ∧ e = .returned (.tuple #[.agg (Spl.of (sadd s.d (newestL p0 l).2) now (newestL p0 l).1).cells.toArray, .bool true]) ∧ Own ε w' (smp b (s.ack now (newestL p0 l).1 (newestL p0 l).2) :: R) := by
 have HH := Lib.hid H
 have hn0 : ¬ n = 0 := by omega
 have hnew := fun w' (R' : List Asn) (hR : ∀ wx, Own ε wx R' → pkAt wx A n l) H => rateNewest_c ε w' R' A n cap l hl hR hn hn2 H
 obtain ⟨d, a, f, mk⟩ := s
 have hd := hs.d
 replace hnew := Lib.hid hnew
 replace hA := Lib.hid hA
 have hlo := Lib.hid hl
 clear H hl hn hn2 hs
 replace hd := Lib.hid hd
 replace h1 := Lib.hid h1
 go_enter Tryz.func50, Tryz.ntmps50
 go_wp2_with (with_reducible refine stop_al ?_)
 refine Stop.go ?_
 refine wpList_alloc_own HH.out [.int .u64 0, .int .u64 0, .int .u64 0, .int .u64 0, .bool false] (by kernel_rfl) ?_
 intro rx w5_ H9_
 replace HH := Lib.hid H9_
 clear H9_
 go_wp2_with fail
 refine (hnew.out _ _ (fun wx Hx => hA.out wx Hx.tail.tail) HH.out).mono ?_
 rintro e w9 ⟨p0, hp0, rfl, H9⟩
 replace HH := Lib.hid H9
 clear H9 hnew hA
 obtain ⟨hxo, hno⟩ := newestL_ok (hlo.out p0 (List.mem_of_getElem? hp0)) hlo.out
 obtain ⟨acc, hacc⟩ : ∃ q, newestL p0 l = q := ⟨_, rfl⟩
 rw [hacc] at hxo hno ⊢
 obtain ⟨⟨xn, xs, x3, x4, x5, x6, x7⟩, nn⟩ := acc
 obtain ⟨_, _, u3, u4, u5, u6⟩ := hxo
 simp only [Pk.st] at hno u3 u4 u5 u6 ⊢
 have hd2 := U_sadd hd.out hno
 have hU1 := U_ssub u3 u4
 have hU2 := U_ssub h1.out u6
 have hU3 := U_ssub hd2 u5
 obtain ⟨ud, hud⟩ : ∃ q, sadd d nn = q := ⟨_, rfl⟩
 rw [hud] at hd2 hU3
 obtain ⟨iv, hiv⟩ : ∃ q, max (ssub x3 x4) (ssub now x6) = q := ⟨_, rfl⟩
 have hivU : U iv := by rw [← hiv]; unfold U at *; omega
 have ix := max_ite'
 replace hp0 := Lib.hid hp0
 replace hacc := Lib.hid hacc
 replace hno := Lib.hid hno
 replace u3 := Lib.hid u3
 replace u4 := Lib.hid u4
 replace u5 := Lib.hid u5
 replace u6 := Lib.hid u6
 replace hd2 := Lib.hid hd2
 replace hU1 := Lib.hid hU1
 replace hU2 := Lib.hid hU2
 replace hU3 := Lib.hid hU3
 replace hivU := Lib.hid hivU
 replace hiv := Lib.hid hiv
 clear hlo
 go_wp2_with (with_reducible refine stop_al ?_)
 refine Stop.go ?_
 refine wpList_alloc_own HH.out [.int .u64 0, .int .u64 0, .int .u64 0, .int .u64 0, .bool false] (by kernel_rfl) ?_
 intro sx w6_ H9_
 replace HH := Lib.hid H9_
 clear H9_
 go_wp2_with (with_reducible refine stop_st ?_)
 refine Stop.go ?_
 refine wpList_store_own _ #[_, _, _, _, _] rfl rfl HH.out (by kernel_rfl) rfl (by repeat (first | (refine List.forall_mem_cons.2 ⟨(by first | with_reducible assumption | rfl), ?_⟩) | exact fun _ h => absurd h List.not_mem_nil)) ?_
 intro w7_ H9_
 replace HH := Lib.hid H9_
 clear H9_
 replace HH := Lib.hid (HH.out.pn : Own ε _ (smp b ⟨d, a, f, mk⟩ :: pts sx _ :: pts rx _ :: R))
 (try clear cc1_); (try clear cc2_)
 have cc1_ := HH.out.cells
 go_wp2_with (with_reducible refine stop_bs ?_)
 refine Stop.go ?_
 refine wpList_bsv_own HH.out [.int .u64 d, .int .u64 nn] 1 8 [.int .u64 0] Tryz.underlying141 (by kernel_rfl) (by kernel_rfl) (by decide) (by decide) (by kernel_rfl) ?_
 intro g w8_ H9_
 replace HH := Lib.hid H9_
 clear H9_
 (try clear cc1_); (try clear cc2_)
 have cc2_ := HH.out.r2.cells
 go_wp2_with fail
 refine (fixAdd2_c _ g d nn hd.out hno.out (HH.out.cells.1 0) (HH.out.cells.1 1)).mono ?_
 rintro e w9_ ⟨rfl, hbel⟩
 replace HH := Lib.hid ((by first | exact .same hbel | exact .drew hbel | exact .below hbel : Kp _ w9_) _ _ (by first | exact HH.out | exact HH.out.drewN _ | exact (HH.out.alloc _).tail | exact ((HH.out.alloc _).drewN _).tail | exact ((HH.out.alloc _).alloc _).tail.tail))
 clear hbel
 (try clear cc1_); (try clear cc2_)
 go_wp2_with (with_reducible refine stop_st ?_)
 refine Stop.go ?_
 refine wpList_store1_own (v := .int .u64 ud) (k := 0) rfl rfl HH.out.r2 (by kernel_rfl) (by simp) (by first | rfl | assumption) ?_
 intro w10_ H9_
 replace HH := Lib.hid H9_
 clear H9_
 simp only [List.setIfInBounds_toArray, List.set_cons_zero] at HH
 replace HH := Lib.hid (HH.out.pn : Own ε _ (pts b _ :: pts sx _ :: pts rx _ :: R))
 go_wp2_with fail
 refine wp_region_regK (some 10) [pts sx (.cells #[.int .u64 x3, .int .u64 x4, .int .u64 x5, .int .u64 x6, .bool x7] 39 (0, 0))] HH.out (by kernel_rfl) ?_
 intro wm H9_
 replace HH := Lib.hid H9_
 clear H9_
 have HS : Own _ wm [pts sx (.cells #[.int .u64 x3, .int .u64 x4, .int .u64 x5, .int .u64 x6, .bool x7] 39 (0, 0))] := HH.out.pn
 refine reg_s 0 HS ?_
 refine reg_s 1 HS ?_
 refine reg_s 2 HS ?_
 refine reg_s 3 HS ?_
 refine mixk_s 4 HS (fun _ hx => hx.cells) ?_
 refine reg_s 5 HS ?_
 refine reg_s 6 HS ?_
 refine reg_l (some 10) (i := 7) rfl (by kernel_rfl) (fun wn hk K hK => ?_)
 replace HH := Lib.hid (hk _ _ HH.out)
 clear hk HS
 have hx := HH.out
 have x1_ := hx.cells
 go_simp
 replace HH := Lib.hid (HH.out.set 1 (.int .u64 now))
 simp only [List.setIfInBounds_toArray, List.set_cons_succ, List.set_cons_zero] at HH
 generalize wn.setCell ⟨b, 1, none⟩ (.int .u64 now) = wm at *
 clear hx x1_
 have HS : Own _ wm [pts sx (.cells #[.int .u64 x3, .int .u64 x4, .int .u64 x5, .int .u64 x6, .bool x7] 39 (0, 0))] := HH.out.pn
 refine hK _ _ [pts sx (.cells #[.int .u64 x3, .int .u64 x4, .int .u64 x5, .int .u64 x6, .bool x7] 39 (0, 0))] HS (.inr ⟨rfl, fun _ h => h⟩) ?_
 clear hK K
 refine reg_s 8 HS ?_
 refine reg_s 9 HS ?_
 refine reg_l none (i := 10) rfl (by kernel_rfl) (fun wn hk K hK => ?_)
 replace HH := Lib.hid (hk _ _ HH.out)
 clear hk HS
 have hx := HH.out
 have x1_ := hx.cells
 go_simp
 replace HH := Lib.hid (HH.out.set 2 (.int .u64 x3))
 simp only [List.setIfInBounds_toArray, List.set_cons_succ, List.set_cons_zero] at HH
 generalize wn.setCell ⟨b, 2, none⟩ (.int .u64 x3) = wm at *
 clear hx x1_
 refine hK _ _ _ HH.out (.inl (by kernel_rfl)) ?_
 clear hK K
 refine mixk_done (by kernel_rfl) (fun w11_ hk => ?_) _
 replace HH := Lib.hid (hk _ _ HH.out)
 clear hk
 go_wp2_with fail
 refine wp_region_reg none HH.out (by kernel_rfl) ?_
 intro wm H9_
 replace HH := Lib.hid H9_
 clear H9_
 refine reg_s 0 HH.out ?_
 refine reg_s 1 HH.out ?_
 refine reg_s 2 HH.out ?_
 refine mixk_s 3 HH.out (fun _ hx => hx.cells) ?_
 refine reg_s 4 HH.out ?_
 refine reg_s 5 HH.out ?_
 refine reg_s 6 HH.out ?_
 refine mixk_s 7 HH.out (fun _ hx => hx.cells) ?_
 refine reg_s 8 HH.out ?_
 refine mixk_done (by kernel_rfl) (fun w12_ hk => ?_) _
 replace HH := Lib.hid (hk _ _ HH.out)
 clear hk
 obtain ⟨mk2, hmk2⟩ : ∃ q, (if mk < ud then 0 else mk) = q := ⟨_, rfl⟩
 replace hmk2 := Lib.hid hmk2
 go_upto_if 51 with (fail)
 go_cut [] from 11 (fun wc => Own ε wc (pts b (.cells #[.int .u64 ud, .int .u64 now, .int .u64 x3, .int .u64 mk2] 122 (0, 0)) :: pts sx (.cells #[.int .u64 x3, .int .u64 x4, .int .u64 x5, .int .u64 x6, .bool x7] 39 (0, 0)) :: pts rx (.cells #[.int .u64 0, .int .u64 0, .int .u64 0, .int .u64 0, .bool false] 85 (0, 0)) :: R))
 case first =>
  by_cases hmk : mk < ud
  ·have e9 : mk2 = 0 := by rw [← hmk2.out]; exact if_pos hmk
   replace e9 := Lib.hid e9
   go_wp2_with (with_reducible refine stop_st ?_)
   refine Stop.go ?_
   refine wpList_store1_own (v := .int .u64 0) (k := 3) rfl rfl HH.out (by kernel_rfl) (by simp) (by first | rfl | assumption) ?_
   intro w13_ H9_
   replace HH := Lib.hid H9_
   clear H9_
   simp only [List.setIfInBounds_toArray, List.set_cons_succ, List.set_cons_zero] at HH
   go_wp2_with fail
   go_meet
   case rel => rw [e9.out]; exact HH.out
  ·have e9 : mk2 = mk := by rw [← hmk2.out]; exact if_neg hmk
   replace e9 := Lib.hid e9
   go_wp2_with fail
   go_meet
   case rel => rw [e9.out]; exact HH.out
 case rest =>
  clear HH
  have HH := Lib.hid hcut
  clear hcut
  go_upto_region 8 with (fail)
  go_cut [10] from 11 (fun s10 wc => ∃ sb, s10 = .pointer (some ⟨sb, 0, none⟩) ∧ Own ε wc (pts sb (.cells #[.int .u64 (ssub ud x5), .int .u64 0, .int .u64 0, .int .u64 (ssub now x3), .bool x7] 85 (0, 0)) :: pts b (.cells #[.int .u64 ud, .int .u64 now, .int .u64 x3, .int .u64 mk2] 122 (0, 0)) :: pts sx (.cells #[.int .u64 x3, .int .u64 x4, .int .u64 x5, .int .u64 x6, .bool x7] 39 (0, 0)) :: pts rx (.cells #[.int .u64 0, .int .u64 0, .int .u64 0, .int .u64 0, .bool false] 85 (0, 0)) :: R))
  case first =>
   go_wp2_with fail
   refine wp_region_reg (some 17) HH.out (by kernel_rfl) ?_
   intro wm H9_
   replace HH := Lib.hid H9_
   clear H9_
   refine reg_s 0 HH.out ?_
   refine reg_s 1 HH.out ?_
   refine reg_s 2 HH.out ?_
   refine mixk_s 3 HH.out (fun _ hx => And.intro hx.cells hx.r2.cells) ?_
   refine reg_s 4 HH.out ?_
   refine mixk_s 5 HH.out (fun _ hx => And.intro hx.cells hx.r2.cells) ?_
   refine reg_s 8 HH.out ?_
   refine reg_s 9 HH.out ?_
   refine mixk_s 10 HH.out (fun _ hx => And.intro hx.cells hx.r2.cells) ?_
   refine reg_s 13 HH.out ?_
   refine mixk_s 14 HH.out (fun _ hx => And.intro hx.cells hx.r2.cells) ?_
   refine reg_three (some 17) (some 17) (some 17) (i := 6) (j := 11) (k := 16) rfl rfl rfl (by kernel_rfl) (fun wn hk K hK => ?g1_) (fun wn hk K hK => ?g2_) (fun wn hk K hK => ?g3_)
   case' g1_ =>
    replace HH := Lib.hid (hk _ _ HH.out)
    clear hk
    go_simp
    replace HH := Lib.hid (HH.out.alloc (.cells #[.int .u64 x5] 22))
    generalize wn.alloc (.cells #[.int .u64 x5] 22) = wm at *
    generalize wn.heap.size = g1 at *
    refine hK _ _ _ HH.out (.inr ⟨rfl, fun _ h => h.tail⟩) ?_
    clear hK K
    refine reg_three (some 17) (some 17) (some 17) (i := 7) (j := 11) (k := 16) rfl rfl rfl (by kernel_rfl) (fun wn hk K hK => ?g4_) (fun wn hk K hK => ?g5_) (fun wn hk K hK => ?g6_)
    case' g4_ =>
     replace HH := Lib.hid (hk _ _ HH.out)
     clear hk
     go_simp
     refine (fixSub_c wn ud _ _ _ [x5] hd2.out (rdInts_at [x5] (by intro i hi; simp at hi; subst hi; exact HH.out.cells.1 0) (by intro x hx; simp at hx; subst hx; exact u5.out) (by simp [maxLen]))).mono ?_
     rw [show sless ud [x5] = ssub ud x5 from by first | rfl | decide]
     rintro e wm ⟨rfl, hbel⟩
     replace HH := Lib.hid ((by first | exact .same hbel | exact .drew hbel | exact .below hbel : Kp wn wm) _ _ HH.out)
     clear hbel
     refine hK _ _ _ HH.out (.inr ⟨rfl, fun _ h => h⟩) ?_
     clear hK K
     refine reg_two (some 17) (some 17) (i := 11) (j := 16) rfl rfl (by kernel_rfl) (fun wn hk K hK => ?g7_) (fun wn hk K hK => ?g8_)
     case' g7_ =>
      replace HH := Lib.hid (hk _ _ HH.out)
      clear hk
      go_simp
      replace HH := Lib.hid (HH.out.alloc (.cells #[.int .u64 x3] 22))
      generalize wn.alloc (.cells #[.int .u64 x3] 22) = wm at *
      generalize wn.heap.size = g2 at *
      refine hK _ _ _ HH.out (.inr ⟨rfl, fun _ h => h.tail⟩) ?_
      clear hK K
      refine reg_two (some 17) (some 17) (i := 12) (j := 16) rfl rfl (by kernel_rfl) (fun wn hk K hK => ?g9_) (fun wn hk K hK => ?g10_)
      case' g9_ =>
       replace HH := Lib.hid (hk _ _ HH.out)
       clear hk
       go_simp
       refine (fixSub_c wn now _ _ _ [x3] h1.out (rdInts_at [x3] (by intro i hi; simp at hi; subst hi; exact HH.out.cells.1 0) (by intro x hx; simp at hx; subst hx; exact u3.out) (by simp [maxLen]))).mono ?_
       rw [show sless now [x3] = ssub now x3 from by first | rfl | decide]
       rintro e wm ⟨rfl, hbel⟩
       replace HH := Lib.hid ((by first | exact .same hbel | exact .drew hbel | exact .below hbel : Kp wn wm) _ _ HH.out)
       clear hbel
       refine hK _ _ _ HH.out (.inr ⟨rfl, fun _ h => h⟩) ?_
       clear hK K
       refine reg_s 15 HH.out ?_
       refine reg_l (some 17) (i := 16) rfl (by kernel_rfl) (fun wn hk K hK => ?_)
       replace HH := Lib.hid (hk _ _ HH.out)
       clear hk
       go_simp
       replace HH := Lib.hid (HH.out.alloc (.cells #[.int .u64 0, .int .u64 0, .int .u64 0, .int .u64 0, .bool false] 85))
       generalize wn.alloc (.cells #[.int .u64 0, .int .u64 0, .int .u64 0, .int .u64 0, .bool false] 85) = wm at *
       generalize wn.heap.size = g3 at *
       refine hK _ _ _ HH.out (.inr ⟨rfl, fun _ h => h.tail⟩) ?_
       clear hK K
       refine reg_l none (i := 17) rfl (by kernel_rfl) (fun wn hk K hK => ?_)
       replace HH := Lib.hid (hk _ _ HH.out)
       clear hk
       refine want rfl (wp_store_own _ #[_, _, _, _, _] rfl rfl rfl HH.out (by kernel_rfl) rfl (by repeat (first | (refine List.forall_mem_cons.2 ⟨(by first | with_reducible assumption | rfl), ?_⟩) | exact fun _ h => absurd h List.not_mem_nil)) ?_)
       intro wm H9_
       replace HH := Lib.hid H9_
       clear H9_
       refine hK _ _ _ HH.out (.inl (by kernel_rfl)) ?_
       clear hK K
       refine mixk_done (by kernel_rfl) (fun w14_ hk => ?_) _
       replace HH := Lib.hid (hk _ _ HH.out)
       clear hk
      case' g10_ =>
       replace HH := Lib.hid (hk _ _ HH.out)
       clear hk
       go_simp
       replace HH := Lib.hid (HH.out.alloc (.cells #[.int .u64 0, .int .u64 0, .int .u64 0, .int .u64 0, .bool false] 85))
       generalize wn.alloc (.cells #[.int .u64 0, .int .u64 0, .int .u64 0, .int .u64 0, .bool false] 85) = wm at *
       generalize wn.heap.size = g3 at *
       refine hK _ _ _ HH.out (.inr ⟨rfl, fun _ h => h.tail⟩) ?_
       clear hK K
       refine reg_l (some 17) (i := 12) rfl (by kernel_rfl) (fun wn hk K hK => ?_)
       replace HH := Lib.hid (hk _ _ HH.out)
       clear hk
       go_simp
       refine (fixSub_c wn now _ _ _ [x3] h1.out (rdInts_at [x3] (by intro i hi; simp at hi; subst hi; exact HH.out.r2.cells.1 0) (by intro x hx; simp at hx; subst hx; exact u3.out) (by simp [maxLen]))).mono ?_
       rw [show sless now [x3] = ssub now x3 from by first | rfl | decide]
       rintro e wm ⟨rfl, hbel⟩
       replace HH := Lib.hid ((by first | exact .same hbel | exact .drew hbel | exact .below hbel : Kp wn wm) _ _ HH.out)
       clear hbel
       refine hK _ _ _ HH.out (.inr ⟨rfl, fun _ h => h⟩) ?_
       clear hK K
       refine reg_s 15 HH.out ?_
       refine reg_l none (i := 17) rfl (by kernel_rfl) (fun wn hk K hK => ?_)
       replace HH := Lib.hid (hk _ _ HH.out)
       clear hk
       refine want rfl (wp_store_own _ #[_, _, _, _, _] rfl rfl rfl HH.out (by kernel_rfl) rfl (by repeat (first | (refine List.forall_mem_cons.2 ⟨(by first | with_reducible assumption | rfl), ?_⟩) | exact fun _ h => absurd h List.not_mem_nil)) ?_)
       intro wm H9_
       replace HH := Lib.hid H9_
       clear H9_
       refine hK _ _ _ HH.out (.inl (by kernel_rfl)) ?_
       clear hK K
       refine mixk_done (by kernel_rfl) (fun w14_ hk => ?_) _
       replace HH := Lib.hid (hk _ _ HH.out)
       clear hk
     case' g8_ =>
      replace HH := Lib.hid (hk _ _ HH.out)
      clear hk
      go_simp
      replace HH := Lib.hid (HH.out.alloc (.cells #[.int .u64 0, .int .u64 0, .int .u64 0, .int .u64 0, .bool false] 85))
      generalize wn.alloc (.cells #[.int .u64 0, .int .u64 0, .int .u64 0, .int .u64 0, .bool false] 85) = wm at *
      generalize wn.heap.size = g3 at *
      refine hK _ _ _ HH.out (.inr ⟨rfl, fun _ h => h.tail⟩) ?_
      clear hK K
      refine reg_l (some 17) (i := 11) rfl (by kernel_rfl) (fun wn hk K hK => ?_)
      replace HH := Lib.hid (hk _ _ HH.out)
      clear hk
      go_simp
      replace HH := Lib.hid (HH.out.alloc (.cells #[.int .u64 x3] 22))
      generalize wn.alloc (.cells #[.int .u64 x3] 22) = wm at *
      generalize wn.heap.size = g2 at *
      refine hK _ _ _ HH.out (.inr ⟨rfl, fun _ h => h.tail⟩) ?_
      clear hK K
      refine reg_l (some 17) (i := 12) rfl (by kernel_rfl) (fun wn hk K hK => ?_)
      replace HH := Lib.hid (hk _ _ HH.out)
      clear hk
      go_simp
      refine (fixSub_c wn now _ _ _ [x3] h1.out (rdInts_at [x3] (by intro i hi; simp at hi; subst hi; exact HH.out.cells.1 0) (by intro x hx; simp at hx; subst hx; exact u3.out) (by simp [maxLen]))).mono ?_
      rw [show sless now [x3] = ssub now x3 from by first | rfl | decide]
      rintro e wm ⟨rfl, hbel⟩
      replace HH := Lib.hid ((by first | exact .same hbel | exact .drew hbel | exact .below hbel : Kp wn wm) _ _ HH.out)
      clear hbel
      refine hK _ _ _ HH.out (.inr ⟨rfl, fun _ h => h⟩) ?_
      clear hK K
      refine reg_s 15 HH.out ?_
      refine reg_l none (i := 17) rfl (by kernel_rfl) (fun wn hk K hK => ?_)
      replace HH := Lib.hid (hk _ _ HH.out)
      clear hk
      refine want rfl (wp_store_own _ #[_, _, _, _, _] rfl rfl rfl HH.out.r2 (by kernel_rfl) rfl (by repeat (first | (refine List.forall_mem_cons.2 ⟨(by first | with_reducible assumption | rfl), ?_⟩) | exact fun _ h => absurd h List.not_mem_nil)) ?_)
      intro wm H9_
      replace HH := Lib.hid H9_
      clear H9_
      refine hK _ _ _ HH.out (.inl (by kernel_rfl)) ?_
      clear hK K
      refine mixk_done (by kernel_rfl) (fun w14_ hk => ?_) _
      replace HH := Lib.hid (hk _ _ HH.out)
      clear hk
    case' g5_ =>
     replace HH := Lib.hid (hk _ _ HH.out)
     clear hk
     go_simp
     replace HH := Lib.hid (HH.out.alloc (.cells #[.int .u64 x3] 22))
     generalize wn.alloc (.cells #[.int .u64 x3] 22) = wm at *
     generalize wn.heap.size = g2 at *
     refine hK _ _ _ HH.out (.inr ⟨rfl, fun _ h => h.tail⟩) ?_
     clear hK K
     refine reg_two (some 17) (some 17) (i := 7) (j := 16) rfl rfl (by kernel_rfl) (fun wn hk K hK => ?g11_) (fun wn hk K hK => ?g12_)
     case' g11_ =>
      replace HH := Lib.hid (hk _ _ HH.out)
      clear hk
      go_simp
      refine (fixSub_c wn ud _ _ _ [x5] hd2.out (rdInts_at [x5] (by intro i hi; simp at hi; subst hi; exact HH.out.r2.cells.1 0) (by intro x hx; simp at hx; subst hx; exact u5.out) (by simp [maxLen]))).mono ?_
      rw [show sless ud [x5] = ssub ud x5 from by first | rfl | decide]
      rintro e wm ⟨rfl, hbel⟩
      replace HH := Lib.hid ((by first | exact .same hbel | exact .drew hbel | exact .below hbel : Kp wn wm) _ _ HH.out)
      clear hbel
      refine hK _ _ _ HH.out (.inr ⟨rfl, fun _ h => h⟩) ?_
      clear hK K
      refine reg_two (some 17) (some 17) (i := 12) (j := 16) rfl rfl (by kernel_rfl) (fun wn hk K hK => ?g13_) (fun wn hk K hK => ?g14_)
      case' g13_ =>
       replace HH := Lib.hid (hk _ _ HH.out)
       clear hk
       go_simp
       refine (fixSub_c wn now _ _ _ [x3] h1.out (rdInts_at [x3] (by intro i hi; simp at hi; subst hi; exact HH.out.cells.1 0) (by intro x hx; simp at hx; subst hx; exact u3.out) (by simp [maxLen]))).mono ?_
       rw [show sless now [x3] = ssub now x3 from by first | rfl | decide]
       rintro e wm ⟨rfl, hbel⟩
       replace HH := Lib.hid ((by first | exact .same hbel | exact .drew hbel | exact .below hbel : Kp wn wm) _ _ HH.out)
       clear hbel
       refine hK _ _ _ HH.out (.inr ⟨rfl, fun _ h => h⟩) ?_
       clear hK K
       refine reg_s 15 HH.out ?_
       refine reg_l (some 17) (i := 16) rfl (by kernel_rfl) (fun wn hk K hK => ?_)
       replace HH := Lib.hid (hk _ _ HH.out)
       clear hk
       go_simp
       replace HH := Lib.hid (HH.out.alloc (.cells #[.int .u64 0, .int .u64 0, .int .u64 0, .int .u64 0, .bool false] 85))
       generalize wn.alloc (.cells #[.int .u64 0, .int .u64 0, .int .u64 0, .int .u64 0, .bool false] 85) = wm at *
       generalize wn.heap.size = g3 at *
       refine hK _ _ _ HH.out (.inr ⟨rfl, fun _ h => h.tail⟩) ?_
       clear hK K
       refine reg_l none (i := 17) rfl (by kernel_rfl) (fun wn hk K hK => ?_)
       replace HH := Lib.hid (hk _ _ HH.out)
       clear hk
       refine want rfl (wp_store_own _ #[_, _, _, _, _] rfl rfl rfl HH.out (by kernel_rfl) rfl (by repeat (first | (refine List.forall_mem_cons.2 ⟨(by first | with_reducible assumption | rfl), ?_⟩) | exact fun _ h => absurd h List.not_mem_nil)) ?_)
       intro wm H9_
       replace HH := Lib.hid H9_
       clear H9_
       refine hK _ _ _ HH.out (.inl (by kernel_rfl)) ?_
       clear hK K
       refine mixk_done (by kernel_rfl) (fun w14_ hk => ?_) _
       replace HH := Lib.hid (hk _ _ HH.out)
       clear hk
      case' g14_ =>
       replace HH := Lib.hid (hk _ _ HH.out)
       clear hk
       go_simp
       replace HH := Lib.hid (HH.out.alloc (.cells #[.int .u64 0, .int .u64 0, .int .u64 0, .int .u64 0, .bool false] 85))
       generalize wn.alloc (.cells #[.int .u64 0, .int .u64 0, .int .u64 0, .int .u64 0, .bool false] 85) = wm at *
       generalize wn.heap.size = g3 at *
       refine hK _ _ _ HH.out (.inr ⟨rfl, fun _ h => h.tail⟩) ?_
       clear hK K
       refine reg_l (some 17) (i := 12) rfl (by kernel_rfl) (fun wn hk K hK => ?_)
       replace HH := Lib.hid (hk _ _ HH.out)
       clear hk
       go_simp
       refine (fixSub_c wn now _ _ _ [x3] h1.out (rdInts_at [x3] (by intro i hi; simp at hi; subst hi; exact HH.out.r2.cells.1 0) (by intro x hx; simp at hx; subst hx; exact u3.out) (by simp [maxLen]))).mono ?_
       rw [show sless now [x3] = ssub now x3 from by first | rfl | decide]
       rintro e wm ⟨rfl, hbel⟩
       replace HH := Lib.hid ((by first | exact .same hbel | exact .drew hbel | exact .below hbel : Kp wn wm) _ _ HH.out)
       clear hbel
       refine hK _ _ _ HH.out (.inr ⟨rfl, fun _ h => h⟩) ?_
       clear hK K
       refine reg_s 15 HH.out ?_
       refine reg_l none (i := 17) rfl (by kernel_rfl) (fun wn hk K hK => ?_)
       replace HH := Lib.hid (hk _ _ HH.out)
       clear hk
       refine want rfl (wp_store_own _ #[_, _, _, _, _] rfl rfl rfl HH.out (by kernel_rfl) rfl (by repeat (first | (refine List.forall_mem_cons.2 ⟨(by first | with_reducible assumption | rfl), ?_⟩) | exact fun _ h => absurd h List.not_mem_nil)) ?_)
       intro wm H9_
       replace HH := Lib.hid H9_
       clear H9_
       refine hK _ _ _ HH.out (.inl (by kernel_rfl)) ?_
       clear hK K
       refine mixk_done (by kernel_rfl) (fun w14_ hk => ?_) _
       replace HH := Lib.hid (hk _ _ HH.out)
       clear hk
     case' g12_ =>
      replace HH := Lib.hid (hk _ _ HH.out)
      clear hk
      go_simp
      replace HH := Lib.hid (HH.out.alloc (.cells #[.int .u64 0, .int .u64 0, .int .u64 0, .int .u64 0, .bool false] 85))
      generalize wn.alloc (.cells #[.int .u64 0, .int .u64 0, .int .u64 0, .int .u64 0, .bool false] 85) = wm at *
      generalize wn.heap.size = g3 at *
      refine hK _ _ _ HH.out (.inr ⟨rfl, fun _ h => h.tail⟩) ?_
      clear hK K
      refine reg_l (some 17) (i := 7) rfl (by kernel_rfl) (fun wn hk K hK => ?_)
      replace HH := Lib.hid (hk _ _ HH.out)
      clear hk
      go_simp
      refine (fixSub_c wn ud _ _ _ [x5] hd2.out (rdInts_at [x5] (by intro i hi; simp at hi; subst hi; exact HH.out.r3.cells.1 0) (by intro x hx; simp at hx; subst hx; exact u5.out) (by simp [maxLen]))).mono ?_
      rw [show sless ud [x5] = ssub ud x5 from by first | rfl | decide]
      rintro e wm ⟨rfl, hbel⟩
      replace HH := Lib.hid ((by first | exact .same hbel | exact .drew hbel | exact .below hbel : Kp wn wm) _ _ HH.out)
      clear hbel
      refine hK _ _ _ HH.out (.inr ⟨rfl, fun _ h => h⟩) ?_
      clear hK K
      refine reg_l (some 17) (i := 12) rfl (by kernel_rfl) (fun wn hk K hK => ?_)
      replace HH := Lib.hid (hk _ _ HH.out)
      clear hk
      go_simp
      refine (fixSub_c wn now _ _ _ [x3] h1.out (rdInts_at [x3] (by intro i hi; simp at hi; subst hi; exact HH.out.r2.cells.1 0) (by intro x hx; simp at hx; subst hx; exact u3.out) (by simp [maxLen]))).mono ?_
      rw [show sless now [x3] = ssub now x3 from by first | rfl | decide]
      rintro e wm ⟨rfl, hbel⟩
      replace HH := Lib.hid ((by first | exact .same hbel | exact .drew hbel | exact .below hbel : Kp wn wm) _ _ HH.out)
      clear hbel
      refine hK _ _ _ HH.out (.inr ⟨rfl, fun _ h => h⟩) ?_
      clear hK K
      refine reg_s 15 HH.out ?_
      refine reg_l none (i := 17) rfl (by kernel_rfl) (fun wn hk K hK => ?_)
      replace HH := Lib.hid (hk _ _ HH.out)
      clear hk
      refine want rfl (wp_store_own _ #[_, _, _, _, _] rfl rfl rfl HH.out (by kernel_rfl) rfl (by repeat (first | (refine List.forall_mem_cons.2 ⟨(by first | with_reducible assumption | rfl), ?_⟩) | exact fun _ h => absurd h List.not_mem_nil)) ?_)
      intro wm H9_
      replace HH := Lib.hid H9_
      clear H9_
      refine hK _ _ _ HH.out (.inl (by kernel_rfl)) ?_
      clear hK K
      refine mixk_done (by kernel_rfl) (fun w14_ hk => ?_) _
      replace HH := Lib.hid (hk _ _ HH.out)
      clear hk
    case' g6_ =>
     replace HH := Lib.hid (hk _ _ HH.out)
     clear hk
     go_simp
     replace HH := Lib.hid (HH.out.alloc (.cells #[.int .u64 0, .int .u64 0, .int .u64 0, .int .u64 0, .bool false] 85))
     generalize wn.alloc (.cells #[.int .u64 0, .int .u64 0, .int .u64 0, .int .u64 0, .bool false] 85) = wm at *
     generalize wn.heap.size = g3 at *
     refine hK _ _ _ HH.out (.inr ⟨rfl, fun _ h => h.tail⟩) ?_
     clear hK K
     refine reg_two (some 17) (some 17) (i := 7) (j := 11) rfl rfl (by kernel_rfl) (fun wn hk K hK => ?g15_) (fun wn hk K hK => ?g16_)
     case' g15_ =>
      replace HH := Lib.hid (hk _ _ HH.out)
      clear hk
      go_simp
      refine (fixSub_c wn ud _ _ _ [x5] hd2.out (rdInts_at [x5] (by intro i hi; simp at hi; subst hi; exact HH.out.r2.cells.1 0) (by intro x hx; simp at hx; subst hx; exact u5.out) (by simp [maxLen]))).mono ?_
      rw [show sless ud [x5] = ssub ud x5 from by first | rfl | decide]
      rintro e wm ⟨rfl, hbel⟩
      replace HH := Lib.hid ((by first | exact .same hbel | exact .drew hbel | exact .below hbel : Kp wn wm) _ _ HH.out)
      clear hbel
      refine hK _ _ _ HH.out (.inr ⟨rfl, fun _ h => h⟩) ?_
      clear hK K
      refine reg_l (some 17) (i := 11) rfl (by kernel_rfl) (fun wn hk K hK => ?_)
      replace HH := Lib.hid (hk _ _ HH.out)
      clear hk
      go_simp
      replace HH := Lib.hid (HH.out.alloc (.cells #[.int .u64 x3] 22))
      generalize wn.alloc (.cells #[.int .u64 x3] 22) = wm at *
      generalize wn.heap.size = g2 at *
      refine hK _ _ _ HH.out (.inr ⟨rfl, fun _ h => h.tail⟩) ?_
      clear hK K
      refine reg_l (some 17) (i := 12) rfl (by kernel_rfl) (fun wn hk K hK => ?_)
      replace HH := Lib.hid (hk _ _ HH.out)
      clear hk
      go_simp
      refine (fixSub_c wn now _ _ _ [x3] h1.out (rdInts_at [x3] (by intro i hi; simp at hi; subst hi; exact HH.out.cells.1 0) (by intro x hx; simp at hx; subst hx; exact u3.out) (by simp [maxLen]))).mono ?_
      rw [show sless now [x3] = ssub now x3 from by first | rfl | decide]
      rintro e wm ⟨rfl, hbel⟩
      replace HH := Lib.hid ((by first | exact .same hbel | exact .drew hbel | exact .below hbel : Kp wn wm) _ _ HH.out)
      clear hbel
      refine hK _ _ _ HH.out (.inr ⟨rfl, fun _ h => h⟩) ?_
      clear hK K
      refine reg_s 15 HH.out ?_
      refine reg_l none (i := 17) rfl (by kernel_rfl) (fun wn hk K hK => ?_)
      replace HH := Lib.hid (hk _ _ HH.out)
      clear hk
      refine want rfl (wp_store_own _ #[_, _, _, _, _] rfl rfl rfl HH.out.r2 (by kernel_rfl) rfl (by repeat (first | (refine List.forall_mem_cons.2 ⟨(by first | with_reducible assumption | rfl), ?_⟩) | exact fun _ h => absurd h List.not_mem_nil)) ?_)
      intro wm H9_
      replace HH := Lib.hid H9_
      clear H9_
      refine hK _ _ _ HH.out (.inl (by kernel_rfl)) ?_
      clear hK K
      refine mixk_done (by kernel_rfl) (fun w14_ hk => ?_) _
      replace HH := Lib.hid (hk _ _ HH.out)
      clear hk
     case' g16_ =>
      replace HH := Lib.hid (hk _ _ HH.out)
      clear hk
      go_simp
      replace HH := Lib.hid (HH.out.alloc (.cells #[.int .u64 x3] 22))
      generalize wn.alloc (.cells #[.int .u64 x3] 22) = wm at *
      generalize wn.heap.size = g2 at *
      refine hK _ _ _ HH.out (.inr ⟨rfl, fun _ h => h.tail⟩) ?_
      clear hK K
      refine reg_l (some 17) (i := 7) rfl (by kernel_rfl) (fun wn hk K hK => ?_)
      replace HH := Lib.hid (hk _ _ HH.out)
      clear hk
      go_simp
      refine (fixSub_c wn ud _ _ _ [x5] hd2.out (rdInts_at [x5] (by intro i hi; simp at hi; subst hi; exact HH.out.r3.cells.1 0) (by intro x hx; simp at hx; subst hx; exact u5.out) (by simp [maxLen]))).mono ?_
      rw [show sless ud [x5] = ssub ud x5 from by first | rfl | decide]
      rintro e wm ⟨rfl, hbel⟩
      replace HH := Lib.hid ((by first | exact .same hbel | exact .drew hbel | exact .below hbel : Kp wn wm) _ _ HH.out)
      clear hbel
      refine hK _ _ _ HH.out (.inr ⟨rfl, fun _ h => h⟩) ?_
      clear hK K
      refine reg_l (some 17) (i := 12) rfl (by kernel_rfl) (fun wn hk K hK => ?_)
      replace HH := Lib.hid (hk _ _ HH.out)
      clear hk
      go_simp
      refine (fixSub_c wn now _ _ _ [x3] h1.out (rdInts_at [x3] (by intro i hi; simp at hi; subst hi; exact HH.out.cells.1 0) (by intro x hx; simp at hx; subst hx; exact u3.out) (by simp [maxLen]))).mono ?_
      rw [show sless now [x3] = ssub now x3 from by first | rfl | decide]
      rintro e wm ⟨rfl, hbel⟩
      replace HH := Lib.hid ((by first | exact .same hbel | exact .drew hbel | exact .below hbel : Kp wn wm) _ _ HH.out)
      clear hbel
      refine hK _ _ _ HH.out (.inr ⟨rfl, fun _ h => h⟩) ?_
      clear hK K
      refine reg_s 15 HH.out ?_
      refine reg_l none (i := 17) rfl (by kernel_rfl) (fun wn hk K hK => ?_)
      replace HH := Lib.hid (hk _ _ HH.out)
      clear hk
      refine want rfl (wp_store_own _ #[_, _, _, _, _] rfl rfl rfl HH.out.r2 (by kernel_rfl) rfl (by repeat (first | (refine List.forall_mem_cons.2 ⟨(by first | with_reducible assumption | rfl), ?_⟩) | exact fun _ h => absurd h List.not_mem_nil)) ?_)
      intro wm H9_
      replace HH := Lib.hid H9_
      clear H9_
      refine hK _ _ _ HH.out (.inl (by kernel_rfl)) ?_
      clear hK K
      refine mixk_done (by kernel_rfl) (fun w14_ hk => ?_) _
      replace HH := Lib.hid (hk _ _ HH.out)
      clear hk
   case' g2_ =>
    replace HH := Lib.hid (hk _ _ HH.out)
    clear hk
    go_simp
    replace HH := Lib.hid (HH.out.alloc (.cells #[.int .u64 x3] 22))
    generalize wn.alloc (.cells #[.int .u64 x3] 22) = wm at *
    generalize wn.heap.size = g2 at *
    refine hK _ _ _ HH.out (.inr ⟨rfl, fun _ h => h.tail⟩) ?_
    clear hK K
    refine reg_two (some 17) (some 17) (i := 6) (j := 16) rfl rfl (by kernel_rfl) (fun wn hk K hK => ?g17_) (fun wn hk K hK => ?g18_)
    case' g17_ =>
     replace HH := Lib.hid (hk _ _ HH.out)
     clear hk
     go_simp
     replace HH := Lib.hid (HH.out.alloc (.cells #[.int .u64 x5] 22))
     generalize wn.alloc (.cells #[.int .u64 x5] 22) = wm at *
     generalize wn.heap.size = g1 at *
     refine hK _ _ _ HH.out (.inr ⟨rfl, fun _ h => h.tail⟩) ?_
     clear hK K
     refine reg_two (some 17) (some 17) (i := 7) (j := 16) rfl rfl (by kernel_rfl) (fun wn hk K hK => ?g19_) (fun wn hk K hK => ?g20_)
     case' g19_ =>
      replace HH := Lib.hid (hk _ _ HH.out)
      clear hk
      go_simp
      refine (fixSub_c wn ud _ _ _ [x5] hd2.out (rdInts_at [x5] (by intro i hi; simp at hi; subst hi; exact HH.out.cells.1 0) (by intro x hx; simp at hx; subst hx; exact u5.out) (by simp [maxLen]))).mono ?_
      rw [show sless ud [x5] = ssub ud x5 from by first | rfl | decide]
      rintro e wm ⟨rfl, hbel⟩
      replace HH := Lib.hid ((by first | exact .same hbel | exact .drew hbel | exact .below hbel : Kp wn wm) _ _ HH.out)
      clear hbel
      refine hK _ _ _ HH.out (.inr ⟨rfl, fun _ h => h⟩) ?_
      clear hK K
      refine reg_two (some 17) (some 17) (i := 12) (j := 16) rfl rfl (by kernel_rfl) (fun wn hk K hK => ?g21_) (fun wn hk K hK => ?g22_)
      case' g21_ =>
       replace HH := Lib.hid (hk _ _ HH.out)
       clear hk
       go_simp
       refine (fixSub_c wn now _ _ _ [x3] h1.out (rdInts_at [x3] (by intro i hi; simp at hi; subst hi; exact HH.out.r2.cells.1 0) (by intro x hx; simp at hx; subst hx; exact u3.out) (by simp [maxLen]))).mono ?_
       rw [show sless now [x3] = ssub now x3 from by first | rfl | decide]
       rintro e wm ⟨rfl, hbel⟩
       replace HH := Lib.hid ((by first | exact .same hbel | exact .drew hbel | exact .below hbel : Kp wn wm) _ _ HH.out)
       clear hbel
       refine hK _ _ _ HH.out (.inr ⟨rfl, fun _ h => h⟩) ?_
       clear hK K
       refine reg_s 15 HH.out ?_
       refine reg_l (some 17) (i := 16) rfl (by kernel_rfl) (fun wn hk K hK => ?_)
       replace HH := Lib.hid (hk _ _ HH.out)
       clear hk
       go_simp
       replace HH := Lib.hid (HH.out.alloc (.cells #[.int .u64 0, .int .u64 0, .int .u64 0, .int .u64 0, .bool false] 85))
       generalize wn.alloc (.cells #[.int .u64 0, .int .u64 0, .int .u64 0, .int .u64 0, .bool false] 85) = wm at *
       generalize wn.heap.size = g3 at *
       refine hK _ _ _ HH.out (.inr ⟨rfl, fun _ h => h.tail⟩) ?_
       clear hK K
       refine reg_l none (i := 17) rfl (by kernel_rfl) (fun wn hk K hK => ?_)
       replace HH := Lib.hid (hk _ _ HH.out)
       clear hk
       refine want rfl (wp_store_own _ #[_, _, _, _, _] rfl rfl rfl HH.out (by kernel_rfl) rfl (by repeat (first | (refine List.forall_mem_cons.2 ⟨(by first | with_reducible assumption | rfl), ?_⟩) | exact fun _ h => absurd h List.not_mem_nil)) ?_)
       intro wm H9_
       replace HH := Lib.hid H9_
       clear H9_
       refine hK _ _ _ HH.out (.inl (by kernel_rfl)) ?_
       clear hK K
       refine mixk_done (by kernel_rfl) (fun w14_ hk => ?_) _
       replace HH := Lib.hid (hk _ _ HH.out)
       clear hk
      case' g22_ =>
       replace HH := Lib.hid (hk _ _ HH.out)
       clear hk
       go_simp
       replace HH := Lib.hid (HH.out.alloc (.cells #[.int .u64 0, .int .u64 0, .int .u64 0, .int .u64 0, .bool false] 85))
       generalize wn.alloc (.cells #[.int .u64 0, .int .u64 0, .int .u64 0, .int .u64 0, .bool false] 85) = wm at *
       generalize wn.heap.size = g3 at *
       refine hK _ _ _ HH.out (.inr ⟨rfl, fun _ h => h.tail⟩) ?_
       clear hK K
       refine reg_l (some 17) (i := 12) rfl (by kernel_rfl) (fun wn hk K hK => ?_)
       replace HH := Lib.hid (hk _ _ HH.out)
       clear hk
       go_simp
       refine (fixSub_c wn now _ _ _ [x3] h1.out (rdInts_at [x3] (by intro i hi; simp at hi; subst hi; exact HH.out.r3.cells.1 0) (by intro x hx; simp at hx; subst hx; exact u3.out) (by simp [maxLen]))).mono ?_
       rw [show sless now [x3] = ssub now x3 from by first | rfl | decide]
       rintro e wm ⟨rfl, hbel⟩
       replace HH := Lib.hid ((by first | exact .same hbel | exact .drew hbel | exact .below hbel : Kp wn wm) _ _ HH.out)
       clear hbel
       refine hK _ _ _ HH.out (.inr ⟨rfl, fun _ h => h⟩) ?_
       clear hK K
       refine reg_s 15 HH.out ?_
       refine reg_l none (i := 17) rfl (by kernel_rfl) (fun wn hk K hK => ?_)
       replace HH := Lib.hid (hk _ _ HH.out)
       clear hk
       refine want rfl (wp_store_own _ #[_, _, _, _, _] rfl rfl rfl HH.out (by kernel_rfl) rfl (by repeat (first | (refine List.forall_mem_cons.2 ⟨(by first | with_reducible assumption | rfl), ?_⟩) | exact fun _ h => absurd h List.not_mem_nil)) ?_)
       intro wm H9_
       replace HH := Lib.hid H9_
       clear H9_
       refine hK _ _ _ HH.out (.inl (by kernel_rfl)) ?_
       clear hK K
       refine mixk_done (by kernel_rfl) (fun w14_ hk => ?_) _
       replace HH := Lib.hid (hk _ _ HH.out)
       clear hk
     case' g20_ =>
      replace HH := Lib.hid (hk _ _ HH.out)
      clear hk
      go_simp
      replace HH := Lib.hid (HH.out.alloc (.cells #[.int .u64 0, .int .u64 0, .int .u64 0, .int .u64 0, .bool false] 85))
      generalize wn.alloc (.cells #[.int .u64 0, .int .u64 0, .int .u64 0, .int .u64 0, .bool false] 85) = wm at *
      generalize wn.heap.size = g3 at *
      refine hK _ _ _ HH.out (.inr ⟨rfl, fun _ h => h.tail⟩) ?_
      clear hK K
      refine reg_l (some 17) (i := 7) rfl (by kernel_rfl) (fun wn hk K hK => ?_)
      replace HH := Lib.hid (hk _ _ HH.out)
      clear hk
      go_simp
      refine (fixSub_c wn ud _ _ _ [x5] hd2.out (rdInts_at [x5] (by intro i hi; simp at hi; subst hi; exact HH.out.r2.cells.1 0) (by intro x hx; simp at hx; subst hx; exact u5.out) (by simp [maxLen]))).mono ?_
      rw [show sless ud [x5] = ssub ud x5 from by first | rfl | decide]
      rintro e wm ⟨rfl, hbel⟩
      replace HH := Lib.hid ((by first | exact .same hbel | exact .drew hbel | exact .below hbel : Kp wn wm) _ _ HH.out)
      clear hbel
      refine hK _ _ _ HH.out (.inr ⟨rfl, fun _ h => h⟩) ?_
      clear hK K
      refine reg_l (some 17) (i := 12) rfl (by kernel_rfl) (fun wn hk K hK => ?_)
      replace HH := Lib.hid (hk _ _ HH.out)
      clear hk
      go_simp
      refine (fixSub_c wn now _ _ _ [x3] h1.out (rdInts_at [x3] (by intro i hi; simp at hi; subst hi; exact HH.out.r3.cells.1 0) (by intro x hx; simp at hx; subst hx; exact u3.out) (by simp [maxLen]))).mono ?_
      rw [show sless now [x3] = ssub now x3 from by first | rfl | decide]
      rintro e wm ⟨rfl, hbel⟩
      replace HH := Lib.hid ((by first | exact .same hbel | exact .drew hbel | exact .below hbel : Kp wn wm) _ _ HH.out)
      clear hbel
      refine hK _ _ _ HH.out (.inr ⟨rfl, fun _ h => h⟩) ?_
      clear hK K
      refine reg_s 15 HH.out ?_
      refine reg_l none (i := 17) rfl (by kernel_rfl) (fun wn hk K hK => ?_)
      replace HH := Lib.hid (hk _ _ HH.out)
      clear hk
      refine want rfl (wp_store_own _ #[_, _, _, _, _] rfl rfl rfl HH.out (by kernel_rfl) rfl (by repeat (first | (refine List.forall_mem_cons.2 ⟨(by first | with_reducible assumption | rfl), ?_⟩) | exact fun _ h => absurd h List.not_mem_nil)) ?_)
      intro wm H9_
      replace HH := Lib.hid H9_
      clear H9_
      refine hK _ _ _ HH.out (.inl (by kernel_rfl)) ?_
      clear hK K
      refine mixk_done (by kernel_rfl) (fun w14_ hk => ?_) _
      replace HH := Lib.hid (hk _ _ HH.out)
      clear hk
    case' g18_ =>
     replace HH := Lib.hid (hk _ _ HH.out)
     clear hk
     go_simp
     replace HH := Lib.hid (HH.out.alloc (.cells #[.int .u64 0, .int .u64 0, .int .u64 0, .int .u64 0, .bool false] 85))
     generalize wn.alloc (.cells #[.int .u64 0, .int .u64 0, .int .u64 0, .int .u64 0, .bool false] 85) = wm at *
     generalize wn.heap.size = g3 at *
     refine hK _ _ _ HH.out (.inr ⟨rfl, fun _ h => h.tail⟩) ?_
     clear hK K
     refine reg_l (some 17) (i := 6) rfl (by kernel_rfl) (fun wn hk K hK => ?_)
     replace HH := Lib.hid (hk _ _ HH.out)
     clear hk
     go_simp
     replace HH := Lib.hid (HH.out.alloc (.cells #[.int .u64 x5] 22))
     generalize wn.alloc (.cells #[.int .u64 x5] 22) = wm at *
     generalize wn.heap.size = g1 at *
     refine hK _ _ _ HH.out (.inr ⟨rfl, fun _ h => h.tail⟩) ?_
     clear hK K
     refine reg_l (some 17) (i := 7) rfl (by kernel_rfl) (fun wn hk K hK => ?_)
     replace HH := Lib.hid (hk _ _ HH.out)
     clear hk
     go_simp
     refine (fixSub_c wn ud _ _ _ [x5] hd2.out (rdInts_at [x5] (by intro i hi; simp at hi; subst hi; exact HH.out.cells.1 0) (by intro x hx; simp at hx; subst hx; exact u5.out) (by simp [maxLen]))).mono ?_
     rw [show sless ud [x5] = ssub ud x5 from by first | rfl | decide]
     rintro e wm ⟨rfl, hbel⟩
     replace HH := Lib.hid ((by first | exact .same hbel | exact .drew hbel | exact .below hbel : Kp wn wm) _ _ HH.out)
     clear hbel
     refine hK _ _ _ HH.out (.inr ⟨rfl, fun _ h => h⟩) ?_
     clear hK K
     refine reg_l (some 17) (i := 12) rfl (by kernel_rfl) (fun wn hk K hK => ?_)
     replace HH := Lib.hid (hk _ _ HH.out)
     clear hk
     go_simp
     refine (fixSub_c wn now _ _ _ [x3] h1.out (rdInts_at [x3] (by intro i hi; simp at hi; subst hi; exact HH.out.r3.cells.1 0) (by intro x hx; simp at hx; subst hx; exact u3.out) (by simp [maxLen]))).mono ?_
     rw [show sless now [x3] = ssub now x3 from by first | rfl | decide]
     rintro e wm ⟨rfl, hbel⟩
     replace HH := Lib.hid ((by first | exact .same hbel | exact .drew hbel | exact .below hbel : Kp wn wm) _ _ HH.out)
     clear hbel
     refine hK _ _ _ HH.out (.inr ⟨rfl, fun _ h => h⟩) ?_
     clear hK K
     refine reg_s 15 HH.out ?_
     refine reg_l none (i := 17) rfl (by kernel_rfl) (fun wn hk K hK => ?_)
     replace HH := Lib.hid (hk _ _ HH.out)
     clear hk
     refine want rfl (wp_store_own _ #[_, _, _, _, _] rfl rfl rfl HH.out.r2 (by kernel_rfl) rfl (by repeat (first | (refine List.forall_mem_cons.2 ⟨(by first | with_reducible assumption | rfl), ?_⟩) | exact fun _ h => absurd h List.not_mem_nil)) ?_)
     intro wm H9_
     replace HH := Lib.hid H9_
     clear H9_
     refine hK _ _ _ HH.out (.inl (by kernel_rfl)) ?_
     clear hK K
     refine mixk_done (by kernel_rfl) (fun w14_ hk => ?_) _
     replace HH := Lib.hid (hk _ _ HH.out)
     clear hk
   case' g3_ =>
    replace HH := Lib.hid (hk _ _ HH.out)
    clear hk
    go_simp
    replace HH := Lib.hid (HH.out.alloc (.cells #[.int .u64 0, .int .u64 0, .int .u64 0, .int .u64 0, .bool false] 85))
    generalize wn.alloc (.cells #[.int .u64 0, .int .u64 0, .int .u64 0, .int .u64 0, .bool false] 85) = wm at *
    generalize wn.heap.size = g3 at *
    refine hK _ _ _ HH.out (.inr ⟨rfl, fun _ h => h.tail⟩) ?_
    clear hK K
    refine reg_two (some 17) (some 17) (i := 6) (j := 11) rfl rfl (by kernel_rfl) (fun wn hk K hK => ?g23_) (fun wn hk K hK => ?g24_)
    case' g23_ =>
     replace HH := Lib.hid (hk _ _ HH.out)
     clear hk
     go_simp
     replace HH := Lib.hid (HH.out.alloc (.cells #[.int .u64 x5] 22))
     generalize wn.alloc (.cells #[.int .u64 x5] 22) = wm at *
     generalize wn.heap.size = g1 at *
     refine hK _ _ _ HH.out (.inr ⟨rfl, fun _ h => h.tail⟩) ?_
     clear hK K
     refine reg_two (some 17) (some 17) (i := 7) (j := 11) rfl rfl (by kernel_rfl) (fun wn hk K hK => ?g25_) (fun wn hk K hK => ?g26_)
     case' g25_ =>
      replace HH := Lib.hid (hk _ _ HH.out)
      clear hk
      go_simp
      refine (fixSub_c wn ud _ _ _ [x5] hd2.out (rdInts_at [x5] (by intro i hi; simp at hi; subst hi; exact HH.out.cells.1 0) (by intro x hx; simp at hx; subst hx; exact u5.out) (by simp [maxLen]))).mono ?_
      rw [show sless ud [x5] = ssub ud x5 from by first | rfl | decide]
      rintro e wm ⟨rfl, hbel⟩
      replace HH := Lib.hid ((by first | exact .same hbel | exact .drew hbel | exact .below hbel : Kp wn wm) _ _ HH.out)
      clear hbel
      refine hK _ _ _ HH.out (.inr ⟨rfl, fun _ h => h⟩) ?_
      clear hK K
      refine reg_l (some 17) (i := 11) rfl (by kernel_rfl) (fun wn hk K hK => ?_)
      replace HH := Lib.hid (hk _ _ HH.out)
      clear hk
      go_simp
      replace HH := Lib.hid (HH.out.alloc (.cells #[.int .u64 x3] 22))
      generalize wn.alloc (.cells #[.int .u64 x3] 22) = wm at *
      generalize wn.heap.size = g2 at *
      refine hK _ _ _ HH.out (.inr ⟨rfl, fun _ h => h.tail⟩) ?_
      clear hK K
      refine reg_l (some 17) (i := 12) rfl (by kernel_rfl) (fun wn hk K hK => ?_)
      replace HH := Lib.hid (hk _ _ HH.out)
      clear hk
      go_simp
      refine (fixSub_c wn now _ _ _ [x3] h1.out (rdInts_at [x3] (by intro i hi; simp at hi; subst hi; exact HH.out.cells.1 0) (by intro x hx; simp at hx; subst hx; exact u3.out) (by simp [maxLen]))).mono ?_
      rw [show sless now [x3] = ssub now x3 from by first | rfl | decide]
      rintro e wm ⟨rfl, hbel⟩
      replace HH := Lib.hid ((by first | exact .same hbel | exact .drew hbel | exact .below hbel : Kp wn wm) _ _ HH.out)
      clear hbel
      refine hK _ _ _ HH.out (.inr ⟨rfl, fun _ h => h⟩) ?_
      clear hK K
      refine reg_s 15 HH.out ?_
      refine reg_l none (i := 17) rfl (by kernel_rfl) (fun wn hk K hK => ?_)
      replace HH := Lib.hid (hk _ _ HH.out)
      clear hk
      refine want rfl (wp_store_own _ #[_, _, _, _, _] rfl rfl rfl HH.out.r3 (by kernel_rfl) rfl (by repeat (first | (refine List.forall_mem_cons.2 ⟨(by first | with_reducible assumption | rfl), ?_⟩) | exact fun _ h => absurd h List.not_mem_nil)) ?_)
      intro wm H9_
      replace HH := Lib.hid H9_
      clear H9_
      refine hK _ _ _ HH.out (.inl (by kernel_rfl)) ?_
      clear hK K
      refine mixk_done (by kernel_rfl) (fun w14_ hk => ?_) _
      replace HH := Lib.hid (hk _ _ HH.out)
      clear hk
     case' g26_ =>
      replace HH := Lib.hid (hk _ _ HH.out)
      clear hk
      go_simp
      replace HH := Lib.hid (HH.out.alloc (.cells #[.int .u64 x3] 22))
      generalize wn.alloc (.cells #[.int .u64 x3] 22) = wm at *
      generalize wn.heap.size = g2 at *
      refine hK _ _ _ HH.out (.inr ⟨rfl, fun _ h => h.tail⟩) ?_
      clear hK K
      refine reg_l (some 17) (i := 7) rfl (by kernel_rfl) (fun wn hk K hK => ?_)
      replace HH := Lib.hid (hk _ _ HH.out)
      clear hk
      go_simp
      refine (fixSub_c wn ud _ _ _ [x5] hd2.out (rdInts_at [x5] (by intro i hi; simp at hi; subst hi; exact HH.out.r2.cells.1 0) (by intro x hx; simp at hx; subst hx; exact u5.out) (by simp [maxLen]))).mono ?_
      rw [show sless ud [x5] = ssub ud x5 from by first | rfl | decide]
      rintro e wm ⟨rfl, hbel⟩
      replace HH := Lib.hid ((by first | exact .same hbel | exact .drew hbel | exact .below hbel : Kp wn wm) _ _ HH.out)
      clear hbel
      refine hK _ _ _ HH.out (.inr ⟨rfl, fun _ h => h⟩) ?_
      clear hK K
      refine reg_l (some 17) (i := 12) rfl (by kernel_rfl) (fun wn hk K hK => ?_)
      replace HH := Lib.hid (hk _ _ HH.out)
      clear hk
      go_simp
      refine (fixSub_c wn now _ _ _ [x3] h1.out (rdInts_at [x3] (by intro i hi; simp at hi; subst hi; exact HH.out.cells.1 0) (by intro x hx; simp at hx; subst hx; exact u3.out) (by simp [maxLen]))).mono ?_
      rw [show sless now [x3] = ssub now x3 from by first | rfl | decide]
      rintro e wm ⟨rfl, hbel⟩
      replace HH := Lib.hid ((by first | exact .same hbel | exact .drew hbel | exact .below hbel : Kp wn wm) _ _ HH.out)
      clear hbel
      refine hK _ _ _ HH.out (.inr ⟨rfl, fun _ h => h⟩) ?_
      clear hK K
      refine reg_s 15 HH.out ?_
      refine reg_l none (i := 17) rfl (by kernel_rfl) (fun wn hk K hK => ?_)
      replace HH := Lib.hid (hk _ _ HH.out)
      clear hk
      refine want rfl (wp_store_own _ #[_, _, _, _, _] rfl rfl rfl HH.out.r3 (by kernel_rfl) rfl (by repeat (first | (refine List.forall_mem_cons.2 ⟨(by first | with_reducible assumption | rfl), ?_⟩) | exact fun _ h => absurd h List.not_mem_nil)) ?_)
      intro wm H9_
      replace HH := Lib.hid H9_
      clear H9_
      refine hK _ _ _ HH.out (.inl (by kernel_rfl)) ?_
      clear hK K
      refine mixk_done (by kernel_rfl) (fun w14_ hk => ?_) _
      replace HH := Lib.hid (hk _ _ HH.out)
      clear hk
    case' g24_ =>
     replace HH := Lib.hid (hk _ _ HH.out)
     clear hk
     go_simp
     replace HH := Lib.hid (HH.out.alloc (.cells #[.int .u64 x3] 22))
     generalize wn.alloc (.cells #[.int .u64 x3] 22) = wm at *
     generalize wn.heap.size = g2 at *
     refine hK _ _ _ HH.out (.inr ⟨rfl, fun _ h => h.tail⟩) ?_
     clear hK K
     refine reg_l (some 17) (i := 6) rfl (by kernel_rfl) (fun wn hk K hK => ?_)
     replace HH := Lib.hid (hk _ _ HH.out)
     clear hk
     go_simp
     replace HH := Lib.hid (HH.out.alloc (.cells #[.int .u64 x5] 22))
     generalize wn.alloc (.cells #[.int .u64 x5] 22) = wm at *
     generalize wn.heap.size = g1 at *
     refine hK _ _ _ HH.out (.inr ⟨rfl, fun _ h => h.tail⟩) ?_
     clear hK K
     refine reg_l (some 17) (i := 7) rfl (by kernel_rfl) (fun wn hk K hK => ?_)
     replace HH := Lib.hid (hk _ _ HH.out)
     clear hk
     go_simp
     refine (fixSub_c wn ud _ _ _ [x5] hd2.out (rdInts_at [x5] (by intro i hi; simp at hi; subst hi; exact HH.out.cells.1 0) (by intro x hx; simp at hx; subst hx; exact u5.out) (by simp [maxLen]))).mono ?_
     rw [show sless ud [x5] = ssub ud x5 from by first | rfl | decide]
     rintro e wm ⟨rfl, hbel⟩
     replace HH := Lib.hid ((by first | exact .same hbel | exact .drew hbel | exact .below hbel : Kp wn wm) _ _ HH.out)
     clear hbel
     refine hK _ _ _ HH.out (.inr ⟨rfl, fun _ h => h⟩) ?_
     clear hK K
     refine reg_l (some 17) (i := 12) rfl (by kernel_rfl) (fun wn hk K hK => ?_)
     replace HH := Lib.hid (hk _ _ HH.out)
     clear hk
     go_simp
     refine (fixSub_c wn now _ _ _ [x3] h1.out (rdInts_at [x3] (by intro i hi; simp at hi; subst hi; exact HH.out.r2.cells.1 0) (by intro x hx; simp at hx; subst hx; exact u3.out) (by simp [maxLen]))).mono ?_
     rw [show sless now [x3] = ssub now x3 from by first | rfl | decide]
     rintro e wm ⟨rfl, hbel⟩
     replace HH := Lib.hid ((by first | exact .same hbel | exact .drew hbel | exact .below hbel : Kp wn wm) _ _ HH.out)
     clear hbel
     refine hK _ _ _ HH.out (.inr ⟨rfl, fun _ h => h⟩) ?_
     clear hK K
     refine reg_s 15 HH.out ?_
     refine reg_l none (i := 17) rfl (by kernel_rfl) (fun wn hk K hK => ?_)
     replace HH := Lib.hid (hk _ _ HH.out)
     clear hk
     refine want rfl (wp_store_own _ #[_, _, _, _, _] rfl rfl rfl HH.out.r3 (by kernel_rfl) rfl (by repeat (first | (refine List.forall_mem_cons.2 ⟨(by first | with_reducible assumption | rfl), ?_⟩) | exact fun _ h => absurd h List.not_mem_nil)) ?_)
     intro wm H9_
     replace HH := Lib.hid H9_
     clear H9_
     refine hK _ _ _ HH.out (.inl (by kernel_rfl)) ?_
     clear hK K
     refine mixk_done (by kernel_rfl) (fun w14_ hk => ?_) _
     replace HH := Lib.hid (hk _ _ HH.out)
     clear hk
   all_goals
    go_wp2_with fail
    go_meet
    case rel => exact ⟨_, rfl, HH.out.pn⟩
  case rest =>
   clear HH
   obtain ⟨sb, rfl, HR⟩ := hcut
   have HH := Lib.hid HR
   clear HR
   have hiv2 := hiv.out
   go_upto_region 9 with (fail)
   go_cut [] from 11 (fun wc => Own ε wc (pts sb (.cells #[.int .u64 (ssub ud x5), .int .u64 iv, .int .u64 0, .int .u64 (ssub now x3), .bool x7] 85 (0, 0)) :: pts b (.cells #[.int .u64 ud, .int .u64 now, .int .u64 x3, .int .u64 mk2] 122 (0, 0)) :: pts sx (.cells #[.int .u64 x3, .int .u64 x4, .int .u64 x5, .int .u64 x6, .bool x7] 39 (0, 0)) :: pts rx (.cells #[.int .u64 0, .int .u64 0, .int .u64 0, .int .u64 0, .bool false] 85 (0, 0)) :: R))
   case first =>
    go_wp2_with fail
    refine wp_region_reg (some 13) HH.out (by kernel_rfl) ?_
    intro wm H9_
    replace HH := Lib.hid H9_
    clear H9_
    refine reg_s 0 HH.out ?_
    refine mixk_s 1 HH.out (fun _ hx => And.intro hx.cells hx.r3.cells) ?_
    refine reg_s 2 HH.out ?_
    refine mixk_s 3 HH.out (fun _ hx => And.intro hx.cells hx.r3.cells) ?_
    refine reg_s 6 HH.out ?_
    refine reg_s 7 HH.out ?_
    refine mixk_s 8 HH.out (fun _ hx => And.intro hx.cells hx.r3.cells) ?_
    refine reg_two (some 13) (some 13) (i := 4) (j := 9) rfl rfl (by kernel_rfl) (fun wn hk K hK => ?g27_) (fun wn hk K hK => ?g28_)
    case' g27_ =>
     replace HH := Lib.hid (hk _ _ HH.out)
     clear hk
     go_simp
     replace HH := Lib.hid (HH.out.alloc (.cells #[.int .u64 x4] 22))
     generalize wn.alloc (.cells #[.int .u64 x4] 22) = wm at *
     generalize wn.heap.size = g4 at *
     refine hK _ _ _ HH.out (.inr ⟨rfl, fun _ h => h.tail⟩) ?_
     clear hK K
     refine reg_two (some 13) (some 13) (i := 5) (j := 9) rfl rfl (by kernel_rfl) (fun wn hk K hK => ?g29_) (fun wn hk K hK => ?g30_)
     case' g29_ =>
      replace HH := Lib.hid (hk _ _ HH.out)
      clear hk
      go_simp
      refine (fixSub_c wn x3 _ _ _ [x4] u3.out (rdInts_at [x4] (by intro i hi; simp at hi; subst hi; exact HH.out.cells.1 0) (by intro x hx; simp at hx; subst hx; exact u4.out) (by simp [maxLen]))).mono ?_
      rw [show sless x3 [x4] = ssub x3 x4 from by first | rfl | decide]
      rintro e wm ⟨rfl, hbel⟩
      replace HH := Lib.hid ((by first | exact .same hbel | exact .drew hbel | exact .below hbel : Kp wn wm) _ _ HH.out)
      clear hbel
      refine hK _ _ _ HH.out (.inr ⟨rfl, fun _ h => h⟩) ?_
      clear hK K
      refine reg_l (some 13) (i := 9) rfl (by kernel_rfl) (fun wn hk K hK => ?_)
      replace HH := Lib.hid (hk _ _ HH.out)
      clear hk
      go_simp
      replace HH := Lib.hid (HH.out.alloc (.cells #[.int .u64 x6] 22))
      generalize wn.alloc (.cells #[.int .u64 x6] 22) = wm at *
      generalize wn.heap.size = g5 at *
      refine hK _ _ _ HH.out (.inr ⟨rfl, fun _ h => h.tail⟩) ?_
      clear hK K
      refine reg_l (some 13) (i := 10) rfl (by kernel_rfl) (fun wn hk K hK => ?_)
      replace HH := Lib.hid (hk _ _ HH.out)
      clear hk
      go_simp
      refine (fixSub_c wn now _ _ _ [x6] h1.out (rdInts_at [x6] (by intro i hi; simp at hi; subst hi; exact HH.out.cells.1 0) (by intro x hx; simp at hx; subst hx; exact u6.out) (by simp [maxLen]))).mono ?_
      rw [show sless now [x6] = ssub now x6 from by first | rfl | decide]
      rintro e wm ⟨rfl, hbel⟩
      replace HH := Lib.hid ((by first | exact .same hbel | exact .drew hbel | exact .below hbel : Kp wn wm) _ _ HH.out)
      clear hbel
      refine hK _ _ _ HH.out (.inr ⟨rfl, fun _ h => h⟩) ?_
      clear hK K
      refine reg_s 11 HH.out ?_
      refine reg_s 12 HH.out ?_
      refine reg_l none (i := 13) rfl (by kernel_rfl) (fun wn hk K hK => ?_)
      replace HH := Lib.hid (hk _ _ HH.out)
      clear hk
      have hx := HH.out
      have x1_ := hx.r3.cells
      have x3_ := hx.r5.cells
      go_simp
      replace HH := Lib.hid (HH.out.r3.set 1 (.int .u64 iv))
      simp only [List.setIfInBounds_toArray, List.set_cons_succ, List.set_cons_zero] at HH
      generalize wn.setCell ⟨sb, 1, none⟩ (.int .u64 iv) = wm at *
      clear hx x1_ x3_
      refine hK _ _ _ HH.out (.inl (by kernel_rfl)) ?_
      clear hK K
      refine mixk_done (by kernel_rfl) (fun w15_ hk => ?_) _
      replace HH := Lib.hid (hk _ _ HH.out)
      clear hk
     case' g30_ =>
      replace HH := Lib.hid (hk _ _ HH.out)
      clear hk
      go_simp
      replace HH := Lib.hid (HH.out.alloc (.cells #[.int .u64 x6] 22))
      generalize wn.alloc (.cells #[.int .u64 x6] 22) = wm at *
      generalize wn.heap.size = g5 at *
      refine hK _ _ _ HH.out (.inr ⟨rfl, fun _ h => h.tail⟩) ?_
      clear hK K
      refine reg_l (some 13) (i := 5) rfl (by kernel_rfl) (fun wn hk K hK => ?_)
      replace HH := Lib.hid (hk _ _ HH.out)
      clear hk
      go_simp
      refine (fixSub_c wn x3 _ _ _ [x4] u3.out (rdInts_at [x4] (by intro i hi; simp at hi; subst hi; exact HH.out.r2.cells.1 0) (by intro x hx; simp at hx; subst hx; exact u4.out) (by simp [maxLen]))).mono ?_
      rw [show sless x3 [x4] = ssub x3 x4 from by first | rfl | decide]
      rintro e wm ⟨rfl, hbel⟩
      replace HH := Lib.hid ((by first | exact .same hbel | exact .drew hbel | exact .below hbel : Kp wn wm) _ _ HH.out)
      clear hbel
      refine hK _ _ _ HH.out (.inr ⟨rfl, fun _ h => h⟩) ?_
      clear hK K
      refine reg_l (some 13) (i := 10) rfl (by kernel_rfl) (fun wn hk K hK => ?_)
      replace HH := Lib.hid (hk _ _ HH.out)
      clear hk
      go_simp
      refine (fixSub_c wn now _ _ _ [x6] h1.out (rdInts_at [x6] (by intro i hi; simp at hi; subst hi; exact HH.out.cells.1 0) (by intro x hx; simp at hx; subst hx; exact u6.out) (by simp [maxLen]))).mono ?_
      rw [show sless now [x6] = ssub now x6 from by first | rfl | decide]
      rintro e wm ⟨rfl, hbel⟩
      replace HH := Lib.hid ((by first | exact .same hbel | exact .drew hbel | exact .below hbel : Kp wn wm) _ _ HH.out)
      clear hbel
      refine hK _ _ _ HH.out (.inr ⟨rfl, fun _ h => h⟩) ?_
      clear hK K
      refine reg_s 11 HH.out ?_
      refine reg_s 12 HH.out ?_
      refine reg_l none (i := 13) rfl (by kernel_rfl) (fun wn hk K hK => ?_)
      replace HH := Lib.hid (hk _ _ HH.out)
      clear hk
      have hx := HH.out
      have x1_ := hx.r3.cells
      have x3_ := hx.r5.cells
      go_simp
      replace HH := Lib.hid (HH.out.r3.set 1 (.int .u64 iv))
      simp only [List.setIfInBounds_toArray, List.set_cons_succ, List.set_cons_zero] at HH
      generalize wn.setCell ⟨sb, 1, none⟩ (.int .u64 iv) = wm at *
      clear hx x1_ x3_
      refine hK _ _ _ HH.out (.inl (by kernel_rfl)) ?_
      clear hK K
      refine mixk_done (by kernel_rfl) (fun w15_ hk => ?_) _
      replace HH := Lib.hid (hk _ _ HH.out)
      clear hk
    case' g28_ =>
     replace HH := Lib.hid (hk _ _ HH.out)
     clear hk
     go_simp
     replace HH := Lib.hid (HH.out.alloc (.cells #[.int .u64 x6] 22))
     generalize wn.alloc (.cells #[.int .u64 x6] 22) = wm at *
     generalize wn.heap.size = g5 at *
     refine hK _ _ _ HH.out (.inr ⟨rfl, fun _ h => h.tail⟩) ?_
     clear hK K
     refine reg_l (some 13) (i := 4) rfl (by kernel_rfl) (fun wn hk K hK => ?_)
     replace HH := Lib.hid (hk _ _ HH.out)
     clear hk
     go_simp
     replace HH := Lib.hid (HH.out.alloc (.cells #[.int .u64 x4] 22))
     generalize wn.alloc (.cells #[.int .u64 x4] 22) = wm at *
     generalize wn.heap.size = g4 at *
     refine hK _ _ _ HH.out (.inr ⟨rfl, fun _ h => h.tail⟩) ?_
     clear hK K
     refine reg_l (some 13) (i := 5) rfl (by kernel_rfl) (fun wn hk K hK => ?_)
     replace HH := Lib.hid (hk _ _ HH.out)
     clear hk
     go_simp
     refine (fixSub_c wn x3 _ _ _ [x4] u3.out (rdInts_at [x4] (by intro i hi; simp at hi; subst hi; exact HH.out.cells.1 0) (by intro x hx; simp at hx; subst hx; exact u4.out) (by simp [maxLen]))).mono ?_
     rw [show sless x3 [x4] = ssub x3 x4 from by first | rfl | decide]
     rintro e wm ⟨rfl, hbel⟩
     replace HH := Lib.hid ((by first | exact .same hbel | exact .drew hbel | exact .below hbel : Kp wn wm) _ _ HH.out)
     clear hbel
     refine hK _ _ _ HH.out (.inr ⟨rfl, fun _ h => h⟩) ?_
     clear hK K
     refine reg_l (some 13) (i := 10) rfl (by kernel_rfl) (fun wn hk K hK => ?_)
     replace HH := Lib.hid (hk _ _ HH.out)
     clear hk
     go_simp
     refine (fixSub_c wn now _ _ _ [x6] h1.out (rdInts_at [x6] (by intro i hi; simp at hi; subst hi; exact HH.out.r2.cells.1 0) (by intro x hx; simp at hx; subst hx; exact u6.out) (by simp [maxLen]))).mono ?_
     rw [show sless now [x6] = ssub now x6 from by first | rfl | decide]
     rintro e wm ⟨rfl, hbel⟩
     replace HH := Lib.hid ((by first | exact .same hbel | exact .drew hbel | exact .below hbel : Kp wn wm) _ _ HH.out)
     clear hbel
     refine hK _ _ _ HH.out (.inr ⟨rfl, fun _ h => h⟩) ?_
     clear hK K
     refine reg_s 11 HH.out ?_
     refine reg_s 12 HH.out ?_
     refine reg_l none (i := 13) rfl (by kernel_rfl) (fun wn hk K hK => ?_)
     replace HH := Lib.hid (hk _ _ HH.out)
     clear hk
     have hx := HH.out
     have x1_ := hx.r3.cells
     have x3_ := hx.r5.cells
     go_simp
     replace HH := Lib.hid (HH.out.r3.set 1 (.int .u64 iv))
     simp only [List.setIfInBounds_toArray, List.set_cons_succ, List.set_cons_zero] at HH
     generalize wn.setCell ⟨sb, 1, none⟩ (.int .u64 iv) = wm at *
     clear hx x1_ x3_
     refine hK _ _ _ HH.out (.inl (by kernel_rfl)) ?_
     clear hK K
     refine mixk_done (by kernel_rfl) (fun w15_ hk => ?_) _
     replace HH := Lib.hid (hk _ _ HH.out)
     clear hk
    all_goals
     go_wp2_with fail
     go_meet
     case rel => exact HH.out.pn
   case rest =>
    clear HH hiv2
    have HH := Lib.hid hcut
    clear hcut
    (try clear cc1_); (try clear cc2_)
    have cc1_ := HH.out.cells
    by_cases hpos : 0 < iv
    ·have e8 : Spl.of ud now ⟨xn, xs, x3, x4, x5, x6, x7⟩ = ⟨ssub ud x5, iv, sshare (ssub ud x5) 1000000 iv, ssub now x3, x7⟩ := by unfold Spl.of; simp only; rw [hiv.out, if_pos hpos]
     replace e8 := Lib.hid e8
     go_wp2_with fail
     refine (fixShare_c _ (ssub ud x5) 1000000 iv hU3.out (by decide) hivU.out).mono ?_
     rintro e w16_ ⟨rfl, hbel⟩
     replace HH := Lib.hid ((by first | exact .same hbel | exact .drew hbel | exact .below hbel : Kp _ w16_) _ _ (by first | exact HH.out | exact HH.out.drewN _ | exact (HH.out.alloc _).tail | exact ((HH.out.alloc _).drewN _).tail | exact ((HH.out.alloc _).alloc _).tail.tail))
     clear hbel
     (try clear cc1_); (try clear cc2_)
     go_wp2_with (with_reducible refine stop_st ?_)
     refine Stop.go ?_
     refine wpList_store1_own (v := .int .u64 (sshare (ssub ud x5) 1000000 iv)) (k := 2) rfl rfl HH.out (by kernel_rfl) (by simp) (by first | rfl | assumption) ?_
     intro w17_ H9_
     replace HH := Lib.hid H9_
     clear H9_
     simp only [List.setIfInBounds_toArray, List.set_cons_succ, List.set_cons_zero] at HH
     (try clear cc1_); (try clear cc2_)
     have cc1_ := HH.out.cells
     go_wp2_with (with_reducible refine stop_st ?_)
     replace HH := Lib.hid HH.out.r4
     go_wp2_with (with_reducible refine stop_st ?_)
     refine Stop.go ?_
     refine wpList_store_own _ #[_, _, _, _, _] rfl rfl HH.out (by kernel_rfl) rfl (by repeat (first | (refine List.forall_mem_cons.2 ⟨(by first | with_reducible assumption | rfl), ?_⟩) | exact fun _ h => absurd h List.not_mem_nil)) ?_
     intro w18_ H9_
     replace HH := Lib.hid H9_
     clear H9_
     go_wp2_with fail
     refine bodyPost_cell rfl rfl rfl rfl Tryz.underlying85 rfl (by kernel_rfl) (HH.out) ?_
     refine ⟨p0, hp0.out, ?_⟩
     rw [hacc.out]
     simp only
     rw [hud, e8.out]
     refine ⟨rfl, ?_⟩
     rw [show (⟨d, a, f, mk⟩ : Smp).ack now ⟨xn, xs, x3, x4, x5, x6, x7⟩ nn = ⟨ud, now, x3, mk2⟩ by unfold Smp.ack; simp only; rw [hud, hmk2.out]]
     exact HH.out.pn
    ·have e8 : Spl.of ud now ⟨xn, xs, x3, x4, x5, x6, x7⟩ = ⟨ssub ud x5, iv, 0, ssub now x3, x7⟩ := by unfold Spl.of; simp only; rw [hiv.out, if_neg hpos]
     replace e8 := Lib.hid e8
     go_wp2_with (with_reducible refine stop_st ?_)
     replace HH := Lib.hid HH.out.r4
     go_wp2_with (with_reducible refine stop_st ?_)
     refine Stop.go ?_
     refine wpList_store_own _ #[_, _, _, _, _] rfl rfl HH.out (by kernel_rfl) rfl (by repeat (first | (refine List.forall_mem_cons.2 ⟨(by first | with_reducible assumption | rfl), ?_⟩) | exact fun _ h => absurd h List.not_mem_nil)) ?_
     intro w19_ H9_
     replace HH := Lib.hid H9_
     clear H9_
     go_wp2_with fail
     refine bodyPost_cell rfl rfl rfl rfl Tryz.underlying85 rfl (by kernel_rfl) (HH.out) ?_
     refine ⟨p0, hp0.out, ?_⟩
     rw [hacc.out]
     simp only
     rw [hud, e8.out]
     refine ⟨rfl, ?_⟩
     rw [show (⟨d, a, f, mk⟩ : Smp).ack now ⟨xn, xs, x3, x4, x5, x6, x7⟩ nn = ⟨ud, now, x3, mk2⟩ by unfold Smp.ack; simp only; rw [hud, hmk2.out]]
     exact HH.out.pn
end
end Go.Proofs.YtmkcpnlbicijoaaGreat
