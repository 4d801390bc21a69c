/- filt: the best. -/
import Derived.Test.YtmkcpnlbicijoaaGreatFilt
import Derived.Test.YtmkcpnlbicijoaaGreatLed3
import Derived.Test.YtmkcpnlbicijoaaGreatMixK
import Derived.Deep.Cut
namespace Go.Proofs.YtmkcpnlbicijoaaGreat
open Go.RowKit
section
variable (ε w : World) (R : List Asn) (b : Nat)
theorem filBetter_c (s : Fil) (x y : Int) (H : Own ε w (fil b s :: R)) :
  Calls Tryz.prog 142 #[.pointer (some ⟨b, 0, none⟩), .int .u64 x, .int .u64 y] w fun e w' => e = .returned (.bool (aheadOf s.least x y)) ∧ w = w' := by
 obtain ⟨rb, H⟩ := H.fil_open
 obtain ⟨c0, _⟩ := H.cells
 clear H
 obtain ⟨win, now, least, l⟩ := s
 cases least
 ·go_enter Tryz.func142, Tryz.ntmps142
  go_wp2_with fail
  go_ret
  exact ⟨rfl, rfl⟩
 ·go_enter Tryz.func142, Tryz.ntmps142
  go_wp2_with fail
  go_ret
  exact ⟨rfl, rfl⟩
theorem Fil.worse_snoc (least : Bool) (x : Int) (r : Int × Int) (l : List (Int × Int)) : Fil.worse least x (l ++ [r]) = if aheadOf least r.2 x then l ++ [r] else Fil.worse least x l := by
 unfold Fil.worse
 rw [List.reverse_append, List.reverse_cons, List.reverse_nil, List.nil_append, List.singleton_append, List.dropWhile_cons]
 cases aheadOf least r.2 x <;> simp
set_option maxRecDepth 100000 in
set_option maxHeartbeats 6400000 in
theorem filPut_c (s : Fil) (t x : Int) (hs : s.Ok) (hl : s.l.length ≤ 1000000) (H : Own ε w (fil b s :: R)) :
  Calls Tryz.prog 107 #[.pointer (some ⟨b, 0, none⟩), .int .u64 t, .int .u64 x] w fun e w' => e = .returned (.int .i64 (s.put t x).1) ∧ Own ε w' (fil b (s.put t x).2 :: R) := by
 have hTo := filTo_c ε w R b s t hs H
 obtain ⟨win, now, least, l⟩ := s
 by_cases hlt : t < now
 ·rw [show (⟨win, now, least, l⟩ : Fil).to t = (2, ⟨win, now, least, l⟩) from if_pos hlt] at hTo
  rw [show (⟨win, now, least, l⟩ : Fil).put t x = (2, ⟨win, now, least, l⟩) from if_pos hlt]
  go_enter Tryz.func107, Tryz.ntmps107
  go_wp2_with fail
  refine (hTo).mono ?_
  rintro e w2 ⟨rfl, H2⟩
  replace H2 := Lib.hid H2
  go_wp2_with fail
  go_ret
  exact ⟨rfl, H2.out⟩
 rw [show (⟨win, now, least, l⟩ : Fil).to t = (0, ⟨win, t, least, Fil.old win t l⟩) from if_neg hlt] at hTo
 rw [show (⟨win, now, least, l⟩ : Fil).put t x = (0, ⟨win, t, least, Fil.worse least x (Fil.old win t l) ++ [(t, x)]⟩) from if_neg hlt]
 have hl1 : (Fil.old win t l).length ≤ 1000000 := Nat.le_trans (List.dropWhile_sublist _).length_le hl
 obtain ⟨l1, hl2⟩ : ∃ l1, Fil.old win t l = l1 := ⟨_, rfl⟩
 rw [hl2] at hTo hl1 ⊢
 clear hl2 hl hs hlt
 go_enter Tryz.func107, Tryz.ntmps107
 go_wp2_with fail
 refine (hTo).mono ?_
 rintro e w2 ⟨rfl, H2⟩
 replace H2 := Lib.hid H2
 clear hTo
 obtain ⟨rb, H3⟩ := H2.out.fil_open
 replace H3 := Lib.hid H3
 clear H2 H
 go_wp2_with fail
 go_loopg [] l1.length (fun k wr => ∃ l' : List (Int × Int), l'.length = k ∧ l'.length ≤ 1000000 ∧ Fil.worse least x l' = Fil.worse least x l1 ∧ Own ε wr (pts b (.cells #[.pointer (some ⟨rb, 0, none⟩), .int .u64 win, .int .u64 t, .bool least] 159 (0, 0)) :: rgRing rb (l'.map encR) :: R))
 case atStart => exact ⟨l1, rfl, hl1, rfl, H3.out⟩
 case round =>
  obtain ⟨l', hk, hlen, hold, HR⟩ := hrel
  replace HR := Lib.hid HR
  replace hold := Lib.hid hold
  replace hk := Lib.hid hk
  have hat : ∃ p q fl, atC [.int .u64 0, .int .u64 0] (l'.map encR) ((l'.length : Int) - 1) = ([.int .u64 p, .int .u64 q], fl) ∧ (fl = false ∧ l' = [] ∨ fl = true ∧ ∃ l0, l' = l0 ++ [(p, q)]) := by
   rcases List.eq_nil_or_concat l' with h | ⟨l0, r, h⟩
   ·rw [h]; exact ⟨0, 0, false, by simp [atC], .inl ⟨rfl, rfl⟩⟩
   ·have e : l' = l0 ++ [r] := by simpa using h
    refine ⟨r.1, r.2, true, ?_, .inr ⟨rfl, l0, e⟩⟩
    have hln : (l'.length : Int) - 1 = (l0.length : Int) := by rw [e]; simp
    rw [hln, atC_in (by rw [e]; simp)]
    simp [e, encR]
  obtain ⟨p, q, fl, hat, hfl⟩ := hat
  replace hfl := Lib.hid hfl
  have hw9 : IntKind.i64.wrap ((l'.length : Int) - 1) = (l'.length : Int) - 1 := by rw [IntKind.wrap_i64]; omega
  obtain ⟨L, hL⟩ : ∃ L, l'.map encR = L := ⟨_, rfl⟩
  obtain ⟨m, hm⟩ : ∃ m, (l'.length : Int) - 1 = m := ⟨_, rfl⟩
  have hL2 : (L.length : Int) - 1 = m := by rw [← hL, List.length_map, hm]
  rw [hm, hL] at hat
  rw [hL] at HR
  rw [hm] at hw9
  have hw10 : IntKind.i64.wrap m = m := hw9
  have HH := HR
  clear HR
  go_wp2_with fail
  go_upto_region 5 with (fail)
  go_cut [9, 10] from 55 (fun s9 s10 wc => ∃ sb, s9 = .pointer (some ⟨sb, 0, none⟩) ∧ s10 = .bool fl ∧ Own ε wc (pts sb (.cells #[.int .u64 p, .int .u64 q] 154 (0, 0)) :: pts b (.cells #[.pointer (some ⟨rb, 0, none⟩), .int .u64 win, .int .u64 t, .bool least] 159 (0, 0)) :: rgRing rb L :: R))
  case first =>
   go_wp2_with fail
   refine wp_region_reg (some 10) HH.out (by kernel_rfl) ?_
   intro wm H9_
   replace HH := Lib.hid H9_
   clear H9_
   refine reg_s 0 HH.out ?_
   refine reg_s 1 HH.out ?_
   refine reg_s 2 HH.out ?_
   refine mixk_s 3 HH.out (fun _ hx => hx.cells) ?_
   refine reg_s 4 HH.out ?_
   refine reg_s 5 HH.out ?_
   refine reg_s 6 HH.out ?_
   refine mixk_s 7 HH.out (fun _ hx => hx.cells) ?_
   refine mixk_q (i := 8) rfl (by kernel_rfl) (fun _ _ _ _ h => h) HH.out (fun K hK => ?_)
   go_simp
   (first | refine hK _ ?_ | (apply Exists.intro; refine ⟨?_, hK _ ?_⟩; focus intro wx hx; first | (first | (go_at_call 134; refine (rgLen_c ε wx _ rb L hx.r2).mono ?_; rintro e wy ⟨rfl, hbel⟩; exact ⟨rfl, (by first | exact .same hbel | exact .drew hbel | exact .below hbel : Kp wx wy)⟩)) | (go_simp; first | rfl | exact ⟨rfl, rfl⟩) | rfl | exact ⟨rfl, rfl⟩)); clear hK K
   refine reg_s 9 HH.out ?_
   refine reg_two (some 15) (some 10) (i := 10) (j := 14) rfl rfl (by kernel_rfl) (fun wn hk K hK => ?g1_) (fun wn hk K hK => ?g2_)
   case' g1_ =>
    replace HH := Lib.hid (hk _ _ HH.out)
    clear hk
    go_simp
    refine (rgAt_c ε wn _ rb L m HH.out.r2).mono ?_
    rw [hat]
    rintro e wm ⟨rfl, H9_⟩
    replace HH := Lib.hid H9_
    clear H9_
    refine hK _ _ _ HH.out (.inl (by kernel_rfl)) ?_
    clear hK K
    refine reg_s 11 HH.out ?_
    refine reg_s 12 HH.out ?_
    refine reg_s 13 HH.out ?_
    refine reg_l (some 15) (i := 14) rfl (by kernel_rfl) (fun wn hk K hK => ?_)
    replace HH := Lib.hid (hk _ _ HH.out)
    clear hk
    go_simp
    replace HH := Lib.hid (HH.out.alloc (.cells #[.int .u64 0, .int .u64 0] 154))
    generalize wn.alloc (.cells #[.int .u64 0, .int .u64 0] 154) = wm at *
    generalize wn.heap.size = sx at *
    refine hK _ _ _ HH.out (.inr ⟨rfl, fun _ h => h.tail⟩) ?_
    clear hK K
    refine reg_l none (i := 15) rfl (by kernel_rfl) (fun wn hk K hK => ?_)
    replace HH := Lib.hid (hk _ _ HH.out)
    clear hk
    refine want rfl (wp_store_own _ #[_, _] rfl rfl rfl HH.out (by kernel_rfl) rfl (by repeat (first | (refine List.forall_mem_cons.2 ⟨(by first | with_reducible assumption | rfl), ?_⟩) | exact fun _ h => absurd h List.not_mem_nil)) ?_)
    intro wm H9_
    replace HH := Lib.hid H9_
    clear H9_
    refine hK _ _ _ HH.out (.inl (by kernel_rfl)) ?_
    clear hK K
    refine reg_s 16 HH.out ?_
    refine mixk_done (by kernel_rfl) (fun w1_ hk => ?_) _
    replace HH := Lib.hid (hk _ _ HH.out)
    clear hk
   case' g2_ =>
    replace HH := Lib.hid (hk _ _ HH.out)
    clear hk
    go_simp
    replace HH := Lib.hid (HH.out.alloc (.cells #[.int .u64 0, .int .u64 0] 154))
    generalize wn.alloc (.cells #[.int .u64 0, .int .u64 0] 154) = wm at *
    generalize wn.heap.size = sx at *
    refine hK _ _ _ HH.out (.inr ⟨rfl, fun _ h => h.tail⟩) ?_
    clear hK K
    refine reg_l (some 15) (i := 10) rfl (by kernel_rfl) (fun wn hk K hK => ?_)
    replace HH := Lib.hid (hk _ _ HH.out)
    clear hk
    go_simp
    refine (rgAt_c ε wn _ rb L m HH.out.r3).mono ?_
    rw [hat]
    rintro e wm ⟨rfl, H9_⟩
    replace HH := Lib.hid H9_
    clear H9_
    refine hK _ _ _ HH.out (.inl (by kernel_rfl)) ?_
    clear hK K
    refine reg_s 11 HH.out ?_
    refine reg_s 12 HH.out ?_
    refine reg_s 13 HH.out ?_
    refine reg_l none (i := 15) rfl (by kernel_rfl) (fun wn hk K hK => ?_)
    replace HH := Lib.hid (hk _ _ HH.out)
    clear hk
    refine want rfl (wp_store_own _ #[_, _] rfl rfl rfl HH.out.r2 (by kernel_rfl) rfl (by repeat (first | (refine List.forall_mem_cons.2 ⟨(by first | with_reducible assumption | rfl), ?_⟩) | exact fun _ h => absurd h List.not_mem_nil)) ?_)
    intro wm H9_
    replace HH := Lib.hid H9_
    clear H9_
    refine hK _ _ _ HH.out (.inl (by kernel_rfl)) ?_
    clear hK K
    refine reg_s 16 HH.out ?_
    refine mixk_done (by kernel_rfl) (fun w1_ hk => ?_) _
    replace HH := Lib.hid (hk _ _ HH.out)
    clear hk
   all_goals
    go_wp2_with fail
    go_meet
    case rel => exact ⟨_, rfl, rfl, HH.out.pn⟩
  case rest =>
   clear HH
   obtain ⟨sb, rfl, rfl, HR⟩ := hcut
   have HH := Lib.hid HR
   clear HR
   replace hL := Lib.hid hL
   replace hlen := Lib.hid hlen
   clear hw9 hw10 hat hL2 hm
   rcases hfl.out with ⟨rfl, hl0⟩ | ⟨rfl, l0, hl0⟩
   ·have hw0 : Fil.worse least x l1 = l' := by rw [← hold.out, hl0]; rfl
    replace hw0 := Lib.hid hw0
    replace hl0 := Lib.hid hl0
    (try clear cc1_); (try clear cc2_)
    have cc2_ := HH.out.r2.cells
    go_wp2_with fail
    refine (rgPush_c ε _ _ rb L (.int .u64 t) (.int .u64 x) rfl rfl (by rw [← hL.out, List.length_map]; exact hlen.out) HH.out.r3).mono ?_
    rintro e w2_ ⟨rfl, H9_⟩
    replace HH := Lib.hid H9_
    clear H9_
    go_wp2_with fail
    go_ret
    refine ⟨rfl, Own.fil_mk ε _ R b (rb := rb) ?_⟩
    rw [hw0.out]
    simp only [List.map_append, List.map_cons, List.map_nil, hL.out, encR]
    have H9 := (HH.out.pn : Own ε _ (pts b _ :: rgRing rb _ :: R))
    exact H9
   ·replace hl0 := Lib.hid hl0
    have hbet := fun wx (Hx : Own ε wx (pts b (.cells #[.pointer (some ⟨rb, 0, none⟩), .int .u64 win, .int .u64 t, .bool least] 159 (0, 0)) :: rgRing rb L :: R)) => filBetter_c ε wx R b ⟨win, t, least, l'⟩ q x (Own.fil_mk ε wx R b (rb := rb) (by rw [hL.out]; exact Hx))
    replace hbet := Lib.hid hbet
    by_cases ha : aheadOf least q x = true
    ·have hw0 : Fil.worse least x l1 = l' := by rw [← hold.out, hl0.out, Fil.worse_snoc, if_pos ha]
     replace hw0 := Lib.hid hw0
     (try clear cc1_); (try clear cc2_)
     have cc1_ := HH.out.cells
     go_wp2_with fail
     refine (hbet.out _ HH.out.tail).mono ?_
     rintro e w3_ ⟨rfl, hbel⟩
     replace HH := Lib.hid ((by first | exact .same hbel | exact .drew hbel | exact .below hbel : Kp _ w3_) _ _ (by first | exact HH.out | exact HH.out.drewN _ | exact (HH.out.alloc _).tail | exact ((HH.out.alloc _).drewN _).tail | exact ((HH.out.alloc _).alloc _).tail.tail))
     clear hbel
     (try clear cc1_); (try clear cc2_)
     have cc2_ := HH.out.r2.cells
     go_wp2_with fail
     refine (rgPush_c ε _ _ rb L (.int .u64 t) (.int .u64 x) rfl rfl (by rw [← hL.out, List.length_map]; exact hlen.out) HH.out.r3).mono ?_
     rintro e w4_ ⟨rfl, H9_⟩
     replace HH := Lib.hid H9_
     clear H9_
     go_wp2_with fail
     go_ret
     refine ⟨rfl, Own.fil_mk ε _ R b (rb := rb) ?_⟩
     rw [hw0.out]
     simp only [List.map_append, List.map_cons, List.map_nil, hL.out, encR]
     have H9 := (HH.out.pn : Own ε _ (pts b _ :: rgRing rb _ :: R))
     exact H9
    ·have ha2 : aheadOf least q x = false := by simpa using ha
     have hw0 : Fil.worse least x l0 = Fil.worse least x l1 := by rw [← hold.out, hl0.out, Fil.worse_snoc, if_neg ha]
     replace hw0 := Lib.hid hw0
     clear ha
     (try clear cc1_); (try clear cc2_)
     have cc1_ := HH.out.cells
     go_wp2_with fail
     refine (hbet.out _ HH.out.tail).mono ?_
     rintro e w5_ ⟨rfl, hbel⟩
     replace HH := Lib.hid ((by first | exact .same hbel | exact .drew hbel | exact .below hbel : Kp _ w5_) _ _ (by first | exact HH.out | exact HH.out.drewN _ | exact (HH.out.alloc _).tail | exact ((HH.out.alloc _).drewN _).tail | exact ((HH.out.alloc _).alloc _).tail.tail))
     clear hbel
     (try clear cc1_); (try clear cc2_)
     have cc2_ := HH.out.r2.cells
     go_wp2_with fail
     refine (rgPop_c ε _ _ rb L HH.out.r3).mono ?_
     rintro e w6_ ⟨rfl, H9_⟩
     replace HH := Lib.hid H9_
     clear H9_
     (try clear cc1_); (try clear cc2_)
     go_wp2_with fail
     have hdl : L.dropLast = l0.map encR := by rw [← hL.out, hl0.out]; simp
     rw [hdl] at HH
     go_roundg l0.length
     case measure => have := hk.out; rw [hl0.out] at this; simp at this; omega
     case rel => exact ⟨l0, rfl, by have := hlen.out; rw [hl0.out] at this; simp at this; omega, hw0.out, HH.out.pn⟩
end
end Go.Proofs.YtmkcpnlbicijoaaGreat
namespace Go.Proofs.YtmkcpnlbicijoaaGreat
open Go.RowKit
section
variable (ε w : World) (R : List Asn) (b : Nat)
set_option maxHeartbeats 1600000 in
theorem filBest_c (s : Fil) (H : Own ε w (fil b s :: R)) :
  Calls Tryz.prog 53 #[.pointer (some ⟨b, 0, none⟩)] w fun e w' => e = .returned (.tuple #[.int .u64 s.best.1.2, .int .u64 s.best.1.1, .bool s.best.2]) ∧ Own ε w' (fil b s :: R) := by
 obtain ⟨rb, H⟩ := H.fil_open
 have HH := Lib.hid H; clear H
 obtain ⟨win, now, least, l⟩ := s
 have hat : atC [.int .u64 0, .int .u64 0] (l.map encR) 0 = ([.int .u64 (⟨win, now, least, l⟩ : Fil).best.1.1, .int .u64 (⟨win, now, least, l⟩ : Fil).best.1.2], (⟨win, now, least, l⟩ : Fil).best.2) := by
  cases l with
  | nil => simp [atC, Fil.best]
  | cons r l => rw [show (0 : Int) = ((0 : Nat) : Int) from rfl, atC_in (by simp)]; rfl
 generalize (⟨win, now, least, l⟩ : Fil).best = r at hat ⊢
 obtain ⟨⟨p, q⟩, fl⟩ := r
 replace hat := Lib.hid hat
 go_enter Tryz.func53, Tryz.ntmps53
 (try clear cc1_); (try clear cc2_)
 have cc1_ := HH.out.cells
 go_wp2_with fail
 refine (rgAt_c ε _ _ rb (l.map encR) 0 HH.out.r2).mono ?_
 rw [hat.out]
 rintro e w1_ ⟨rfl, H9_⟩
 replace HH := Lib.hid H9_
 clear H9_
 (try clear cc1_); (try clear cc2_)
 go_wp2_with (with_reducible refine stop_al ?_)
 refine Stop.go ?_
 refine wpList_alloc_own HH.out [.int .u64 0, .int .u64 0] (by kernel_rfl) ?_
 intro sx w2_ H9_
 replace HH := Lib.hid H9_
 clear H9_
 go_wp2_with (with_reducible refine stop_st ?_)
 refine Stop.go ?_
 refine wpList_store_own _ #[_, _] rfl rfl HH.out (by kernel_rfl) rfl (by repeat (first | (refine List.forall_mem_cons.2 ⟨(by first | with_reducible assumption | rfl), ?_⟩) | exact fun _ h => absurd h List.not_mem_nil)) ?_
 intro w3_ H9_
 replace HH := Lib.hid H9_
 clear H9_
 go_wp2_with fail
 refine wp_region_reg none HH.out (by kernel_rfl) ?_
 intro wm H9_
 replace HH := Lib.hid H9_
 clear H9_
 refine reg_s 0 HH.out ?_
 refine mixk_s 1 HH.out (fun _ hx => hx.cells) ?_
 refine reg_s 2 HH.out ?_
 refine mixk_s 3 HH.out (fun _ hx => hx.cells) ?_
 refine reg_s 4 HH.out ?_
 refine reg_s 5 HH.out ?_
 refine reg_s 6 HH.out ?_
 refine reg_s 7 HH.out ?_
 refine mixk_done (by kernel_rfl) (fun w4_ hk => ?_) _
 replace HH := Lib.hid (hk _ _ HH.out)
 clear hk
 go_wp2_with fail
 go_ret3
 have H9 := (HH.out.pn : Own ε _ (pts b _ :: rgRing rb _ :: R))
 exact ⟨rfl, Own.fil_mk ε _ R b (s := ⟨win, now, least, l⟩) H9⟩
end
end Go.Proofs.YtmkcpnlbicijoaaGreat
