/- link: LinkPlays. -/
import Derived.Test.YtklohjjkpobneaaLinkT
import Derived.Test.YtklohjjkpobneaaSame08
import Derived.Deep.Cut
namespace Go.Proofs.Ytklohjjkpobneaa
open Go.RowKit
/-- What a round of the law leaves. -/
structure LPl (k frm : Nat) (s : Lnk) : Prop where
  ok : s.Ok
  now : s.b.now = s.now
  len : s.len ≤ frm
  few : frm ≤ 60 * k
theorem serveN_bnow (n : Nat) (ch : List Int) (s : Lnk) : (Lnk.serveN n ch s).b.now = s.b.now := by
  induction n generalizing ch s with
  | zero => rfl
  | succ n ih =>
    cases hq : s.q.l with
    | nil => rw [serveN_none hq]
    | cons p l =>
      rw [serveN_step hq]
      split
      · rw [ih]
        show (s.b.take p.size).2.now = s.b.now
        unfold Bkt.take; split <;> rfl
      · rfl
theorem tick_now {s : Lnk} {t w : Int} {ch : List Int} (h : s.b.now = s.now) (ht : s.now ≤ t) : (s.tick t w ch).b.now = (s.tick t w ch).now := by
  have e1 : (((s.begin t).serve ch).spill w).b.now = ((s.begin t).serve ch).b.now ∧ (((s.begin t).serve ch).spill w).now = ((s.begin t).serve ch).now := by
    unfold Lnk.spill
    split
    · refine ⟨?_, rfl⟩
      show (((s.begin t).serve ch).b.waste w).2.now = _
      unfold Bkt.waste; split <;> rfl
    · exact ⟨rfl, rfl⟩
  show (((s.begin t).serve ch).spill w).b.now = (((s.begin t).serve ch).spill w).now
  rw [e1.1, e1.2]
  have e2 : ((s.begin t).serve ch).b.now = (s.begin t).b.now := serveN_bnow _ _ _
  have e3 : ((s.begin t).serve ch).now = t := (serveN_was _ _ _).2
  rw [e2, e3]
  show (s.b.to t).now = t
  unfold Bkt.to
  split
  · rename_i h2; rw [h] at h2 ⊢; omega
  · rfl
/-- One act, times saturating. -/
def Lnk.play (s : Lnk) (frm : Nat) (a : LAct) : Lnk := if a.tick then s.tick (sadd s.now a.after) a.waste a.ch else (s.send (mkPks frm a.sizes)).1
theorem LPl.act {k frm : Nat} {s : Lnk} {a : LAct} (h : LPl k frm s) (hk : k < 60) (ha : a.Ok) (hf : a.few) : LPl (k + 1) (actFrm frm a) (s.play frm a) := by
  obtain ⟨u1, u2, u3, u4⟩ := ha
  have hfew := h.few
  have hlen := h.len
  have h60 := hf.1
  have hle : s.now ≤ sadd s.now a.after := by have h1 := h.ok.now; unfold U at h1 u1; unfold sadd; split <;> omega
  unfold Lnk.play actFrm
  cases a.tick with
  | true =>
    simp only [if_true]
    exact ⟨Lnk.ok_tick h.ok (U_sadd h.ok.now u1) u2 u4, tick_now h.now hle, Nat.le_trans (Lnk.len_tick _ _ _ _) hlen, by omega⟩
  | false =>
    simp only [Bool.false_eq_true, if_false]
    have hln := sendF_len (s, 0) (mkPks frm a.sizes)
    rw [mkPks_len] at hln
    obtain ⟨ex, _, k2, _, k4⟩ := sendF_keep (s, 0) (mkPks frm a.sizes)
    refine ⟨Lnk.ok_send h.ok (mkPks_ok (by omega) u3), ?_, ?_, by omega⟩
    · show ((mkPks frm a.sizes).foldl sendF (s, 0)).1.b.now = ((mkPks frm a.sizes).foldl sendF (s, 0)).1.now
      rw [k2, k4]; exact h.now
    · show ((mkPks frm a.sizes).foldl sendF (s, 0)).1.len ≤ _
      simp only at hln
      omega
section
variable (w : World)
set_option maxRecDepth 100000 in
set_option maxHeartbeats 12800000 in
theorem linkPlays_c (cs : Array Value) (_hz : cs.size = 4) (pt : PathT) (hp : rdPath w cs.toList pt) (A : Option Addr) (len cap : Nat) (xs : List LActT) (hr : rdSlice rdLAct 5 w [.slice A len cap] xs) :
    Calls Try.prog 8 #[.agg cs, .slice A len cap] w fun e w' => e = .returned (.bool true) ∧ Own w w' [old w] := by
  have HH := Lib.hid (Own.init w)
  obtain ⟨p1, p2, p3, p4, _⟩ := pt
  obtain ⟨hcs, u1, u2, u3, u4⟩ := rdPath_open hp
  simp only at hcs u1 u2 u3 u4
  have hcs := arr_of_list hcs
  subst hcs
  clear hp _hz
  obtain ⟨hA, hm, hok⟩ := lacts_rd hr
  clear hr
  generalize xs.map LActT.a = acts at hA hok
  have hln := hA.1
  replace hA := Lib.hid hA
  replace hok := Lib.hid hok
  replace u1 := Lib.hid u1
  replace u2 := Lib.hid u2
  replace u3 := Lib.hid u3
  replace u4 := Lib.hid u4
  obtain ⟨rt, hrt⟩ : ∃ rt, rightB p1 p2 p3 p4 = rt := ⟨_, rfl⟩
  replace hrt := Lib.hid hrt
  go_enter Try.func8, Try.ntmps8
  go_wp2_with (with_reducible refine stop_bx ?_)
  refine Stop.go ?_
  refine wpList_box_own HH.out [_, _, _, _] rfl ?_
  intro pb w1_ H9_
  replace HH := Lib.hid H9_
  clear H9_
  go_wp2_with fail
  refine (fits21_c _ A len cap acts hm (hA.out.old (Own.pm (HH.out) (by repeat (first | with_reducible exact Pm.refl _ | with_reducible exact Pm.nil _ | with_reducible refine Pm.here ?_ | with_reducible refine Pm.at2 ?_ | with_reducible refine Pm.at3 ?_ | with_reducible refine Pm.at4 ?_ | with_reducible refine Pm.at5 ?_ | with_reducible refine Pm.at6 ?_ | with_reducible refine Pm.at7 ?_ | with_reducible refine Pm.at8 ?_ | with_reducible refine Pm.skip ?_))))).mono ?_
  rintro e w9 ⟨bl, rfl, rfl, hfit⟩
  replace hfit := Lib.hid hfit
  cases bl
  case' false =>
    go_wp2_with fail
    refine (alive21_k _).mono ?_
    rintro e w2_ ⟨rfl, hbel⟩
    replace HH := Lib.hid ((by first | exact Kp.same hbel | exact Kp.drew hbel | exact Kp.below hbel : Kp _ w2_) _ _ (by first | exact HH.out | exact HH.out.drewN _ | exact (HH.out.alloc _).tail | exact ((HH.out.alloc _).drewN _).tail | exact ((HH.out.alloc _).alloc _).tail.tail))
    clear hbel
    go_wp2_with fail
    go_ret
    exact ⟨rfl, (Own.pm (HH.out) (by repeat (first | with_reducible exact Pm.refl _ | with_reducible exact Pm.nil _ | with_reducible refine Pm.here ?_ | with_reducible refine Pm.at2 ?_ | with_reducible refine Pm.at3 ?_ | with_reducible refine Pm.at4 ?_ | with_reducible refine Pm.at5 ?_ | with_reducible refine Pm.at6 ?_ | with_reducible refine Pm.at7 ?_ | with_reducible refine Pm.at8 ?_ | with_reducible refine Pm.skip ?_)))⟩
  obtain ⟨hlen60, hfew⟩ := hfit.out rfl
  clear hfit
  rw [hln] at hlen60
  replace hfew := Lib.hid hfew
  cases rt
  case' false =>
    (try clear cc1_); (try clear cc2_); (try clear cc3_); (try clear cc4_); (try clear cc5_); (try clear cc6_); (try clear cc7_)
    have cc1_ := HH.out.cells
    go_wp2_with fail
    refine (linkNew_no w _ _ p1 p2 p3 p4 hrt.out HH.out).mono ?_
    rintro e w3_ ⟨rfl, H9_⟩
    replace HH := Lib.hid H9_
    clear H9_
    (try clear cc1_); (try clear cc2_); (try clear cc3_); (try clear cc4_); (try clear cc5_); (try clear cc6_); (try clear cc7_)
    have cc1_ := HH.out.cells
    go_wp2_with fail
    refine (ref21New_no w _ _ p1 p2 p3 p4 hrt.out HH.out).mono ?_
    rintro e w4_ ⟨rfl, H9_⟩
    replace HH := Lib.hid H9_
    clear H9_
    (try clear cc1_); (try clear cc2_); (try clear cc3_); (try clear cc4_); (try clear cc5_); (try clear cc6_); (try clear cc7_)
    go_wp2_with fail
    go_wp2_with fail
    refine wp_region_reg none HH.out (by kernel_rfl) ?_
    intro wm H9_
    replace HH := Lib.hid H9_
    clear H9_
    refine mixk_q (i := 0) rfl (by kernel_rfl) (fun _ _ _ _ h => h) HH.out (fun K hK => ?_)
    go_simp
    first | (refine hK _ ?_; clear hK K) | (apply Exists.intro; refine ⟨?_, hK _ ?_⟩; (focus (intro wx hx; have x1_ := ((Own.pm (hx) (by repeat (first | with_reducible exact Pm.refl _ | with_reducible exact Pm.nil _ | with_reducible refine Pm.here ?_ | with_reducible refine Pm.at2 ?_ | with_reducible refine Pm.at3 ?_ | with_reducible refine Pm.at4 ?_ | with_reducible refine Pm.at5 ?_ | with_reducible refine Pm.at6 ?_ | with_reducible refine Pm.at7 ?_ | with_reducible refine Pm.at8 ?_ | with_reducible refine Pm.skip ?_))) : Own w _ (pts pb (.cells #[.int .u64 p1, .int .u64 p2, .int .u64 p3, .int .u64 p4] 78 (0, 0)) :: [old w])).cells; first | (go_simp; first | rfl | exact ⟨rfl, rfl⟩) | rfl | exact ⟨rfl, rfl⟩)); clear hK K)
    refine mixk_q (i := 2) rfl (by kernel_rfl) (fun _ _ _ _ h => h) HH.out (fun K hK => ?_)
    go_simp
    first | (refine hK _ ?_; clear hK K) | (apply Exists.intro; refine ⟨?_, hK _ ?_⟩; (focus (intro wx hx; have x1_ := ((Own.pm (hx) (by repeat (first | with_reducible exact Pm.refl _ | with_reducible exact Pm.nil _ | with_reducible refine Pm.here ?_ | with_reducible refine Pm.at2 ?_ | with_reducible refine Pm.at3 ?_ | with_reducible refine Pm.at4 ?_ | with_reducible refine Pm.at5 ?_ | with_reducible refine Pm.at6 ?_ | with_reducible refine Pm.at7 ?_ | with_reducible refine Pm.at8 ?_ | with_reducible refine Pm.skip ?_))) : Own w _ (pts pb (.cells #[.int .u64 p1, .int .u64 p2, .int .u64 p3, .int .u64 p4] 78 (0, 0)) :: [old w])).cells; first | (go_simp; first | rfl | exact ⟨rfl, rfl⟩) | rfl | exact ⟨rfl, rfl⟩)); clear hK K)
    refine reg_l none (i := 1) rfl (by kernel_rfl) (fun wn hk K hK => ?_)
    replace HH := Lib.hid (hk _ _ HH.out)
    clear hk
    go_simp
    refine (linkRight_c w wn _ p1 p2 p3 p4 HH.out).mono ?_
    rw [hrt.out]
    rintro e wm ⟨rfl, H9_⟩
    replace HH := Lib.hid H9_
    clear H9_
    refine hK _ _ _ HH.out (.inr ⟨rfl, fun _ h => (Own.pm (h) (by repeat (first | with_reducible exact Pm.refl _ | with_reducible exact Pm.nil _ | with_reducible refine Pm.here ?_ | with_reducible refine Pm.at2 ?_ | with_reducible refine Pm.at3 ?_ | with_reducible refine Pm.at4 ?_ | with_reducible refine Pm.at5 ?_ | with_reducible refine Pm.at6 ?_ | with_reducible refine Pm.at7 ?_ | with_reducible refine Pm.at8 ?_ | with_reducible refine Pm.skip ?_)))⟩) ?_
    clear hK K
    refine reg_l none (i := 3) rfl (by kernel_rfl) (fun wn hk K hK => ?_)
    replace HH := Lib.hid (hk _ _ HH.out)
    clear hk
    go_simp
    refine (right18_c w wn _ p1 p2 p3 p4 HH.out).mono ?_
    rw [hrt.out]
    rintro e wm ⟨rfl, H9_⟩
    replace HH := Lib.hid H9_
    clear H9_
    refine hK _ _ _ HH.out (.inr ⟨rfl, fun _ h => (Own.pm (h) (by repeat (first | with_reducible exact Pm.refl _ | with_reducible exact Pm.nil _ | with_reducible refine Pm.here ?_ | with_reducible refine Pm.at2 ?_ | with_reducible refine Pm.at3 ?_ | with_reducible refine Pm.at4 ?_ | with_reducible refine Pm.at5 ?_ | with_reducible refine Pm.at6 ?_ | with_reducible refine Pm.at7 ?_ | with_reducible refine Pm.at8 ?_ | with_reducible refine Pm.skip ?_)))⟩) ?_
    clear hK K
    refine reg_p (i := 4) rfl (by kernel_rfl) (fun _ _ _ _ h => h) HH.out (fun K hK => ?_)
    go_simp
    first | (refine hK _ ?_; clear hK K) | (apply Exists.intro; refine ⟨?_, hK _ ?_⟩; (focus (intro wx; first | (go_simp; first | rfl) | rfl)); clear hK K)
    refine reg_p (i := 5) rfl (by kernel_rfl) (fun _ _ _ _ h => h) HH.out (fun K hK => ?_)
    go_simp
    first | (refine hK _ ?_; clear hK K) | (apply Exists.intro; refine ⟨?_, hK _ ?_⟩; (focus (intro wx; first | (go_simp; first | rfl) | rfl)); clear hK K)
    refine reg_p (i := 6) rfl (by kernel_rfl) (fun _ _ _ _ h => h) HH.out (fun K hK => ?_)
    go_simp
    first | (refine hK _ ?_; clear hK K) | (apply Exists.intro; refine ⟨?_, hK _ ?_⟩; (focus (intro wx; first | (go_simp; first | rfl) | rfl)); clear hK K)
    refine reg_p (i := 7) rfl (by kernel_rfl) (fun _ _ _ _ h => h) HH.out (fun K hK => ?_)
    go_simp
    first | (refine hK _ ?_; clear hK K) | (apply Exists.intro; refine ⟨?_, hK _ ?_⟩; (focus (intro wx; first | (go_simp; first | rfl) | rfl)); clear hK K)
    refine reg_p (i := 8) rfl (by kernel_rfl) (fun _ _ _ _ h => h) HH.out (fun K hK => ?_)
    go_simp
    first | (refine hK _ ?_; clear hK K) | (apply Exists.intro; refine ⟨?_, hK _ ?_⟩; (focus (intro wx; first | (go_simp; first | rfl) | rfl)); clear hK K)
    refine reg_p (i := 9) rfl (by kernel_rfl) (fun _ _ _ _ h => h) HH.out (fun K hK => ?_)
    go_simp
    first | (refine hK _ ?_; clear hK K) | (apply Exists.intro; refine ⟨?_, hK _ ?_⟩; (focus (intro wx; first | (go_simp; first | rfl) | rfl)); clear hK K)
    refine reg_p (i := 10) rfl (by kernel_rfl) (fun _ _ _ _ h => h) HH.out (fun K hK => ?_)
    go_simp
    first | (refine hK _ ?_; clear hK K) | (apply Exists.intro; refine ⟨?_, hK _ ?_⟩; (focus (intro wx; first | (go_simp; first | rfl) | rfl)); clear hK K)
    refine reg_p (i := 11) rfl (by kernel_rfl) (fun _ _ _ _ h => h) HH.out (fun K hK => ?_)
    go_simp
    first | (refine hK _ ?_; clear hK K) | (apply Exists.intro; refine ⟨?_, hK _ ?_⟩; (focus (intro wx; first | (go_simp; first | rfl) | rfl)); clear hK K)
    refine reg_p (i := 12) rfl (by kernel_rfl) (fun _ _ _ _ h => h) HH.out (fun K hK => ?_)
    go_simp
    first | (refine hK _ ?_; clear hK K) | (apply Exists.intro; refine ⟨?_, hK _ ?_⟩; (focus (intro wx; first | (go_simp; first | rfl) | rfl)); clear hK K)
    refine reg_p (i := 13) rfl (by kernel_rfl) (fun _ _ _ _ h => h) HH.out (fun K hK => ?_)
    go_simp
    first | (refine hK _ ?_; clear hK K) | (apply Exists.intro; refine ⟨?_, hK _ ?_⟩; (focus (intro wx; first | (go_simp; first | rfl) | rfl)); clear hK K)
    refine reg_p (i := 14) rfl (by kernel_rfl) (fun _ _ _ _ h => h) HH.out (fun K hK => ?_)
    go_simp
    first | (refine hK _ ?_; clear hK K) | (apply Exists.intro; refine ⟨?_, hK _ ?_⟩; (focus (intro wx; first | (go_simp; first | rfl) | rfl)); clear hK K)
    refine reg_p (i := 15) rfl (by kernel_rfl) (fun _ _ _ _ h => h) HH.out (fun K hK => ?_)
    go_simp
    first | (refine hK _ ?_; clear hK K) | (apply Exists.intro; refine ⟨?_, hK _ ?_⟩; (focus (intro wx; first | (go_simp; first | rfl) | rfl)); clear hK K)
    refine reg_p (i := 16) rfl (by kernel_rfl) (fun _ _ _ _ h => h) HH.out (fun K hK => ?_)
    go_simp
    first | (refine hK _ ?_; clear hK K) | (apply Exists.intro; refine ⟨?_, hK _ ?_⟩; (focus (intro wx; first | (go_simp; first | rfl) | rfl)); clear hK K)
    refine reg_p (i := 17) rfl (by kernel_rfl) (fun _ _ _ _ h => h) HH.out (fun K hK => ?_)
    go_simp
    first | (refine hK _ ?_; clear hK K) | (apply Exists.intro; refine ⟨?_, hK _ ?_⟩; (focus (intro wx; first | (go_simp; first | rfl) | rfl)); clear hK K)
    refine mixk_done (by kernel_rfl) (fun w5_ hk => ?_) _
    replace HH := Lib.hid (hk _ _ HH.out)
    clear hk
    go_wp2_with fail
    refine (alive21_k _).mono ?_
    rintro e w6_ ⟨rfl, hbel⟩
    replace HH := Lib.hid ((by first | exact Kp.same hbel | exact Kp.drew hbel | exact Kp.below hbel : Kp _ w6_) _ _ (by first | exact HH.out | exact HH.out.drewN _ | exact (HH.out.alloc _).tail | exact ((HH.out.alloc _).drewN _).tail | exact ((HH.out.alloc _).alloc _).tail.tail))
    clear hbel
    go_wp2_with fail
    go_ret
    exact ⟨rfl, (Own.pm (HH.out) (by repeat (first | with_reducible exact Pm.refl _ | with_reducible exact Pm.nil _ | with_reducible refine Pm.here ?_ | with_reducible refine Pm.at2 ?_ | with_reducible refine Pm.at3 ?_ | with_reducible refine Pm.at4 ?_ | with_reducible refine Pm.at5 ?_ | with_reducible refine Pm.at6 ?_ | with_reducible refine Pm.at7 ?_ | with_reducible refine Pm.at8 ?_ | with_reducible refine Pm.skip ?_)))⟩
  (try clear cc1_); (try clear cc2_); (try clear cc3_); (try clear cc4_); (try clear cc5_); (try clear cc6_); (try clear cc7_)
  have cc1_ := HH.out.cells
  go_wp2_with fail
  refine (linkNew_c w _ _ p1 p2 p3 p4 hrt.out HH.out).mono ?_
  rintro e w7_ ⟨b, rfl, H9_⟩
  replace HH := Lib.hid H9_
  clear H9_
  replace HH := Lib.hid ((Own.pm (HH.out) (by repeat (first | with_reducible exact Pm.refl _ | with_reducible exact Pm.nil _ | with_reducible refine Pm.here ?_ | with_reducible refine Pm.at2 ?_ | with_reducible refine Pm.at3 ?_ | with_reducible refine Pm.at4 ?_ | with_reducible refine Pm.at5 ?_ | with_reducible refine Pm.at6 ?_ | with_reducible refine Pm.at7 ?_ | with_reducible refine Pm.at8 ?_ | with_reducible refine Pm.skip ?_))) : Own w _ (pts pb _ :: lnk b _ :: [old w]))
  (try clear cc1_); (try clear cc2_); (try clear cc3_); (try clear cc4_); (try clear cc5_); (try clear cc6_); (try clear cc7_)
  have cc1_ := HH.out.cells
  go_wp2_with fail
  refine (ref21New_c w _ _ p1 p2 p3 p4 hrt.out HH.out).mono ?_
  rintro e w8_ ⟨d, rfl, H9_⟩
  replace HH := Lib.hid H9_
  clear H9_
  replace HH := Lib.hid ((Own.pm (HH.out) (by repeat (first | with_reducible exact Pm.refl _ | with_reducible exact Pm.nil _ | with_reducible refine Pm.here ?_ | with_reducible refine Pm.at2 ?_ | with_reducible refine Pm.at3 ?_ | with_reducible refine Pm.at4 ?_ | with_reducible refine Pm.at5 ?_ | with_reducible refine Pm.at6 ?_ | with_reducible refine Pm.at7 ?_ | with_reducible refine Pm.at8 ?_ | with_reducible refine Pm.skip ?_))) : Own w _ (pts pb _ :: lnk b _ :: rl21 d _ :: [old w]))
  (try clear cc1_); (try clear cc2_); (try clear cc3_); (try clear cc4_); (try clear cc5_); (try clear cc6_); (try clear cc7_)
  go_wp2_with fail
  go_wp2_with fail
  refine wp_region_reg none HH.out (by kernel_rfl) ?_
  intro wm H9_
  replace HH := Lib.hid H9_
  clear H9_
  refine mixk_q (i := 0) rfl (by kernel_rfl) (fun _ _ _ _ h => h) HH.out (fun K hK => ?_)
  go_simp
  first | (refine hK _ ?_; clear hK K) | (apply Exists.intro; refine ⟨?_, hK _ ?_⟩; (focus (intro wx hx; have x1_ := ((Own.pm (hx) (by repeat (first | with_reducible exact Pm.refl _ | with_reducible exact Pm.nil _ | with_reducible refine Pm.here ?_ | with_reducible refine Pm.at2 ?_ | with_reducible refine Pm.at3 ?_ | with_reducible refine Pm.at4 ?_ | with_reducible refine Pm.at5 ?_ | with_reducible refine Pm.at6 ?_ | with_reducible refine Pm.at7 ?_ | with_reducible refine Pm.at8 ?_ | with_reducible refine Pm.skip ?_))) : Own w _ (pts pb (.cells #[.int .u64 p1, .int .u64 p2, .int .u64 p3, .int .u64 p4] 78 (0, 0)) :: [old w])).cells; first | (go_simp; first | rfl | exact ⟨rfl, rfl⟩) | rfl | exact ⟨rfl, rfl⟩)); clear hK K)
  refine mixk_q (i := 2) rfl (by kernel_rfl) (fun _ _ _ _ h => h) HH.out (fun K hK => ?_)
  go_simp
  first | (refine hK _ ?_; clear hK K) | (apply Exists.intro; refine ⟨?_, hK _ ?_⟩; (focus (intro wx hx; have x1_ := ((Own.pm (hx) (by repeat (first | with_reducible exact Pm.refl _ | with_reducible exact Pm.nil _ | with_reducible refine Pm.here ?_ | with_reducible refine Pm.at2 ?_ | with_reducible refine Pm.at3 ?_ | with_reducible refine Pm.at4 ?_ | with_reducible refine Pm.at5 ?_ | with_reducible refine Pm.at6 ?_ | with_reducible refine Pm.at7 ?_ | with_reducible refine Pm.at8 ?_ | with_reducible refine Pm.skip ?_))) : Own w _ (pts pb (.cells #[.int .u64 p1, .int .u64 p2, .int .u64 p3, .int .u64 p4] 78 (0, 0)) :: [old w])).cells; first | (go_simp; first | rfl | exact ⟨rfl, rfl⟩) | rfl | exact ⟨rfl, rfl⟩)); clear hK K)
  refine reg_l none (i := 1) rfl (by kernel_rfl) (fun wn hk K hK => ?_)
  replace HH := Lib.hid (hk _ _ HH.out)
  clear hk
  go_simp
  refine (linkRight_c w wn _ p1 p2 p3 p4 HH.out).mono ?_
  rw [hrt.out]
  rintro e wm ⟨rfl, H9_⟩
  replace HH := Lib.hid H9_
  clear H9_
  refine hK _ _ _ HH.out (.inr ⟨rfl, fun _ h => (Own.pm (h) (by repeat (first | with_reducible exact Pm.refl _ | with_reducible exact Pm.nil _ | with_reducible refine Pm.here ?_ | with_reducible refine Pm.at2 ?_ | with_reducible refine Pm.at3 ?_ | with_reducible refine Pm.at4 ?_ | with_reducible refine Pm.at5 ?_ | with_reducible refine Pm.at6 ?_ | with_reducible refine Pm.at7 ?_ | with_reducible refine Pm.at8 ?_ | with_reducible refine Pm.skip ?_)))⟩) ?_
  clear hK K
  refine reg_l none (i := 3) rfl (by kernel_rfl) (fun wn hk K hK => ?_)
  replace HH := Lib.hid (hk _ _ HH.out)
  clear hk
  go_simp
  refine (right18_c w wn _ p1 p2 p3 p4 HH.out).mono ?_
  rw [hrt.out]
  rintro e wm ⟨rfl, H9_⟩
  replace HH := Lib.hid H9_
  clear H9_
  refine hK _ _ _ HH.out (.inr ⟨rfl, fun _ h => (Own.pm (h) (by repeat (first | with_reducible exact Pm.refl _ | with_reducible exact Pm.nil _ | with_reducible refine Pm.here ?_ | with_reducible refine Pm.at2 ?_ | with_reducible refine Pm.at3 ?_ | with_reducible refine Pm.at4 ?_ | with_reducible refine Pm.at5 ?_ | with_reducible refine Pm.at6 ?_ | with_reducible refine Pm.at7 ?_ | with_reducible refine Pm.at8 ?_ | with_reducible refine Pm.skip ?_)))⟩) ?_
  clear hK K
  refine reg_p (i := 4) rfl (by kernel_rfl) (fun _ _ _ _ h => h) HH.out (fun K hK => ?_)
  go_simp
  first | (refine hK _ ?_; clear hK K) | (apply Exists.intro; refine ⟨?_, hK _ ?_⟩; (focus (intro wx; first | (go_simp; first | rfl) | rfl)); clear hK K)
  refine reg_p (i := 5) rfl (by kernel_rfl) (fun _ _ _ _ h => h) HH.out (fun K hK => ?_)
  go_simp
  first | (refine hK _ ?_; clear hK K) | (apply Exists.intro; refine ⟨?_, hK _ ?_⟩; (focus (intro wx; first | (go_simp; first | rfl) | rfl)); clear hK K)
  refine reg_p (i := 6) rfl (by kernel_rfl) (fun _ _ _ _ h => h) HH.out (fun K hK => ?_)
  go_simp
  first | (refine hK _ ?_; clear hK K) | (apply Exists.intro; refine ⟨?_, hK _ ?_⟩; (focus (intro wx; first | (go_simp; first | rfl) | rfl)); clear hK K)
  refine reg_p (i := 7) rfl (by kernel_rfl) (fun _ _ _ _ h => h) HH.out (fun K hK => ?_)
  go_simp
  first | (refine hK _ ?_; clear hK K) | (apply Exists.intro; refine ⟨?_, hK _ ?_⟩; (focus (intro wx; first | (go_simp; first | rfl) | rfl)); clear hK K)
  refine reg_p (i := 8) rfl (by kernel_rfl) (fun _ _ _ _ h => h) HH.out (fun K hK => ?_)
  go_simp
  first | (refine hK _ ?_; clear hK K) | (apply Exists.intro; refine ⟨?_, hK _ ?_⟩; (focus (intro wx; first | (go_simp; first | rfl) | rfl)); clear hK K)
  refine reg_p (i := 9) rfl (by kernel_rfl) (fun _ _ _ _ h => h) HH.out (fun K hK => ?_)
  go_simp
  first | (refine hK _ ?_; clear hK K) | (apply Exists.intro; refine ⟨?_, hK _ ?_⟩; (focus (intro wx; first | (go_simp; first | rfl) | rfl)); clear hK K)
  refine reg_p (i := 10) rfl (by kernel_rfl) (fun _ _ _ _ h => h) HH.out (fun K hK => ?_)
  go_simp
  first | (refine hK _ ?_; clear hK K) | (apply Exists.intro; refine ⟨?_, hK _ ?_⟩; (focus (intro wx; first | (go_simp; first | rfl) | rfl)); clear hK K)
  refine reg_p (i := 11) rfl (by kernel_rfl) (fun _ _ _ _ h => h) HH.out (fun K hK => ?_)
  go_simp
  first | (refine hK _ ?_; clear hK K) | (apply Exists.intro; refine ⟨?_, hK _ ?_⟩; (focus (intro wx; first | (go_simp; first | rfl) | rfl)); clear hK K)
  refine reg_p (i := 12) rfl (by kernel_rfl) (fun _ _ _ _ h => h) HH.out (fun K hK => ?_)
  go_simp
  first | (refine hK _ ?_; clear hK K) | (apply Exists.intro; refine ⟨?_, hK _ ?_⟩; (focus (intro wx; first | (go_simp; first | rfl) | rfl)); clear hK K)
  refine reg_p (i := 13) rfl (by kernel_rfl) (fun _ _ _ _ h => h) HH.out (fun K hK => ?_)
  go_simp
  first | (refine hK _ ?_; clear hK K) | (apply Exists.intro; refine ⟨?_, hK _ ?_⟩; (focus (intro wx; first | (go_simp; first | rfl) | rfl)); clear hK K)
  refine reg_p (i := 14) rfl (by kernel_rfl) (fun _ _ _ _ h => h) HH.out (fun K hK => ?_)
  go_simp
  first | (refine hK _ ?_; clear hK K) | (apply Exists.intro; refine ⟨?_, hK _ ?_⟩; (focus (intro wx; first | (go_simp; first | rfl) | rfl)); clear hK K)
  refine reg_p (i := 15) rfl (by kernel_rfl) (fun _ _ _ _ h => h) HH.out (fun K hK => ?_)
  go_simp
  first | (refine hK _ ?_; clear hK K) | (apply Exists.intro; refine ⟨?_, hK _ ?_⟩; (focus (intro wx; first | (go_simp; first | rfl) | rfl)); clear hK K)
  refine reg_p (i := 16) rfl (by kernel_rfl) (fun _ _ _ _ h => h) HH.out (fun K hK => ?_)
  go_simp
  first | (refine hK _ ?_; clear hK K) | (apply Exists.intro; refine ⟨?_, hK _ ?_⟩; (focus (intro wx; first | (go_simp; first | rfl) | rfl)); clear hK K)
  refine reg_p (i := 17) rfl (by kernel_rfl) (fun _ _ _ _ h => h) HH.out (fun K hK => ?_)
  go_simp
  first | (refine hK _ ?_; clear hK K) | (apply Exists.intro; refine ⟨?_, hK _ ?_⟩; (focus (intro wx; first | (go_simp; first | rfl) | rfl)); clear hK K)
  refine mixk_done (by kernel_rfl) (fun w9_ hk => ?_) _
  replace HH := Lib.hid (hk _ _ HH.out)
  clear hk
  replace HH := Lib.hid ((Own.pm (HH.out) (by repeat (first | with_reducible exact Pm.refl _ | with_reducible exact Pm.nil _ | with_reducible refine Pm.here ?_ | with_reducible refine Pm.at2 ?_ | with_reducible refine Pm.at3 ?_ | with_reducible refine Pm.at4 ?_ | with_reducible refine Pm.at5 ?_ | with_reducible refine Pm.at6 ?_ | with_reducible refine Pm.at7 ?_ | with_reducible refine Pm.at8 ?_ | with_reducible refine Pm.skip ?_))) : Own w _ (lnk b _ :: rl21 d _ :: [old w]))
  clear hrt
  go_wp2_with fail
  go_loopw [10, 11] (fun fr i wr => ∃ (k frm : Nat) (s : Lnk), k ≤ len ∧ i = .int .i64 k ∧ fr = .int .i64 frm ∧ LPl k frm s ∧ Own w wr (lnk b s :: rl21 d s :: [old w])) (fun _ i _ => len - (intOf i).toNat)
  case atStart => exact ⟨0, 0, Lnk.new p1 p2 p3 p4, Nat.zero_le _, rfl, rfl, ⟨Lnk.ok_new u1.out u2.out u3.out u4.out, rfl, Nat.le_refl _, Nat.le_refl _⟩, HH.out⟩
  case round =>
    clear HH
    obtain ⟨k, frm, s, hk, rfl, rfl, hL, HR⟩ := hrel
    have HH := Lib.hid HR
    clear HR
    have hfw := hL.few
    have hso := Lib.hid hL.ok
    have hbn := Lib.hid hL.now
    have hsl : s.len ≤ 3600 := by have := hL.len; omega
    by_cases hlt : k < len
    · obtain ⟨a, hka, hmem, ab, off, As, ns, cs, Ac, nc, cc, rfl, c0, c1, c2, c3, c4, g1, g2, g3, g4, g5⟩ := hA.out.get hlt
      have hao := hok.out a hmem
      have hL2 := hL.act (by omega) hao (hfew.out a hmem)
      have hafew := (hfew.out a hmem).1
      obtain rfl : ns = a.sizes.length := g1.1.symm
      have htU : U (sadd s.now a.after) := U_sadd hso.out.now hao.1
      have hle : s.now ≤ sadd s.now a.after := by have h1 := hso.out.now; have h2 := hao.1; unfold U at h1 h2; unfold sadd; split <;> omega
      obtain ⟨v1, v2, v3, v4⟩ := hao
      clear hka hmem hL
      obtain ⟨tk, sz, af, ws, ch⟩ := a
      simp only at c0 c1 c2 c3 c4 g1 g2 g3 hafew htU hle v1 v2 v3 v4
      obtain ⟨s9, hs9⟩ : ∃ s9, s.play frm ⟨tk, sz, af, ws, ch⟩ = s9 := ⟨_, rfl⟩
      obtain ⟨F, hF⟩ : ∃ F, actFrm frm ⟨tk, sz, af, ws, ch⟩ = F := ⟨_, rfl⟩
      rw [hs9, hF] at hL2
      replace g1 := Lib.hid g1
      replace g2 := Lib.hid g2
      replace htU := Lib.hid htU
      replace hle := Lib.hid hle
      replace v1 := Lib.hid v1
      replace v2 := Lib.hid v2
      replace v3 := Lib.hid v3
      replace v4 := Lib.hid v4
      replace hL2 := Lib.hid hL2
      replace hs9 := Lib.hid hs9
      replace hF := Lib.hid hF
      have o0 := ((Own.pm (HH.out) (by repeat (first | with_reducible exact Pm.refl _ | with_reducible exact Pm.nil _ | with_reducible refine Pm.here ?_ | with_reducible refine Pm.at2 ?_ | with_reducible refine Pm.at3 ?_ | with_reducible refine Pm.at4 ?_ | with_reducible refine Pm.at5 ?_ | with_reducible refine Pm.at6 ?_ | with_reducible refine Pm.at7 ?_ | with_reducible refine Pm.at8 ?_ | with_reducible refine Pm.skip ?_))) : Own w _ [old w]).old_cell c0
      go_upto_if 72 with (fail)
      clear o0
      go_cut [10] from 155 (fun fr wc => fr = .int .i64 F ∧ Own w wc (lnk b s9 :: rl21 d s9 :: [old w]))
      case first =>
        cases tk with
        | true =>
          have hs8 : s.tick (sadd s.now af) ws ch = s9 := hs9.out
          have hFe : F = frm := by rw [← hF.out]; rfl
          subst hFe
          obtain ⟨ol, hol⟩ : ∃ ol, s.outs (sadd s.now af) ws ch = ol := ⟨_, rfl⟩
          obtain ⟨rb, H2⟩ := ((Own.pm (HH.out) (by repeat (first | with_reducible exact Pm.refl _ | with_reducible exact Pm.nil _ | with_reducible refine Pm.here ?_ | with_reducible refine Pm.at2 ?_ | with_reducible refine Pm.at3 ?_ | with_reducible refine Pm.at4 ?_ | with_reducible refine Pm.at5 ?_ | with_reducible refine Pm.at6 ?_ | with_reducible refine Pm.at7 ?_ | with_reducible refine Pm.at8 ?_ | with_reducible refine Pm.skip ?_))) : Own w _ (rl21 d s :: lnk b s :: [old w])).rl21_open
          obtain ⟨w1, w2, H2⟩ := H2.r2.rlk_open
          replace HH := Lib.hid ((Own.pm (H2) (by repeat (first | with_reducible exact Pm.refl _ | with_reducible exact Pm.nil _ | with_reducible refine Pm.here ?_ | with_reducible refine Pm.at2 ?_ | with_reducible refine Pm.at3 ?_ | with_reducible refine Pm.at4 ?_ | with_reducible refine Pm.at5 ?_ | with_reducible refine Pm.at6 ?_ | with_reducible refine Pm.at7 ?_ | with_reducible refine Pm.at8 ?_ | with_reducible refine Pm.skip ?_))) : Own w _ (pts d _ :: pts rb _ :: slcP w1 s.q.l :: slcE w2 s.x.l :: lnk b s :: [old w]))
          clear H2
          replace hs8 := Lib.hid hs8
          replace hol := Lib.hid hol
          go_wp2_with fail
          go_wp2_with fail
          refine wp_region_reg none HH.out (by kernel_rfl) ?_
          intro wm H9_
          replace HH := Lib.hid H9_
          clear H9_
          refine reg_p (i := 0) rfl (by kernel_rfl) (fun _ _ _ _ h => h) HH.out (fun K hK => ?_)
          go_simp
          first | (refine hK _ ?_; clear hK K) | (apply Exists.intro; refine ⟨?_, hK _ ?_⟩; (focus (intro wx; first | (go_simp; first | rfl) | rfl)); clear hK K)
          refine reg_p (i := 1) rfl (by kernel_rfl) (fun _ _ _ _ h => h) HH.out (fun K hK => ?_)
          go_simp
          first | (refine hK _ ?_; clear hK K) | (apply Exists.intro; refine ⟨?_, hK _ ?_⟩; (focus (intro wx; first | (go_simp; first | rfl) | rfl)); clear hK K)
          refine reg_p (i := 2) rfl (by kernel_rfl) (fun _ _ _ _ h => h) HH.out (fun K hK => ?_)
          go_simp
          first | (refine hK _ ?_; clear hK K) | (apply Exists.intro; refine ⟨?_, hK _ ?_⟩; (focus (intro wx; first | (go_simp; first | rfl) | rfl)); clear hK K)
          refine mixk_q (i := 3) rfl (by kernel_rfl) (fun _ _ _ _ h => h) HH.out (fun K hK => ?_)
          go_simp
          first | (refine hK _ ?_; clear hK K) | (apply Exists.intro; refine ⟨?_, hK _ ?_⟩; (focus (intro wx hx; have x1_ := hx.cells; have x2_ := hx.r2.cells; have y2_ := hx.r6.old_cell c2; first | (first | (go_at_call 54; refine (refAdd_c wx s.b.now af hso.out.b.2.1 v1.out).mono ?_; rintro e wy ⟨rfl, hbel⟩; exact ⟨rfl, (by first | exact Kp.same hbel | exact Kp.drew hbel | exact Kp.below hbel : Kp wx wy)⟩)) | (go_simp; first | rfl | exact ⟨rfl, rfl⟩) | rfl | exact ⟨rfl, rfl⟩)); clear hK K)
          refine reg_p (i := 4) rfl (by kernel_rfl) (fun _ _ _ _ h => h) HH.out (fun K hK => ?_)
          go_simp
          first | (refine hK _ ?_; clear hK K) | (apply Exists.intro; refine ⟨?_, hK _ ?_⟩; (focus (intro wx; first | (go_simp; first | rfl) | rfl)); clear hK K)
          refine reg_p (i := 5) rfl (by kernel_rfl) (fun _ _ _ _ h => h) HH.out (fun K hK => ?_)
          go_simp
          first | (refine hK _ ?_; clear hK K) | (apply Exists.intro; refine ⟨?_, hK _ ?_⟩; (focus (intro wx; first | (go_simp; first | rfl) | rfl)); clear hK K)
          refine reg_p (i := 6) rfl (by kernel_rfl) (fun _ _ _ _ h => h) HH.out (fun K hK => ?_)
          go_simp
          first | (refine hK _ ?_; clear hK K) | (apply Exists.intro; refine ⟨?_, hK _ ?_⟩; (focus (intro wx; first | (go_simp; first | rfl) | rfl)); clear hK K)
          refine mixk_q (i := 7) rfl (by kernel_rfl) (fun _ _ _ _ h => h) HH.out (fun K hK => ?_)
          go_simp
          first | (refine hK _ ?_; clear hK K) | (apply Exists.intro; refine ⟨?_, hK _ ?_⟩; (focus (intro wx hx; have x1_ := hx.cells; have x2_ := hx.r2.cells; have y2_ := hx.r6.old_cell c2; first | (first | (go_at_call 54; refine (refAdd_c wx s.b.now af hso.out.b.2.1 v1.out).mono ?_; rintro e wy ⟨rfl, hbel⟩; exact ⟨rfl, (by first | exact Kp.same hbel | exact Kp.drew hbel | exact Kp.below hbel : Kp wx wy)⟩)) | (go_simp; first | rfl | exact ⟨rfl, rfl⟩) | rfl | exact ⟨rfl, rfl⟩)); clear hK K)
          refine reg_p (i := 8) rfl (by kernel_rfl) (fun _ _ _ _ h => h) HH.out (fun K hK => ?_)
          go_simp
          first | (refine hK _ ?_; clear hK K) | (apply Exists.intro; refine ⟨?_, hK _ ?_⟩; (focus (intro wx; first | (go_simp; first | rfl) | rfl)); clear hK K)
          refine reg_p (i := 9) rfl (by kernel_rfl) (fun _ _ _ _ h => h) HH.out (fun K hK => ?_)
          go_simp
          first | (refine hK _ ?_; clear hK K) | (apply Exists.intro; refine ⟨?_, hK _ ?_⟩; (focus (intro wx; first | (go_simp; first | rfl) | rfl)); clear hK K)
          refine reg_p (i := 10) rfl (by kernel_rfl) (fun _ _ _ _ h => h) HH.out (fun K hK => ?_)
          go_simp
          first | (refine hK _ ?_; clear hK K) | (apply Exists.intro; refine ⟨?_, hK _ ?_⟩; (focus (intro wx; first | (go_simp; first | rfl) | rfl)); clear hK K)
          refine reg_p (i := 11) rfl (by kernel_rfl) (fun _ _ _ _ h => h) HH.out (fun K hK => ?_)
          go_simp
          first | (refine hK _ ?_; clear hK K) | (apply Exists.intro; refine ⟨?_, hK _ ?_⟩; (focus (intro wx; first | (go_simp; first | rfl) | rfl)); clear hK K)
          refine mixk_q (i := 12) rfl (by kernel_rfl) (fun _ _ _ _ h => h) HH.out (fun K hK => ?_)
          go_simp
          first | (refine hK _ ?_; clear hK K) | (apply Exists.intro; refine ⟨?_, hK _ ?_⟩; (focus (intro wx hx; have x1_ := hx.cells; have x2_ := hx.r2.cells; have y2_ := hx.r6.old_cell c2; first | (first | (go_at_call 54; refine (refAdd_c wx s.b.now af hso.out.b.2.1 v1.out).mono ?_; rintro e wy ⟨rfl, hbel⟩; exact ⟨rfl, (by first | exact Kp.same hbel | exact Kp.drew hbel | exact Kp.below hbel : Kp wx wy)⟩)) | (go_simp; first | rfl | exact ⟨rfl, rfl⟩) | rfl | exact ⟨rfl, rfl⟩)); clear hK K)
          refine mixk_q (i := 13) rfl (by kernel_rfl) (fun _ _ _ _ h => h) HH.out (fun K hK => ?_)
          go_simp
          first | (refine hK _ ?_; clear hK K) | (apply Exists.intro; refine ⟨?_, hK _ ?_⟩; (focus (intro wx hx; have x1_ := hx.cells; have x2_ := hx.r2.cells; have y2_ := hx.r6.old_cell c2; first | (first | (go_at_call 54; refine (refAdd_c wx s.b.now af hso.out.b.2.1 v1.out).mono ?_; rintro e wy ⟨rfl, hbel⟩; exact ⟨rfl, (by first | exact Kp.same hbel | exact Kp.drew hbel | exact Kp.below hbel : Kp wx wy)⟩)) | (go_simp; first | rfl | exact ⟨rfl, rfl⟩) | rfl | exact ⟨rfl, rfl⟩)); clear hK K)
          refine reg_p (i := 14) rfl (by kernel_rfl) (fun _ _ _ _ h => h) HH.out (fun K hK => ?_)
          go_simp
          first | (refine hK _ ?_; clear hK K) | (apply Exists.intro; refine ⟨?_, hK _ ?_⟩; (focus (intro wx; first | (go_simp; first | rfl) | rfl)); clear hK K)
          refine mixk_done (by kernel_rfl) (fun w10_ hk => ?_) _
          replace HH := Lib.hid (hk _ _ HH.out)
          clear hk
          rw [hbn.out]
          generalize hT : sadd s.now af = T at *
          have H8 := ((Own.pm (HH.out) (by repeat (first | with_reducible exact Pm.refl _ | with_reducible exact Pm.nil _ | with_reducible refine Pm.here ?_ | with_reducible refine Pm.at2 ?_ | with_reducible refine Pm.at3 ?_ | with_reducible refine Pm.at4 ?_ | with_reducible refine Pm.at5 ?_ | with_reducible refine Pm.at6 ?_ | with_reducible refine Pm.at7 ?_ | with_reducible refine Pm.at8 ?_ | with_reducible refine Pm.skip ?_))) : Own w _ (pts d _ :: pts rb _ :: slcP w1 s.q.l :: slcE w2 s.x.l :: lnk b s :: [old w]))
          replace HH := Lib.hid (Own.rl21_mk2 w _ _ d (s := s) H8).r2
          clear H8 hT
          go_wp2_with fail
          go_wp2_with fail
          refine wp_region_reg (some 12) HH.out (by kernel_rfl) ?_
          intro wm H9_
          replace HH := Lib.hid H9_
          clear H9_
          refine reg_p (i := 0) rfl (by kernel_rfl) (fun _ _ _ _ h => h) HH.out (fun K hK => ?_)
          go_simp
          first | (refine hK _ ?_; clear hK K) | (apply Exists.intro; refine ⟨?_, hK _ ?_⟩; (focus (intro wx; first | (go_simp; first | rfl) | rfl)); clear hK K)
          refine reg_p (i := 1) rfl (by kernel_rfl) (fun _ _ _ _ h => h) HH.out (fun K hK => ?_)
          go_simp
          first | (refine hK _ ?_; clear hK K) | (apply Exists.intro; refine ⟨?_, hK _ ?_⟩; (focus (intro wx; first | (go_simp; first | rfl) | rfl)); clear hK K)
          refine reg_p (i := 2) rfl (by kernel_rfl) (fun _ _ _ _ h => h) HH.out (fun K hK => ?_)
          go_simp
          first | (refine hK _ ?_; clear hK K) | (apply Exists.intro; refine ⟨?_, hK _ ?_⟩; (focus (intro wx; first | (go_simp; first | rfl) | rfl)); clear hK K)
          refine reg_p (i := 3) rfl (by kernel_rfl) (fun _ _ _ _ h => h) HH.out (fun K hK => ?_)
          go_simp
          first | (refine hK _ ?_; clear hK K) | (apply Exists.intro; refine ⟨?_, hK _ ?_⟩; (focus (intro wx; first | (go_simp; first | rfl) | rfl)); clear hK K)
          refine reg_p (i := 4) rfl (by kernel_rfl) (fun _ _ _ _ h => h) HH.out (fun K hK => ?_)
          go_simp
          first | (refine hK _ ?_; clear hK K) | (apply Exists.intro; refine ⟨?_, hK _ ?_⟩; (focus (intro wx; first | (go_simp; first | rfl) | rfl)); clear hK K)
          refine reg_p (i := 5) rfl (by kernel_rfl) (fun _ _ _ _ h => h) HH.out (fun K hK => ?_)
          go_simp
          first | (refine hK _ ?_; clear hK K) | (apply Exists.intro; refine ⟨?_, hK _ ?_⟩; (focus (intro wx; first | (go_simp; first | rfl) | rfl)); clear hK K)
          refine mixk_q (i := 6) rfl (by kernel_rfl) (fun _ _ _ _ h => h) HH.out (fun K hK => ?_)
          go_simp
          first | (refine hK _ ?_; clear hK K) | (apply Exists.intro; refine ⟨?_, hK _ ?_⟩; (focus (intro wx hx; have y3_ := hx.r3.old_cell c3; have y4_ := hx.r3.old_cell c4; first | (go_simp; first | rfl | exact ⟨rfl, rfl⟩) | rfl | exact ⟨rfl, rfl⟩)); clear hK K)
          refine reg_p (i := 7) rfl (by kernel_rfl) (fun _ _ _ _ h => h) HH.out (fun K hK => ?_)
          go_simp
          first | (refine hK _ ?_; clear hK K) | (apply Exists.intro; refine ⟨?_, hK _ ?_⟩; (focus (intro wx; first | (go_simp; first | rfl) | rfl)); clear hK K)
          refine reg_p (i := 8) rfl (by kernel_rfl) (fun _ _ _ _ h => h) HH.out (fun K hK => ?_)
          go_simp
          first | (refine hK _ ?_; clear hK K) | (apply Exists.intro; refine ⟨?_, hK _ ?_⟩; (focus (intro wx; first | (go_simp; first | rfl) | rfl)); clear hK K)
          refine reg_p (i := 9) rfl (by kernel_rfl) (fun _ _ _ _ h => h) HH.out (fun K hK => ?_)
          go_simp
          first | (refine hK _ ?_; clear hK K) | (apply Exists.intro; refine ⟨?_, hK _ ?_⟩; (focus (intro wx; first | (go_simp; first | rfl) | rfl)); clear hK K)
          refine reg_p (i := 10) rfl (by kernel_rfl) (fun _ _ _ _ h => h) HH.out (fun K hK => ?_)
          go_simp
          first | (refine hK _ ?_; clear hK K) | (apply Exists.intro; refine ⟨?_, hK _ ?_⟩; (focus (intro wx; first | (go_simp; first | rfl) | rfl)); clear hK K)
          refine mixk_q (i := 11) rfl (by kernel_rfl) (fun _ _ _ _ h => h) HH.out (fun K hK => ?_)
          go_simp
          first | (refine hK _ ?_; clear hK K) | (apply Exists.intro; refine ⟨?_, hK _ ?_⟩; (focus (intro wx hx; have y3_ := hx.r3.old_cell c3; have y4_ := hx.r3.old_cell c4; first | (go_simp; first | rfl | exact ⟨rfl, rfl⟩) | rfl | exact ⟨rfl, rfl⟩)); clear hK K)
          refine reg_l none (i := 12) rfl (by kernel_rfl) (fun wn hk K hK => ?_)
          replace HH := Lib.hid (hk _ _ HH.out)
          clear hk
          go_simp
          refine (linkTick_c w wn _ b 0 s hso.out T ws htU.out v2.out hle.out Ac nc cc ch v4.out g4 g5 (fun wx Hx => g2.out.old (Own.pm (Hx) (by repeat (first | with_reducible exact Pm.refl _ | with_reducible exact Pm.nil _ | with_reducible refine Pm.here ?_ | with_reducible refine Pm.at2 ?_ | with_reducible refine Pm.at3 ?_ | with_reducible refine Pm.at4 ?_ | with_reducible refine Pm.at5 ?_ | with_reducible refine Pm.at6 ?_ | with_reducible refine Pm.at7 ?_ | with_reducible refine Pm.at8 ?_ | with_reducible refine Pm.skip ?_)))) (by omega) HH.out).mono ?_
          rintro e wm ⟨v, rfl, H9_⟩
          replace HH := Lib.hid H9_
          clear H9_
          refine hK _ _ _ HH.out (.inl (by kernel_rfl)) ?_
          clear hK K
          refine reg_p (i := 13) rfl (by kernel_rfl) (fun _ _ _ _ h => h) HH.out (fun K hK => ?_)
          go_simp
          first | (refine hK _ ?_; clear hK K) | (apply Exists.intro; refine ⟨?_, hK _ ?_⟩; (focus (intro wx; first | (go_simp; first | rfl) | rfl)); clear hK K)
          refine reg_p (i := 14) rfl (by kernel_rfl) (fun _ _ _ _ h => h) HH.out (fun K hK => ?_)
          go_simp
          first | (refine hK _ ?_; clear hK K) | (apply Exists.intro; refine ⟨?_, hK _ ?_⟩; (focus (intro wx; first | (go_simp; first | rfl) | rfl)); clear hK K)
          refine reg_p (i := 15) rfl (by kernel_rfl) (fun _ _ _ _ h => h) HH.out (fun K hK => ?_)
          go_simp
          first | (refine hK _ ?_; clear hK K) | (apply Exists.intro; refine ⟨?_, hK _ ?_⟩; (focus (intro wx; first | (go_simp; first | rfl) | rfl)); clear hK K)
          refine reg_p (i := 16) rfl (by kernel_rfl) (fun _ _ _ _ h => h) HH.out (fun K hK => ?_)
          go_simp
          first | (refine hK _ ?_; clear hK K) | (apply Exists.intro; refine ⟨?_, hK _ ?_⟩; (focus (intro wx; first | (go_simp; first | rfl) | rfl)); clear hK K)
          refine reg_p (i := 17) rfl (by kernel_rfl) (fun _ _ _ _ h => h) HH.out (fun K hK => ?_)
          go_simp
          first | (refine hK _ ?_; clear hK K) | (apply Exists.intro; refine ⟨?_, hK _ ?_⟩; (focus (intro wx; first | (go_simp; first | rfl) | rfl)); clear hK K)
          refine mixk_done (by kernel_rfl) (fun w11_ hk => ?_) _
          replace HH := Lib.hid (hk _ _ HH.out)
          clear hk
          rw [hs8.out, hol.out] at HH
          obtain ⟨A1, n1, d1, rfl, _, hcm1, hpk⟩ := HH.out.slcP_val
          obtain rfl : ol.length = n1 := hpk.1
          have hn1 : ol.length ≤ 9223372036854775807 := by unfold maxLen at hcm1; omega
          clear hpk hcm1
          replace HH := Lib.hid ((Own.pm (HH.out) (by repeat (first | with_reducible exact Pm.refl _ | with_reducible exact Pm.nil _ | with_reducible refine Pm.here ?_ | with_reducible refine Pm.at2 ?_ | with_reducible refine Pm.at3 ?_ | with_reducible refine Pm.at4 ?_ | with_reducible refine Pm.at5 ?_ | with_reducible refine Pm.at6 ?_ | with_reducible refine Pm.at7 ?_ | with_reducible refine Pm.at8 ?_ | with_reducible refine Pm.skip ?_))) : Own w _ (rl21 d s :: lnk b s9 :: slcP (.slice A1 ol.length d1) ol :: [old w]))
          go_wp2_with fail
          go_wp2_with fail
          refine wp_region_reg (some 12) HH.out (by kernel_rfl) ?_
          intro wm H9_
          replace HH := Lib.hid H9_
          clear H9_
          refine reg_p (i := 0) rfl (by kernel_rfl) (fun _ _ _ _ h => h) HH.out (fun K hK => ?_)
          go_simp
          first | (refine hK _ ?_; clear hK K) | (apply Exists.intro; refine ⟨?_, hK _ ?_⟩; (focus (intro wx; first | (go_simp; first | rfl) | rfl)); clear hK K)
          refine reg_p (i := 1) rfl (by kernel_rfl) (fun _ _ _ _ h => h) HH.out (fun K hK => ?_)
          go_simp
          first | (refine hK _ ?_; clear hK K) | (apply Exists.intro; refine ⟨?_, hK _ ?_⟩; (focus (intro wx; first | (go_simp; first | rfl) | rfl)); clear hK K)
          refine reg_p (i := 2) rfl (by kernel_rfl) (fun _ _ _ _ h => h) HH.out (fun K hK => ?_)
          go_simp
          first | (refine hK _ ?_; clear hK K) | (apply Exists.intro; refine ⟨?_, hK _ ?_⟩; (focus (intro wx; first | (go_simp; first | rfl) | rfl)); clear hK K)
          refine reg_p (i := 3) rfl (by kernel_rfl) (fun _ _ _ _ h => h) HH.out (fun K hK => ?_)
          go_simp
          first | (refine hK _ ?_; clear hK K) | (apply Exists.intro; refine ⟨?_, hK _ ?_⟩; (focus (intro wx; first | (go_simp; first | rfl) | rfl)); clear hK K)
          refine reg_p (i := 4) rfl (by kernel_rfl) (fun _ _ _ _ h => h) HH.out (fun K hK => ?_)
          go_simp
          first | (refine hK _ ?_; clear hK K) | (apply Exists.intro; refine ⟨?_, hK _ ?_⟩; (focus (intro wx; first | (go_simp; first | rfl) | rfl)); clear hK K)
          refine reg_p (i := 5) rfl (by kernel_rfl) (fun _ _ _ _ h => h) HH.out (fun K hK => ?_)
          go_simp
          first | (refine hK _ ?_; clear hK K) | (apply Exists.intro; refine ⟨?_, hK _ ?_⟩; (focus (intro wx; first | (go_simp; first | rfl) | rfl)); clear hK K)
          refine mixk_q (i := 6) rfl (by kernel_rfl) (fun _ _ _ _ h => h) HH.out (fun K hK => ?_)
          go_simp
          first | (refine hK _ ?_; clear hK K) | (apply Exists.intro; refine ⟨?_, hK _ ?_⟩; (focus (intro wx hx; have y3_ := hx.r4.old_cell c3; have y4_ := hx.r4.old_cell c4; first | (go_simp; first | rfl | exact ⟨rfl, rfl⟩) | rfl | exact ⟨rfl, rfl⟩)); clear hK K)
          refine reg_p (i := 7) rfl (by kernel_rfl) (fun _ _ _ _ h => h) HH.out (fun K hK => ?_)
          go_simp
          first | (refine hK _ ?_; clear hK K) | (apply Exists.intro; refine ⟨?_, hK _ ?_⟩; (focus (intro wx; first | (go_simp; first | rfl) | rfl)); clear hK K)
          refine reg_p (i := 8) rfl (by kernel_rfl) (fun _ _ _ _ h => h) HH.out (fun K hK => ?_)
          go_simp
          first | (refine hK _ ?_; clear hK K) | (apply Exists.intro; refine ⟨?_, hK _ ?_⟩; (focus (intro wx; first | (go_simp; first | rfl) | rfl)); clear hK K)
          refine reg_p (i := 9) rfl (by kernel_rfl) (fun _ _ _ _ h => h) HH.out (fun K hK => ?_)
          go_simp
          first | (refine hK _ ?_; clear hK K) | (apply Exists.intro; refine ⟨?_, hK _ ?_⟩; (focus (intro wx; first | (go_simp; first | rfl) | rfl)); clear hK K)
          refine reg_p (i := 10) rfl (by kernel_rfl) (fun _ _ _ _ h => h) HH.out (fun K hK => ?_)
          go_simp
          first | (refine hK _ ?_; clear hK K) | (apply Exists.intro; refine ⟨?_, hK _ ?_⟩; (focus (intro wx; first | (go_simp; first | rfl) | rfl)); clear hK K)
          refine mixk_q (i := 11) rfl (by kernel_rfl) (fun _ _ _ _ h => h) HH.out (fun K hK => ?_)
          go_simp
          first | (refine hK _ ?_; clear hK K) | (apply Exists.intro; refine ⟨?_, hK _ ?_⟩; (focus (intro wx hx; have y3_ := hx.r4.old_cell c3; have y4_ := hx.r4.old_cell c4; first | (go_simp; first | rfl | exact ⟨rfl, rfl⟩) | rfl | exact ⟨rfl, rfl⟩)); clear hK K)
          refine reg_l none (i := 12) rfl (by kernel_rfl) (fun wn hk K hK => ?_)
          replace HH := Lib.hid (hk _ _ HH.out)
          clear hk
          go_simp
          refine (rl21Tick_c w wn _ d s hso.out hbn.out T ws htU.out v2.out hle.out Ac nc cc ch v4.out g4 (fun wx Hx => g2.out.old (Own.pm (Hx) (by repeat (first | with_reducible exact Pm.refl _ | with_reducible exact Pm.nil _ | with_reducible refine Pm.here ?_ | with_reducible refine Pm.at2 ?_ | with_reducible refine Pm.at3 ?_ | with_reducible refine Pm.at4 ?_ | with_reducible refine Pm.at5 ?_ | with_reducible refine Pm.at6 ?_ | with_reducible refine Pm.at7 ?_ | with_reducible refine Pm.at8 ?_ | with_reducible refine Pm.skip ?_)))) (by omega) HH.out).mono ?_
          rintro e wm ⟨v, rfl, H9_⟩
          replace HH := Lib.hid H9_
          clear H9_
          refine hK _ _ _ HH.out (.inl (by kernel_rfl)) ?_
          clear hK K
          refine reg_p (i := 13) rfl (by kernel_rfl) (fun _ _ _ _ h => h) HH.out (fun K hK => ?_)
          go_simp
          first | (refine hK _ ?_; clear hK K) | (apply Exists.intro; refine ⟨?_, hK _ ?_⟩; (focus (intro wx; first | (go_simp; first | rfl) | rfl)); clear hK K)
          refine reg_p (i := 14) rfl (by kernel_rfl) (fun _ _ _ _ h => h) HH.out (fun K hK => ?_)
          go_simp
          first | (refine hK _ ?_; clear hK K) | (apply Exists.intro; refine ⟨?_, hK _ ?_⟩; (focus (intro wx; first | (go_simp; first | rfl) | rfl)); clear hK K)
          refine reg_p (i := 15) rfl (by kernel_rfl) (fun _ _ _ _ h => h) HH.out (fun K hK => ?_)
          go_simp
          first | (refine hK _ ?_; clear hK K) | (apply Exists.intro; refine ⟨?_, hK _ ?_⟩; (focus (intro wx; first | (go_simp; first | rfl) | rfl)); clear hK K)
          refine reg_p (i := 16) rfl (by kernel_rfl) (fun _ _ _ _ h => h) HH.out (fun K hK => ?_)
          go_simp
          first | (refine hK _ ?_; clear hK K) | (apply Exists.intro; refine ⟨?_, hK _ ?_⟩; (focus (intro wx; first | (go_simp; first | rfl) | rfl)); clear hK K)
          refine reg_p (i := 17) rfl (by kernel_rfl) (fun _ _ _ _ h => h) HH.out (fun K hK => ?_)
          go_simp
          first | (refine hK _ ?_; clear hK K) | (apply Exists.intro; refine ⟨?_, hK _ ?_⟩; (focus (intro wx; first | (go_simp; first | rfl) | rfl)); clear hK K)
          refine mixk_done (by kernel_rfl) (fun w12_ hk => ?_) _
          replace HH := Lib.hid (hk _ _ HH.out)
          clear hk
          rw [hs8.out, hol.out] at HH
          obtain ⟨A2, n2, d2, rfl, _, _, hpk⟩ := HH.out.slcP_val
          obtain rfl : ol.length = n2 := hpk.1
          clear hpk
          replace HH := Lib.hid ((Own.pm (HH.out) (by repeat (first | with_reducible exact Pm.refl _ | with_reducible exact Pm.nil _ | with_reducible refine Pm.here ?_ | with_reducible refine Pm.at2 ?_ | with_reducible refine Pm.at3 ?_ | with_reducible refine Pm.at4 ?_ | with_reducible refine Pm.at5 ?_ | with_reducible refine Pm.at6 ?_ | with_reducible refine Pm.at7 ?_ | with_reducible refine Pm.at8 ?_ | with_reducible refine Pm.skip ?_))) : Own w _ (slcP (.slice A1 ol.length d1) ol :: slcP (.slice A2 ol.length d2) ol :: lnk b s9 :: rl21 d s9 :: [old w]))
          go_wp2_with fail
          refine (same08_c _ A1 A2 ol.length ol.length d1 d2 ol ol (slc_pk HH.out) (slc_pk HH.out.r2) (by unfold maxLen; omega)).mono ?_
          rw [show decide (ol = ol) = true from decide_eq_true rfl]
          rintro e w7 ⟨rfl, nd, rfl⟩
          replace HH := Lib.hid (HH.out.drewN nd)
          have H9 := Lib.hid ((Own.pm (HH.out) (by repeat (first | with_reducible exact Pm.refl _ | with_reducible exact Pm.nil _ | with_reducible refine Pm.here ?_ | with_reducible refine Pm.at2 ?_ | with_reducible refine Pm.at3 ?_ | with_reducible refine Pm.at4 ?_ | with_reducible refine Pm.at5 ?_ | with_reducible refine Pm.at6 ?_ | with_reducible refine Pm.at7 ?_ | with_reducible refine Pm.at8 ?_ | with_reducible refine Pm.skip ?_))) : Own w _ (lnk b s9 :: rl21 d s9 :: [old w]))
          go_wp2_with fail
          go_meet
          case rel => exact ⟨rfl, H9.out⟩
        | false =>
          have hs8 : (s.send (mkPks frm sz)).1 = s9 := hs9.out
          have hFe : F = frm + sz.length := by rw [← hF.out]; rfl
          subst hFe
          replace hs8 := Lib.hid hs8
          have o1 := ((Own.pm (HH.out) (by repeat (first | with_reducible exact Pm.refl _ | with_reducible exact Pm.nil _ | with_reducible refine Pm.here ?_ | with_reducible refine Pm.at2 ?_ | with_reducible refine Pm.at3 ?_ | with_reducible refine Pm.at4 ?_ | with_reducible refine Pm.at5 ?_ | with_reducible refine Pm.at6 ?_ | with_reducible refine Pm.at7 ?_ | with_reducible refine Pm.at8 ?_ | with_reducible refine Pm.skip ?_))) : Own w _ [old w]).old_cell c1
          go_wp2_with fail
          refine (packets21_c w _ _ frm As sz.length cs sz (fun wx Hx => g1.out.old (Own.pm (Hx) (by repeat (first | with_reducible exact Pm.refl _ | with_reducible exact Pm.nil _ | with_reducible refine Pm.here ?_ | with_reducible refine Pm.at2 ?_ | with_reducible refine Pm.at3 ?_ | with_reducible refine Pm.at4 ?_ | with_reducible refine Pm.at5 ?_ | with_reducible refine Pm.at6 ?_ | with_reducible refine Pm.at7 ?_ | with_reducible refine Pm.at8 ?_ | with_reducible refine Pm.skip ?_)))) (by omega) HH.out).mono ?_
          rintro e w13_ ⟨v, rfl, H9_⟩
          replace HH := Lib.hid H9_
          clear H9_
          obtain ⟨A1, n1, d1, rfl, _, _, hpk⟩ := HH.out.slcP_val
          obtain rfl : n1 = sz.length := by rw [← hpk.1, mkPks_len]
          clear hpk o1
          have hwf : IntKind.i64.wrap ((frm : Int) + (sz.length : Int)) = (frm : Int) + (sz.length : Int) := by rw [IntKind.wrap_i64]; omega
          have hpo := Lib.hid (mkPks_ok (f := frm) (l := sz) (by omega) v3.out)
          replace HH := Lib.hid ((Own.pm (HH.out) (by repeat (first | with_reducible exact Pm.refl _ | with_reducible exact Pm.nil _ | with_reducible refine Pm.here ?_ | with_reducible refine Pm.at2 ?_ | with_reducible refine Pm.at3 ?_ | with_reducible refine Pm.at4 ?_ | with_reducible refine Pm.at5 ?_ | with_reducible refine Pm.at6 ?_ | with_reducible refine Pm.at7 ?_ | with_reducible refine Pm.at8 ?_ | with_reducible refine Pm.skip ?_))) : Own w _ (lnk b s :: slcP (.slice A1 sz.length d1) (mkPks frm sz) :: rl21 d s :: [old w]))
          go_wp2_with fail
          refine (linkSend_c w _ _ b s hso.out A1 sz.length d1 (mkPks frm sz) hpo.out (fun wx Hx => slc_pk Hx) (by omega) HH.out).mono ?_
          rintro e w14_ ⟨rfl, H9_⟩
          replace HH := Lib.hid H9_
          clear H9_
          rw [hs8.out] at HH
          replace HH := Lib.hid ((Own.pm (HH.out) (by repeat (first | with_reducible exact Pm.refl _ | with_reducible exact Pm.nil _ | with_reducible refine Pm.here ?_ | with_reducible refine Pm.at2 ?_ | with_reducible refine Pm.at3 ?_ | with_reducible refine Pm.at4 ?_ | with_reducible refine Pm.at5 ?_ | with_reducible refine Pm.at6 ?_ | with_reducible refine Pm.at7 ?_ | with_reducible refine Pm.at8 ?_ | with_reducible refine Pm.skip ?_))) : Own w _ (rl21 d s :: slcP (.slice A1 sz.length d1) (mkPks frm sz) :: lnk b s9 :: [old w]))
          go_wp2_with fail
          refine (rl21Send_c w _ _ d s hso.out A1 sz.length d1 (mkPks frm sz) hpo.out (fun wx Hx => slc_pk Hx) (by omega) HH.out).mono ?_
          rintro e w15_ ⟨rfl, H9_⟩
          replace HH := Lib.hid H9_
          clear H9_
          rw [hs8.out] at HH
          have H9 := Lib.hid ((Own.pm (HH.out) (by repeat (first | with_reducible exact Pm.refl _ | with_reducible exact Pm.nil _ | with_reducible refine Pm.here ?_ | with_reducible refine Pm.at2 ?_ | with_reducible refine Pm.at3 ?_ | with_reducible refine Pm.at4 ?_ | with_reducible refine Pm.at5 ?_ | with_reducible refine Pm.at6 ?_ | with_reducible refine Pm.at7 ?_ | with_reducible refine Pm.at8 ?_ | with_reducible refine Pm.skip ?_))) : Own w _ (lnk b s9 :: rl21 d s9 :: [old w]))
          go_wp2_with fail
          go_meet
          case rel => exact ⟨by go_num, H9.out⟩
      case rest =>
        clear HH hs9 hF
        obtain ⟨rfl, HR⟩ := hcut
        have HH := Lib.hid HR
        clear HR
        go_wp2_with fail
        refine (same21_c w _ _ b d s9 hL2.out.ok hL2.out.now (by have h1 := hL2.out.len; have h2 := hL2.out.few; omega) HH.out).mono ?_
        rintro e w16_ ⟨rfl, H9_⟩
        replace HH := Lib.hid H9_
        clear H9_
        go_wp2_with fail
        go_roundw
        case rel => exact ⟨k + 1, F, s9, by omega, by go_num, rfl, hL2.out, HH.out⟩
        case measure => simp [intOf]; omega
    · clear hA hok hfew hL
      replace HH := Lib.hid ((Own.pm (HH.out) (by repeat (first | with_reducible exact Pm.refl _ | with_reducible exact Pm.nil _ | with_reducible refine Pm.here ?_ | with_reducible refine Pm.at2 ?_ | with_reducible refine Pm.at3 ?_ | with_reducible refine Pm.at4 ?_ | with_reducible refine Pm.at5 ?_ | with_reducible refine Pm.at6 ?_ | with_reducible refine Pm.at7 ?_ | with_reducible refine Pm.at8 ?_ | with_reducible refine Pm.skip ?_))) : Own w _ [old w])
      go_wp2_with fail
      refine (alive21_k _).mono ?_
      rintro e w17_ ⟨rfl, hbel⟩
      replace HH := Lib.hid ((by first | exact Kp.same hbel | exact Kp.drew hbel | exact Kp.below hbel : Kp _ w17_) _ _ (by first | exact HH.out | exact HH.out.drewN _ | exact (HH.out.alloc _).tail | exact ((HH.out.alloc _).drewN _).tail | exact ((HH.out.alloc _).alloc _).tail.tail))
      clear hbel
      go_wp2_with fail
      go_ret
      exact ⟨rfl, HH.out⟩
end
end Go.Proofs.Ytklohjjkpobneaa
