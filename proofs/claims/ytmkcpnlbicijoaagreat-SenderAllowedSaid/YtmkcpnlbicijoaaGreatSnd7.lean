/- sender: an act, as a sender tells what it needs: by mksnd.py. -/
import Derived.Test.YtmkcpnlbicijoaaGreatSnd6
namespace Go.Proofs.YtmkcpnlbicijoaaGreat
open Go.RowKit
def laterI (t n : Int) : Int := if 9223372036854775808 < n then n else t + n
inductive DoEnd (s : Snd) (kd n : Int) (xs : List Rg) : List Pk → Snd → Prop
 | write : kd % 5 = 0 → DoEnd s kd n xs [] (s.write n).2
 | ack (now : Int) : kd % 5 = 2 → U now → DoEnd s kd n xs [] (s.ack now xs).2
 | tick (now e : Int) {out : List Pk} {s' : Snd} : kd % 5 ≠ 0 → kd % 5 ≠ 2 → TickEnd s now out e s' → DoEnd s kd n xs out s'
def Fits17 (len : Nat) (f : Nat → Nat) (w : World) (e : Ending) (w' : World) : Prop := ∃ bl, e = .returned (.bool bl) ∧ w = w' ∧ (bl = true → len ≤ 80 ∧ ∀ k, k < len → f k ≤ 80)
theorem Fits17.no {len : Nat} {f : Nat → Nat} {w : World} {e : Ending} (h : e = .returned (.bool false)) : Fits17 len f w e w := ⟨_, h, rfl, fun h => by cases h⟩
theorem Fits17.yes {len : Nat} {f : Nat → Nat} {w : World} {e : Ending} (h : e = .returned (.bool true)) (h1 : len ≤ 80) (h2 : ∀ k, k < len → f k ≤ 80) : Fits17 len f w e w := ⟨_, h, rfl, fun _ => ⟨h1, h2⟩⟩
section
variable (ε w : World) (R : List Asn) (b kb lb tb sb eb pb : Nat)
set_option maxHeartbeats 1600000 in
theorem fits17_c (A : Option Addr) (len cap : Nat) (f : Nat → Nat) (hlen : len ≤ 9223372036854775807) (hc : ∀ k, k < len → ∃ ab off A' cp, A = some ⟨ab, off, none⟩ ∧ f k ≤ 9223372036854775807 ∧ w.cell? ⟨ab, off + k * 3 + 2, none⟩ = some (.slice A' (f k) cp)) :
  Calls Tryz.prog 7 #[.slice A len cap] w (Fits17 len f w) := by
 replace hc := Lib.hid hc
 replace hlen := Lib.hid hlen
 go_enter Tryz.func7, Tryz.ntmps7
 go_wp2_with fail
 go_loopw [3] (fun i wr => ∃ k : Nat, k ≤ len ∧ k ≤ 81 ∧ i = .int .i64 k ∧ wr = w ∧ ∀ j, j < k → f j ≤ 80) (fun i _ => len - (intOf i).toNat)
 case atStart => refine ⟨0, Nat.zero_le _, by decide, ?_⟩; simp
 case round =>
  obtain ⟨k, hk, hk2, rfl, rfl, hj⟩ := hrel
  replace hj := Lib.hid hj
  by_cases hlt : k < len
  ·obtain ⟨ab, off, A', cp, rfl, hf, c0⟩ := hc.out k hlt
   by_cases hk3 : k ≤ 80
   ·have hk4 : (k : Int) ≤ 80 := by omega
    by_cases hbig : 80 < f k
    ·have hb2 : (80 : Int) < (f k : Int) := by omega
     replace hf := Lib.hid hf
     go_wp2_with fail
     go_ret
     exact Fits17.no rfl
    ·have hb2 : ¬ (80 : Int) < (f k : Int) := by omega
     replace hf := Lib.hid hf
     go_wp2_with fail
     go_roundw
     case rel =>
      refine ⟨k + 1, by omega, by omega, by go_num, ?_⟩
      simp only [true_and]
      intro j hjk
      rcases Nat.lt_or_ge j k with h | h
      ·exact hj.out j h
      ·obtain rfl : j = k := by omega
       omega
     case measure => simp [intOf]; omega
   ·have hk4 : ¬ (k : Int) ≤ 80 := by omega
    have hl2 : ¬ (len : Int) ≤ 80 := by omega
    go_wp2_with fail
    go_ret
    exact Fits17.no rfl
  ·have hkl : k = len := by omega
   subst hkl
   by_cases hl2 : (k : Int) ≤ 80
   ·go_wp2_with fail
    go_ret
    exact Fits17.yes rfl (by omega) hj.out
   ·go_wp2_with fail
    go_ret
    exact Fits17.no rfl
theorem later_c (t n : Int) (ht : 0 ≤ t ∧ t ≤ 4398046511104) (hn : U n) : Calls Tryz.prog 31 #[.int .u64 t, .int .u64 n] w fun e w' => e = .returned (.int .u64 (laterI t n)) ∧ w = w' := by
 unfold laterI
 by_cases h : 9223372036854775808 < n
 ·rw [if_pos h]
  go_enter Tryz.func31, Tryz.ntmps31
  go_wp2_with fail
  go_ret
  exact ⟨rfl, rfl⟩
 ·rw [if_neg h]
  have hw : IntKind.u64.wrap (t + n) = t + n := by unfold U at hn; rw [IntKind.wrap_u64]; omega
  go_enter Tryz.func31, Tryz.ntmps31
  go_wp2_with fail
  go_ret
  exact ⟨rfl, rfl⟩
theorem U_later {t n : Int} (ht : 0 ≤ t ∧ t ≤ 4398046511104) (hn : U n) : U (laterI t n) := by
 unfold laterI
 split
 ·exact hn
 ·unfold U at *; omega
set_option maxRecDepth 100000 in
set_option maxHeartbeats 6400000 in
theorem do17_c (s : Snd) (c : Cnf) (N M : Nat) (hr : c.right = true) (h : s.In c N M) (hN : N ≤ 900000) (hM : M ≤ 900000) (kd n : Int) (hk0 : 0 ≤ kd) (hk1 : kd < 256) (hn : U n) (xs : List Rg) (hU : ∀ x ∈ xs, U x.1 ∧ U x.2) (A : Option Addr) (len cap : Nat) (hA : ∀ wx, Own ε wx R → itAt encRg 2 wx A len xs) (hm : len ≤ 1000) (H : Own ε w (sAll b kb lb tb sb eb pb s R)) :
  Calls Tryz.prog 10 #[.pointer (some ⟨b, 0, none⟩), .agg #[.int .u8 kd, .int .u64 n, .slice A len cap]] w fun e w' => ∃ v out s2, ∃ _ : DoEnd s kd n xs out s2, e = .returned v ∧ Own ε w' (slcP v out :: sAll b kb lb tb sb eb pb s2 R) := by
 have HH := Lib.hid H; clear H
 have hkt : 0 ≤ s.k.t ∧ s.k.t ≤ 4398046511104 := by have := h.k; unfold Clk.Ok at this; exact ⟨this.1, this.2.1⟩
 have hUl := U_later hkt hn
 replace hkt := Lib.hid hkt
 replace hUl := Lib.hid hUl
 replace hn := Lib.hid hn
 replace hA := Lib.hid hA
 replace hU := Lib.hid hU
 replace h := Lib.hid h
 replace hr := Lib.hid hr
 obtain ⟨tn, htn⟩ : ∃ tn, tn = laterI s.k.t n := ⟨_, rfl⟩
 rw [← htn] at hUl
 replace htn := Lib.hid htn
 rcases (show kd % 5 = 0 ∨ kd % 5 = 1 ∨ kd % 5 = 2 ∨ kd % 5 = 3 ∨ kd % 5 = 4 by omega) with h5 | h5 | h5 | h5 | h5
 ·go_enter Tryz.func10, Tryz.ntmps10
  go_wp2_with (with_reducible refine stop_bx ?_)
  refine Stop.go ?_
  refine wpList_box_own HH.out [_, _, _] rfl ?_
  intro ab w1_ H9_
  replace HH := Lib.hid H9_
  clear H9_
  replace HH := Lib.hid (show Own ε _ (pts ab (.cells #[.int .u8 kd, .int .u64 n, .slice A len cap] 37 (0, 0)) :: _) from HH.out)
  go_wp2_with fail
  refine wp_region_reg none HH.out (by kernel_rfl) ?_
  intro wm H9_
  replace HH := Lib.hid H9_
  clear H9_
  refine reg_s 0 HH.out ?_
  refine mixk_q (i := 1) rfl (by kernel_rfl) (fun _ _ _ _ h => h) HH.out (fun K hK => ?_)
  go_simp
  (first | refine hK _ ?_ | (apply Exists.intro; refine ⟨?_, hK _ ?_⟩; focus intro wx hx; first | (first | (go_at_call 11; refine (sndTime_c ε wx _ b kb lb tb sb eb pb s (hx.pn : Own ε wx (sAll b kb lb tb sb eb pb s R))).mono ?_; rintro e wy ⟨rfl, hbel⟩; exact ⟨rfl, (by first | exact .same hbel | exact .drew hbel | exact .below hbel : Kp wx wy)⟩)) | (go_simp; first | rfl | exact ⟨rfl, rfl⟩) | rfl | exact ⟨rfl, rfl⟩)); clear hK K
  refine reg_s 2 HH.out ?_
  refine mixk_s 3 HH.out (fun _ hx => hx.cells) ?_
  refine mixk_q (i := 4) rfl (by kernel_rfl) (fun _ _ _ _ h => h) HH.out (fun K hK => ?_)
  go_simp
  (first | refine hK _ ?_ | (apply Exists.intro; refine ⟨?_, hK _ ?_⟩; focus intro wx hx; first | (first | (go_at_call 31; refine (later_c wx s.k.t n hkt.out hn.out).mono ?_; rw [← htn.out]; rintro e wy ⟨rfl, hbel⟩; exact ⟨rfl, (by first | exact .same hbel | exact .drew hbel | exact .below hbel : Kp wx wy)⟩)) | (go_simp; first | rfl | exact ⟨rfl, rfl⟩) | rfl | exact ⟨rfl, rfl⟩)); clear hK K
  refine reg_s 5 HH.out ?_
  refine mixk_done (by kernel_rfl) (fun w2_ hk => ?_) _
  replace HH := Lib.hid (hk _ _ HH.out)
  clear hk
  (try clear cc1_)
  have cc1_ := HH.out.cells
  go_wp2_with fail
  refine (sndWrite_c ε _ _ b kb lb tb sb eb pb s c N M h.out n hn.out (HH.out.pn : Own ε _ (sAll b kb lb tb sb eb pb s R))).mono ?_
  rintro e w3_ ⟨rfl, H9_⟩
  replace HH := Lib.hid H9_
  clear H9_
  go_wp2_with fail
  go_ret
  exact ⟨_, [], _, DoEnd.write h5, rfl, HH.out.slc_none⟩
 ·go_enter Tryz.func10, Tryz.ntmps10
  go_wp2_with (with_reducible refine stop_bx ?_)
  refine Stop.go ?_
  refine wpList_box_own HH.out [_, _, _] rfl ?_
  intro ab w4_ H9_
  replace HH := Lib.hid H9_
  clear H9_
  replace HH := Lib.hid (show Own ε _ (pts ab (.cells #[.int .u8 kd, .int .u64 n, .slice A len cap] 37 (0, 0)) :: _) from HH.out)
  go_wp2_with fail
  refine wp_region_reg none HH.out (by kernel_rfl) ?_
  intro wm H9_
  replace HH := Lib.hid H9_
  clear H9_
  refine reg_s 0 HH.out ?_
  refine mixk_q (i := 1) rfl (by kernel_rfl) (fun _ _ _ _ h => h) HH.out (fun K hK => ?_)
  go_simp
  (first | refine hK _ ?_ | (apply Exists.intro; refine ⟨?_, hK _ ?_⟩; focus intro wx hx; first | (first | (go_at_call 11; refine (sndTime_c ε wx _ b kb lb tb sb eb pb s (hx.pn : Own ε wx (sAll b kb lb tb sb eb pb s R))).mono ?_; rintro e wy ⟨rfl, hbel⟩; exact ⟨rfl, (by first | exact .same hbel | exact .drew hbel | exact .below hbel : Kp wx wy)⟩)) | (go_simp; first | rfl | exact ⟨rfl, rfl⟩) | rfl | exact ⟨rfl, rfl⟩)); clear hK K
  refine reg_s 2 HH.out ?_
  refine mixk_s 3 HH.out (fun _ hx => hx.cells) ?_
  refine mixk_q (i := 4) rfl (by kernel_rfl) (fun _ _ _ _ h => h) HH.out (fun K hK => ?_)
  go_simp
  (first | refine hK _ ?_ | (apply Exists.intro; refine ⟨?_, hK _ ?_⟩; focus intro wx hx; first | (first | (go_at_call 31; refine (later_c wx s.k.t n hkt.out hn.out).mono ?_; rw [← htn.out]; rintro e wy ⟨rfl, hbel⟩; exact ⟨rfl, (by first | exact .same hbel | exact .drew hbel | exact .below hbel : Kp wx wy)⟩)) | (go_simp; first | rfl | exact ⟨rfl, rfl⟩) | rfl | exact ⟨rfl, rfl⟩)); clear hK K
  refine reg_s 5 HH.out ?_
  refine mixk_done (by kernel_rfl) (fun w5_ hk => ?_) _
  replace HH := Lib.hid (hk _ _ HH.out)
  clear hk
  (try clear cc1_)
  have cc1_ := HH.out.cells
  go_wp2_with fail
  refine (sndTick_c ε _ _ b kb lb tb sb eb pb s c N M hr.out h.out hN hM tn (HH.out.pn : Own ε _ (sAll b kb lb tb sb eb pb s R))).mono ?_
  rintro e w6_ ⟨v, out, e0, s2, ht, rfl, H9_⟩
  replace HH := Lib.hid H9_
  clear H9_
  replace ht := Lib.hid ht
  go_wp2_with fail
  go_ret
  exact ⟨_, out, s2, DoEnd.tick tn e0 (by omega) (by omega) ht.out, rfl, HH.out⟩
 ·go_enter Tryz.func10, Tryz.ntmps10
  go_wp2_with (with_reducible refine stop_bx ?_)
  refine Stop.go ?_
  refine wpList_box_own HH.out [_, _, _] rfl ?_
  intro ab w7_ H9_
  replace HH := Lib.hid H9_
  clear H9_
  replace HH := Lib.hid (show Own ε _ (pts ab (.cells #[.int .u8 kd, .int .u64 n, .slice A len cap] 37 (0, 0)) :: _) from HH.out)
  go_wp2_with fail
  refine wp_region_reg none HH.out (by kernel_rfl) ?_
  intro wm H9_
  replace HH := Lib.hid H9_
  clear H9_
  refine reg_s 0 HH.out ?_
  refine mixk_q (i := 1) rfl (by kernel_rfl) (fun _ _ _ _ h => h) HH.out (fun K hK => ?_)
  go_simp
  (first | refine hK _ ?_ | (apply Exists.intro; refine ⟨?_, hK _ ?_⟩; focus intro wx hx; first | (first | (go_at_call 11; refine (sndTime_c ε wx _ b kb lb tb sb eb pb s (hx.pn : Own ε wx (sAll b kb lb tb sb eb pb s R))).mono ?_; rintro e wy ⟨rfl, hbel⟩; exact ⟨rfl, (by first | exact .same hbel | exact .drew hbel | exact .below hbel : Kp wx wy)⟩)) | (go_simp; first | rfl | exact ⟨rfl, rfl⟩) | rfl | exact ⟨rfl, rfl⟩)); clear hK K
  refine reg_s 2 HH.out ?_
  refine mixk_s 3 HH.out (fun _ hx => hx.cells) ?_
  refine mixk_q (i := 4) rfl (by kernel_rfl) (fun _ _ _ _ h => h) HH.out (fun K hK => ?_)
  go_simp
  (first | refine hK _ ?_ | (apply Exists.intro; refine ⟨?_, hK _ ?_⟩; focus intro wx hx; first | (first | (go_at_call 31; refine (later_c wx s.k.t n hkt.out hn.out).mono ?_; rw [← htn.out]; rintro e wy ⟨rfl, hbel⟩; exact ⟨rfl, (by first | exact .same hbel | exact .drew hbel | exact .below hbel : Kp wx wy)⟩)) | (go_simp; first | rfl | exact ⟨rfl, rfl⟩) | rfl | exact ⟨rfl, rfl⟩)); clear hK K
  refine reg_s 5 HH.out ?_
  refine mixk_done (by kernel_rfl) (fun w8_ hk => ?_) _
  replace HH := Lib.hid (hk _ _ HH.out)
  clear hk
  (try clear cc1_)
  have cc1_ := HH.out.cells
  go_wp2_with fail
  refine (sndAck_c ε _ _ b kb lb tb sb eb pb s c N M hr.out h.out hN hM tn hUl.out xs hU.out A len cap hA.out hm (HH.out.pn : Own ε _ (sAll b kb lb tb sb eb pb s R))).mono ?_
  rintro e w9_ ⟨rfl, H9_⟩
  replace HH := Lib.hid H9_
  clear H9_
  go_wp2_with fail
  go_ret
  exact ⟨_, [], _, DoEnd.ack tn h5 hUl.out, rfl, HH.out.slc_none⟩
 ·cases hnx : s.next.2 with
  | true =>
   go_enter Tryz.func10, Tryz.ntmps10
   go_wp2_with (with_reducible refine stop_bx ?_)
   refine Stop.go ?_
   refine wpList_box_own HH.out [_, _, _] rfl ?_
   intro ab w10_ H9_
   replace HH := Lib.hid H9_
   clear H9_
   replace HH := Lib.hid (show Own ε _ (pts ab (.cells #[.int .u8 kd, .int .u64 n, .slice A len cap] 37 (0, 0)) :: _) from HH.out)
   go_wp2_with fail
   refine wp_region_reg none HH.out (by kernel_rfl) ?_
   intro wm H9_
   replace HH := Lib.hid H9_
   clear H9_
   refine reg_s 0 HH.out ?_
   refine mixk_q (i := 1) rfl (by kernel_rfl) (fun _ _ _ _ h => h) HH.out (fun K hK => ?_)
   go_simp
   (first | refine hK _ ?_ | (apply Exists.intro; refine ⟨?_, hK _ ?_⟩; focus intro wx hx; first | (first | (go_at_call 11; refine (sndTime_c ε wx _ b kb lb tb sb eb pb s (hx.pn : Own ε wx (sAll b kb lb tb sb eb pb s R))).mono ?_; rintro e wy ⟨rfl, hbel⟩; exact ⟨rfl, (by first | exact .same hbel | exact .drew hbel | exact .below hbel : Kp wx wy)⟩)) | (go_simp; first | rfl | exact ⟨rfl, rfl⟩) | rfl | exact ⟨rfl, rfl⟩)); clear hK K
   refine reg_s 2 HH.out ?_
   refine mixk_s 3 HH.out (fun _ hx => hx.cells) ?_
   refine mixk_q (i := 4) rfl (by kernel_rfl) (fun _ _ _ _ h => h) HH.out (fun K hK => ?_)
   go_simp
   (first | refine hK _ ?_ | (apply Exists.intro; refine ⟨?_, hK _ ?_⟩; focus intro wx hx; first | (first | (go_at_call 31; refine (later_c wx s.k.t n hkt.out hn.out).mono ?_; rw [← htn.out]; rintro e wy ⟨rfl, hbel⟩; exact ⟨rfl, (by first | exact .same hbel | exact .drew hbel | exact .below hbel : Kp wx wy)⟩)) | (go_simp; first | rfl | exact ⟨rfl, rfl⟩) | rfl | exact ⟨rfl, rfl⟩)); clear hK K
   refine reg_s 5 HH.out ?_
   refine mixk_done (by kernel_rfl) (fun w11_ hk => ?_) _
   replace HH := Lib.hid (hk _ _ HH.out)
   clear hk
   (try clear cc1_)
   have cc1_ := HH.out.cells
   go_wp2_with fail
   refine (sndNext_c ε _ _ b kb lb tb sb eb pb s c N M h.out (by omega) (HH.out.pn : Own ε _ (sAll b kb lb tb sb eb pb s R))).mono ?_
   rw [hnx]
   rintro e w12_ ⟨rfl, H9_⟩
   replace HH := Lib.hid H9_
   clear H9_
   go_wp2_with fail
   refine (sndTick_c ε _ _ b kb lb tb sb eb pb s c N M hr.out h.out hN hM s.next.1 (HH.out.pn : Own ε _ (sAll b kb lb tb sb eb pb s R))).mono ?_
   rintro e w13_ ⟨v, out, e0, s2, ht, rfl, H9_⟩
   replace HH := Lib.hid H9_
   clear H9_
   replace ht := Lib.hid ht
   go_wp2_with fail
   go_ret
   exact ⟨_, out, s2, DoEnd.tick s.next.1 e0 (by omega) (by omega) ht.out, rfl, HH.out⟩
  | false =>
   go_enter Tryz.func10, Tryz.ntmps10
   go_wp2_with (with_reducible refine stop_bx ?_)
   refine Stop.go ?_
   refine wpList_box_own HH.out [_, _, _] rfl ?_
   intro ab w14_ H9_
   replace HH := Lib.hid H9_
   clear H9_
   replace HH := Lib.hid (show Own ε _ (pts ab (.cells #[.int .u8 kd, .int .u64 n, .slice A len cap] 37 (0, 0)) :: _) from HH.out)
   go_wp2_with fail
   refine wp_region_reg none HH.out (by kernel_rfl) ?_
   intro wm H9_
   replace HH := Lib.hid H9_
   clear H9_
   refine reg_s 0 HH.out ?_
   refine mixk_q (i := 1) rfl (by kernel_rfl) (fun _ _ _ _ h => h) HH.out (fun K hK => ?_)
   go_simp
   (first | refine hK _ ?_ | (apply Exists.intro; refine ⟨?_, hK _ ?_⟩; focus intro wx hx; first | (first | (go_at_call 11; refine (sndTime_c ε wx _ b kb lb tb sb eb pb s (hx.pn : Own ε wx (sAll b kb lb tb sb eb pb s R))).mono ?_; rintro e wy ⟨rfl, hbel⟩; exact ⟨rfl, (by first | exact .same hbel | exact .drew hbel | exact .below hbel : Kp wx wy)⟩)) | (go_simp; first | rfl | exact ⟨rfl, rfl⟩) | rfl | exact ⟨rfl, rfl⟩)); clear hK K
   refine reg_s 2 HH.out ?_
   refine mixk_s 3 HH.out (fun _ hx => hx.cells) ?_
   refine mixk_q (i := 4) rfl (by kernel_rfl) (fun _ _ _ _ h => h) HH.out (fun K hK => ?_)
   go_simp
   (first | refine hK _ ?_ | (apply Exists.intro; refine ⟨?_, hK _ ?_⟩; focus intro wx hx; first | (first | (go_at_call 31; refine (later_c wx s.k.t n hkt.out hn.out).mono ?_; rw [← htn.out]; rintro e wy ⟨rfl, hbel⟩; exact ⟨rfl, (by first | exact .same hbel | exact .drew hbel | exact .below hbel : Kp wx wy)⟩)) | (go_simp; first | rfl | exact ⟨rfl, rfl⟩) | rfl | exact ⟨rfl, rfl⟩)); clear hK K
   refine reg_s 5 HH.out ?_
   refine mixk_done (by kernel_rfl) (fun w15_ hk => ?_) _
   replace HH := Lib.hid (hk _ _ HH.out)
   clear hk
   (try clear cc1_)
   have cc1_ := HH.out.cells
   go_wp2_with fail
   refine (sndNext_c ε _ _ b kb lb tb sb eb pb s c N M h.out (by omega) (HH.out.pn : Own ε _ (sAll b kb lb tb sb eb pb s R))).mono ?_
   rw [hnx]
   rintro e w16_ ⟨rfl, H9_⟩
   replace HH := Lib.hid H9_
   clear H9_
   go_wp2_with fail
   refine (sndTick_c ε _ _ b kb lb tb sb eb pb s c N M hr.out h.out hN hM tn (HH.out.pn : Own ε _ (sAll b kb lb tb sb eb pb s R))).mono ?_
   rintro e w17_ ⟨v, out, e0, s2, ht, rfl, H9_⟩
   replace HH := Lib.hid H9_
   clear H9_
   replace ht := Lib.hid ht
   go_wp2_with fail
   go_ret
   exact ⟨_, out, s2, DoEnd.tick tn e0 (by omega) (by omega) ht.out, rfl, HH.out⟩
 ·go_enter Tryz.func10, Tryz.ntmps10
  go_wp2_with (with_reducible refine stop_bx ?_)
  refine Stop.go ?_
  refine wpList_box_own HH.out [_, _, _] rfl ?_
  intro ab w18_ H9_
  replace HH := Lib.hid H9_
  clear H9_
  replace HH := Lib.hid (show Own ε _ (pts ab (.cells #[.int .u8 kd, .int .u64 n, .slice A len cap] 37 (0, 0)) :: _) from HH.out)
  go_wp2_with fail
  refine wp_region_reg none HH.out (by kernel_rfl) ?_
  intro wm H9_
  replace HH := Lib.hid H9_
  clear H9_
  refine reg_s 0 HH.out ?_
  refine mixk_q (i := 1) rfl (by kernel_rfl) (fun _ _ _ _ h => h) HH.out (fun K hK => ?_)
  go_simp
  (first | refine hK _ ?_ | (apply Exists.intro; refine ⟨?_, hK _ ?_⟩; focus intro wx hx; first | (first | (go_at_call 11; refine (sndTime_c ε wx _ b kb lb tb sb eb pb s (hx.pn : Own ε wx (sAll b kb lb tb sb eb pb s R))).mono ?_; rintro e wy ⟨rfl, hbel⟩; exact ⟨rfl, (by first | exact .same hbel | exact .drew hbel | exact .below hbel : Kp wx wy)⟩)) | (go_simp; first | rfl | exact ⟨rfl, rfl⟩) | rfl | exact ⟨rfl, rfl⟩)); clear hK K
  refine reg_s 2 HH.out ?_
  refine mixk_s 3 HH.out (fun _ hx => hx.cells) ?_
  refine mixk_q (i := 4) rfl (by kernel_rfl) (fun _ _ _ _ h => h) HH.out (fun K hK => ?_)
  go_simp
  (first | refine hK _ ?_ | (apply Exists.intro; refine ⟨?_, hK _ ?_⟩; focus intro wx hx; first | (first | (go_at_call 31; refine (later_c wx s.k.t n hkt.out hn.out).mono ?_; rw [← htn.out]; rintro e wy ⟨rfl, hbel⟩; exact ⟨rfl, (by first | exact .same hbel | exact .drew hbel | exact .below hbel : Kp wx wy)⟩)) | (go_simp; first | rfl | exact ⟨rfl, rfl⟩) | rfl | exact ⟨rfl, rfl⟩)); clear hK K
  refine reg_s 5 HH.out ?_
  refine mixk_done (by kernel_rfl) (fun w19_ hk => ?_) _
  replace HH := Lib.hid (hk _ _ HH.out)
  clear hk
  (try clear cc1_)
  have cc1_ := HH.out.cells
  go_wp2_with fail
  refine (sndTick_c ε _ _ b kb lb tb sb eb pb s c N M hr.out h.out hN hM n (HH.out.pn : Own ε _ (sAll b kb lb tb sb eb pb s R))).mono ?_
  rintro e w20_ ⟨v, out, e0, s2, ht, rfl, H9_⟩
  replace HH := Lib.hid H9_
  clear H9_
  replace ht := Lib.hid ht
  go_wp2_with fail
  go_ret
  exact ⟨_, out, s2, DoEnd.tick n e0 (by omega) (by omega) ht.out, rfl, HH.out⟩
end
end Go.Proofs.YtmkcpnlbicijoaaGreat
