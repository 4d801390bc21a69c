/- sender: SenderKept: by mksnd.py. -/
import Derived.Test.YtmkcpnlbicijoaaGreatSnd9
namespace Go.Proofs.YtmkcpnlbicijoaaGreat
open Go.RowKit
section
variable (w : World)
theorem fits17_back {ε w wx : World} {R : List Asn} {A : Option Addr} {len cap : Nat} {acts : List SAct} (_h : Calls Tryz.prog 7 #[.slice A len cap] w (Fits17 len (fun k => (acts.getD k ⟨0, 0, []⟩).r.length) w)) (H : Own ε wx (old w :: R)) (hlen : acts.length = len) (hm : len ≤ 9223372036854775807) (hacts : ∀ k a, acts[k]? = some a → SActIn w A k a) :
  Calls Tryz.prog 7 #[.slice A len cap] wx (Fits17 len (fun k => (acts.getD k ⟨0, 0, []⟩).r.length) wx) :=
 fits17_acts (cap := cap) hlen hm fun k a ha => by
  have q := hacts k a ha
  obtain ⟨ab, off, A', cp, h1, h2, h3, h4, h5⟩ := q.cells
  exact ⟨q.kd, q.u, q.ru, q.big, ab, off, A', cp, h1, itAt.old h2 H, H.old_cell h3, H.old_cell h4, H.old_cell h5⟩
set_option maxRecDepth 100000 in
set_option maxHeartbeats 12800000 in
theorem senderKept_c (cs : Array Value) (_hz : cs.size = 6) (ct : ConfT) (hp : rdConf w cs.toList ct) (A : Option Addr) (len cap : Nat) (xs : List ActS) (hr : rdSlice rdActS 3 w [.slice A len cap] xs) :
  Calls Tryz.prog 5 #[.agg cs, .slice A len cap] w fun e w' => e = .returned (.bool true) ∧ Own w w' [old w] := by
 have HH := Lib.hid (Own.init w)
 obtain ⟨hcs, hc⟩ := rdConf_open hp
 have hcs := arr_of_list hcs
 subst hcs
 clear hp _hz
 generalize ConfT.c ct = c at hc ⊢
 obtain ⟨hlen, hm, hacts⟩ := sacts_rd hr
 clear hr
 generalize xs.map ActS.act = acts at hlen hacts
 have hfit := Lib.hid (fits17_acts (cap := cap) hlen hm hacts)
 replace hacts := Lib.hid hacts
 replace hlen := Lib.hid hlen
 obtain ⟨ri, hri⟩ : ∃ y, c.right = y := ⟨_, rfl⟩
 replace hri := Lib.hid hri
 replace hc := Lib.hid hc
 go_enter Tryz.func5, Tryz.ntmps5
 go_wp2_with (with_reducible refine stop_bx ?_)
 refine Stop.go ?_
 refine wpList_box_own HH.out [_, _, _, _, _, _] rfl ?_
 intro cg w1_ H9_
 replace HH := Lib.hid H9_
 clear H9_
 replace HH := Lib.hid (show Own w _ (pts cg (.cells #[.int .u64 c.mss, .int .u64 c.init, .int .u64 c.reorder, .int .u64 c.window, .int .u64 c.probe, .int .u64 c.loss] 24 (0, 0)) :: _) from HH.out)
 (try clear cc1_)
 have cc1_ := HH.out.cells
 go_wp2_with fail
 refine (ref03Right_c _ c).mono ?_
 rw [hri.out]
 rintro e w2_ ⟨rfl, hbel⟩
 replace HH := Lib.hid ((by first | exact .same hbel | exact .drew hbel | exact .below hbel : Kp _ w2_) _ _ (by first | exact HH.out | exact HH.out.drewN _ | exact (HH.out.alloc _).tail | exact ((HH.out.alloc _).drewN _).tail | exact ((HH.out.alloc _).alloc _).tail.tail))
 clear hbel
 (try clear cc1_)
 have cc1_ := HH.out.cells
 have hfit2 := fits17_back hfit.out (HH.out.pn : Own w _ [old w]) hlen.out hm hacts.out
 replace hfit2 := Lib.hid hfit2
 go_wp2_with fail
 refine hfit2.out.mono ?_
 rintro e w9 ⟨bl, rfl, rfl, hbl⟩
 clear hfit hfit2
 cases ri with
 | false =>
  clear hbl
  go_wp2_with fail
  refine (alive17_c w _ _ HH.out).mono ?_
  rintro e w3_ ⟨rfl, H9_⟩
  replace HH := Lib.hid H9_
  clear H9_
  go_wp2_with fail
  go_ret
  exact ⟨rfl, HH.out.pn⟩
 | true =>
  cases bl with
  | false =>
   clear hbl
   go_wp2_with fail
   refine (alive17_c w _ _ HH.out).mono ?_
   rintro e w4_ ⟨rfl, H9_⟩
   replace HH := Lib.hid H9_
   clear H9_
   go_wp2_with fail
   go_ret
   exact ⟨rfl, HH.out.pn⟩
  | true =>
   obtain ⟨hl80, hf80⟩ := hbl rfl
   clear hbl
   have hget := Lib.hid (fun k (hk : k < len) => sact_get hlen.out hacts.out hf80 hk)
   have hi0 := Lib.hid (Snd.In.fresh hc.out hri.out)
   clear hf80 hacts
   replace hl80 := Lib.hid hl80
   go_wp2_with fail
   refine (sndNew_c w _ _ c hc.out hri.out HH.out).mono ?_
   rintro e w5_ ⟨b, kb, lb, tb, sb, eb, pb, rfl, H9_⟩
   replace HH := Lib.hid H9_
   clear H9_
   replace HH := Lib.hid (HH.out.pn : Own w _ (sAll b kb lb tb sb eb pb (Snd.fresh c) [old w]))
   go_wp2_with fail
   go_loopw [9, 10, 11] (fun wv av iv wr => ∃ (k : Nat) (s : Snd) (wr0 ac : Int), k ≤ len ∧ iv = .int .i64 k ∧ wv = .int .u64 wr0 ∧ av = .int .u64 ac ∧ s.In c (65 * k) k ∧ wr0 = ac + s.all ∧ 0 ≤ ac ∧ wr0 ≤ s.k.n ∧ Own w wr (sAll b kb lb tb sb eb pb s [old w])) (fun _ _ iv _ => len - (intOf iv).toNat)
   case atStart => exact ⟨0, Snd.fresh c, 0, 0, Nat.zero_le _, rfl, rfl, rfl, hi0.out, rfl, Int.le_refl _, Int.le_refl _, HH.out⟩
   case round =>
    clear HH
    obtain ⟨k, s, wr0, ac, hk, rfl, rfl, rfl, hI, hwa, hac, hwk, HR⟩ := hrel
    have HH := Lib.hid HR
    clear HR
    by_cases hlt : k < len
    ·obtain ⟨a, ha, hn80⟩ := hget.out k hlt
     obtain ⟨ab, off, A', cp, rfl, hit, c0, c1, c2⟩ := ha.cells
     obtain ⟨hs0, hs1, hs2⟩ := hI.sum
     have hM9 : k ≤ 80 := by have := hl80.out; omega
     have hau := ha.u
     have hak := ha.kd
     have har := ha.ru
     clear ha hget
     obtain ⟨W0, hW0⟩ : ∃ W0, s.all = W0 := ⟨_, rfl⟩
     rw [hW0] at hs0 hs1 hs2 hwa
     replace hW0 := Lib.hid hW0
     replace hI := Lib.hid hI
     replace hit := Lib.hid hit
     replace har := Lib.hid har
     have q1 : IntKind.u64.wrap (s.infl + s.wait) = W0 := by rw [hs2, IntKind.wrap_u64]; omega
     replace q1 := Lib.hid q1
     replace hs2 := Lib.hid hs2
     replace hau := Lib.hid hau
     replace hak := Lib.hid hak
     have hnn := hI.out.k.2.2.2
     replace hl80 := Lib.hid hl80.out
     have hkl : (k : Int) < (len : Int) := by omega
     replace hs1 := Lib.hid hs1
     replace hwk := Lib.hid hwk
     replace hwa := Lib.hid hwa
     replace hnn := Lib.hid hnn
     replace hM9 := Lib.hid hM9
     replace hn80 := Lib.hid hn80
     go_wp2_with fail
     refine (sndPast_c w _ _ b kb lb tb sb eb pb s HH.out).mono ?_
     rintro e w6_ ⟨rfl, hbel⟩
     replace HH := Lib.hid ((by first | exact .same hbel | exact .drew hbel | exact .below hbel : Kp _ w6_) _ _ (by first | exact HH.out | exact HH.out.drewN _ | exact (HH.out.alloc _).tail | exact ((HH.out.alloc _).drewN _).tail | exact ((HH.out.alloc _).alloc _).tail.tail))
     clear hbel
     have q1' := q1.out
     go_wp2_with fail
     refine (sndInFlight_c w _ _ b kb lb tb sb eb pb s c _ _ hI.out (by have := hM9.out; omega) HH.out).mono ?_
     rintro e w7_ ⟨rfl, H9_⟩
     replace HH := Lib.hid H9_
     clear H9_
     go_wp2_with fail
     refine (sndWaiting_c w _ _ b kb lb tb sb eb pb s HH.out).mono ?_
     rintro e w8_ ⟨rfl, hbel⟩
     replace HH := Lib.hid ((by first | exact .same hbel | exact .drew hbel | exact .below hbel : Kp _ w8_) _ _ (by first | exact HH.out | exact HH.out.drewN _ | exact (HH.out.alloc _).tail | exact ((HH.out.alloc _).drewN _).tail | exact ((HH.out.alloc _).alloc _).tail.tail))
     clear hbel
     have x0 := (HH.out.pn : Own w _ [old w]).old_cell c0
     have x1 := (HH.out.pn : Own w _ [old w]).old_cell c1
     have x2 := (HH.out.pn : Own w _ [old w]).old_cell c2
     go_wp2_with fail
     refine (do17_c w _ [old w] b kb lb tb sb eb pb s c (65 * k) k hri.out hI.out (by have := hM9.out; omega) (by have := hM9.out; omega) a.kd a.n hak.out.1 hak.out.2 hau.out a.r har.out A' a.r.length cp (fun wx Hx => hit.out.old Hx) (by have := hn80.out; omega) HH.out).mono ?_
     rintro e w9_ ⟨v, out, s2, hde, rfl, H9_⟩
     replace HH := Lib.hid H9_
     clear H9_
     clear x0 x1 x2 q1'
     obtain ⟨hI2, hKp⟩ := hde.kept hri.out (by have := hM9.out; omega) hI.out hau.out
     clear hde
     have hk2n := hKp.n
     obtain ⟨A1, n1, c9, rfl, _, _, hpk⟩ := HH.out.slcP_val
     obtain rfl : n1 = out.length := hpk.1.symm
     clear hpk
     replace HH := Lib.hid HH.out.tail
     obtain ⟨z0, z1, z2⟩ := hI2.sum
     obtain ⟨W1, hW1⟩ : ∃ W1, s2.all = W1 := ⟨_, rfl⟩
     have g : W0 = W1 ∨ (a.kd % 5 = 0 ∧ W1 = W0 + a.n ∧ W1 ≠ W0 ∧ s2.k.n = s.k.n + a.n) ∨ (a.kd % 5 = 2 ∧ W1 < W0) := by
      have e0 := hW0.out
      by_cases h0 : a.kd % 5 = 0
      ·rcases hKp.wr h0 with h | ⟨h, h'⟩
       ·left; omega
       ·by_cases he : W1 = W0
        ·exact .inl he.symm
        ·right; left; exact ⟨h0, by omega, he, h'⟩
      ·by_cases h2 : a.kd % 5 = 2
       ·have := hKp.ak h2
        by_cases he : W1 = W0
        ·exact .inl he.symm
        ·right; right; exact ⟨h2, by omega⟩
       ·have := hKp.tk h0 h2
        left; omega
     have hpst : s.k.past = true → out = [] ∧ W1 = W0 ∧ s2.k.past = true := by
      intro hp
      obtain ⟨h1, h2, h3⟩ := hKp.past hp
      have e0 := hW0.out
      exact ⟨h1, by omega, h3⟩
     clear hKp
     rw [hW1] at z0 z1 z2
     replace hW1 := Lib.hid hW1
     have hI3 : s2.In c (65 * (k + 1)) (k + 1) := hI2.more (by omega) (by omega)
     replace hI3 := Lib.hid hI3
     have z9 := hI2.k.2.2.2
     replace hI2 := Lib.hid hI2
     have q2 : IntKind.u64.wrap (s2.infl + s2.wait) = W1 := by rw [z2, IntKind.wrap_u64]; omega
     clear z2
     have hwk2 := hwk.out
     have hs12 := hs1.out
     have hnn3 := hnn.out
     have hUn := hau.out
     unfold U at hUn
     replace hpst := Lib.hid hpst
     replace g := Lib.hid g
     clear q1 hs2 hwk hs1 hnn
     replace hk2n := Lib.hid hk2n
     go_wp2_with fail
     refine (sndInFlight_c w _ _ b kb lb tb sb eb pb s2 c _ _ hI2.out (by have := hM9.out; omega) HH.out).mono ?_
     rintro e w10_ ⟨rfl, H9_⟩
     replace HH := Lib.hid H9_
     clear H9_
     go_wp2_with fail
     refine (sndWaiting_c w _ _ b kb lb tb sb eb pb s2 HH.out).mono ?_
     rintro e w11_ ⟨rfl, hbel⟩
     replace HH := Lib.hid ((by first | exact .same hbel | exact .drew hbel | exact .below hbel : Kp _ w11_) _ _ (by first | exact HH.out | exact HH.out.drewN _ | exact (HH.out.alloc _).tail | exact ((HH.out.alloc _).drewN _).tail | exact ((HH.out.alloc _).alloc _).tail.tail))
     clear hbel
     have x0 := (HH.out.pn : Own w _ [old w]).old_cell c0
     have x1 := (HH.out.pn : Own w _ [old w]).old_cell c1
     have hwa2 := hwa.out
     have hk0 := hak.out.1
     rcases g.out with rfl | ⟨h0, hn, hne, hk2⟩ | ⟨h2, hlt2⟩
     ·have y1 : IntKind.u64.wrap (wr0 + W0) = wr0 + W0 := by rw [IntKind.wrap_u64]; omega
      have y2 : IntKind.u64.wrap (wr0 + W0 - W0) = wr0 := by rw [IntKind.wrap_u64]; omega
      have y3 : IntKind.u64.wrap (ac + W0) = wr0 := by rw [IntKind.wrap_u64]; omega
      have y4 : IntKind.u64.wrap (wr0 - W0) = ac := by rw [IntKind.wrap_u64]; omega
      have y5 : IntKind.u64.wrap wr0 = wr0 := by rw [IntKind.wrap_u64]; omega
      have y6 : IntKind.u64.wrap ac = ac := by rw [IntKind.wrap_u64]; omega
      have hwa' := Lib.hid hwa2
      clear hwa2
      cases hpa : s.k.past with
      | true =>
       obtain ⟨rfl, _, hp2⟩ := hpst.out hpa
       go_wp2_with fail
       refine (sndPast_c w _ _ b kb lb tb sb eb pb s2 HH.out).mono ?_
       rw [hp2]
       rintro e w12_ ⟨rfl, hbel⟩
       replace HH := Lib.hid ((by first | exact .same hbel | exact .drew hbel | exact .below hbel : Kp _ w12_) _ _ (by first | exact HH.out | exact HH.out.drewN _ | exact (HH.out.alloc _).tail | exact ((HH.out.alloc _).drewN _).tail | exact ((HH.out.alloc _).alloc _).tail.tail))
       clear hbel
       clear x0 x1
       have x0 := (HH.out.pn : Own w _ [old w]).old_cell c0
       have x1 := (HH.out.pn : Own w _ [old w]).old_cell c1
       rcases (show a.kd % 5 = 0 ∨ a.kd % 5 = 1 ∨ a.kd % 5 = 2 ∨ a.kd % 5 = 3 ∨ a.kd % 5 = 4 by omega) with h5 | h5 | h5 | h5 | h5
       ·go_wp2_with fail
        go_roundw
        case rel => exact ⟨k + 1, s2, wr0, ac, by omega, by go_num, rfl, rfl, hI3.out, by rw [hW1.out]; have := hwa'.out; omega, by omega, by have := hk2n.out; omega, HH.out⟩
        case measure => simp [intOf]; omega
       ·go_wp2_with fail
        go_roundw
        case rel => exact ⟨k + 1, s2, wr0, ac, by omega, by go_num, rfl, rfl, hI3.out, by rw [hW1.out]; have := hwa'.out; omega, by omega, by have := hk2n.out; omega, HH.out⟩
        case measure => simp [intOf]; omega
       ·go_wp2_with fail
        go_roundw
        case rel => exact ⟨k + 1, s2, wr0, ac, by omega, by go_num, rfl, rfl, hI3.out, by rw [hW1.out]; have := hwa'.out; omega, by omega, by have := hk2n.out; omega, HH.out⟩
        case measure => simp [intOf]; omega
       ·go_wp2_with fail
        go_roundw
        case rel => exact ⟨k + 1, s2, wr0, ac, by omega, by go_num, rfl, rfl, hI3.out, by rw [hW1.out]; have := hwa'.out; omega, by omega, by have := hk2n.out; omega, HH.out⟩
        case measure => simp [intOf]; omega
       ·go_wp2_with fail
        go_roundw
        case rel => exact ⟨k + 1, s2, wr0, ac, by omega, by go_num, rfl, rfl, hI3.out, by rw [hW1.out]; have := hwa'.out; omega, by omega, by have := hk2n.out; omega, HH.out⟩
        case measure => simp [intOf]; omega
      | false =>
       rcases (show a.kd % 5 = 0 ∨ a.kd % 5 = 1 ∨ a.kd % 5 = 2 ∨ a.kd % 5 = 3 ∨ a.kd % 5 = 4 by omega) with h5 | h5 | h5 | h5 | h5
       ·go_wp2_with fail
        go_roundw
        case rel => exact ⟨k + 1, s2, wr0, ac, by omega, by go_num, rfl, rfl, hI3.out, by rw [hW1.out]; have := hwa'.out; omega, by omega, by have := hk2n.out; omega, HH.out⟩
        case measure => simp [intOf]; omega
       ·go_wp2_with fail
        go_roundw
        case rel => exact ⟨k + 1, s2, wr0, ac, by omega, by go_num, rfl, rfl, hI3.out, by rw [hW1.out]; have := hwa'.out; omega, by omega, by have := hk2n.out; omega, HH.out⟩
        case measure => simp [intOf]; omega
       ·go_wp2_with fail
        go_roundw
        case rel => exact ⟨k + 1, s2, wr0, ac, by omega, by go_num, rfl, rfl, hI3.out, by rw [hW1.out]; have := hwa'.out; omega, by omega, by have := hk2n.out; omega, HH.out⟩
        case measure => simp [intOf]; omega
       ·go_wp2_with fail
        go_roundw
        case rel => exact ⟨k + 1, s2, wr0, ac, by omega, by go_num, rfl, rfl, hI3.out, by rw [hW1.out]; have := hwa'.out; omega, by omega, by have := hk2n.out; omega, HH.out⟩
        case measure => simp [intOf]; omega
       ·go_wp2_with fail
        go_roundw
        case rel => exact ⟨k + 1, s2, wr0, ac, by omega, by go_num, rfl, rfl, hI3.out, by rw [hW1.out]; have := hwa'.out; omega, by omega, by have := hk2n.out; omega, HH.out⟩
        case measure => simp [intOf]; omega
     ·have hpa : s.k.past = false := by
       cases hp : s.k.past with
       | false => rfl
       | true => have := (hpst.out hp).2.1; omega
      have hUn := hau.out
      unfold U at hUn
      have y1 : IntKind.u64.wrap (wr0 + W1) = wr0 + W1 := by rw [IntKind.wrap_u64]; omega
      obtain ⟨wr1, hwr1⟩ : ∃ wr1, wr1 = wr0 + a.n := ⟨_, rfl⟩
      have y2 : IntKind.u64.wrap (wr0 + W1 - W0) = wr1 := by rw [IntKind.wrap_u64]; omega
      have y3 : IntKind.u64.wrap (ac + W1) = wr1 := by rw [IntKind.wrap_u64]; omega
      have y4 : IntKind.u64.wrap (W0 + a.n) = W1 := by rw [IntKind.wrap_u64]; omega
      have y5 : (W1 == W0) = false := by simpa using hne
      have hn' := Lib.hid hn
      have hwr' := Lib.hid hwr1
      have hwa' := Lib.hid hwa2
      clear hn hwr1 hwa2
      go_wp2_with fail
      go_roundw
      case rel => exact ⟨k + 1, s2, wr1, ac, by omega, by go_num, rfl, rfl, hI3.out, by rw [hW1.out]; have := hn'.out; have := hwr'.out; have := hwa'.out; omega, by omega, by have := hwr'.out; omega, HH.out⟩
      case measure => simp [intOf]; omega
     ·have hpa : s.k.past = false := by
       cases hp : s.k.past with
       | false => rfl
       | true => have := (hpst.out hp).2.1; omega
      have hUn := hau.out
      obtain ⟨ac1, hac1⟩ : ∃ ac1, ac1 = ac + W0 - W1 := ⟨_, rfl⟩
      have y1 : IntKind.u64.wrap (ac + W0) = ac + W0 := by rw [IntKind.wrap_u64]; omega
      have y2 : IntKind.u64.wrap (ac + W0 - W1) = ac1 := by rw [IntKind.wrap_u64]; omega
      have y3 : IntKind.u64.wrap (ac1 + W1) = wr0 := by rw [IntKind.wrap_u64]; omega
      have y4 : ¬ W0 < W1 := by omega
      have hac' := Lib.hid hac1
      have hwa' := Lib.hid hwa2
      clear hac1 hwa2
      go_wp2_with fail
      go_roundw
      case rel => exact ⟨k + 1, s2, wr0, ac1, by omega, by go_num, rfl, rfl, hI3.out, by rw [hW1.out]; have := hac'.out; have := hwa'.out; omega, by have := hac'.out; omega, by have := hk2n.out; omega, HH.out⟩
      case measure => simp [intOf]; omega
    ·have hkn : ¬ (k : Int) < (len : Int) := by omega
     clear hI hwa hac hwk hget
     go_wp2_with fail
     refine (alive17_c w _ _ HH.out).mono ?_
     rintro e w13_ ⟨rfl, H9_⟩
     replace HH := Lib.hid H9_
     clear H9_
     go_wp2_with fail
     go_ret
     exact ⟨rfl, HH.out.pn⟩
end
end Go.Proofs.YtmkcpnlbicijoaaGreat
