/- sender: SenderStuck: by mksnd2.py. -/
import Derived.Test.YtmkcpnlbicijoaaGreatSnd10
import Derived.Test.YtmkcpnlbicijoaaGreatSndP
namespace Go.Proofs.YtmkcpnlbicijoaaGreat
open Go.RowKit
section
variable (w : World)
set_option maxRecDepth 100000 in
set_option maxHeartbeats 12800000 in
theorem senderStuck_c (cs : Array Value) (_hz : cs.size = 6) (ct : ConfT) (hp : rdConf w cs.toList ct) (A : Option Addr) (len cap : Nat) (xs : List ActS) (hr : rdSlice rdActS 3 w [.slice A len cap] xs) :
  Calls Tryz.prog 4 #[.agg cs, .slice A len cap] w fun e w' => e = .returned (.bool true) ∧ Own w w' [old w] := by
 have HH := Lib.hid (Own.init w)
 obtain ⟨hcs, hc⟩ := rdConf_open hp
 have hcs := arr_of_list hcs
 subst hcs
 clear hp _hz
 generalize ConfT.c ct = c at hc ⊢
 obtain ⟨hlen, hm, hacts⟩ := sacts_rd hr
 clear hr
 generalize xs.map ActS.act = acts at hlen hacts
 have hfit := Lib.hid (fits17_acts (cap := cap) hlen hm hacts)
 replace hacts := Lib.hid hacts
 replace hlen := Lib.hid hlen
 obtain ⟨ri, hri⟩ : ∃ y, c.right = y := ⟨_, rfl⟩
 replace hri := Lib.hid hri
 replace hc := Lib.hid hc
 go_enter Tryz.func4, Tryz.ntmps4
 go_wp2_with (with_reducible refine stop_bx ?_)
 refine Stop.go ?_
 refine wpList_box_own HH.out [_, _, _, _, _, _] rfl ?_
 intro cg w1_ H9_
 replace HH := Lib.hid H9_
 clear H9_
 replace HH := Lib.hid (show Own w _ (pts cg (.cells #[.int .u64 c.mss, .int .u64 c.init, .int .u64 c.reorder, .int .u64 c.window, .int .u64 c.probe, .int .u64 c.loss] 24 (0, 0)) :: _) from HH.out)
 (try clear cc1_)
 have cc1_ := HH.out.cells
 go_wp2_with fail
 refine (ref03Right_c _ c).mono ?_
 rw [hri.out]
 rintro e w2_ ⟨rfl, hbel⟩
 replace HH := Lib.hid ((by first | exact .same hbel | exact .drew hbel | exact .below hbel : Kp _ w2_) _ _ (by first | exact HH.out | exact HH.out.drewN _ | exact (HH.out.alloc _).tail | exact ((HH.out.alloc _).drewN _).tail | exact ((HH.out.alloc _).alloc _).tail.tail))
 clear hbel
 (try clear cc1_)
 have cc1_ := HH.out.cells
 have hfit2 := fits17_back hfit.out (HH.out.pn : Own w _ [old w]) hlen.out hm hacts.out
 replace hfit2 := Lib.hid hfit2
 go_wp2_with fail
 refine hfit2.out.mono ?_
 rintro e w9 ⟨bl, rfl, rfl, hbl⟩
 clear hfit hfit2
 cases ri with
 | false =>
  clear hbl
  go_wp2_with fail
  refine (alive17_c w _ _ HH.out).mono ?_
  rintro e w3_ ⟨rfl, H9_⟩
  replace HH := Lib.hid H9_
  clear H9_
  go_wp2_with fail
  go_ret
  exact ⟨rfl, HH.out.pn⟩
 | true =>
  cases bl with
  | false =>
   clear hbl
   go_wp2_with fail
   refine (alive17_c w _ _ HH.out).mono ?_
   rintro e w4_ ⟨rfl, H9_⟩
   replace HH := Lib.hid H9_
   clear H9_
   go_wp2_with fail
   go_ret
   exact ⟨rfl, HH.out.pn⟩
  | true =>
   obtain ⟨hl80, hf80⟩ := hbl rfl
   clear hbl
   have hget := Lib.hid (fun k (hk : k < len) => sact_get hlen.out hacts.out hf80 hk)
   have hi0 := Lib.hid (Snd.In.fresh hc.out hri.out)
   clear hf80 hacts
   replace hl80 := Lib.hid hl80
   go_wp2_with fail
   refine (sndNew_c w _ _ c hc.out hri.out HH.out).mono ?_
   rintro e w5_ ⟨b, kb, lb, tb, sb, eb, pb, rfl, H9_⟩
   replace HH := Lib.hid H9_
   clear H9_
   replace HH := Lib.hid (HH.out.pn : Own w _ (sAll b kb lb tb sb eb pb (Snd.fresh c) [old w]))
   go_wp2_with fail
   go_loopw [9] (fun iv wr => ∃ (k : Nat) (s : Snd), k ≤ len ∧ iv = .int .i64 k ∧ s.In c (65 * k) k ∧ s.l.Pos ∧ Own w wr (sAll b kb lb tb sb eb pb s [old w])) (fun iv _ => len - (intOf iv).toNat)
   case atStart => exact ⟨0, Snd.fresh c, Nat.zero_le _, rfl, hi0.out, fun _ h => absurd h List.not_mem_nil, HH.out⟩
   case round =>
    clear HH
    obtain ⟨k, s, hk, rfl, hI, hP, HR⟩ := hrel
    have HH := Lib.hid HR
    clear HR
    by_cases hlt : k < len
    ·obtain ⟨a, ha, hn80⟩ := hget.out k hlt
     obtain ⟨ab, off, A', cp, rfl, hit, c0, c1, c2⟩ := ha.cells
     have hM9 : k ≤ 80 := by have := hl80.out; omega
     have hau := ha.u
     have hak := ha.kd
     have har := ha.ru
     clear ha hget
     replace hI := Lib.hid hI
     replace hP := Lib.hid hP
     replace hit := Lib.hid hit
     replace har := Lib.hid har
     replace hau := Lib.hid hau
     replace hak := Lib.hid hak
     have hkl : (k : Int) < (len : Int) := by omega
     replace hM9 := Lib.hid hM9
     replace hn80 := Lib.hid hn80
     have x0 := (HH.out.pn : Own w _ [old w]).old_cell c0
     have x1 := (HH.out.pn : Own w _ [old w]).old_cell c1
     have x2 := (HH.out.pn : Own w _ [old w]).old_cell c2
     go_wp2_with fail
     refine (do17_c w _ [old w] b kb lb tb sb eb pb s c (65 * k) k hri.out hI.out (by have := hM9.out; omega) (by have := hM9.out; omega) a.kd a.n hak.out.1 hak.out.2 hau.out a.r har.out A' a.r.length cp (fun wx Hx => hit.out.old (Hx.pn : Own w wx [old w])) (by have := hn80.out; omega) HH.out).mono ?_
     rintro e w6_ ⟨v, out, s2, hde, rfl, H9_⟩
     replace HH := Lib.hid H9_
     clear H9_
     clear x0 x1 x2 c0 c1 c2 hit
     have hAl := hde.allow hri.out (by have := hM9.out; omega) hI.out hau.out hP.out
     have hI2 := (hde.kept hri.out (by have := hM9.out; omega) hI.out hau.out).1
     clear hde
     obtain ⟨A1, n1, c9, rfl, _, _, hpk⟩ := HH.out.slcP_val
     clear hpk
     replace HH := Lib.hid HH.out.tail
     have hI3 : s2.In c (65 * (k + 1)) (k + 1) := hI2.more (by omega) (by omega)
     have hP2 := hAl.pos
     replace hI3 := Lib.hid hI3
     replace hP2 := Lib.hid hP2
     clear hI2 hAl hI hP hau hak har hn80
     go_wp2_with fail
     go_roundw
     case rel => exact ⟨k + 1, s2, by omega, by go_num, hI3.out, hP2.out, HH.out⟩
     case measure => simp [intOf]; omega
    ·have hkn : ¬ (k : Int) < (len : Int) := by omega
     have hM9 : k ≤ 80 := by have := hl80.out; omega
     clear hget
     replace hI := Lib.hid hI
     replace hP := Lib.hid hP
     replace hM9 := Lib.hid hM9
     go_wp2_with fail
     refine (sndTime_c w _ _ b kb lb tb sb eb pb s HH.out).mono ?_
     rintro e w7_ ⟨rfl, hbel⟩
     replace HH := Lib.hid ((by first | exact .same hbel | exact .drew hbel | exact .below hbel : Kp _ w7_) _ _ (by first | exact HH.out | exact HH.out.drewN _ | exact (HH.out.alloc _).tail | exact ((HH.out.alloc _).drewN _).tail | exact ((HH.out.alloc _).alloc _).tail.tail))
     clear hbel
     go_wp2_with fail
     refine (sndTick_c w _ [old w] b kb lb tb sb eb pb s c (65 * k) k hri.out hI.out (by have := hM9.out; omega) (by have := hM9.out; omega) s.k.t HH.out).mono ?_
     rintro e w8_ ⟨v, out, e1, s1, hT, rfl, H9_⟩
     replace HH := Lib.hid H9_
     clear H9_
     have hst := fun hw h0 hpa => hI.out.stuck hri.out (by have := hM9.out; omega) hP.out hT hw h0 hpa
     have hI1 := (hT.inn hri.out (by have := hM9.out; omega) hI.out).1
     obtain ⟨A1, n1, c9, rfl, _, _, hpk⟩ := HH.out.slcP_val
     clear hpk
     replace HH := Lib.hid HH.out.tail
     replace hst := Lib.hid hst
     replace hI1 := Lib.hid hI1
     clear hT hI hP
     obtain ⟨fl, hfl⟩ : ∃ fl, s1.infl = fl := ⟨_, rfl⟩
     replace hfl := Lib.hid hfl
     by_cases hw : 0 < s1.wait
     ·by_cases h0 : fl = 0
      ·cases hpa : s1.k.past with
       | true =>
        go_wp2_with fail
        refine (sndNext_c w _ _ b kb lb tb sb eb pb s1 c _ _ hI1.out (by have := hM9.out; omega) HH.out).mono ?_
        rintro e w9_ ⟨rfl, H9_⟩
        replace HH := Lib.hid H9_
        clear H9_
        go_wp2_with fail
        refine (sndWaiting_c w _ _ b kb lb tb sb eb pb s1 HH.out).mono ?_
        rintro e w10_ ⟨rfl, hbel⟩
        replace HH := Lib.hid ((by first | exact .same hbel | exact .drew hbel | exact .below hbel : Kp _ w10_) _ _ (by first | exact HH.out | exact HH.out.drewN _ | exact (HH.out.alloc _).tail | exact ((HH.out.alloc _).drewN _).tail | exact ((HH.out.alloc _).alloc _).tail.tail))
        clear hbel
        go_wp2_with fail
        refine (sndInFlight_c w _ _ b kb lb tb sb eb pb s1 c _ _ hI1.out (by have := hM9.out; omega) HH.out).mono ?_
        rw [hfl.out]
        rintro e w11_ ⟨rfl, H9_⟩
        replace HH := Lib.hid H9_
        clear H9_
        go_wp2_with fail
        refine (sndPast_c w _ _ b kb lb tb sb eb pb s1 HH.out).mono ?_
        rw [hpa]
        rintro e w12_ ⟨rfl, hbel⟩
        replace HH := Lib.hid ((by first | exact .same hbel | exact .drew hbel | exact .below hbel : Kp _ w12_) _ _ (by first | exact HH.out | exact HH.out.drewN _ | exact (HH.out.alloc _).tail | exact ((HH.out.alloc _).drewN _).tail | exact ((HH.out.alloc _).alloc _).tail.tail))
        clear hbel
        go_wp2_with fail
        refine (sndTick_nil _ 0).mono ?_
        rintro e w13_ ⟨rfl, hbel⟩
        replace HH := Lib.hid ((by first | exact .same hbel | exact .drew hbel | exact .below hbel : Kp _ w13_) _ _ (by first | exact HH.out | exact HH.out.drewN _ | exact (HH.out.alloc _).tail | exact ((HH.out.alloc _).drewN _).tail | exact ((HH.out.alloc _).alloc _).tail.tail))
        clear hbel
        go_wp2_with fail
        refine (sndNext_nil _).mono ?_
        rintro e w14_ ⟨rfl, hbel⟩
        replace HH := Lib.hid ((by first | exact .same hbel | exact .drew hbel | exact .below hbel : Kp _ w14_) _ _ (by first | exact HH.out | exact HH.out.drewN _ | exact (HH.out.alloc _).tail | exact ((HH.out.alloc _).drewN _).tail | exact ((HH.out.alloc _).alloc _).tail.tail))
        clear hbel
        go_wp2_with fail
        refine (alive17_c w _ _ HH.out).mono ?_
        rintro e w15_ ⟨rfl, H9_⟩
        replace HH := Lib.hid H9_
        clear H9_
        go_wp2_with fail
        refine (sndWrite_nil _ 1).mono ?_
        rintro e w16_ ⟨rfl, hbel⟩
        replace HH := Lib.hid ((by first | exact .same hbel | exact .drew hbel | exact .below hbel : Kp _ w16_) _ _ (by first | exact HH.out | exact HH.out.drewN _ | exact (HH.out.alloc _).tail | exact ((HH.out.alloc _).drewN _).tail | exact ((HH.out.alloc _).alloc _).tail.tail))
        clear hbel
        go_wp2_with fail
        refine (sndAck_nil _ 0 none 0 0).mono ?_
        rintro e w17_ ⟨rfl, hbel⟩
        replace HH := Lib.hid ((by first | exact .same hbel | exact .drew hbel | exact .below hbel : Kp _ w17_) _ _ (by first | exact HH.out | exact HH.out.drewN _ | exact (HH.out.alloc _).tail | exact ((HH.out.alloc _).drewN _).tail | exact ((HH.out.alloc _).alloc _).tail.tail))
        clear hbel
        go_wp2_with fail
        refine (sndWaiting_nil _).mono ?_
        rintro e w18_ ⟨rfl, hbel⟩
        replace HH := Lib.hid ((by first | exact .same hbel | exact .drew hbel | exact .below hbel : Kp _ w18_) _ _ (by first | exact HH.out | exact HH.out.drewN _ | exact (HH.out.alloc _).tail | exact ((HH.out.alloc _).drewN _).tail | exact ((HH.out.alloc _).alloc _).tail.tail))
        clear hbel
        go_wp2_with fail
        refine (sndInFlight_nil _).mono ?_
        rintro e w19_ ⟨rfl, hbel⟩
        replace HH := Lib.hid ((by first | exact .same hbel | exact .drew hbel | exact .below hbel : Kp _ w19_) _ _ (by first | exact HH.out | exact HH.out.drewN _ | exact (HH.out.alloc _).tail | exact ((HH.out.alloc _).drewN _).tail | exact ((HH.out.alloc _).alloc _).tail.tail))
        clear hbel
        go_wp2_with fail
        refine (sndTime_nil _).mono ?_
        rintro e w20_ ⟨rfl, hbel⟩
        replace HH := Lib.hid ((by first | exact .same hbel | exact .drew hbel | exact .below hbel : Kp _ w20_) _ _ (by first | exact HH.out | exact HH.out.drewN _ | exact (HH.out.alloc _).tail | exact ((HH.out.alloc _).drewN _).tail | exact ((HH.out.alloc _).alloc _).tail.tail))
        clear hbel
        go_wp2_with fail
        refine (sndPast_nil _).mono ?_
        rintro e w21_ ⟨rfl, hbel⟩
        replace HH := Lib.hid ((by first | exact .same hbel | exact .drew hbel | exact .below hbel : Kp _ w21_) _ _ (by first | exact HH.out | exact HH.out.drewN _ | exact (HH.out.alloc _).tail | exact ((HH.out.alloc _).drewN _).tail | exact ((HH.out.alloc _).alloc _).tail.tail))
        clear hbel
        go_wp2_with fail
        refine (sndEngine_nil _).mono ?_
        rintro e w22_ ⟨rfl, hbel⟩
        replace HH := Lib.hid ((by first | exact .same hbel | exact .drew hbel | exact .below hbel : Kp _ w22_) _ _ (by first | exact HH.out | exact HH.out.drewN _ | exact (HH.out.alloc _).tail | exact ((HH.out.alloc _).drewN _).tail | exact ((HH.out.alloc _).alloc _).tail.tail))
        clear hbel
        go_wp2_with fail
        go_ret
        exact ⟨rfl, HH.out.pn⟩
       | false =>
        obtain ⟨t, ht, ht1, _, ht2⟩ := hst.out hw (hfl.out.trans h0) hpa
        have ht3 : s1.next.1 = t := by rw [ht]
        have ht4 : s1.next.2 = true := by rw [ht]
        have ht5 : ¬ t < s1.k.t := by omega
        replace ht2 := Lib.hid ht2
        clear ht ht1 hst
        go_wp2_with fail
        refine (sndNext_c w _ _ b kb lb tb sb eb pb s1 c _ _ hI1.out (by have := hM9.out; omega) HH.out).mono ?_
        rw [ht3]
        rw [ht4]
        rintro e w23_ ⟨rfl, H9_⟩
        replace HH := Lib.hid H9_
        clear H9_
        go_wp2_with fail
        refine (sndWaiting_c w _ _ b kb lb tb sb eb pb s1 HH.out).mono ?_
        rintro e w24_ ⟨rfl, hbel⟩
        replace HH := Lib.hid ((by first | exact .same hbel | exact .drew hbel | exact .below hbel : Kp _ w24_) _ _ (by first | exact HH.out | exact HH.out.drewN _ | exact (HH.out.alloc _).tail | exact ((HH.out.alloc _).drewN _).tail | exact ((HH.out.alloc _).alloc _).tail.tail))
        clear hbel
        go_wp2_with fail
        refine (sndInFlight_c w _ _ b kb lb tb sb eb pb s1 c _ _ hI1.out (by have := hM9.out; omega) HH.out).mono ?_
        rw [hfl.out]
        rintro e w25_ ⟨rfl, H9_⟩
        replace HH := Lib.hid H9_
        clear H9_
        go_wp2_with fail
        refine (sndPast_c w _ _ b kb lb tb sb eb pb s1 HH.out).mono ?_
        rw [hpa]
        rintro e w26_ ⟨rfl, hbel⟩
        replace HH := Lib.hid ((by first | exact .same hbel | exact .drew hbel | exact .below hbel : Kp _ w26_) _ _ (by first | exact HH.out | exact HH.out.drewN _ | exact (HH.out.alloc _).tail | exact ((HH.out.alloc _).drewN _).tail | exact ((HH.out.alloc _).alloc _).tail.tail))
        clear hbel
        go_wp2_with fail
        refine (sndTime_c w _ _ b kb lb tb sb eb pb s1 HH.out).mono ?_
        rintro e w27_ ⟨rfl, hbel⟩
        replace HH := Lib.hid ((by first | exact .same hbel | exact .drew hbel | exact .below hbel : Kp _ w27_) _ _ (by first | exact HH.out | exact HH.out.drewN _ | exact (HH.out.alloc _).tail | exact ((HH.out.alloc _).drewN _).tail | exact ((HH.out.alloc _).alloc _).tail.tail))
        clear hbel
        by_cases hh : t ≤ 4398046511104
        ·go_wp2_with fail
         refine (sndTick_c w _ [old w] b kb lb tb sb eb pb s1 c _ _ hri.out hI1.out (by have := hM9.out; omega) (by have := hM9.out; omega) t HH.out).mono ?_
         rintro e w28_ ⟨v2, out2, e2, s3, hT2, rfl, H9_⟩
         replace HH := Lib.hid H9_
         clear H9_
         obtain ⟨rfl, hne⟩ := ht2.out _ _ _ hh hT2
         clear hT2
         obtain ⟨A2, n2, c2, rfl, _, _, hpk⟩ := HH.out.slcP_val
         obtain rfl : n2 = out2.length := hpk.1.symm
         clear hpk
         have hb2 : ((out2.length : Int) == 0) = false := by
          cases out2 with
          | nil => exact absurd rfl hne
          | cons p l => simp only [List.length_cons]; simp; omega
         clear hne
         go_wp2_with fail
         refine (sndTick_nil _ 0).mono ?_
         rintro e w29_ ⟨rfl, hbel⟩
         replace HH := Lib.hid ((by first | exact .same hbel | exact .drew hbel | exact .below hbel : Kp _ w29_) _ _ (by first | exact HH.out | exact HH.out.drewN _ | exact (HH.out.alloc _).tail | exact ((HH.out.alloc _).drewN _).tail | exact ((HH.out.alloc _).alloc _).tail.tail))
         clear hbel
         go_wp2_with fail
         refine (sndNext_nil _).mono ?_
         rintro e w30_ ⟨rfl, hbel⟩
         replace HH := Lib.hid ((by first | exact .same hbel | exact .drew hbel | exact .below hbel : Kp _ w30_) _ _ (by first | exact HH.out | exact HH.out.drewN _ | exact (HH.out.alloc _).tail | exact ((HH.out.alloc _).drewN _).tail | exact ((HH.out.alloc _).alloc _).tail.tail))
         clear hbel
         go_wp2_with fail
         refine (alive17_c w _ _ HH.out).mono ?_
         rintro e w31_ ⟨rfl, H9_⟩
         replace HH := Lib.hid H9_
         clear H9_
         go_wp2_with fail
         refine (sndWrite_nil _ 1).mono ?_
         rintro e w32_ ⟨rfl, hbel⟩
         replace HH := Lib.hid ((by first | exact .same hbel | exact .drew hbel | exact .below hbel : Kp _ w32_) _ _ (by first | exact HH.out | exact HH.out.drewN _ | exact (HH.out.alloc _).tail | exact ((HH.out.alloc _).drewN _).tail | exact ((HH.out.alloc _).alloc _).tail.tail))
         clear hbel
         go_wp2_with fail
         refine (sndAck_nil _ 0 none 0 0).mono ?_
         rintro e w33_ ⟨rfl, hbel⟩
         replace HH := Lib.hid ((by first | exact .same hbel | exact .drew hbel | exact .below hbel : Kp _ w33_) _ _ (by first | exact HH.out | exact HH.out.drewN _ | exact (HH.out.alloc _).tail | exact ((HH.out.alloc _).drewN _).tail | exact ((HH.out.alloc _).alloc _).tail.tail))
         clear hbel
         go_wp2_with fail
         refine (sndWaiting_nil _).mono ?_
         rintro e w34_ ⟨rfl, hbel⟩
         replace HH := Lib.hid ((by first | exact .same hbel | exact .drew hbel | exact .below hbel : Kp _ w34_) _ _ (by first | exact HH.out | exact HH.out.drewN _ | exact (HH.out.alloc _).tail | exact ((HH.out.alloc _).drewN _).tail | exact ((HH.out.alloc _).alloc _).tail.tail))
         clear hbel
         go_wp2_with fail
         refine (sndInFlight_nil _).mono ?_
         rintro e w35_ ⟨rfl, hbel⟩
         replace HH := Lib.hid ((by first | exact .same hbel | exact .drew hbel | exact .below hbel : Kp _ w35_) _ _ (by first | exact HH.out | exact HH.out.drewN _ | exact (HH.out.alloc _).tail | exact ((HH.out.alloc _).drewN _).tail | exact ((HH.out.alloc _).alloc _).tail.tail))
         clear hbel
         go_wp2_with fail
         refine (sndTime_nil _).mono ?_
         rintro e w36_ ⟨rfl, hbel⟩
         replace HH := Lib.hid ((by first | exact .same hbel | exact .drew hbel | exact .below hbel : Kp _ w36_) _ _ (by first | exact HH.out | exact HH.out.drewN _ | exact (HH.out.alloc _).tail | exact ((HH.out.alloc _).drewN _).tail | exact ((HH.out.alloc _).alloc _).tail.tail))
         clear hbel
         go_wp2_with fail
         refine (sndPast_nil _).mono ?_
         rintro e w37_ ⟨rfl, hbel⟩
         replace HH := Lib.hid ((by first | exact .same hbel | exact .drew hbel | exact .below hbel : Kp _ w37_) _ _ (by first | exact HH.out | exact HH.out.drewN _ | exact (HH.out.alloc _).tail | exact ((HH.out.alloc _).drewN _).tail | exact ((HH.out.alloc _).alloc _).tail.tail))
         clear hbel
         go_wp2_with fail
         refine (sndEngine_nil _).mono ?_
         rintro e w38_ ⟨rfl, hbel⟩
         replace HH := Lib.hid ((by first | exact .same hbel | exact .drew hbel | exact .below hbel : Kp _ w38_) _ _ (by first | exact HH.out | exact HH.out.drewN _ | exact (HH.out.alloc _).tail | exact ((HH.out.alloc _).drewN _).tail | exact ((HH.out.alloc _).alloc _).tail.tail))
         clear hbel
         go_wp2_with fail
         go_ret
         exact ⟨rfl, HH.out.pn⟩
        ·have hh2 : ¬ t ≤ 4398046511104 := hh
         go_wp2_with fail
         refine (sndTick_nil _ 0).mono ?_
         rintro e w39_ ⟨rfl, hbel⟩
         replace HH := Lib.hid ((by first | exact .same hbel | exact .drew hbel | exact .below hbel : Kp _ w39_) _ _ (by first | exact HH.out | exact HH.out.drewN _ | exact (HH.out.alloc _).tail | exact ((HH.out.alloc _).drewN _).tail | exact ((HH.out.alloc _).alloc _).tail.tail))
         clear hbel
         go_wp2_with fail
         refine (sndNext_nil _).mono ?_
         rintro e w40_ ⟨rfl, hbel⟩
         replace HH := Lib.hid ((by first | exact .same hbel | exact .drew hbel | exact .below hbel : Kp _ w40_) _ _ (by first | exact HH.out | exact HH.out.drewN _ | exact (HH.out.alloc _).tail | exact ((HH.out.alloc _).drewN _).tail | exact ((HH.out.alloc _).alloc _).tail.tail))
         clear hbel
         go_wp2_with fail
         refine (alive17_c w _ _ HH.out).mono ?_
         rintro e w41_ ⟨rfl, H9_⟩
         replace HH := Lib.hid H9_
         clear H9_
         go_wp2_with fail
         refine (sndWrite_nil _ 1).mono ?_
         rintro e w42_ ⟨rfl, hbel⟩
         replace HH := Lib.hid ((by first | exact .same hbel | exact .drew hbel | exact .below hbel : Kp _ w42_) _ _ (by first | exact HH.out | exact HH.out.drewN _ | exact (HH.out.alloc _).tail | exact ((HH.out.alloc _).drewN _).tail | exact ((HH.out.alloc _).alloc _).tail.tail))
         clear hbel
         go_wp2_with fail
         refine (sndAck_nil _ 0 none 0 0).mono ?_
         rintro e w43_ ⟨rfl, hbel⟩
         replace HH := Lib.hid ((by first | exact .same hbel | exact .drew hbel | exact .below hbel : Kp _ w43_) _ _ (by first | exact HH.out | exact HH.out.drewN _ | exact (HH.out.alloc _).tail | exact ((HH.out.alloc _).drewN _).tail | exact ((HH.out.alloc _).alloc _).tail.tail))
         clear hbel
         go_wp2_with fail
         refine (sndWaiting_nil _).mono ?_
         rintro e w44_ ⟨rfl, hbel⟩
         replace HH := Lib.hid ((by first | exact .same hbel | exact .drew hbel | exact .below hbel : Kp _ w44_) _ _ (by first | exact HH.out | exact HH.out.drewN _ | exact (HH.out.alloc _).tail | exact ((HH.out.alloc _).drewN _).tail | exact ((HH.out.alloc _).alloc _).tail.tail))
         clear hbel
         go_wp2_with fail
         refine (sndInFlight_nil _).mono ?_
         rintro e w45_ ⟨rfl, hbel⟩
         replace HH := Lib.hid ((by first | exact .same hbel | exact .drew hbel | exact .below hbel : Kp _ w45_) _ _ (by first | exact HH.out | exact HH.out.drewN _ | exact (HH.out.alloc _).tail | exact ((HH.out.alloc _).drewN _).tail | exact ((HH.out.alloc _).alloc _).tail.tail))
         clear hbel
         go_wp2_with fail
         refine (sndTime_nil _).mono ?_
         rintro e w46_ ⟨rfl, hbel⟩
         replace HH := Lib.hid ((by first | exact .same hbel | exact .drew hbel | exact .below hbel : Kp _ w46_) _ _ (by first | exact HH.out | exact HH.out.drewN _ | exact (HH.out.alloc _).tail | exact ((HH.out.alloc _).drewN _).tail | exact ((HH.out.alloc _).alloc _).tail.tail))
         clear hbel
         go_wp2_with fail
         refine (sndPast_nil _).mono ?_
         rintro e w47_ ⟨rfl, hbel⟩
         replace HH := Lib.hid ((by first | exact .same hbel | exact .drew hbel | exact .below hbel : Kp _ w47_) _ _ (by first | exact HH.out | exact HH.out.drewN _ | exact (HH.out.alloc _).tail | exact ((HH.out.alloc _).drewN _).tail | exact ((HH.out.alloc _).alloc _).tail.tail))
         clear hbel
         go_wp2_with fail
         refine (sndEngine_nil _).mono ?_
         rintro e w48_ ⟨rfl, hbel⟩
         replace HH := Lib.hid ((by first | exact .same hbel | exact .drew hbel | exact .below hbel : Kp _ w48_) _ _ (by first | exact HH.out | exact HH.out.drewN _ | exact (HH.out.alloc _).tail | exact ((HH.out.alloc _).drewN _).tail | exact ((HH.out.alloc _).alloc _).tail.tail))
         clear hbel
         go_wp2_with fail
         go_ret
         exact ⟨rfl, HH.out.pn⟩
      ·have hb0 : (fl == 0) = false := by simpa using h0
       go_wp2_with fail
       refine (sndNext_c w _ _ b kb lb tb sb eb pb s1 c _ _ hI1.out (by have := hM9.out; omega) HH.out).mono ?_
       rintro e w49_ ⟨rfl, H9_⟩
       replace HH := Lib.hid H9_
       clear H9_
       go_wp2_with fail
       refine (sndWaiting_c w _ _ b kb lb tb sb eb pb s1 HH.out).mono ?_
       rintro e w50_ ⟨rfl, hbel⟩
       replace HH := Lib.hid ((by first | exact .same hbel | exact .drew hbel | exact .below hbel : Kp _ w50_) _ _ (by first | exact HH.out | exact HH.out.drewN _ | exact (HH.out.alloc _).tail | exact ((HH.out.alloc _).drewN _).tail | exact ((HH.out.alloc _).alloc _).tail.tail))
       clear hbel
       go_wp2_with fail
       refine (sndInFlight_c w _ _ b kb lb tb sb eb pb s1 c _ _ hI1.out (by have := hM9.out; omega) HH.out).mono ?_
       rw [hfl.out]
       rintro e w51_ ⟨rfl, H9_⟩
       replace HH := Lib.hid H9_
       clear H9_
       go_wp2_with fail
       refine (sndTick_nil _ 0).mono ?_
       rintro e w52_ ⟨rfl, hbel⟩
       replace HH := Lib.hid ((by first | exact .same hbel | exact .drew hbel | exact .below hbel : Kp _ w52_) _ _ (by first | exact HH.out | exact HH.out.drewN _ | exact (HH.out.alloc _).tail | exact ((HH.out.alloc _).drewN _).tail | exact ((HH.out.alloc _).alloc _).tail.tail))
       clear hbel
       go_wp2_with fail
       refine (sndNext_nil _).mono ?_
       rintro e w53_ ⟨rfl, hbel⟩
       replace HH := Lib.hid ((by first | exact .same hbel | exact .drew hbel | exact .below hbel : Kp _ w53_) _ _ (by first | exact HH.out | exact HH.out.drewN _ | exact (HH.out.alloc _).tail | exact ((HH.out.alloc _).drewN _).tail | exact ((HH.out.alloc _).alloc _).tail.tail))
       clear hbel
       go_wp2_with fail
       refine (alive17_c w _ _ HH.out).mono ?_
       rintro e w54_ ⟨rfl, H9_⟩
       replace HH := Lib.hid H9_
       clear H9_
       go_wp2_with fail
       refine (sndWrite_nil _ 1).mono ?_
       rintro e w55_ ⟨rfl, hbel⟩
       replace HH := Lib.hid ((by first | exact .same hbel | exact .drew hbel | exact .below hbel : Kp _ w55_) _ _ (by first | exact HH.out | exact HH.out.drewN _ | exact (HH.out.alloc _).tail | exact ((HH.out.alloc _).drewN _).tail | exact ((HH.out.alloc _).alloc _).tail.tail))
       clear hbel
       go_wp2_with fail
       refine (sndAck_nil _ 0 none 0 0).mono ?_
       rintro e w56_ ⟨rfl, hbel⟩
       replace HH := Lib.hid ((by first | exact .same hbel | exact .drew hbel | exact .below hbel : Kp _ w56_) _ _ (by first | exact HH.out | exact HH.out.drewN _ | exact (HH.out.alloc _).tail | exact ((HH.out.alloc _).drewN _).tail | exact ((HH.out.alloc _).alloc _).tail.tail))
       clear hbel
       go_wp2_with fail
       refine (sndWaiting_nil _).mono ?_
       rintro e w57_ ⟨rfl, hbel⟩
       replace HH := Lib.hid ((by first | exact .same hbel | exact .drew hbel | exact .below hbel : Kp _ w57_) _ _ (by first | exact HH.out | exact HH.out.drewN _ | exact (HH.out.alloc _).tail | exact ((HH.out.alloc _).drewN _).tail | exact ((HH.out.alloc _).alloc _).tail.tail))
       clear hbel
       go_wp2_with fail
       refine (sndInFlight_nil _).mono ?_
       rintro e w58_ ⟨rfl, hbel⟩
       replace HH := Lib.hid ((by first | exact .same hbel | exact .drew hbel | exact .below hbel : Kp _ w58_) _ _ (by first | exact HH.out | exact HH.out.drewN _ | exact (HH.out.alloc _).tail | exact ((HH.out.alloc _).drewN _).tail | exact ((HH.out.alloc _).alloc _).tail.tail))
       clear hbel
       go_wp2_with fail
       refine (sndTime_nil _).mono ?_
       rintro e w59_ ⟨rfl, hbel⟩
       replace HH := Lib.hid ((by first | exact .same hbel | exact .drew hbel | exact .below hbel : Kp _ w59_) _ _ (by first | exact HH.out | exact HH.out.drewN _ | exact (HH.out.alloc _).tail | exact ((HH.out.alloc _).drewN _).tail | exact ((HH.out.alloc _).alloc _).tail.tail))
       clear hbel
       go_wp2_with fail
       refine (sndPast_nil _).mono ?_
       rintro e w60_ ⟨rfl, hbel⟩
       replace HH := Lib.hid ((by first | exact .same hbel | exact .drew hbel | exact .below hbel : Kp _ w60_) _ _ (by first | exact HH.out | exact HH.out.drewN _ | exact (HH.out.alloc _).tail | exact ((HH.out.alloc _).drewN _).tail | exact ((HH.out.alloc _).alloc _).tail.tail))
       clear hbel
       go_wp2_with fail
       refine (sndEngine_nil _).mono ?_
       rintro e w61_ ⟨rfl, hbel⟩
       replace HH := Lib.hid ((by first | exact .same hbel | exact .drew hbel | exact .below hbel : Kp _ w61_) _ _ (by first | exact HH.out | exact HH.out.drewN _ | exact (HH.out.alloc _).tail | exact ((HH.out.alloc _).drewN _).tail | exact ((HH.out.alloc _).alloc _).tail.tail))
       clear hbel
       go_wp2_with fail
       go_ret
       exact ⟨rfl, HH.out.pn⟩
     ·go_wp2_with fail
      refine (sndNext_c w _ _ b kb lb tb sb eb pb s1 c _ _ hI1.out (by have := hM9.out; omega) HH.out).mono ?_
      rintro e w62_ ⟨rfl, H9_⟩
      replace HH := Lib.hid H9_
      clear H9_
      go_wp2_with fail
      refine (sndWaiting_c w _ _ b kb lb tb sb eb pb s1 HH.out).mono ?_
      rintro e w63_ ⟨rfl, hbel⟩
      replace HH := Lib.hid ((by first | exact .same hbel | exact .drew hbel | exact .below hbel : Kp _ w63_) _ _ (by first | exact HH.out | exact HH.out.drewN _ | exact (HH.out.alloc _).tail | exact ((HH.out.alloc _).drewN _).tail | exact ((HH.out.alloc _).alloc _).tail.tail))
      clear hbel
      go_wp2_with fail
      refine (sndTick_nil _ 0).mono ?_
      rintro e w64_ ⟨rfl, hbel⟩
      replace HH := Lib.hid ((by first | exact .same hbel | exact .drew hbel | exact .below hbel : Kp _ w64_) _ _ (by first | exact HH.out | exact HH.out.drewN _ | exact (HH.out.alloc _).tail | exact ((HH.out.alloc _).drewN _).tail | exact ((HH.out.alloc _).alloc _).tail.tail))
      clear hbel
      go_wp2_with fail
      refine (sndNext_nil _).mono ?_
      rintro e w65_ ⟨rfl, hbel⟩
      replace HH := Lib.hid ((by first | exact .same hbel | exact .drew hbel | exact .below hbel : Kp _ w65_) _ _ (by first | exact HH.out | exact HH.out.drewN _ | exact (HH.out.alloc _).tail | exact ((HH.out.alloc _).drewN _).tail | exact ((HH.out.alloc _).alloc _).tail.tail))
      clear hbel
      go_wp2_with fail
      refine (alive17_c w _ _ HH.out).mono ?_
      rintro e w66_ ⟨rfl, H9_⟩
      replace HH := Lib.hid H9_
      clear H9_
      go_wp2_with fail
      refine (sndWrite_nil _ 1).mono ?_
      rintro e w67_ ⟨rfl, hbel⟩
      replace HH := Lib.hid ((by first | exact .same hbel | exact .drew hbel | exact .below hbel : Kp _ w67_) _ _ (by first | exact HH.out | exact HH.out.drewN _ | exact (HH.out.alloc _).tail | exact ((HH.out.alloc _).drewN _).tail | exact ((HH.out.alloc _).alloc _).tail.tail))
      clear hbel
      go_wp2_with fail
      refine (sndAck_nil _ 0 none 0 0).mono ?_
      rintro e w68_ ⟨rfl, hbel⟩
      replace HH := Lib.hid ((by first | exact .same hbel | exact .drew hbel | exact .below hbel : Kp _ w68_) _ _ (by first | exact HH.out | exact HH.out.drewN _ | exact (HH.out.alloc _).tail | exact ((HH.out.alloc _).drewN _).tail | exact ((HH.out.alloc _).alloc _).tail.tail))
      clear hbel
      go_wp2_with fail
      refine (sndWaiting_nil _).mono ?_
      rintro e w69_ ⟨rfl, hbel⟩
      replace HH := Lib.hid ((by first | exact .same hbel | exact .drew hbel | exact .below hbel : Kp _ w69_) _ _ (by first | exact HH.out | exact HH.out.drewN _ | exact (HH.out.alloc _).tail | exact ((HH.out.alloc _).drewN _).tail | exact ((HH.out.alloc _).alloc _).tail.tail))
      clear hbel
      go_wp2_with fail
      refine (sndInFlight_nil _).mono ?_
      rintro e w70_ ⟨rfl, hbel⟩
      replace HH := Lib.hid ((by first | exact .same hbel | exact .drew hbel | exact .below hbel : Kp _ w70_) _ _ (by first | exact HH.out | exact HH.out.drewN _ | exact (HH.out.alloc _).tail | exact ((HH.out.alloc _).drewN _).tail | exact ((HH.out.alloc _).alloc _).tail.tail))
      clear hbel
      go_wp2_with fail
      refine (sndTime_nil _).mono ?_
      rintro e w71_ ⟨rfl, hbel⟩
      replace HH := Lib.hid ((by first | exact .same hbel | exact .drew hbel | exact .below hbel : Kp _ w71_) _ _ (by first | exact HH.out | exact HH.out.drewN _ | exact (HH.out.alloc _).tail | exact ((HH.out.alloc _).drewN _).tail | exact ((HH.out.alloc _).alloc _).tail.tail))
      clear hbel
      go_wp2_with fail
      refine (sndPast_nil _).mono ?_
      rintro e w72_ ⟨rfl, hbel⟩
      replace HH := Lib.hid ((by first | exact .same hbel | exact .drew hbel | exact .below hbel : Kp _ w72_) _ _ (by first | exact HH.out | exact HH.out.drewN _ | exact (HH.out.alloc _).tail | exact ((HH.out.alloc _).drewN _).tail | exact ((HH.out.alloc _).alloc _).tail.tail))
      clear hbel
      go_wp2_with fail
      refine (sndEngine_nil _).mono ?_
      rintro e w73_ ⟨rfl, hbel⟩
      replace HH := Lib.hid ((by first | exact .same hbel | exact .drew hbel | exact .below hbel : Kp _ w73_) _ _ (by first | exact HH.out | exact HH.out.drewN _ | exact (HH.out.alloc _).tail | exact ((HH.out.alloc _).drewN _).tail | exact ((HH.out.alloc _).alloc _).tail.tail))
      clear hbel
      go_wp2_with fail
      go_ret
      exact ⟨rfl, HH.out.pn⟩
end
end Go.Proofs.YtmkcpnlbicijoaaGreat
