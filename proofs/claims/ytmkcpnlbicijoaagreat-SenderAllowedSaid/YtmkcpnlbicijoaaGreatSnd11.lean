/- sender: SenderAllowed: by mksnd2.py. -/
import Derived.Test.YtmkcpnlbicijoaaGreatSnd10
import Derived.Test.YtmkcpnlbicijoaaGreatSndP
namespace Go.Proofs.YtmkcpnlbicijoaaGreat
open Go.RowKit
theorem pk_first3 {ε w : World} {R : List Asn} {g off n cap i : Nat} {l : List Pk} {p : Pk} (H : Own ε w (slcP (.slice (some ⟨g, off, none⟩) n cap) l :: R)) (hp : l[i]? = some p) : w.cell? ⟨g, off + i * 7, none⟩ = some (.int .u64 p.n) ∧ w.cell? ⟨g, off + i * 7 + 1, none⟩ = some (.int .u64 p.size) ∧ w.cell? ⟨g, off + i * 7 + 2, none⟩ = some (.int .u64 p.sent) := by
 obtain ⟨_, _, _, e, _, _, h⟩ := H.slcP_val
 cases e
 obtain ⟨hi, rfl⟩ := List.getElem?_eq_some_iff.1 hp
 obtain ⟨g', off', e, hc⟩ := h.2 i hi
 cases e
 exact ⟨hc 0 _ rfl, hc 1 _ rfl, hc 2 _ rfl⟩
section
variable (w : World)
set_option maxRecDepth 100000 in
set_option maxHeartbeats 12800000 in
theorem senderAllowed_c (cs : Array Value) (_hz : cs.size = 6) (ct : ConfT) (hp : rdConf w cs.toList ct) (A : Option Addr) (len cap : Nat) (xs : List ActS) (hr : rdSlice rdActS 3 w [.slice A len cap] xs) :
  Calls Tryz.prog 3 #[.agg cs, .slice A len cap] w fun e w' => e = .returned (.bool true) ∧ Own w w' [old w] := by
 have HH := Lib.hid (Own.init w)
 obtain ⟨hcs, hc⟩ := rdConf_open hp
 have hcs := arr_of_list hcs
 subst hcs
 clear hp _hz
 generalize ConfT.c ct = c at hc ⊢
 obtain ⟨hlen, hm, hacts⟩ := sacts_rd hr
 clear hr
 generalize xs.map ActS.act = acts at hlen hacts
 have hfit := Lib.hid (fits17_acts (cap := cap) hlen hm hacts)
 replace hacts := Lib.hid hacts
 replace hlen := Lib.hid hlen
 obtain ⟨ri, hri⟩ : ∃ y, c.right = y := ⟨_, rfl⟩
 replace hri := Lib.hid hri
 replace hc := Lib.hid hc
 go_enter Tryz.func3, Tryz.ntmps3
 go_wp2_with (with_reducible refine stop_bx ?_)
 refine Stop.go ?_
 refine wpList_box_own HH.out [_, _, _, _, _, _] rfl ?_
 intro cg w1_ H9_
 replace HH := Lib.hid H9_
 clear H9_
 replace HH := Lib.hid (show Own w _ (pts cg (.cells #[.int .u64 c.mss, .int .u64 c.init, .int .u64 c.reorder, .int .u64 c.window, .int .u64 c.probe, .int .u64 c.loss] 24 (0, 0)) :: _) from HH.out)
 (try clear cc1_)
 have cc1_ := HH.out.cells
 go_wp2_with fail
 refine (ref03Right_c _ c).mono ?_
 rw [hri.out]
 rintro e w2_ ⟨rfl, hbel⟩
 replace HH := Lib.hid ((by first | exact .same hbel | exact .drew hbel | exact .below hbel : Kp _ w2_) _ _ (by first | exact HH.out | exact HH.out.drewN _ | exact (HH.out.alloc _).tail | exact ((HH.out.alloc _).drewN _).tail | exact ((HH.out.alloc _).alloc _).tail.tail))
 clear hbel
 (try clear cc1_)
 have cc1_ := HH.out.cells
 have hfit2 := fits17_back hfit.out (HH.out.pn : Own w _ [old w]) hlen.out hm hacts.out
 replace hfit2 := Lib.hid hfit2
 go_wp2_with fail
 refine hfit2.out.mono ?_
 rintro e w9 ⟨bl, rfl, rfl, hbl⟩
 clear hfit hfit2
 cases ri with
 | false =>
  clear hbl
  go_wp2_with fail
  refine (alive17_c w _ _ HH.out).mono ?_
  rintro e w3_ ⟨rfl, H9_⟩
  replace HH := Lib.hid H9_
  clear H9_
  go_wp2_with fail
  go_ret
  exact ⟨rfl, HH.out.pn⟩
 | true =>
  cases bl with
  | false =>
   clear hbl
   go_wp2_with fail
   refine (alive17_c w _ _ HH.out).mono ?_
   rintro e w4_ ⟨rfl, H9_⟩
   replace HH := Lib.hid H9_
   clear H9_
   go_wp2_with fail
   go_ret
   exact ⟨rfl, HH.out.pn⟩
  | true =>
   obtain ⟨hl80, hf80⟩ := hbl rfl
   clear hbl
   have hget := Lib.hid (fun k (hk : k < len) => sact_get hlen.out hacts.out hf80 hk)
   have hi0 := Lib.hid (Snd.In.fresh hc.out hri.out)
   clear hf80 hacts
   replace hl80 := Lib.hid hl80
   go_wp2_with fail
   refine (sndNew_c w _ _ c hc.out hri.out HH.out).mono ?_
   rintro e w5_ ⟨b, kb, lb, tb, sb, eb, pb, rfl, H9_⟩
   replace HH := Lib.hid H9_
   clear H9_
   replace HH := Lib.hid (HH.out.pn : Own w _ (sAll b kb lb tb sb eb pb (Snd.fresh c) ([pts cg (.cells #[.int .u64 c.mss, .int .u64 c.init, .int .u64 c.reorder, .int .u64 c.window, .int .u64 c.probe, .int .u64 c.loss] 24 (0, 0)), old w])))
   go_wp2_with fail
   go_loopw [9, 10] (fun nv iv wr => ∃ (k : Nat) (s : Snd), k ≤ len ∧ iv = .int .i64 k ∧ nv = .int .u64 s.l.next ∧ s.In c (65 * k) k ∧ s.l.Pos ∧ Own w wr (sAll b kb lb tb sb eb pb s ([pts cg (.cells #[.int .u64 c.mss, .int .u64 c.init, .int .u64 c.reorder, .int .u64 c.window, .int .u64 c.probe, .int .u64 c.loss] 24 (0, 0)), old w]))) (fun _ iv _ => len - (intOf iv).toNat)
   case atStart => exact ⟨0, Snd.fresh c, Nat.zero_le _, rfl, rfl, hi0.out, fun _ h => absurd h List.not_mem_nil, HH.out⟩
   case round =>
    clear HH
    obtain ⟨k, s, hk, rfl, rfl, hI, hP, HR⟩ := hrel
    have HH := Lib.hid HR
    clear HR
    by_cases hlt : k < len
    ·obtain ⟨a, ha, hn80⟩ := hget.out k hlt
     obtain ⟨ab, off, A', cp, rfl, hit, c0, c1, c2⟩ := ha.cells
     have hM9 : k ≤ 80 := by have := hl80.out; omega
     have hau := ha.u
     have hak := ha.kd
     have har := ha.ru
     clear ha hget
     replace hI := Lib.hid hI
     replace hP := Lib.hid hP
     replace hit := Lib.hid hit
     replace har := Lib.hid har
     replace hau := Lib.hid hau
     replace hak := Lib.hid hak
     have hkl : (k : Int) < (len : Int) := by omega
     replace hM9 := Lib.hid hM9
     replace hn80 := Lib.hid hn80
     have x0 := (HH.out.pn : Own w _ [old w]).old_cell c0
     have x1 := (HH.out.pn : Own w _ [old w]).old_cell c1
     have x2 := (HH.out.pn : Own w _ [old w]).old_cell c2
     go_wp2_with fail
     refine (do17_c w _ [pts cg (.cells #[.int .u64 c.mss, .int .u64 c.init, .int .u64 c.reorder, .int .u64 c.window, .int .u64 c.probe, .int .u64 c.loss] 24 (0, 0)), old w] b kb lb tb sb eb pb s c (65 * k) k hri.out hI.out (by have := hM9.out; omega) (by have := hM9.out; omega) a.kd a.n hak.out.1 hak.out.2 hau.out a.r har.out A' a.r.length cp (fun wx Hx => hit.out.old (Hx.pn : Own w wx [old w])) (by have := hn80.out; omega) HH.out).mono ?_
     rintro e w6_ ⟨v, out, s2, hde, rfl, H9_⟩
     replace HH := Lib.hid H9_
     clear H9_
     clear x0 x1 x2 c0 c1 c2 hit
     have hAl := hde.allow hri.out (by have := hM9.out; omega) hI.out hau.out hP.out
     have hI2 := (hde.kept hri.out (by have := hM9.out; omega) hI.out hau.out).1
     clear hde
     obtain ⟨A1, n1, c9, rfl, _, _, hpk⟩ := HH.out.slcP_val
     obtain rfl : n1 = out.length := hpk.1.symm
     clear hpk
     have hI3 : s2.In c (65 * (k + 1)) (k + 1) := hI2.more (by omega) (by omega)
     have hm := Cnf.right_in hri.out
     have hpr : s2.e.c.right = true := by rw [hI2.e.2.1]; exact hri.out
     have hqi := Eng.quantum_in hpr
     have hpi := Eng.pace_in hpr
     rw [hI2.e.2.1] at hqi hpi
     have hnx0 := hI.out.n0
     have hnx1 := hI.out.nN
     have hl65 := hAl.len
     have hM9' := hM9.out
     obtain ⟨nx, hnx⟩ : ∃ nx, s.l.next = nx := ⟨_, rfl⟩
     obtain ⟨kt, hkt⟩ : ∃ kt, s2.k.t = kt := ⟨_, rfl⟩
     obtain ⟨qn, hqn⟩ : ∃ qn, s2.e.quantum = qn := ⟨_, rfl⟩
     have hnext := hAl.next
     have heach := hAl.each
     have hqu := hAl.qu
     have hcw := hAl.cw
     have hP2 := hAl.pos
     rw [hnx] at hnx0 hnx1 hnext heach
     rw [hkt] at heach
     rw [hqn] at hqu hqi
     rw [hnx]
     have hsz : ∀ p ∈ out, 0 ≤ p.size ∧ p.size ≤ c.mss := fun p hp => by
      obtain ⟨i, hi⟩ := List.getElem?_of_mem hp
      have := heach i p hi
      omega
     have hlow : ∀ j, 0 ≤ total (out.take j) := fun j => total_pos fun p hp => (hsz p (List.mem_of_mem_take hp)).1
     have htot : ∀ j, 0 ≤ total (out.take j) ∧ total (out.take j) ≤ 8589934592 := fun j => by
      refine ⟨hlow j, ?_⟩
      have h1 : total (out.take j) ≤ c.mss * ((out.take j).length : Int) := total_le (by omega) fun p hp => (hsz p (List.mem_of_mem_take hp)).2
      have h2 : (out.take j).length ≤ 65 := by rw [List.length_take]; omega
      have h3 : c.mss * ((out.take j).length : Int) ≤ 65535 * ((out.take j).length : Int) := Int.mul_le_mul_of_nonneg_right hm.1.2 (by omega)
      omega
     have hpac : U s2.e.pace := by unfold U; omega
     have hsok := hI2.e.1
     replace hI2 := Lib.hid hI2
     replace hI3 := Lib.hid hI3
     replace hP2 := Lib.hid hP2
     replace heach := Lib.hid heach
     replace hqu := Lib.hid hqu
     replace hcw := Lib.hid hcw
     replace hsok := Lib.hid hsok
     replace hpac := Lib.hid hpac
     replace htot := Lib.hid htot
     replace hkt := Lib.hid hkt
     replace hqn := Lib.hid hqn
     replace hnext := Lib.hid hnext
     replace hnx0 := Lib.hid hnx0
     replace hnx1 := Lib.hid hnx1
     replace hl65 := Lib.hid hl65
     clear hI hP hAl hm hqi hpi hpr hsz hlow hau hak har hn80 hnx
     go_wp2_with fail
     go_loopw [9, 12, 13] (fun nv tv jv wr => ∃ j : Nat, j ≤ out.length ∧ jv = .int .i64 j ∧ nv = .int .u64 (nx + (j : Int)) ∧ tv = .int .u64 (total (out.take j)) ∧ Own w wr (slcP (.slice A1 out.length c9) out :: sAll b kb lb tb sb eb pb s2 ([pts cg (.cells #[.int .u64 c.mss, .int .u64 c.init, .int .u64 c.reorder, .int .u64 c.window, .int .u64 c.probe, .int .u64 c.loss] 24 (0, 0)), old w]))) (fun _ _ jv _ => out.length - (intOf jv).toNat)
     case atStart => exact ⟨0, Nat.zero_le _, rfl, by simp, rfl, HH.out⟩
     case round =>
      clear HH
      obtain ⟨j, hj, rfl, rfl, rfl, HR⟩ := hrel
      have HH := Lib.hid HR
      clear HR
      by_cases hjl : j < out.length
      ·obtain ⟨p, hp⟩ : ∃ p, out[j]? = some p := ⟨_, List.getElem?_eq_getElem hjl⟩
       obtain ⟨_, _, _, e9, _, _, hpk⟩ := HH.out.slcP_val
       cases e9
       obtain ⟨g, off, p', rfl, hp', hcs'⟩ := hpk.cells hjl
       clear hpk hp' hcs' p'
       obtain ⟨e1, e2, e3, e4⟩ := heach.out j p hp
       have e5 := total_take_succ hp
       have e6 := htot.out (j + 1)
       obtain ⟨T, hT⟩ : ∃ T, total (out.take j) = T := ⟨_, rfl⟩
       obtain ⟨T', hT'⟩ : ∃ T', total (out.take (j + 1)) = T' := ⟨_, rfl⟩
       rw [hT, hT'] at e5
       rw [hT'] at e6
       rw [hT]
       have y0 := pk_first3 HH.out hp
       rw [e1, e4] at y0
       obtain ⟨y0, y1, y2⟩ := y0
       obtain ⟨ps, hps⟩ : ∃ ps, p.size = ps := ⟨_, rfl⟩
       rw [hps] at e2 e3 e5 y1
       have q1 : IntKind.u64.wrap (T + ps) = T' := by rw [IntKind.wrap_u64]; omega
       have q2 : (ps == 0) = false := by simp; omega
       have q3 : decide (c.mss < ps) = false := decide_eq_false (by omega)
       have q4 : IntKind.u64.wrap (nx + (j : Int) + 1) = nx + ((j + 1 : Nat) : Int) := by have := hnx0.out; have := hnx1.out; have := hl65.out; have := hM9.out; rw [IntKind.wrap_u64]; omega
       have hjl' : (j : Int) < (out.length : Int) := by omega
       have e40 := Lib.hid e4
       have e10 := Lib.hid e1
       have hps0 := Lib.hid hps
       clear e1 e2 e3 e4 hps e5 e6
       replace hp := Lib.hid hp
       replace hT := Lib.hid hT
       replace hT' := Lib.hid hT'
       go_wp2_with fail
       refine wp_region_reg none HH.out (by kernel_rfl) ?_
       intro wm H9_
       replace HH := Lib.hid H9_
       clear H9_
       refine reg_s 0 HH.out ?_
       refine reg_s 1 HH.out ?_
       refine reg_s 2 HH.out ?_
       refine reg_s 3 HH.out ?_
       refine mixk_q (i := 4) rfl (by kernel_rfl) (fun _ _ _ _ h => h) HH.out (fun K hK => ?_)
       go_simp
       (first | refine hK _ ?_ | (apply Exists.intro; refine ⟨?_, hK _ ?_⟩; focus intro wx hx; have x9_ := (hx.tail.pn : Own w wx [pts cg (.cells #[.int .u64 c.mss, .int .u64 c.init, .int .u64 c.reorder, .int .u64 c.window, .int .u64 c.probe, .int .u64 c.loss] 24 (0, 0))]).cells; have z0 := pk_first3 hx hp.out; rw [e10.out, e40.out, hps0.out] at z0; obtain ⟨z0, z1, z2⟩ := z0; first | (go_simp; first | rfl | exact ⟨rfl, rfl⟩) | rfl | exact ⟨rfl, rfl⟩)); clear hK K
       refine reg_s 5 HH.out ?_
       refine reg_s 6 HH.out ?_
       refine reg_s 7 HH.out ?_
       refine reg_s 8 HH.out ?_
       refine reg_s 9 HH.out ?_
       refine reg_s 10 HH.out ?_
       refine mixk_q (i := 11) rfl (by kernel_rfl) (fun _ _ _ _ h => h) HH.out (fun K hK => ?_)
       go_simp
       (first | refine hK _ ?_ | (apply Exists.intro; refine ⟨?_, hK _ ?_⟩; focus intro wx hx; have x9_ := (hx.tail.pn : Own w wx [pts cg (.cells #[.int .u64 c.mss, .int .u64 c.init, .int .u64 c.reorder, .int .u64 c.window, .int .u64 c.probe, .int .u64 c.loss] 24 (0, 0))]).cells; have z0 := pk_first3 hx hp.out; rw [e10.out, e40.out, hps0.out] at z0; obtain ⟨z0, z1, z2⟩ := z0; first | (go_simp; first | rfl | exact ⟨rfl, rfl⟩) | rfl | exact ⟨rfl, rfl⟩)); clear hK K
       refine reg_s 12 HH.out ?_
       refine mixk_q (i := 13) rfl (by kernel_rfl) (fun _ _ _ _ h => h) HH.out (fun K hK => ?_)
       go_simp
       (first | refine hK _ ?_ | (apply Exists.intro; refine ⟨?_, hK _ ?_⟩; focus intro wx hx; have x9_ := (hx.tail.pn : Own w wx [pts cg (.cells #[.int .u64 c.mss, .int .u64 c.init, .int .u64 c.reorder, .int .u64 c.window, .int .u64 c.probe, .int .u64 c.loss] 24 (0, 0))]).cells; have z0 := pk_first3 hx hp.out; rw [e10.out, e40.out, hps0.out] at z0; obtain ⟨z0, z1, z2⟩ := z0; first | (go_simp; first | rfl | exact ⟨rfl, rfl⟩) | rfl | exact ⟨rfl, rfl⟩)); clear hK K
       refine reg_s 14 HH.out ?_
       refine reg_s 15 HH.out ?_
       refine reg_s 16 HH.out ?_
       refine reg_s 17 HH.out ?_
       refine reg_s 18 HH.out ?_
       refine reg_s 19 HH.out ?_
       refine reg_s 20 HH.out ?_
       refine mixk_q (i := 21) rfl (by kernel_rfl) (fun _ _ _ _ h => h) HH.out (fun K hK => ?_)
       go_simp
       (first | refine hK _ ?_ | (apply Exists.intro; refine ⟨?_, hK _ ?_⟩; focus intro wx hx; have x9_ := (hx.tail.pn : Own w wx [pts cg (.cells #[.int .u64 c.mss, .int .u64 c.init, .int .u64 c.reorder, .int .u64 c.window, .int .u64 c.probe, .int .u64 c.loss] 24 (0, 0))]).cells; have z0 := pk_first3 hx hp.out; rw [e10.out, e40.out, hps0.out] at z0; obtain ⟨z0, z1, z2⟩ := z0; first | (go_simp; first | rfl | exact ⟨rfl, rfl⟩) | rfl | exact ⟨rfl, rfl⟩)); clear hK K
       refine reg_s 22 HH.out ?_
       refine reg_s 23 HH.out ?_
       refine reg_s 24 HH.out ?_
       refine reg_s 25 HH.out ?_
       refine reg_s 26 HH.out ?_
       refine reg_s 27 HH.out ?_
       refine reg_s 28 HH.out ?_
       refine reg_s 29 HH.out ?_
       refine reg_s 30 HH.out ?_
       refine mixk_q (i := 31) rfl (by kernel_rfl) (fun _ _ _ _ h => h) HH.out (fun K hK => ?_)
       go_simp
       (first | refine hK _ ?_ | (apply Exists.intro; refine ⟨?_, hK _ ?_⟩; focus intro wx hx; have x9_ := (hx.tail.pn : Own w wx [pts cg (.cells #[.int .u64 c.mss, .int .u64 c.init, .int .u64 c.reorder, .int .u64 c.window, .int .u64 c.probe, .int .u64 c.loss] 24 (0, 0))]).cells; have z0 := pk_first3 hx hp.out; rw [e10.out, e40.out, hps0.out] at z0; obtain ⟨z0, z1, z2⟩ := z0; first | (go_simp; first | rfl | exact ⟨rfl, rfl⟩) | rfl | exact ⟨rfl, rfl⟩)); clear hK K
       refine reg_s 32 HH.out ?_
       refine mixk_q (i := 33) rfl (by kernel_rfl) (fun _ _ _ _ h => h) HH.out (fun K hK => ?_)
       go_simp
       (first | refine hK _ ?_ | (apply Exists.intro; refine ⟨?_, hK _ ?_⟩; focus intro wx hx; first | (first | (go_at_call 11; refine (sndTime_c w wx _ b kb lb tb sb eb pb s2 (hx.pn : Own w wx (sAll b kb lb tb sb eb pb s2 ([pts cg (.cells #[.int .u64 c.mss, .int .u64 c.init, .int .u64 c.reorder, .int .u64 c.window, .int .u64 c.probe, .int .u64 c.loss] 24 (0, 0)), old w])))).mono ?_; rw [hkt.out]; rintro e wy ⟨rfl, hbel⟩; exact ⟨rfl, (by first | exact .same hbel | exact .drew hbel | exact .below hbel : Kp wx wy)⟩)) | (go_simp; first | rfl | exact ⟨rfl, rfl⟩) | rfl | exact ⟨rfl, rfl⟩)); clear hK K
       refine reg_s 34 HH.out ?_
       refine reg_s 35 HH.out ?_
       refine mixk_done (by kernel_rfl) (fun w7_ hk => ?_) _
       replace HH := Lib.hid (hk _ _ HH.out)
       clear hk
       have hj65 : j ≤ 65 := by have := hl65.out; omega
       go_wp2_with fail
       go_roundw
       case rel => exact ⟨j + 1, by omega, by go_num, rfl, by rw [hT'.out], HH.out⟩
       case measure => simp [intOf]; omega
      ·obtain rfl : j = out.length := by omega
       have hjl' : ¬ ((out.length : Nat) : Int) < (out.length : Int) := by omega
       rw [List.take_length]
       have e6 := htot.out out.length
       rw [List.take_length] at e6
       obtain ⟨T, hT⟩ : ∃ T, total out = T := ⟨_, rfl⟩
       have hq1 := hqu.out
       rw [hT] at e6 hq1
       rw [hT]
       replace HH := Lib.hid (HH.out.tail.pn : Own w _ (sAll b kb lb tb sb eb pb s2 ([pts cg (.cells #[.int .u64 c.mss, .int .u64 c.init, .int .u64 c.reorder, .int .u64 c.window, .int .u64 c.probe, .int .u64 c.loss] 24 (0, 0)), old w])))
       have hq2 : ¬ qn < T := by omega
       rw [← hnext.out]
       by_cases hT0 : 0 < T
       ·have hne : out ≠ [] := by rintro rfl; simp [total] at hT; omega
        have hfl := hcw.out hne
        have hfl2 : ¬ s2.e.cwnd < s2.infl := by omega
        clear hne hfl
        replace hT := Lib.hid hT
        go_wp2_with fail
        refine (sndEngine_c w _ _ b kb lb tb sb eb pb s2 HH.out).mono ?_
        rintro e w8_ ⟨rfl, hbel⟩
        replace HH := Lib.hid ((by first | exact .same hbel | exact .drew hbel | exact .below hbel : Kp _ w8_) _ _ (by first | exact HH.out | exact HH.out.drewN _ | exact (HH.out.alloc _).tail | exact ((HH.out.alloc _).drewN _).tail | exact ((HH.out.alloc _).alloc _).tail.tail))
        clear hbel
        go_wp2_with fail
        refine (engQuantumA_c w _ _ eb s2.e hsok.out hpac.out (HH.out.pn : Own w _ (eng eb s2.e :: pts b (sOb kb lb tb sb eb pb s2) :: clk kb s2.k :: led lb s2.l :: rtt tb s2.t :: smp sb s2.s :: pac pb s2.p :: [pts cg (.cells #[.int .u64 c.mss, .int .u64 c.init, .int .u64 c.reorder, .int .u64 c.window, .int .u64 c.probe, .int .u64 c.loss] 24 (0, 0)), old w]))).mono ?_
        rw [hqn.out]
        rintro e w9_ ⟨rfl, H9_⟩
        replace HH := Lib.hid H9_
        clear H9_
        replace HH := Lib.hid (HH.out.pn : Own w _ (sAll b kb lb tb sb eb pb s2 ([pts cg (.cells #[.int .u64 c.mss, .int .u64 c.init, .int .u64 c.reorder, .int .u64 c.window, .int .u64 c.probe, .int .u64 c.loss] 24 (0, 0)), old w])))
        go_wp2_with fail
        refine (sndInFlight_c w _ _ b kb lb tb sb eb pb s2 c _ _ hI2.out (by have := hM9.out; omega) HH.out).mono ?_
        rintro e w10_ ⟨rfl, H9_⟩
        replace HH := Lib.hid H9_
        clear H9_
        go_wp2_with fail
        refine (sndEngine_c w _ _ b kb lb tb sb eb pb s2 HH.out).mono ?_
        rintro e w11_ ⟨rfl, hbel⟩
        replace HH := Lib.hid ((by first | exact .same hbel | exact .drew hbel | exact .below hbel : Kp _ w11_) _ _ (by first | exact HH.out | exact HH.out.drewN _ | exact (HH.out.alloc _).tail | exact ((HH.out.alloc _).drewN _).tail | exact ((HH.out.alloc _).alloc _).tail.tail))
        clear hbel
        go_wp2_with fail
        refine (engCwndA_c w _ _ eb s2.e (HH.out.pn : Own w _ (eng eb s2.e :: pts b (sOb kb lb tb sb eb pb s2) :: clk kb s2.k :: led lb s2.l :: rtt tb s2.t :: smp sb s2.s :: pac pb s2.p :: [pts cg (.cells #[.int .u64 c.mss, .int .u64 c.init, .int .u64 c.reorder, .int .u64 c.window, .int .u64 c.probe, .int .u64 c.loss] 24 (0, 0)), old w]))).mono ?_
        rintro e w12_ ⟨rfl, hbel⟩
        replace HH := Lib.hid ((by first | exact .same hbel | exact .drew hbel | exact .below hbel : Kp _ w12_) _ _ (by first | exact HH.out | exact HH.out.drewN _ | exact (HH.out.alloc _).tail | exact ((HH.out.alloc _).drewN _).tail | exact ((HH.out.alloc _).alloc _).tail.tail))
        clear hbel
        go_wp2_with fail
        go_roundw
        case rel => exact ⟨k + 1, s2, by omega, by go_num, rfl, hI3.out, hP2.out, HH.out⟩
        case measure => simp [intOf]; omega
       ·replace hT := Lib.hid hT
        go_wp2_with fail
        refine (sndEngine_c w _ _ b kb lb tb sb eb pb s2 HH.out).mono ?_
        rintro e w13_ ⟨rfl, hbel⟩
        replace HH := Lib.hid ((by first | exact .same hbel | exact .drew hbel | exact .below hbel : Kp _ w13_) _ _ (by first | exact HH.out | exact HH.out.drewN _ | exact (HH.out.alloc _).tail | exact ((HH.out.alloc _).drewN _).tail | exact ((HH.out.alloc _).alloc _).tail.tail))
        clear hbel
        go_wp2_with fail
        refine (engQuantumA_c w _ _ eb s2.e hsok.out hpac.out (HH.out.pn : Own w _ (eng eb s2.e :: pts b (sOb kb lb tb sb eb pb s2) :: clk kb s2.k :: led lb s2.l :: rtt tb s2.t :: smp sb s2.s :: pac pb s2.p :: [pts cg (.cells #[.int .u64 c.mss, .int .u64 c.init, .int .u64 c.reorder, .int .u64 c.window, .int .u64 c.probe, .int .u64 c.loss] 24 (0, 0)), old w]))).mono ?_
        rw [hqn.out]
        rintro e w14_ ⟨rfl, H9_⟩
        replace HH := Lib.hid H9_
        clear H9_
        replace HH := Lib.hid (HH.out.pn : Own w _ (sAll b kb lb tb sb eb pb s2 ([pts cg (.cells #[.int .u64 c.mss, .int .u64 c.init, .int .u64 c.reorder, .int .u64 c.window, .int .u64 c.probe, .int .u64 c.loss] 24 (0, 0)), old w])))
        go_wp2_with fail
        go_roundw
        case rel => exact ⟨k + 1, s2, by omega, by go_num, rfl, hI3.out, hP2.out, HH.out⟩
        case measure => simp [intOf]; omega
    ·have hkn : ¬ (k : Int) < (len : Int) := by omega
     clear hI hP hget
     go_wp2_with fail
     refine (alive17_c w _ _ HH.out).mono ?_
     rintro e w15_ ⟨rfl, H9_⟩
     replace HH := Lib.hid H9_
     clear H9_
     go_wp2_with fail
     go_ret
     exact ⟨rfl, HH.out.pn⟩
end
end Go.Proofs.YtmkcpnlbicijoaaGreat
