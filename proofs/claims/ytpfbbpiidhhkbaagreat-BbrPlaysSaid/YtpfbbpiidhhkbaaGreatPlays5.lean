/- goitref15: an engine is told an event: written by mkplays.py. -/
import Derived.Test.YtpfbbpiidhhkbaaGreatPlays4
namespace Go.Proofs.YtpfbbpiidhhkbaaGreat
open Go.RowKit
section
variable (ε w : World) (R : List Asn) (b yb : Nat)
set_option maxRecDepth 100000 in
set_option maxHeartbeats 12800000 in
theorem rOn_c {N K : Nat} {s : Eng} {m : Fil} {mm : Nat} {l1 l0 : List Int} (hR : RRel N K s m mm l1 l0) (v : Value) (hN : N ≤ 1000) (hK : K ≤ 1000) (x : Evt) (hx : x.Ok) (H : Own ε w (pts b (.cells #[.int .u64 s.c.mss, .int .u64 s.c.init, .int .u64 s.c.reorder, .int .u64 s.c.window, .int .u64 s.c.probe, .int .u64 s.c.loss, .int .i64 s.st, .int .u64 s.since, .int .u64 s.rounds, .int .u64 m.win, .bool m.least, .int .u64 m.now, v, .pointer (some ⟨yb, 0, none⟩), .int .u64 s.k.mark, .int .u64 s.k.n, .int .u64 s.p.best, .int .i64 s.p.n, .int .u64 s.bd.hi, .int .u64 s.bd.lo, .int .u64 s.bd.bw, .int .u64 s.acked, .int .u64 s.lost, .int .u64 s.cwnd, .int .u64 s.kept, .int .u64 s.ended] 76 (0, 0)) :: slc 151 2 v (encs encR m.l) :: rcyc yb mm l1 l0 :: R)) :
    Calls Tryz.prog 9 #[.pointer (some ⟨b, 0, none⟩), x.v] w fun e w' => ∃ m' mm' l1' l0' v', ∃ _ : RRel (N + 1) (K + 1) (s.on x) m' mm' l1' l0', e = .returned (.tuple #[]) ∧ Own ε w' (pts b (.cells #[.int .u64 (s.on x).c.mss, .int .u64 (s.on x).c.init, .int .u64 (s.on x).c.reorder, .int .u64 (s.on x).c.window, .int .u64 (s.on x).c.probe, .int .u64 (s.on x).c.loss, .int .i64 (s.on x).st, .int .u64 (s.on x).since, .int .u64 (s.on x).rounds, .int .u64 m'.win, .bool m'.least, .int .u64 m'.now, v', .pointer (some ⟨yb, 0, none⟩), .int .u64 (s.on x).k.mark, .int .u64 (s.on x).k.n, .int .u64 (s.on x).p.best, .int .i64 (s.on x).p.n, .int .u64 (s.on x).bd.hi, .int .u64 (s.on x).bd.lo, .int .u64 (s.on x).bd.bw, .int .u64 (s.on x).acked, .int .u64 (s.on x).lost, .int .u64 (s.on x).cwnd, .int .u64 (s.on x).kept, .int .u64 (s.on x).ended] 76 (0, 0)) :: slc 151 2 v' (encs encR m'.l) :: rcyc yb mm' l1' l0' :: R) := by
  have HH := Lib.hid H; clear H
  obtain ⟨q, hq⟩ : ∃ q, s.on x = q := ⟨_, rfl⟩
  rw [hq]
  unfold Eng.on at hq
  obtain ⟨s4, e4⟩ : ∃ y, s.past x = y := ⟨_, rfl⟩
  obtain ⟨ov, eo⟩ : ∃ y, s.tells x = y := ⟨_, rfl⟩
  obtain ⟨lz, ez⟩ : ∃ y, s.loses x = y := ⟨_, rfl⟩
  rw [e4, eo, ez] at hq
  replace hR := Lib.hid hR
  replace hx := Lib.hid hx
  replace e4 := Lib.hid e4
  replace eo := Lib.hid eo
  replace ez := Lib.hid ez
  replace hq := Lib.hid hq
  unfold Evt.v
  go_enter Tryz.func9, Tryz.ntmps9
  go_wp2_with (with_reducible refine stop_bx ?_)
  refine Stop.go ?_
  refine wpList_box_own HH.out [_, _, _, _, _, _, _, _, _, _, _] rfl ?_
  intro g w1_ H9_
  replace HH := Lib.hid H9_
  clear H9_
  replace HH := Lib.hid ((Own.pm (HH.out) (by with_reducible repeat (first | exact .refl _ | exact .nil _ | refine .here ?_ | refine .at2 ?_ | refine .at3 ?_ | refine .at4 ?_ | refine .at5 ?_ | refine .at6 ?_ | refine .at7 ?_ | refine .at8 ?_ | refine .skip ?_))) : Own ε _ (pts b (.cells #[.int .u64 s.c.mss, .int .u64 s.c.init, .int .u64 s.c.reorder, .int .u64 s.c.window, .int .u64 s.c.probe, .int .u64 s.c.loss, .int .i64 s.st, .int .u64 s.since, .int .u64 s.rounds, .int .u64 m.win, .bool m.least, .int .u64 m.now, v, .pointer (some ⟨yb, 0, none⟩), .int .u64 s.k.mark, .int .u64 s.k.n, .int .u64 s.p.best, .int .i64 s.p.n, .int .u64 s.bd.hi, .int .u64 s.bd.lo, .int .u64 s.bd.bw, .int .u64 s.acked, .int .u64 s.lost, .int .u64 s.cwnd, .int .u64 s.kept, .int .u64 s.ended] 76 (0, 0)) :: slc 151 2 v (encs encR m.l) :: rcyc yb mm l1 l0 :: pts g (.cells #[.int .u64 x.now, .int .u64 x.sd, .int .u64 x.si, .int .u64 x.sr, .int .u64 x.rtt, .bool x.slim, .bool x.some, .int .u64 x.deliv, .int .u64 x.acked, .int .u64 x.lost, .int .u64 x.fl] 41 (0, 0)) :: R))
  (try clear cc1_); (try clear cc2_); (try clear cc3_); (try clear cc4_); (try clear cc5_); (try clear cc6_); (try clear cc7_)
  have cc4_ := HH.out.r4.cells
  go_wp2_with fail
  refine (rRead_c ε _ _ b yb hR.out v hN x hx.out HH.out).mono ?_
  rw [e4.out, eo.out, ez.out]
  rintro e w' ⟨m2, l2, v2, hR2, rfl, H9⟩
  clear HH hR e4 eo ez
  have HH := Lib.hid H9
  clear H9
  have hR5 := hR2.bounded hx.out lz
  have hb4 := Lib.hid hR2.ok.bd
  have hh4 := Lib.hid (Eng.U_holds hR2.ok)
  have hc4 := Lib.hid hR2.ok.cwnd
  replace hq := hq.out
  obtain ⟨s5, e5⟩ : ∃ y, s4.bounded x lz = y := ⟨_, rfl⟩
  rw [e5] at hq hR5
  obtain ⟨pr, hpr⟩ : ∃ y, decide (s4.st = 0 ∨ s4.st = 5) = y := ⟨_, rfl⟩
  obtain ⟨fi, hfi⟩ : ∃ y, (lz && pr) = y := ⟨_, rfl⟩
  replace e5 := Lib.hid e5
  replace hpr := Lib.hid hpr
  replace hfi := Lib.hid hfi
  replace hq := Lib.hid hq
  replace hR2 := Lib.hid hR2
  replace hR5 := Lib.hid hR5
  (try clear cc1_); (try clear cc2_); (try clear cc3_); (try clear cc4_); (try clear cc5_); (try clear cc6_); (try clear cc7_)
  have cc1_ := HH.out.cells
  have cc4_ := HH.out.r4.cells
  go_upto_region 2 with (fail)
  go_cut [26] from 85 (fun v26 wc => v26 = .bool fi ∧ Own ε wc (pts b (.cells #[.int .u64 s4.c.mss, .int .u64 s4.c.init, .int .u64 s4.c.reorder, .int .u64 s4.c.window, .int .u64 s4.c.probe, .int .u64 s4.c.loss, .int .i64 s4.st, .int .u64 s4.since, .int .u64 s4.rounds, .int .u64 m2.win, .bool m2.least, .int .u64 m2.now, v2, .pointer (some ⟨yb, 0, none⟩), .int .u64 s4.k.mark, .int .u64 s4.k.n, .int .u64 s4.p.best, .int .i64 s4.p.n, .int .u64 s4.bd.hi, .int .u64 s4.bd.lo, .int .u64 s4.bd.bw, .int .u64 s4.acked, .int .u64 s4.lost, .int .u64 s4.cwnd, .int .u64 s4.kept, .int .u64 s4.ended] 76 (0, 0)) :: slc 151 2 v2 (encs encR m2.l) :: rcyc yb mm l1 l2 :: pts g (.cells #[.int .u64 x.now, .int .u64 x.sd, .int .u64 x.si, .int .u64 x.sr, .int .u64 x.rtt, .bool x.slim, .bool x.some, .int .u64 x.deliv, .int .u64 x.acked, .int .u64 x.lost, .int .u64 x.fl] 41 (0, 0)) :: R))
  case first =>
    cases lz
    · have e1 : fi = false := by rw [← hfi.out]; rfl
      go_wp2_with fail
      go_meet
      case rel => exact ⟨by rw [e1], HH.out⟩
    · by_cases h0 : s4.st = 0
      · have b0 : (s4.st == 0) = true := by simpa using h0
        have e1 : fi = true := by rw [← hfi.out, ← hpr.out]; simp [h0]
        replace h0 := Lib.hid h0
        go_wp2_with fail
        go_meet
        case rel => exact ⟨by rw [e1], HH.out⟩
      · have b0 : (s4.st == 0) = false := by simpa using h0
        by_cases h5 : s4.st = 5
        · have b5 : (s4.st == 5) = true := by simpa using h5
          have e1 : fi = true := by rw [← hfi.out, ← hpr.out]; simp [h5]
          replace h0 := Lib.hid h0
          replace h5 := Lib.hid h5
          go_wp2_with fail
          go_meet
          case rel => exact ⟨by rw [e1], HH.out⟩
        · have b5 : (s4.st == 5) = false := by simpa using h5
          have e1 : fi = false := by rw [← hfi.out, ← hpr.out]; simp [h0, h5]
          replace h0 := Lib.hid h0
          replace h5 := Lib.hid h5
          go_wp2_with fail
          go_meet
          case rel => exact ⟨by rw [e1], HH.out⟩
  case rest =>
    clear HH
    obtain ⟨rfl, HR⟩ := hcut
    have HH := Lib.hid HR
    clear HR
    go_upto_if 26 with (fail)
    go_cut [5] from 85 (fun v5 wc => v5 = .bool lz ∧ Own ε wc (pts b (.cells #[.int .u64 s5.c.mss, .int .u64 s5.c.init, .int .u64 s5.c.reorder, .int .u64 s5.c.window, .int .u64 s5.c.probe, .int .u64 s5.c.loss, .int .i64 s5.st, .int .u64 s5.since, .int .u64 s5.rounds, .int .u64 m2.win, .bool m2.least, .int .u64 m2.now, v2, .pointer (some ⟨yb, 0, none⟩), .int .u64 s5.k.mark, .int .u64 s5.k.n, .int .u64 s5.p.best, .int .i64 s5.p.n, .int .u64 s5.bd.hi, .int .u64 s5.bd.lo, .int .u64 s5.bd.bw, .int .u64 s5.acked, .int .u64 s5.lost, .int .u64 s5.cwnd, .int .u64 s5.kept, .int .u64 s5.ended] 76 (0, 0)) :: slc 151 2 v2 (encs encR m2.l) :: rcyc yb mm l1 l2 :: pts g (.cells #[.int .u64 x.now, .int .u64 x.sd, .int .u64 x.si, .int .u64 x.sr, .int .u64 x.rtt, .bool x.slim, .bool x.some, .int .u64 x.deliv, .int .u64 x.acked, .int .u64 x.lost, .int .u64 x.fl] 41 (0, 0)) :: R))
    case first =>
      cases lz
      · have e1 : fi = false := by rw [← hfi.out]; rfl
        have e2 : s5 = s4 := by rw [← e5.out]; unfold Eng.bounded; exact if_neg (by decide)
        subst e1
        go_wp2_with fail
        go_meet
        case rel => exact ⟨rfl, by rw [e2]; exact HH.out⟩
      · cases pr
        · have e1 : fi = false := by rw [← hfi.out]; rfl
          have e2 : s5 = { s4 with bd := s4.bd.lose x.sd x.sr s4.cwnd } := by rw [← e5.out]; unfold Eng.bounded; rw [if_pos rfl]; exact if_neg (of_decide_eq_false hpr.out)
          subst e1
          replace e2 := Lib.hid e2
          (try clear cc1_); (try clear cc2_); (try clear cc3_); (try clear cc4_); (try clear cc5_); (try clear cc6_); (try clear cc7_)
          have cc1_ := HH.out.cells
          have cc4_ := HH.out.r4.cells
          go_wp2_with fail
          go_wp2_with fail
          refine wp_region_reg (some 18) HH.out (by kernel_rfl) ?_
          intro wm H9_
          replace HH := Lib.hid H9_
          clear H9_
          refine reg_p (i := 0) rfl (by kernel_rfl) (fun _ _ _ _ h => h) HH.out (fun K hK => ?_)
          go_simp
          (first | refine hK _ ?_ | (apply Exists.intro; refine ⟨?_, hK _ ?_⟩; focus intro wx; first | (go_simp; rfl) | rfl)); clear hK K
          refine reg_p (i := 1) rfl (by kernel_rfl) (fun _ _ _ _ h => h) HH.out (fun K hK => ?_)
          go_simp
          (first | refine hK _ ?_ | (apply Exists.intro; refine ⟨?_, hK _ ?_⟩; focus intro wx; first | (go_simp; rfl) | rfl)); clear hK K
          refine reg_p (i := 2) rfl (by kernel_rfl) (fun _ _ _ _ h => h) HH.out (fun K hK => ?_)
          go_simp
          (first | refine hK _ ?_ | (apply Exists.intro; refine ⟨?_, hK _ ?_⟩; focus intro wx; first | (go_simp; rfl) | rfl)); clear hK K
          refine reg_p (i := 3) rfl (by kernel_rfl) (fun _ _ _ _ h => h) HH.out (fun K hK => ?_)
          go_simp
          (first | refine hK _ ?_ | (apply Exists.intro; refine ⟨?_, hK _ ?_⟩; focus intro wx; first | (go_simp; rfl) | rfl)); clear hK K
          refine mixk_q (i := 4) rfl (by kernel_rfl) (fun _ _ _ _ h => h) HH.out (fun K hK => ?_)
          go_simp
          (first | refine hK _ ?_ | (apply Exists.intro; refine ⟨?_, hK _ ?_⟩; focus intro wx hx; have x1_ := hx.cells; have x4_ := hx.r4.cells; first | (go_simp; first | rfl | exact ⟨rfl, rfl⟩) | rfl | exact ⟨rfl, rfl⟩)); clear hK K
          refine reg_p (i := 5) rfl (by kernel_rfl) (fun _ _ _ _ h => h) HH.out (fun K hK => ?_)
          go_simp
          (first | refine hK _ ?_ | (apply Exists.intro; refine ⟨?_, hK _ ?_⟩; focus intro wx; first | (go_simp; rfl) | rfl)); clear hK K
          refine reg_p (i := 6) rfl (by kernel_rfl) (fun _ _ _ _ h => h) HH.out (fun K hK => ?_)
          go_simp
          (first | refine hK _ ?_ | (apply Exists.intro; refine ⟨?_, hK _ ?_⟩; focus intro wx; first | (go_simp; rfl) | rfl)); clear hK K
          refine mixk_q (i := 7) rfl (by kernel_rfl) (fun _ _ _ _ h => h) HH.out (fun K hK => ?_)
          go_simp
          (first | refine hK _ ?_ | (apply Exists.intro; refine ⟨?_, hK _ ?_⟩; focus intro wx hx; have x1_ := hx.cells; have x4_ := hx.r4.cells; first | (go_simp; first | rfl | exact ⟨rfl, rfl⟩) | rfl | exact ⟨rfl, rfl⟩)); clear hK K
          refine reg_p (i := 8) rfl (by kernel_rfl) (fun _ _ _ _ h => h) HH.out (fun K hK => ?_)
          go_simp
          (first | refine hK _ ?_ | (apply Exists.intro; refine ⟨?_, hK _ ?_⟩; focus intro wx; first | (go_simp; rfl) | rfl)); clear hK K
          refine reg_p (i := 9) rfl (by kernel_rfl) (fun _ _ _ _ h => h) HH.out (fun K hK => ?_)
          go_simp
          (first | refine hK _ ?_ | (apply Exists.intro; refine ⟨?_, hK _ ?_⟩; focus intro wx; first | (go_simp; rfl) | rfl)); clear hK K
          refine mixk_q (i := 10) rfl (by kernel_rfl) (fun _ _ _ _ h => h) HH.out (fun K hK => ?_)
          go_simp
          (first | refine hK _ ?_ | (apply Exists.intro; refine ⟨?_, hK _ ?_⟩; focus intro wx hx; have x1_ := hx.cells; have x4_ := hx.r4.cells; first | (go_simp; first | rfl | exact ⟨rfl, rfl⟩) | rfl | exact ⟨rfl, rfl⟩)); clear hK K
          refine reg_p (i := 11) rfl (by kernel_rfl) (fun _ _ _ _ h => h) HH.out (fun K hK => ?_)
          go_simp
          (first | refine hK _ ?_ | (apply Exists.intro; refine ⟨?_, hK _ ?_⟩; focus intro wx; first | (go_simp; rfl) | rfl)); clear hK K
          refine reg_p (i := 12) rfl (by kernel_rfl) (fun _ _ _ _ h => h) HH.out (fun K hK => ?_)
          go_simp
          (first | refine hK _ ?_ | (apply Exists.intro; refine ⟨?_, hK _ ?_⟩; focus intro wx; first | (go_simp; rfl) | rfl)); clear hK K
          refine reg_p (i := 13) rfl (by kernel_rfl) (fun _ _ _ _ h => h) HH.out (fun K hK => ?_)
          go_simp
          (first | refine hK _ ?_ | (apply Exists.intro; refine ⟨?_, hK _ ?_⟩; focus intro wx; first | (go_simp; rfl) | rfl)); clear hK K
          refine mixk_q (i := 14) rfl (by kernel_rfl) (fun _ _ _ _ h => h) HH.out (fun K hK => ?_)
          go_simp
          (first | refine hK _ ?_ | (apply Exists.intro; refine ⟨?_, hK _ ?_⟩; focus intro wx hx; have x1_ := hx.cells; have x4_ := hx.r4.cells; first | (go_simp; first | rfl | exact ⟨rfl, rfl⟩) | rfl | exact ⟨rfl, rfl⟩)); clear hK K
          refine reg_l (some 18) (i := 15) rfl (by kernel_rfl) (fun wn hk K hK => ?_)
          replace HH := Lib.hid (hk _ _ HH.out)
          clear hk
          go_simp
          refine (refLose_c wn s4.bd x.sd x.sr s4.cwnd hb4.out hx.out.sd hx.out.sr hc4.out).mono ?_
          rintro e wm ⟨rfl, hbel⟩
          replace HH := Lib.hid ((by first | exact .same hbel | exact .drew hbel | exact .below hbel : Kp wn wm) _ _ HH.out)
          clear hbel
          refine hK _ _ _ HH.out (.inr ⟨rfl, fun _ h => h⟩) ?_
          clear hK K
          refine reg_p (i := 16) rfl (by kernel_rfl) (fun _ _ _ _ h => h) HH.out (fun K hK => ?_)
          go_simp
          (first | refine hK _ ?_ | (apply Exists.intro; refine ⟨?_, hK _ ?_⟩; focus intro wx; first | (go_simp; rfl) | rfl)); clear hK K
          refine reg_p (i := 17) rfl (by kernel_rfl) (fun _ _ _ _ h => h) HH.out (fun K hK => ?_)
          go_simp
          (first | refine hK _ ?_ | (apply Exists.intro; refine ⟨?_, hK _ ?_⟩; focus intro wx; first | (go_simp; rfl) | rfl)); clear hK K
          refine reg_l none (i := 18) rfl (by kernel_rfl) (fun wn hk K hK => ?_)
          replace HH := Lib.hid (hk _ _ HH.out)
          clear hk
          refine want rfl (wp_storek_own (k := 18) (#[.int .u64 (s4.bd.lose x.sd x.sr s4.cwnd).hi, .int .u64 (s4.bd.lose x.sd x.sr s4.cwnd).lo, .int .u64 (s4.bd.lose x.sd x.sr s4.cwnd).bw]) rfl rfl rfl HH.out (by kernel_rfl) (by simp) (by repeat (first | (refine List.forall_mem_cons.2 ⟨(by first | with_reducible assumption | rfl), ?_⟩) | exact fun _ h => absurd h List.not_mem_nil)) ?_)
          intro wm H9_
          replace HH := Lib.hid (show Own _ _ ((pts b (.cells #[.int .u64 s4.c.mss, .int .u64 s4.c.init, .int .u64 s4.c.reorder, .int .u64 s4.c.window, .int .u64 s4.c.probe, .int .u64 s4.c.loss, .int .i64 s4.st, .int .u64 s4.since, .int .u64 s4.rounds, .int .u64 m2.win, .bool m2.least, .int .u64 m2.now, v2, .pointer (some ⟨yb, 0, none⟩), .int .u64 s4.k.mark, .int .u64 s4.k.n, .int .u64 s4.p.best, .int .i64 s4.p.n, .int .u64 (s4.bd.lose x.sd x.sr s4.cwnd).hi, .int .u64 (s4.bd.lose x.sd x.sr s4.cwnd).lo, .int .u64 (s4.bd.lose x.sd x.sr s4.cwnd).bw, .int .u64 s4.acked, .int .u64 s4.lost, .int .u64 s4.cwnd, .int .u64 s4.kept, .int .u64 s4.ended] 76 (0, 0)) :: slc 151 2 v2 (encs encR m2.l) :: rcyc yb mm l1 l2 :: pts g (.cells #[.int .u64 x.now, .int .u64 x.sd, .int .u64 x.si, .int .u64 x.sr, .int .u64 x.rtt, .bool x.slim, .bool x.some, .int .u64 x.deliv, .int .u64 x.acked, .int .u64 x.lost, .int .u64 x.fl] 41 (0, 0)) :: R)) from H9_)
          clear H9_
          refine hK _ _ _ HH.out (.inl (by kernel_rfl)) ?_
          clear hK K
          refine mixk_done (by kernel_rfl) (fun w2_ hk => ?_) _
          replace HH := Lib.hid (hk _ _ HH.out)
          clear hk
          go_wp2_with fail
          go_meet
          case rel => exact ⟨rfl, by rw [e2.out]; exact HH.out⟩
        · have e1 : fi = true := by rw [← hfi.out]; rfl
          have e2 : s5 = { s4 with bd := s4.bd.pull x.fl s4.holds } := by rw [← e5.out]; unfold Eng.bounded; rw [if_pos rfl]; exact if_pos (of_decide_eq_true hpr.out)
          subst e1
          replace e2 := Lib.hid e2
          (try clear cc1_); (try clear cc2_); (try clear cc3_); (try clear cc4_); (try clear cc5_); (try clear cc6_); (try clear cc7_)
          have cc1_ := HH.out.cells
          have cc4_ := HH.out.r4.cells
          go_wp2_with fail
          go_wp2_with fail
          refine wp_region_reg (some 12) HH.out (by kernel_rfl) ?_
          intro wm H9_
          replace HH := Lib.hid H9_
          clear H9_
          refine reg_p (i := 0) rfl (by kernel_rfl) (fun _ _ _ _ h => h) HH.out (fun K hK => ?_)
          go_simp
          (first | refine hK _ ?_ | (apply Exists.intro; refine ⟨?_, hK _ ?_⟩; focus intro wx; first | (go_simp; rfl) | rfl)); clear hK K
          refine reg_p (i := 1) rfl (by kernel_rfl) (fun _ _ _ _ h => h) HH.out (fun K hK => ?_)
          go_simp
          (first | refine hK _ ?_ | (apply Exists.intro; refine ⟨?_, hK _ ?_⟩; focus intro wx; first | (go_simp; rfl) | rfl)); clear hK K
          refine reg_p (i := 2) rfl (by kernel_rfl) (fun _ _ _ _ h => h) HH.out (fun K hK => ?_)
          go_simp
          (first | refine hK _ ?_ | (apply Exists.intro; refine ⟨?_, hK _ ?_⟩; focus intro wx; first | (go_simp; rfl) | rfl)); clear hK K
          refine reg_p (i := 3) rfl (by kernel_rfl) (fun _ _ _ _ h => h) HH.out (fun K hK => ?_)
          go_simp
          (first | refine hK _ ?_ | (apply Exists.intro; refine ⟨?_, hK _ ?_⟩; focus intro wx; first | (go_simp; rfl) | rfl)); clear hK K
          refine mixk_q (i := 4) rfl (by kernel_rfl) (fun _ _ _ _ h => h) HH.out (fun K hK => ?_)
          go_simp
          (first | refine hK _ ?_ | (apply Exists.intro; refine ⟨?_, hK _ ?_⟩; focus intro wx hx; have x1_ := hx.cells; have x4_ := hx.r4.cells; first | (go_simp; first | rfl | exact ⟨rfl, rfl⟩) | rfl | exact ⟨rfl, rfl⟩)); clear hK K
          refine reg_p (i := 5) rfl (by kernel_rfl) (fun _ _ _ _ h => h) HH.out (fun K hK => ?_)
          go_simp
          (first | refine hK _ ?_ | (apply Exists.intro; refine ⟨?_, hK _ ?_⟩; focus intro wx; first | (go_simp; rfl) | rfl)); clear hK K
          refine mixk_q (i := 6) rfl (by kernel_rfl) (fun _ _ _ _ h => h) HH.out (fun K hK => ?_)
          go_simp
          (first | refine hK _ ?_ | (apply Exists.intro; refine ⟨?_, hK _ ?_⟩; focus intro wx hx; have x1_ := hx.cells; have x4_ := hx.r4.cells; first | (go_simp; first | rfl | exact ⟨rfl, rfl⟩) | rfl | exact ⟨rfl, rfl⟩)); clear hK K
          refine reg_p (i := 7) rfl (by kernel_rfl) (fun _ _ _ _ h => h) HH.out (fun K hK => ?_)
          go_simp
          (first | refine hK _ ?_ | (apply Exists.intro; refine ⟨?_, hK _ ?_⟩; focus intro wx; first | (go_simp; rfl) | rfl)); clear hK K
          refine reg_l (some 12) (i := 8) rfl (by kernel_rfl) (fun wn hk K hK => ?_)
          replace HH := Lib.hid (hk _ _ HH.out)
          clear hk
          go_simp
          refine (rHolds_c ε wn _ b yb hR2.out v2 HH.out).mono ?_
          rintro e wm ⟨rfl, H9_⟩
          replace HH := Lib.hid H9_
          clear H9_
          refine hK _ _ _ HH.out (.inr ⟨rfl, fun _ h => (Own.pm (h) (by with_reducible repeat (first | exact .refl _ | exact .nil _ | refine .here ?_ | refine .at2 ?_ | refine .at3 ?_ | refine .at4 ?_ | refine .at5 ?_ | refine .at6 ?_ | refine .at7 ?_ | refine .at8 ?_ | refine .skip ?_)))⟩) ?_
          clear hK K
          refine reg_l (some 12) (i := 9) rfl (by kernel_rfl) (fun wn hk K hK => ?_)
          replace HH := Lib.hid (hk _ _ HH.out)
          clear hk
          go_simp
          refine (refPull_c wn s4.bd x.fl s4.holds hx.out.fl hh4.out).mono ?_
          rintro e wm ⟨rfl, hbel⟩
          replace HH := Lib.hid ((by first | exact .same hbel | exact .drew hbel | exact .below hbel : Kp wn wm) _ _ HH.out)
          clear hbel
          refine hK _ _ _ HH.out (.inr ⟨rfl, fun _ h => h⟩) ?_
          clear hK K
          refine reg_p (i := 10) rfl (by kernel_rfl) (fun _ _ _ _ h => h) HH.out (fun K hK => ?_)
          go_simp
          (first | refine hK _ ?_ | (apply Exists.intro; refine ⟨?_, hK _ ?_⟩; focus intro wx; first | (go_simp; rfl) | rfl)); clear hK K
          refine reg_p (i := 11) rfl (by kernel_rfl) (fun _ _ _ _ h => h) HH.out (fun K hK => ?_)
          go_simp
          (first | refine hK _ ?_ | (apply Exists.intro; refine ⟨?_, hK _ ?_⟩; focus intro wx; first | (go_simp; rfl) | rfl)); clear hK K
          refine reg_l none (i := 12) rfl (by kernel_rfl) (fun wn hk K hK => ?_)
          replace HH := Lib.hid (hk _ _ HH.out)
          clear hk
          refine want rfl (wp_storek_own (k := 18) (#[.int .u64 (s4.bd.pull x.fl s4.holds).hi, .int .u64 (s4.bd.pull x.fl s4.holds).lo, .int .u64 (s4.bd.pull x.fl s4.holds).bw]) rfl rfl rfl HH.out (by kernel_rfl) (by simp) (by repeat (first | (refine List.forall_mem_cons.2 ⟨(by first | with_reducible assumption | rfl), ?_⟩) | exact fun _ h => absurd h List.not_mem_nil)) ?_)
          intro wm H9_
          replace HH := Lib.hid (show Own _ _ ((pts b (.cells #[.int .u64 s4.c.mss, .int .u64 s4.c.init, .int .u64 s4.c.reorder, .int .u64 s4.c.window, .int .u64 s4.c.probe, .int .u64 s4.c.loss, .int .i64 s4.st, .int .u64 s4.since, .int .u64 s4.rounds, .int .u64 m2.win, .bool m2.least, .int .u64 m2.now, v2, .pointer (some ⟨yb, 0, none⟩), .int .u64 s4.k.mark, .int .u64 s4.k.n, .int .u64 s4.p.best, .int .i64 s4.p.n, .int .u64 (s4.bd.pull x.fl s4.holds).hi, .int .u64 (s4.bd.pull x.fl s4.holds).lo, .int .u64 (s4.bd.pull x.fl s4.holds).bw, .int .u64 s4.acked, .int .u64 s4.lost, .int .u64 s4.cwnd, .int .u64 s4.kept, .int .u64 s4.ended] 76 (0, 0)) :: slc 151 2 v2 (encs encR m2.l) :: rcyc yb mm l1 l2 :: pts g (.cells #[.int .u64 x.now, .int .u64 x.sd, .int .u64 x.si, .int .u64 x.sr, .int .u64 x.rtt, .bool x.slim, .bool x.some, .int .u64 x.deliv, .int .u64 x.acked, .int .u64 x.lost, .int .u64 x.fl] 41 (0, 0)) :: R)) from H9_)
          clear H9_
          refine hK _ _ _ HH.out (.inl (by kernel_rfl)) ?_
          clear hK K
          refine mixk_done (by kernel_rfl) (fun w3_ hk => ?_) _
          replace HH := Lib.hid (hk _ _ HH.out)
          clear hk
          go_wp2_with fail
          go_meet
          case rel => exact ⟨rfl, by rw [e2.out]; exact HH.out⟩
    case rest =>
      clear HH
      obtain ⟨rfl, HR⟩ := hcut
      have HH := Lib.hid HR
      clear HR hb4 hh4 hc4 hR2 e5 hpr hfi
      (try clear cc1_); (try clear cc2_); (try clear cc3_); (try clear cc4_); (try clear cc5_); (try clear cc6_); (try clear cc7_)
      have cc4_ := HH.out.r4.cells
      go_wp2_with fail
      refine (rTurn_c ε _ _ b yb hR5.out v2 hK x hx.out ov lz HH.out).mono ?_
      replace hq := hq.out
      obtain ⟨s6, e6⟩ : ∃ y, s5.turn x ov lz = y := ⟨_, rfl⟩
      rw [e6] at hq ⊢
      replace hq := Lib.hid hq
      replace e6 := Lib.hid e6
      rintro e w' ⟨mm2, l1b, l0b, v3, hR6, rfl, H9⟩
      clear HH hR5
      have HH := Lib.hid H9
      clear H9
      have hR7 := hR6.pushed hx.out lz
      have hb6 := Lib.hid hR6.ok.bd
      replace hq := hq.out
      obtain ⟨s7, e7⟩ : ∃ y, s6.pushed x lz = y := ⟨_, rfl⟩
      rw [e7] at hq hR7
      obtain ⟨pu, hpu⟩ : ∃ y, decide (s6.st = 5 ∧ lz = false) = y := ⟨_, rfl⟩
      have hR8 := hR7.win x
      replace hq := Lib.hid hq
      replace e7 := Lib.hid e7
      replace hpu := Lib.hid hpu
      replace hR6 := Lib.hid hR6
      replace hR7 := Lib.hid hR7
      replace hR8 := Lib.hid hR8
      (try clear cc1_); (try clear cc2_); (try clear cc3_); (try clear cc4_); (try clear cc5_); (try clear cc6_); (try clear cc7_)
      have cc1_ := HH.out.cells
      have cc4_ := HH.out.r4.cells
      go_upto_region 7 with (fail)
      go_cut [71] from 85 (fun v71 wc => v71 = .bool pu ∧ Own ε wc (pts b (.cells #[.int .u64 s6.c.mss, .int .u64 s6.c.init, .int .u64 s6.c.reorder, .int .u64 s6.c.window, .int .u64 s6.c.probe, .int .u64 s6.c.loss, .int .i64 s6.st, .int .u64 s6.since, .int .u64 s6.rounds, .int .u64 m2.win, .bool m2.least, .int .u64 m2.now, v3, .pointer (some ⟨yb, 0, none⟩), .int .u64 s6.k.mark, .int .u64 s6.k.n, .int .u64 s6.p.best, .int .i64 s6.p.n, .int .u64 s6.bd.hi, .int .u64 s6.bd.lo, .int .u64 s6.bd.bw, .int .u64 s6.acked, .int .u64 s6.lost, .int .u64 s6.cwnd, .int .u64 s6.kept, .int .u64 s6.ended] 76 (0, 0)) :: slc 151 2 v3 (encs encR m2.l) :: rcyc yb mm2 l1b l0b :: pts g (.cells #[.int .u64 x.now, .int .u64 x.sd, .int .u64 x.si, .int .u64 x.sr, .int .u64 x.rtt, .bool x.slim, .bool x.some, .int .u64 x.deliv, .int .u64 x.acked, .int .u64 x.lost, .int .u64 x.fl] 41 (0, 0)) :: R))
      case first =>
        by_cases h5 : s6.st = 5
        · have b5 : (s6.st == 5) = true := by simpa using h5
          have hp : pu = !lz := by rw [← hpu.out]; cases lz <;> simp [h5]
          replace h5 := Lib.hid h5
          go_wp2_with fail
          go_meet
          case rel => exact ⟨by rw [hp], HH.out⟩
        · have b5 : (s6.st == 5) = false := by simpa using h5
          have hp : pu = false := by rw [← hpu.out]; simp [h5]
          replace h5 := Lib.hid h5
          go_wp2_with fail
          go_meet
          case rel => exact ⟨by rw [hp], HH.out⟩
      case rest =>
        clear HH
        obtain ⟨rfl, HR⟩ := hcut
        have HH := Lib.hid HR
        clear HR
        go_upto_if 71 with (fail)
        go_cut [] from 85 (fun wc => Own ε wc (pts b (.cells #[.int .u64 s7.c.mss, .int .u64 s7.c.init, .int .u64 s7.c.reorder, .int .u64 s7.c.window, .int .u64 s7.c.probe, .int .u64 s7.c.loss, .int .i64 s7.st, .int .u64 s7.since, .int .u64 s7.rounds, .int .u64 m2.win, .bool m2.least, .int .u64 m2.now, v3, .pointer (some ⟨yb, 0, none⟩), .int .u64 s7.k.mark, .int .u64 s7.k.n, .int .u64 s7.p.best, .int .i64 s7.p.n, .int .u64 s7.bd.hi, .int .u64 s7.bd.lo, .int .u64 s7.bd.bw, .int .u64 s7.acked, .int .u64 s7.lost, .int .u64 s7.cwnd, .int .u64 s7.kept, .int .u64 s7.ended] 76 (0, 0)) :: slc 151 2 v3 (encs encR m2.l) :: rcyc yb mm2 l1b l0b :: pts g (.cells #[.int .u64 x.now, .int .u64 x.sd, .int .u64 x.si, .int .u64 x.sr, .int .u64 x.rtt, .bool x.slim, .bool x.some, .int .u64 x.deliv, .int .u64 x.acked, .int .u64 x.lost, .int .u64 x.fl] 41 (0, 0)) :: R))
        case first =>
          cases pu
          · have h7 : s7 = s6 := by rw [← e7.out]; unfold Eng.pushed; exact if_neg (of_decide_eq_false hpu.out)
            go_wp2_with fail
            go_meet
            case rel => rw [h7]; exact HH.out
          · have h7 : s7 = { s6 with bd := s6.bd.push x.acked } := by rw [← e7.out]; unfold Eng.pushed; exact if_pos (of_decide_eq_true hpu.out)
            replace h7 := Lib.hid h7
            (try clear cc1_); (try clear cc2_); (try clear cc3_); (try clear cc4_); (try clear cc5_); (try clear cc6_); (try clear cc7_)
            have cc1_ := HH.out.cells
            have cc4_ := HH.out.r4.cells
            go_wp2_with fail
            go_wp2_with fail
            refine wp_region_reg (some 10) HH.out (by kernel_rfl) ?_
            intro wm H9_
            replace HH := Lib.hid H9_
            clear H9_
            refine reg_p (i := 0) rfl (by kernel_rfl) (fun _ _ _ _ h => h) HH.out (fun K hK => ?_)
            go_simp
            (first | refine hK _ ?_ | (apply Exists.intro; refine ⟨?_, hK _ ?_⟩; focus intro wx; first | (go_simp; rfl) | rfl)); clear hK K
            refine reg_p (i := 1) rfl (by kernel_rfl) (fun _ _ _ _ h => h) HH.out (fun K hK => ?_)
            go_simp
            (first | refine hK _ ?_ | (apply Exists.intro; refine ⟨?_, hK _ ?_⟩; focus intro wx; first | (go_simp; rfl) | rfl)); clear hK K
            refine reg_p (i := 2) rfl (by kernel_rfl) (fun _ _ _ _ h => h) HH.out (fun K hK => ?_)
            go_simp
            (first | refine hK _ ?_ | (apply Exists.intro; refine ⟨?_, hK _ ?_⟩; focus intro wx; first | (go_simp; rfl) | rfl)); clear hK K
            refine reg_p (i := 3) rfl (by kernel_rfl) (fun _ _ _ _ h => h) HH.out (fun K hK => ?_)
            go_simp
            (first | refine hK _ ?_ | (apply Exists.intro; refine ⟨?_, hK _ ?_⟩; focus intro wx; first | (go_simp; rfl) | rfl)); clear hK K
            refine mixk_q (i := 4) rfl (by kernel_rfl) (fun _ _ _ _ h => h) HH.out (fun K hK => ?_)
            go_simp
            (first | refine hK _ ?_ | (apply Exists.intro; refine ⟨?_, hK _ ?_⟩; focus intro wx hx; have x1_ := hx.cells; have x4_ := hx.r4.cells; first | (go_simp; first | rfl | exact ⟨rfl, rfl⟩) | rfl | exact ⟨rfl, rfl⟩)); clear hK K
            refine reg_p (i := 5) rfl (by kernel_rfl) (fun _ _ _ _ h => h) HH.out (fun K hK => ?_)
            go_simp
            (first | refine hK _ ?_ | (apply Exists.intro; refine ⟨?_, hK _ ?_⟩; focus intro wx; first | (go_simp; rfl) | rfl)); clear hK K
            refine mixk_q (i := 6) rfl (by kernel_rfl) (fun _ _ _ _ h => h) HH.out (fun K hK => ?_)
            go_simp
            (first | refine hK _ ?_ | (apply Exists.intro; refine ⟨?_, hK _ ?_⟩; focus intro wx hx; have x1_ := hx.cells; have x4_ := hx.r4.cells; first | (go_simp; first | rfl | exact ⟨rfl, rfl⟩) | rfl | exact ⟨rfl, rfl⟩)); clear hK K
            refine reg_l (some 10) (i := 7) rfl (by kernel_rfl) (fun wn hk K hK => ?_)
            replace HH := Lib.hid (hk _ _ HH.out)
            clear hk
            go_simp
            refine (refPush_c wn s6.bd x.acked hb6.out hx.out.acked).mono ?_
            rintro e wm ⟨rfl, hbel⟩
            replace HH := Lib.hid ((by first | exact .same hbel | exact .drew hbel | exact .below hbel : Kp wn wm) _ _ HH.out)
            clear hbel
            refine hK _ _ _ HH.out (.inr ⟨rfl, fun _ h => h⟩) ?_
            clear hK K
            refine reg_p (i := 8) rfl (by kernel_rfl) (fun _ _ _ _ h => h) HH.out (fun K hK => ?_)
            go_simp
            (first | refine hK _ ?_ | (apply Exists.intro; refine ⟨?_, hK _ ?_⟩; focus intro wx; first | (go_simp; rfl) | rfl)); clear hK K
            refine reg_p (i := 9) rfl (by kernel_rfl) (fun _ _ _ _ h => h) HH.out (fun K hK => ?_)
            go_simp
            (first | refine hK _ ?_ | (apply Exists.intro; refine ⟨?_, hK _ ?_⟩; focus intro wx; first | (go_simp; rfl) | rfl)); clear hK K
            refine reg_l none (i := 10) rfl (by kernel_rfl) (fun wn hk K hK => ?_)
            replace HH := Lib.hid (hk _ _ HH.out)
            clear hk
            refine want rfl (wp_storek_own (k := 18) (#[.int .u64 (s6.bd.push x.acked).hi, .int .u64 (s6.bd.push x.acked).lo, .int .u64 (s6.bd.push x.acked).bw]) rfl rfl rfl HH.out (by kernel_rfl) (by simp) (by repeat (first | (refine List.forall_mem_cons.2 ⟨(by first | with_reducible assumption | rfl), ?_⟩) | exact fun _ h => absurd h List.not_mem_nil)) ?_)
            intro wm H9_
            replace HH := Lib.hid (show Own _ _ ((pts b (.cells #[.int .u64 s6.c.mss, .int .u64 s6.c.init, .int .u64 s6.c.reorder, .int .u64 s6.c.window, .int .u64 s6.c.probe, .int .u64 s6.c.loss, .int .i64 s6.st, .int .u64 s6.since, .int .u64 s6.rounds, .int .u64 m2.win, .bool m2.least, .int .u64 m2.now, v3, .pointer (some ⟨yb, 0, none⟩), .int .u64 s6.k.mark, .int .u64 s6.k.n, .int .u64 s6.p.best, .int .i64 s6.p.n, .int .u64 (s6.bd.push x.acked).hi, .int .u64 (s6.bd.push x.acked).lo, .int .u64 (s6.bd.push x.acked).bw, .int .u64 s6.acked, .int .u64 s6.lost, .int .u64 s6.cwnd, .int .u64 s6.kept, .int .u64 s6.ended] 76 (0, 0)) :: slc 151 2 v3 (encs encR m2.l) :: rcyc yb mm2 l1b l0b :: pts g (.cells #[.int .u64 x.now, .int .u64 x.sd, .int .u64 x.si, .int .u64 x.sr, .int .u64 x.rtt, .bool x.slim, .bool x.some, .int .u64 x.deliv, .int .u64 x.acked, .int .u64 x.lost, .int .u64 x.fl] 41 (0, 0)) :: R)) from H9_)
            clear H9_
            refine hK _ _ _ HH.out (.inl (by kernel_rfl)) ?_
            clear hK K
            refine mixk_done (by kernel_rfl) (fun w4_ hk => ?_) _
            replace HH := Lib.hid (hk _ _ HH.out)
            clear hk
            go_wp2_with fail
            go_meet
            case rel => rw [h7.out]; exact HH.out
        case rest =>
          clear HH
          have HH := Lib.hid hcut
          clear hcut
          (try clear cc1_); (try clear cc2_); (try clear cc3_); (try clear cc4_); (try clear cc5_); (try clear cc6_); (try clear cc7_)
          have cc4_ := HH.out.r4.cells
          go_wp2_with fail
          refine (rWindow_c ε _ _ b yb hR7.out v3 x hx.out HH.out).mono ?_
          rintro e w5_ ⟨rfl, H9_⟩
          replace HH := Lib.hid H9_
          clear H9_
          go_wp2_with fail
          first | go_end0 | ((try simp only [Exit.inBlock, Exit.then]); refine bodyPost_ret (results_none rfl _ _ _) rfl ?_)
          rw [← hq.out]
          exact ⟨m2, mm2, l1b, l0b, v3, hR8.out, rfl, ((Own.pm (HH.out) (by with_reducible repeat (first | exact .refl _ | exact .nil _ | refine .here ?_ | refine .at2 ?_ | refine .at3 ?_ | refine .at4 ?_ | refine .at5 ?_ | refine .at6 ?_ | refine .at7 ?_ | refine .at8 ?_ | refine .skip ?_))) : Own ε _ (pts b (.cells #[.int .u64 s7.c.mss, .int .u64 s7.c.init, .int .u64 s7.c.reorder, .int .u64 s7.c.window, .int .u64 s7.c.probe, .int .u64 s7.c.loss, .int .i64 s7.st, .int .u64 s7.since, .int .u64 s7.rounds, .int .u64 m2.win, .bool m2.least, .int .u64 m2.now, v3, .pointer (some ⟨yb, 0, none⟩), .int .u64 s7.k.mark, .int .u64 s7.k.n, .int .u64 s7.p.best, .int .i64 s7.p.n, .int .u64 s7.bd.hi, .int .u64 s7.bd.lo, .int .u64 s7.bd.bw, .int .u64 s7.acked, .int .u64 s7.lost, .int .u64 (s7.window x.acked), .int .u64 s7.kept, .int .u64 s7.ended] 76 (0, 0)) :: slc 151 2 v3 (encs encR m2.l) :: rcyc yb mm2 l1b l0b :: R))⟩
end
end Go.Proofs.YtpfbbpiidhhkbaaGreat
