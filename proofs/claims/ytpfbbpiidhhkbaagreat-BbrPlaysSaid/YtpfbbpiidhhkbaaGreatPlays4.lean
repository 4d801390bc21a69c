/- goitref15: an engine's window, and an event: written by mkplays.py. -/
import Derived.Test.YtpfbbpiidhhkbaaGreatPlays3
namespace Go.Proofs.YtpfbbpiidhhkbaaGreat
open Go.RowKit
theorem Eng.window_alt (s : Eng) (a : Int) : s.window a = min (max (if s.st = 2 ∨ s.st = 3 then min (s.bd.cap [s.wide a]) s.bd.room else if s.st = 6 then min (s.bd.cap [s.wide a]) (gWindow s.st s.uses) else s.bd.cap [s.wide a]) s.c.least) 72057594037927936 := by
  unfold Eng.window Eng.narrow Bnd.cap minL
  simp only [List.foldl]
  by_cases h1 : s.st = 2 ∨ s.st = 3
  · rw [if_pos h1, if_pos h1]; omega
  · rw [if_neg h1, if_neg h1]
    by_cases h2 : s.st = 6
    · rw [if_pos h2, if_pos h2]; omega
    · rw [if_neg h2, if_neg h2]
theorem Eng.bounded_eq (s : Eng) (x : Evt) (lz : Bool) : s.bounded x lz = { s with bd := (s.bounded x lz).bd } := by
  unfold Eng.bounded
  split
  · split <;> rfl
  · rfl
theorem Eng.pushed_eq (s : Eng) (x : Evt) (lz : Bool) : s.pushed x lz = { s with bd := (s.pushed x lz).bd } := by
  unfold Eng.pushed
  split <;> rfl
theorem RRel.bounded {N K : Nat} {s : Eng} {m : Fil} {mm : Nat} {l1 l0 : List Int} (h : RRel N K s m mm l1 l0) {x : Evt} (hx : x.Ok) (lz : Bool) : RRel N K (s.bounded x lz) m mm l1 l0 :=
  h.keep (Eng.ok_bounded h.ok hx) (by rw [Eng.bounded_eq]) (by rw [Eng.bounded_eq]) (by rw [Eng.bounded_eq]) (by rw [Eng.bounded_eq]; exact h.rd) (Nat.le_refl _)
theorem RRel.pushed {N K : Nat} {s : Eng} {m : Fil} {mm : Nat} {l1 l0 : List Int} (h : RRel N K s m mm l1 l0) {x : Evt} (hx : x.Ok) (lz : Bool) : RRel N K (s.pushed x lz) m mm l1 l0 :=
  h.keep (Eng.ok_pushed h.ok hx) (by rw [Eng.pushed_eq]) (by rw [Eng.pushed_eq]) (by rw [Eng.pushed_eq]) (by rw [Eng.pushed_eq]; exact h.rd) (Nat.le_refl _)
theorem RRel.win {N K : Nat} {s : Eng} {m : Fil} {mm : Nat} {l1 l0 : List Int} (h : RRel N K s m mm l1 l0) (x : Evt) : RRel N K (s.win x) m mm l1 l0 :=
  h.keep (Eng.ok_win h.ok) rfl rfl rfl h.rd (Nat.le_refl _)
section
variable (ε w : World) (R : List Asn) (b yb : Nat)
set_option maxRecDepth 100000 in
set_option maxHeartbeats 12800000 in
theorem rWindow_c {N K : Nat} {s : Eng} {m : Fil} {mm : Nat} {l1 l0 : List Int} (hR : RRel N K s m mm l1 l0) (v : Value) (x : Evt) (hx : x.Ok) (H : Own ε w (pts b (.cells #[.int .u64 s.c.mss, .int .u64 s.c.init, .int .u64 s.c.reorder, .int .u64 s.c.window, .int .u64 s.c.probe, .int .u64 s.c.loss, .int .i64 s.st, .int .u64 s.since, .int .u64 s.rounds, .int .u64 m.win, .bool m.least, .int .u64 m.now, v, .pointer (some ⟨yb, 0, none⟩), .int .u64 s.k.mark, .int .u64 s.k.n, .int .u64 s.p.best, .int .i64 s.p.n, .int .u64 s.bd.hi, .int .u64 s.bd.lo, .int .u64 s.bd.bw, .int .u64 s.acked, .int .u64 s.lost, .int .u64 s.cwnd, .int .u64 s.kept, .int .u64 s.ended] 76 (0, 0)) :: slc 151 2 v (encs encR m.l) :: rcyc yb mm l1 l0 :: R)) :
    Calls Tryz.prog 49 #[.pointer (some ⟨b, 0, none⟩), x.v] w fun e w' => e = .returned (.tuple #[]) ∧ Own ε w' (pts b (.cells #[.int .u64 s.c.mss, .int .u64 s.c.init, .int .u64 s.c.reorder, .int .u64 s.c.window, .int .u64 s.c.probe, .int .u64 s.c.loss, .int .i64 s.st, .int .u64 s.since, .int .u64 s.rounds, .int .u64 m.win, .bool m.least, .int .u64 m.now, v, .pointer (some ⟨yb, 0, none⟩), .int .u64 s.k.mark, .int .u64 s.k.n, .int .u64 s.p.best, .int .i64 s.p.n, .int .u64 s.bd.hi, .int .u64 s.bd.lo, .int .u64 s.bd.bw, .int .u64 s.acked, .int .u64 s.lost, .int .u64 (s.window x.acked), .int .u64 s.kept, .int .u64 s.ended] 76 (0, 0)) :: slc 151 2 v (encs encR m.l) :: rcyc yb mm l1 l0 :: R) := by
  have HH := Lib.hid H; clear H
  have hs := hR.ok
  have hle := hR.least
  rw [Eng.window_alt]
  have husU := Lib.hid (Eng.U_uses hs)
  have htU := Lib.hid (U_gWindow (s := s.st) husU.out)
  have hqU := Lib.hid (Cnf.U_quantum hs.c (Eng.U_pace hs))
  have hnU := Lib.hid (U_sadd hs.cwnd hx.acked)
  have hbd := Lib.hid hs.bd
  have hcw := Lib.hid hs.cwnd
  change Hid (U s.quantum) at hqU
  obtain ⟨fw, hfw⟩ : ∃ y, decide (s.st ≠ 0 ∨ 3 ≤ s.p.n) = y := ⟨_, rfl⟩
  have hwide : s.wide x.acked = if fw = true then min (sadd s.cwnd x.acked) (sadd (gWindow s.st s.uses) s.quantum) else sadd s.cwnd x.acked := by
    unfold Eng.wide
    rw [← hfw]
    by_cases h : s.st = 0 ∧ s.p.n < 3
    · rw [if_pos h, if_neg (by simp only [decide_eq_true_eq]; omega)]
    · rw [if_neg h, if_pos (by simp only [decide_eq_true_eq]; omega)]
  have hwU : U (s.wide x.acked) := by
    rw [hwide]
    split
    · exact U_min hnU.out (U_sadd htU.out hqU.out)
    · exact hnU.out
  obtain ⟨us, hus⟩ : ∃ y, s.uses = y := ⟨_, rfl⟩
  rw [hus] at husU htU hwide ⊢
  obtain ⟨tg, htg⟩ : ∃ y, gWindow s.st us = y := ⟨_, rfl⟩
  rw [htg] at htU hwide ⊢
  obtain ⟨qn, hqn⟩ : ∃ y, s.quantum = y := ⟨_, rfl⟩
  rw [hqn] at hqU hwide
  obtain ⟨n0, hn0⟩ : ∃ y, sadd s.cwnd x.acked = y := ⟨_, rfl⟩
  rw [hn0] at hnU hwide
  obtain ⟨wd, hwd⟩ : ∃ y, s.wide x.acked = y := ⟨_, rfl⟩
  rw [hwd] at hwU hwide ⊢
  obtain ⟨cp, hcp⟩ : ∃ y, s.bd.cap [wd] = y := ⟨_, rfl⟩
  rw [hcp]
  obtain ⟨rm, hrm⟩ : ∃ y, s.bd.room = y := ⟨_, rfl⟩
  rw [hrm]
  obtain ⟨le, hle2⟩ : ∃ y, s.c.least = y := ⟨_, rfl⟩
  rw [hle2] at hle ⊢
  obtain ⟨z, hz⟩ : ∃ y, min (max (if s.st = 2 ∨ s.st = 3 then min cp rm else if s.st = 6 then min cp tg else cp) le) 72057594037927936 = y := ⟨_, rfl⟩
  rw [hz]
  clear hle2 hs
  replace hus := Lib.hid hus
  replace htg := Lib.hid htg
  replace hqn := Lib.hid hqn
  replace hn0 := Lib.hid hn0
  replace hwd := Lib.hid hwd
  replace hcp := Lib.hid hcp
  replace hrm := Lib.hid hrm
  replace hz := Lib.hid hz
  replace hfw := Lib.hid hfw
  replace hwide := Lib.hid hwide
  replace hwU := Lib.hid hwU
  replace hle := Lib.hid hle
  replace hx := Lib.hid hx
  replace hR := Lib.hid hR
  have im := min_ite'
  unfold Evt.v
  go_enter Tryz.func49, Tryz.ntmps49
  go_wp2_with (with_reducible refine stop_bx ?_)
  refine Stop.go ?_
  refine wpList_box_own HH.out [_, _, _, _, _, _, _, _, _, _, _] rfl ?_
  intro g w1_ H9_
  replace HH := Lib.hid H9_
  clear H9_
  replace HH := Lib.hid ((Own.pm (HH.out) (by with_reducible repeat (first | exact .refl _ | exact .nil _ | refine .here ?_ | refine .at2 ?_ | refine .at3 ?_ | refine .at4 ?_ | refine .at5 ?_ | refine .at6 ?_ | refine .at7 ?_ | refine .at8 ?_ | refine .skip ?_))) : Own ε _ (pts b (.cells #[.int .u64 s.c.mss, .int .u64 s.c.init, .int .u64 s.c.reorder, .int .u64 s.c.window, .int .u64 s.c.probe, .int .u64 s.c.loss, .int .i64 s.st, .int .u64 s.since, .int .u64 s.rounds, .int .u64 m.win, .bool m.least, .int .u64 m.now, v, .pointer (some ⟨yb, 0, none⟩), .int .u64 s.k.mark, .int .u64 s.k.n, .int .u64 s.p.best, .int .i64 s.p.n, .int .u64 s.bd.hi, .int .u64 s.bd.lo, .int .u64 s.bd.bw, .int .u64 s.acked, .int .u64 s.lost, .int .u64 s.cwnd, .int .u64 s.kept, .int .u64 s.ended] 76 (0, 0)) :: slc 151 2 v (encs encR m.l) :: rcyc yb mm l1 l0 :: pts g (.cells #[.int .u64 x.now, .int .u64 x.sd, .int .u64 x.si, .int .u64 x.sr, .int .u64 x.rtt, .bool x.slim, .bool x.some, .int .u64 x.deliv, .int .u64 x.acked, .int .u64 x.lost, .int .u64 x.fl] 41 (0, 0)) :: R))
  (try clear cc1_); (try clear cc2_); (try clear cc3_); (try clear cc4_); (try clear cc5_); (try clear cc6_); (try clear cc7_)
  have cc1_ := HH.out.cells
  have cc4_ := HH.out.r4.cells
  go_wp2_with fail
  go_wp2_with fail
  refine wp_region_reg none HH.out (by kernel_rfl) ?_
  intro wm H9_
  replace HH := Lib.hid H9_
  clear H9_
  refine reg_p (i := 0) rfl (by kernel_rfl) (fun _ _ _ _ h => h) HH.out (fun K hK => ?_)
  go_simp
  (first | refine hK _ ?_ | (apply Exists.intro; refine ⟨?_, hK _ ?_⟩; focus intro wx; first | (go_simp; rfl) | rfl)); clear hK K
  refine reg_p (i := 1) rfl (by kernel_rfl) (fun _ _ _ _ h => h) HH.out (fun K hK => ?_)
  go_simp
  (first | refine hK _ ?_ | (apply Exists.intro; refine ⟨?_, hK _ ?_⟩; focus intro wx; first | (go_simp; rfl) | rfl)); clear hK K
  refine reg_p (i := 2) rfl (by kernel_rfl) (fun _ _ _ _ h => h) HH.out (fun K hK => ?_)
  go_simp
  (first | refine hK _ ?_ | (apply Exists.intro; refine ⟨?_, hK _ ?_⟩; focus intro wx; first | (go_simp; rfl) | rfl)); clear hK K
  refine mixk_q (i := 3) rfl (by kernel_rfl) (fun _ _ _ _ h => h) HH.out (fun K hK => ?_)
  go_simp
  (first | refine hK _ ?_ | (apply Exists.intro; refine ⟨?_, hK _ ?_⟩; focus intro wx hx; have x1_ := hx.cells; have x4_ := hx.r4.cells; first | (go_simp; first | rfl | exact ⟨rfl, rfl⟩) | rfl | exact ⟨rfl, rfl⟩)); clear hK K
  refine reg_p (i := 4) rfl (by kernel_rfl) (fun _ _ _ _ h => h) HH.out (fun K hK => ?_)
  go_simp
  (first | refine hK _ ?_ | (apply Exists.intro; refine ⟨?_, hK _ ?_⟩; focus intro wx; first | (go_simp; rfl) | rfl)); clear hK K
  refine mixk_q (i := 5) rfl (by kernel_rfl) (fun _ _ _ _ h => h) HH.out (fun K hK => ?_)
  go_simp
  (first | refine hK _ ?_ | (apply Exists.intro; refine ⟨?_, hK _ ?_⟩; focus intro wx hx; have x1_ := hx.cells; have x4_ := hx.r4.cells; first | (go_simp; first | rfl | exact ⟨rfl, rfl⟩) | rfl | exact ⟨rfl, rfl⟩)); clear hK K
  refine reg_l none (i := 6) rfl (by kernel_rfl) (fun wn hk K hK => ?_)
  replace HH := Lib.hid (hk _ _ HH.out)
  clear hk
  go_simp
  refine (refAdd_c wn s.cwnd x.acked hcw.out hx.out.acked).mono ?_
  rw [hn0.out]
  rintro e wm ⟨rfl, hbel⟩
  replace HH := Lib.hid ((by first | exact .same hbel | exact .drew hbel | exact .below hbel : Kp wn wm) _ _ HH.out)
  clear hbel
  refine hK _ _ _ HH.out (.inr ⟨rfl, fun _ h => h⟩) ?_
  clear hK K
  refine reg_p (i := 7) rfl (by kernel_rfl) (fun _ _ _ _ h => h) HH.out (fun K hK => ?_)
  go_simp
  (first | refine hK _ ?_ | (apply Exists.intro; refine ⟨?_, hK _ ?_⟩; focus intro wx; first | (go_simp; rfl) | rfl)); clear hK K
  refine mixk_done (by kernel_rfl) (fun w2_ hk => ?_) _
  replace HH := Lib.hid (hk _ _ HH.out)
  clear hk
  replace HH := Lib.hid ((Own.pm (HH.out) (by with_reducible repeat (first | exact .refl _ | exact .nil _ | refine .here ?_ | refine .at2 ?_ | refine .at3 ?_ | refine .at4 ?_ | refine .at5 ?_ | refine .at6 ?_ | refine .at7 ?_ | refine .at8 ?_ | refine .skip ?_))) : Own _ _ (pts b (.cells #[.int .u64 s.c.mss, .int .u64 s.c.init, .int .u64 s.c.reorder, .int .u64 s.c.window, .int .u64 s.c.probe, .int .u64 s.c.loss, .int .i64 s.st, .int .u64 s.since, .int .u64 s.rounds, .int .u64 m.win, .bool m.least, .int .u64 m.now, v, .pointer (some ⟨yb, 0, none⟩), .int .u64 s.k.mark, .int .u64 s.k.n, .int .u64 s.p.best, .int .i64 s.p.n, .int .u64 s.bd.hi, .int .u64 s.bd.lo, .int .u64 s.bd.bw, .int .u64 s.acked, .int .u64 s.lost, .int .u64 s.cwnd, .int .u64 s.kept, .int .u64 s.ended] 76 (0, 0)) :: slc 151 2 v (encs encR m.l) :: rcyc yb mm l1 l0 :: pts g (.cells #[.int .u64 x.now, .int .u64 x.sd, .int .u64 x.si, .int .u64 x.sr, .int .u64 x.rtt, .bool x.slim, .bool x.some, .int .u64 x.deliv, .int .u64 x.acked, .int .u64 x.lost, .int .u64 x.fl] 41 (0, 0)) :: R))
  (try clear cc1_); (try clear cc2_); (try clear cc3_); (try clear cc4_); (try clear cc5_); (try clear cc6_); (try clear cc7_)
  have cc1_ := HH.out.cells
  go_wp2_with fail
  go_wp2_with fail
  refine wp_region_reg none HH.out (by kernel_rfl) ?_
  intro wm H9_
  replace HH := Lib.hid H9_
  clear H9_
  refine reg_p (i := 0) rfl (by kernel_rfl) (fun _ _ _ _ h => h) HH.out (fun K hK => ?_)
  go_simp
  (first | refine hK _ ?_ | (apply Exists.intro; refine ⟨?_, hK _ ?_⟩; focus intro wx; first | (go_simp; rfl) | rfl)); clear hK K
  refine reg_p (i := 1) rfl (by kernel_rfl) (fun _ _ _ _ h => h) HH.out (fun K hK => ?_)
  go_simp
  (first | refine hK _ ?_ | (apply Exists.intro; refine ⟨?_, hK _ ?_⟩; focus intro wx; first | (go_simp; rfl) | rfl)); clear hK K
  refine reg_p (i := 2) rfl (by kernel_rfl) (fun _ _ _ _ h => h) HH.out (fun K hK => ?_)
  go_simp
  (first | refine hK _ ?_ | (apply Exists.intro; refine ⟨?_, hK _ ?_⟩; focus intro wx; first | (go_simp; rfl) | rfl)); clear hK K
  refine mixk_q (i := 3) rfl (by kernel_rfl) (fun _ _ _ _ h => h) HH.out (fun K hK => ?_)
  go_simp
  (first | refine hK _ ?_ | (apply Exists.intro; refine ⟨?_, hK _ ?_⟩; focus intro wx hx; have x1_ := hx.cells; first | (go_simp; first | rfl | exact ⟨rfl, rfl⟩) | rfl | exact ⟨rfl, rfl⟩)); clear hK K
  refine reg_p (i := 4) rfl (by kernel_rfl) (fun _ _ _ _ h => h) HH.out (fun K hK => ?_)
  go_simp
  (first | refine hK _ ?_ | (apply Exists.intro; refine ⟨?_, hK _ ?_⟩; focus intro wx; first | (go_simp; rfl) | rfl)); clear hK K
  refine reg_l none (i := 5) rfl (by kernel_rfl) (fun wn hk K hK => ?_)
  replace HH := Lib.hid (hk _ _ HH.out)
  clear hk
  go_simp
  refine (rUses_c ε wn _ b yb hR.out v HH.out).mono ?_
  rw [hus.out]
  rintro e wm ⟨rfl, H9_⟩
  replace HH := Lib.hid H9_
  clear H9_
  refine hK _ _ _ HH.out (.inr ⟨rfl, fun _ h => (Own.pm (h) (by with_reducible repeat (first | exact .refl _ | exact .nil _ | refine .here ?_ | refine .at2 ?_ | refine .at3 ?_ | refine .at4 ?_ | refine .at5 ?_ | refine .at6 ?_ | refine .at7 ?_ | refine .at8 ?_ | refine .skip ?_)))⟩) ?_
  clear hK K
  refine reg_l none (i := 6) rfl (by kernel_rfl) (fun wn hk K hK => ?_)
  replace HH := Lib.hid (hk _ _ HH.out)
  clear hk
  go_simp
  refine (refWindow_c wn s.st us husU.out).mono ?_
  rw [htg.out]
  rintro e wm ⟨rfl, hbel⟩
  replace HH := Lib.hid ((by first | exact .same hbel | exact .drew hbel | exact .below hbel : Kp wn wm) _ _ HH.out)
  clear hbel
  refine hK _ _ _ HH.out (.inr ⟨rfl, fun _ h => h⟩) ?_
  clear hK K
  refine reg_p (i := 7) rfl (by kernel_rfl) (fun _ _ _ _ h => h) HH.out (fun K hK => ?_)
  go_simp
  (first | refine hK _ ?_ | (apply Exists.intro; refine ⟨?_, hK _ ?_⟩; focus intro wx; first | (go_simp; rfl) | rfl)); clear hK K
  refine mixk_done (by kernel_rfl) (fun w3_ hk => ?_) _
  replace HH := Lib.hid (hk _ _ HH.out)
  clear hk
  replace HH := Lib.hid ((Own.pm (HH.out) (by with_reducible repeat (first | exact .refl _ | exact .nil _ | refine .here ?_ | refine .at2 ?_ | refine .at3 ?_ | refine .at4 ?_ | refine .at5 ?_ | refine .at6 ?_ | refine .at7 ?_ | refine .at8 ?_ | refine .skip ?_))) : Own _ _ (pts b (.cells #[.int .u64 s.c.mss, .int .u64 s.c.init, .int .u64 s.c.reorder, .int .u64 s.c.window, .int .u64 s.c.probe, .int .u64 s.c.loss, .int .i64 s.st, .int .u64 s.since, .int .u64 s.rounds, .int .u64 m.win, .bool m.least, .int .u64 m.now, v, .pointer (some ⟨yb, 0, none⟩), .int .u64 s.k.mark, .int .u64 s.k.n, .int .u64 s.p.best, .int .i64 s.p.n, .int .u64 s.bd.hi, .int .u64 s.bd.lo, .int .u64 s.bd.bw, .int .u64 s.acked, .int .u64 s.lost, .int .u64 s.cwnd, .int .u64 s.kept, .int .u64 s.ended] 76 (0, 0)) :: slc 151 2 v (encs encR m.l) :: rcyc yb mm l1 l0 :: pts g (.cells #[.int .u64 x.now, .int .u64 x.sd, .int .u64 x.si, .int .u64 x.sr, .int .u64 x.rtt, .bool x.slim, .bool x.some, .int .u64 x.deliv, .int .u64 x.acked, .int .u64 x.lost, .int .u64 x.fl] 41 (0, 0)) :: R))
  (try clear cc1_); (try clear cc2_); (try clear cc3_); (try clear cc4_); (try clear cc5_); (try clear cc6_); (try clear cc7_)
  have cc1_ := HH.out.cells
  go_upto_region 3 with (fail)
  go_cut [32] from 84 (fun v32 wc => v32 = .bool fw ∧ Own ε wc (pts b (.cells #[.int .u64 s.c.mss, .int .u64 s.c.init, .int .u64 s.c.reorder, .int .u64 s.c.window, .int .u64 s.c.probe, .int .u64 s.c.loss, .int .i64 s.st, .int .u64 s.since, .int .u64 s.rounds, .int .u64 m.win, .bool m.least, .int .u64 m.now, v, .pointer (some ⟨yb, 0, none⟩), .int .u64 s.k.mark, .int .u64 s.k.n, .int .u64 s.p.best, .int .i64 s.p.n, .int .u64 s.bd.hi, .int .u64 s.bd.lo, .int .u64 s.bd.bw, .int .u64 s.acked, .int .u64 s.lost, .int .u64 s.cwnd, .int .u64 s.kept, .int .u64 s.ended] 76 (0, 0)) :: slc 151 2 v (encs encR m.l) :: rcyc yb mm l1 l0 :: pts g (.cells #[.int .u64 x.now, .int .u64 x.sd, .int .u64 x.si, .int .u64 x.sr, .int .u64 x.rtt, .bool x.slim, .bool x.some, .int .u64 x.deliv, .int .u64 x.acked, .int .u64 x.lost, .int .u64 x.fl] 41 (0, 0)) :: R))
  case first =>
    by_cases h0 : s.st = 0
    · have c0 : (s.st != 0) = false := by simpa using h0
      have e0 : decide (3 ≤ s.p.n) = fw := by rw [← hfw.out]; simp [h0]
      replace e0 := Lib.hid e0
      replace h0 := Lib.hid h0
      go_wp2_with fail
      go_meet
      case rel => exact ⟨by rw [← e0.out], HH.out⟩
    · have c0 : (s.st != 0) = true := by simpa using h0
      have e0 : fw = true := by rw [← hfw.out]; simp [h0]
      replace h0 := Lib.hid h0
      go_wp2_with fail
      go_meet
      case rel => exact ⟨by rw [e0], HH.out⟩
  case rest =>
    clear HH
    obtain ⟨rfl, HR⟩ := hcut
    have HH := Lib.hid HR
    clear HR
    go_upto_if 32 with (fail)
    go_cut [4] from 6 (fun v4 wc => v4 = .int .u64 wd ∧ Own ε wc (pts b (.cells #[.int .u64 s.c.mss, .int .u64 s.c.init, .int .u64 s.c.reorder, .int .u64 s.c.window, .int .u64 s.c.probe, .int .u64 s.c.loss, .int .i64 s.st, .int .u64 s.since, .int .u64 s.rounds, .int .u64 m.win, .bool m.least, .int .u64 m.now, v, .pointer (some ⟨yb, 0, none⟩), .int .u64 s.k.mark, .int .u64 s.k.n, .int .u64 s.p.best, .int .i64 s.p.n, .int .u64 s.bd.hi, .int .u64 s.bd.lo, .int .u64 s.bd.bw, .int .u64 s.acked, .int .u64 s.lost, .int .u64 s.cwnd, .int .u64 s.kept, .int .u64 s.ended] 76 (0, 0)) :: slc 151 2 v (encs encR m.l) :: rcyc yb mm l1 l0 :: pts g (.cells #[.int .u64 x.now, .int .u64 x.sd, .int .u64 x.si, .int .u64 x.sr, .int .u64 x.rtt, .bool x.slim, .bool x.some, .int .u64 x.deliv, .int .u64 x.acked, .int .u64 x.lost, .int .u64 x.fl] 41 (0, 0)) :: R))
    case first =>
      cases fw
      · have e1 : wd = n0 := by rw [hwide.out, if_neg (by decide)]
        go_wp2_with fail
        go_meet
        case rel => exact ⟨by rw [e1], HH.out⟩
      · have e1 : wd = min n0 (sadd tg qn) := by rw [hwide.out, if_pos rfl]
        replace e1 := Lib.hid e1
        go_wp2_with fail
        refine (rQuantum_c ε _ _ b yb hR.out v HH.out).mono ?_
        rw [hqn.out]
        rintro e w4_ ⟨rfl, H9_⟩
        replace HH := Lib.hid H9_
        clear H9_
        go_wp2_with fail
        refine (refAdd_c _ tg qn htU.out hqU.out).mono ?_
        rintro e w5_ ⟨rfl, hbel⟩
        replace HH := Lib.hid ((by first | exact .same hbel | exact .drew hbel | exact .below hbel : Kp _ w5_) _ _ (by first | exact HH.out | exact HH.out.drewN _ | exact (HH.out.alloc _).tail | exact ((HH.out.alloc _).drewN _).tail | exact ((HH.out.alloc _).alloc _).tail.tail))
        clear hbel
        go_wp2_with fail
        go_meet
        case rel => exact ⟨by rw [e1.out], HH.out⟩
    case rest =>
      clear HH
      obtain ⟨rfl, HR⟩ := hcut
      have HH := Lib.hid HR
      clear HR
      (try clear cc1_); (try clear cc2_); (try clear cc3_); (try clear cc4_); (try clear cc5_); (try clear cc6_); (try clear cc7_)
      have cc1_ := HH.out.cells
      go_wp2_with (with_reducible refine stop_bs ?_)
      refine Stop.go ?_
      refine wpList_bsv_own HH.out [.int .u64 wd] 1 8 [.int .u64 0] Tryz.underlying119 (by kernel_rfl) (by kernel_rfl) (by decide) (by decide) (by kernel_rfl) ?_
      intro gq w6_ H9_
      replace HH := Lib.hid H9_
      clear H9_
      go_wp2_with fail
      refine (refCap_c _ s.bd _ 1 1 [wd] (rd1 hwU.out HH.out)).mono ?_
      rw [hcp.out]
      rintro e w7_ ⟨rfl, hbel⟩
      replace HH := Lib.hid ((by first | exact .same hbel | exact .drew hbel | exact .below hbel : Kp _ w7_) _ _ (by first | exact HH.out | exact HH.out.drewN _ | exact (HH.out.alloc _).tail | exact ((HH.out.alloc _).drewN _).tail | exact ((HH.out.alloc _).alloc _).tail.tail))
      clear hbel
      replace HH := Lib.hid ((Own.pm (HH.out) (by with_reducible repeat (first | exact .refl _ | exact .nil _ | refine .here ?_ | refine .at2 ?_ | refine .at3 ?_ | refine .at4 ?_ | refine .at5 ?_ | refine .at6 ?_ | refine .at7 ?_ | refine .at8 ?_ | refine .skip ?_))) : Own ε _ (pts b (.cells #[.int .u64 s.c.mss, .int .u64 s.c.init, .int .u64 s.c.reorder, .int .u64 s.c.window, .int .u64 s.c.probe, .int .u64 s.c.loss, .int .i64 s.st, .int .u64 s.since, .int .u64 s.rounds, .int .u64 m.win, .bool m.least, .int .u64 m.now, v, .pointer (some ⟨yb, 0, none⟩), .int .u64 s.k.mark, .int .u64 s.k.n, .int .u64 s.p.best, .int .i64 s.p.n, .int .u64 s.bd.hi, .int .u64 s.bd.lo, .int .u64 s.bd.bw, .int .u64 s.acked, .int .u64 s.lost, .int .u64 s.cwnd, .int .u64 s.kept, .int .u64 s.ended] 76 (0, 0)) :: slc 151 2 v (encs encR m.l) :: rcyc yb mm l1 l0 :: pts g (.cells #[.int .u64 x.now, .int .u64 x.sd, .int .u64 x.si, .int .u64 x.sr, .int .u64 x.rtt, .bool x.slim, .bool x.some, .int .u64 x.deliv, .int .u64 x.acked, .int .u64 x.lost, .int .u64 x.fl] 41 (0, 0)) :: R))
      replace hle := hle.out
      by_cases h2 : s.st = 2
      · have b2 : (s.st == 2) = true := by simpa using h2
        have b6 : (s.st == 6) = false := by simp [h2]
        have ez : min (max (min cp rm) le) 72057594037927936 = z := by rw [← hz.out, if_pos (.inl h2)]
        replace h2 := Lib.hid h2
        replace ez := Lib.hid ez
        (try clear cc1_); (try clear cc2_); (try clear cc3_); (try clear cc4_); (try clear cc5_); (try clear cc6_); (try clear cc7_)
        have cc1_ := HH.out.cells
        go_wp2_with fail
        refine (refRoom_c _ s.bd hbd.out).mono ?_
        rw [hrm.out]
        rintro e w8_ ⟨rfl, hbel⟩
        replace HH := Lib.hid ((by first | exact .same hbel | exact .drew hbel | exact .below hbel : Kp _ w8_) _ _ (by first | exact HH.out | exact HH.out.drewN _ | exact (HH.out.alloc _).tail | exact ((HH.out.alloc _).drewN _).tail | exact ((HH.out.alloc _).alloc _).tail.tail))
        clear hbel
        (try clear cc1_); (try clear cc2_); (try clear cc3_); (try clear cc4_); (try clear cc5_); (try clear cc6_); (try clear cc7_)
        have cc1_ := HH.out.cells
        go_wp2_with fail
        refine (refClamp_c _ (min cp rm) le 72057594037927936).mono ?_
        rw [ez.out]
        rintro e w9_ ⟨rfl, hbel⟩
        replace HH := Lib.hid ((by first | exact .same hbel | exact .drew hbel | exact .below hbel : Kp _ w9_) _ _ (by first | exact HH.out | exact HH.out.drewN _ | exact (HH.out.alloc _).tail | exact ((HH.out.alloc _).drewN _).tail | exact ((HH.out.alloc _).alloc _).tail.tail))
        clear hbel
        go_wp2_with (with_reducible refine stop_st ?_)
        refine Stop.go ?_
        refine wpList_store1_own (v := .int .u64 z) (k := 23) rfl rfl HH.out (by kernel_rfl) (by simp) (by first | rfl | assumption) ?_
        intro w10_ H9_
        replace HH := Lib.hid H9_
        clear H9_
        simp only [List.setIfInBounds_toArray, List.set_cons_succ, List.set_cons_zero] at HH
        go_wp2_with fail
        first | go_end0 | ((try simp only [Exit.inBlock, Exit.then]); refine bodyPost_ret (results_none rfl _ _ _) rfl ?_)
        exact ⟨rfl, (Own.pm (HH.out) (by with_reducible repeat (first | exact .refl _ | exact .nil _ | refine .here ?_ | refine .at2 ?_ | refine .at3 ?_ | refine .at4 ?_ | refine .at5 ?_ | refine .at6 ?_ | refine .at7 ?_ | refine .at8 ?_ | refine .skip ?_)))⟩
      have b2 : (s.st == 2) = false := by simpa using h2
      by_cases h3 : s.st = 3
      · have b3 : (s.st == 3) = true := by simpa using h3
        have b6 : (s.st == 6) = false := by simp [h3]
        have ez : min (max (min cp rm) le) 72057594037927936 = z := by rw [← hz.out, if_pos (.inr h3)]
        replace h2 := Lib.hid h2
        replace h3 := Lib.hid h3
        replace ez := Lib.hid ez
        (try clear cc1_); (try clear cc2_); (try clear cc3_); (try clear cc4_); (try clear cc5_); (try clear cc6_); (try clear cc7_)
        have cc1_ := HH.out.cells
        go_wp2_with fail
        refine (refRoom_c _ s.bd hbd.out).mono ?_
        rw [hrm.out]
        rintro e w11_ ⟨rfl, hbel⟩
        replace HH := Lib.hid ((by first | exact .same hbel | exact .drew hbel | exact .below hbel : Kp _ w11_) _ _ (by first | exact HH.out | exact HH.out.drewN _ | exact (HH.out.alloc _).tail | exact ((HH.out.alloc _).drewN _).tail | exact ((HH.out.alloc _).alloc _).tail.tail))
        clear hbel
        (try clear cc1_); (try clear cc2_); (try clear cc3_); (try clear cc4_); (try clear cc5_); (try clear cc6_); (try clear cc7_)
        have cc1_ := HH.out.cells
        go_wp2_with fail
        refine (refClamp_c _ (min cp rm) le 72057594037927936).mono ?_
        rw [ez.out]
        rintro e w12_ ⟨rfl, hbel⟩
        replace HH := Lib.hid ((by first | exact .same hbel | exact .drew hbel | exact .below hbel : Kp _ w12_) _ _ (by first | exact HH.out | exact HH.out.drewN _ | exact (HH.out.alloc _).tail | exact ((HH.out.alloc _).drewN _).tail | exact ((HH.out.alloc _).alloc _).tail.tail))
        clear hbel
        go_wp2_with (with_reducible refine stop_st ?_)
        refine Stop.go ?_
        refine wpList_store1_own (v := .int .u64 z) (k := 23) rfl rfl HH.out (by kernel_rfl) (by simp) (by first | rfl | assumption) ?_
        intro w13_ H9_
        replace HH := Lib.hid H9_
        clear H9_
        simp only [List.setIfInBounds_toArray, List.set_cons_succ, List.set_cons_zero] at HH
        go_wp2_with fail
        first | go_end0 | ((try simp only [Exit.inBlock, Exit.then]); refine bodyPost_ret (results_none rfl _ _ _) rfl ?_)
        exact ⟨rfl, (Own.pm (HH.out) (by with_reducible repeat (first | exact .refl _ | exact .nil _ | refine .here ?_ | refine .at2 ?_ | refine .at3 ?_ | refine .at4 ?_ | refine .at5 ?_ | refine .at6 ?_ | refine .at7 ?_ | refine .at8 ?_ | refine .skip ?_)))⟩
      have b3 : (s.st == 3) = false := by simpa using h3
      by_cases h6 : s.st = 6
      · have b6 : (s.st == 6) = true := by simpa using h6
        have ez : min (max (min cp tg) le) 72057594037927936 = z := by rw [← hz.out, if_neg (by omega), if_pos h6]
        replace h2 := Lib.hid h2
        replace h3 := Lib.hid h3
        replace h6 := Lib.hid h6
        replace ez := Lib.hid ez
        (try clear cc1_); (try clear cc2_); (try clear cc3_); (try clear cc4_); (try clear cc5_); (try clear cc6_); (try clear cc7_)
        have cc1_ := HH.out.cells
        go_wp2_with fail
        refine (refClamp_c _ (min cp tg) le 72057594037927936).mono ?_
        rw [ez.out]
        rintro e w14_ ⟨rfl, hbel⟩
        replace HH := Lib.hid ((by first | exact .same hbel | exact .drew hbel | exact .below hbel : Kp _ w14_) _ _ (by first | exact HH.out | exact HH.out.drewN _ | exact (HH.out.alloc _).tail | exact ((HH.out.alloc _).drewN _).tail | exact ((HH.out.alloc _).alloc _).tail.tail))
        clear hbel
        go_wp2_with (with_reducible refine stop_st ?_)
        refine Stop.go ?_
        refine wpList_store1_own (v := .int .u64 z) (k := 23) rfl rfl HH.out (by kernel_rfl) (by simp) (by first | rfl | assumption) ?_
        intro w15_ H9_
        replace HH := Lib.hid H9_
        clear H9_
        simp only [List.setIfInBounds_toArray, List.set_cons_succ, List.set_cons_zero] at HH
        go_wp2_with fail
        first | go_end0 | ((try simp only [Exit.inBlock, Exit.then]); refine bodyPost_ret (results_none rfl _ _ _) rfl ?_)
        exact ⟨rfl, (Own.pm (HH.out) (by with_reducible repeat (first | exact .refl _ | exact .nil _ | refine .here ?_ | refine .at2 ?_ | refine .at3 ?_ | refine .at4 ?_ | refine .at5 ?_ | refine .at6 ?_ | refine .at7 ?_ | refine .at8 ?_ | refine .skip ?_)))⟩
      have b6 : (s.st == 6) = false := by simpa using h6
      have ez : min (max cp le) 72057594037927936 = z := by rw [← hz.out, if_neg (by omega), if_neg h6]
      replace h2 := Lib.hid h2
      replace h3 := Lib.hid h3
      replace h6 := Lib.hid h6
      replace ez := Lib.hid ez
      (try clear cc1_); (try clear cc2_); (try clear cc3_); (try clear cc4_); (try clear cc5_); (try clear cc6_); (try clear cc7_)
      have cc1_ := HH.out.cells
      go_wp2_with fail
      refine (refClamp_c _ cp le 72057594037927936).mono ?_
      rw [ez.out]
      rintro e w16_ ⟨rfl, hbel⟩
      replace HH := Lib.hid ((by first | exact .same hbel | exact .drew hbel | exact .below hbel : Kp _ w16_) _ _ (by first | exact HH.out | exact HH.out.drewN _ | exact (HH.out.alloc _).tail | exact ((HH.out.alloc _).drewN _).tail | exact ((HH.out.alloc _).alloc _).tail.tail))
      clear hbel
      go_wp2_with (with_reducible refine stop_st ?_)
      refine Stop.go ?_
      refine wpList_store1_own (v := .int .u64 z) (k := 23) rfl rfl HH.out (by kernel_rfl) (by simp) (by first | rfl | assumption) ?_
      intro w17_ H9_
      replace HH := Lib.hid H9_
      clear H9_
      simp only [List.setIfInBounds_toArray, List.set_cons_succ, List.set_cons_zero] at HH
      go_wp2_with fail
      first | go_end0 | ((try simp only [Exit.inBlock, Exit.then]); refine bodyPost_ret (results_none rfl _ _ _) rfl ?_)
      exact ⟨rfl, (Own.pm (HH.out) (by with_reducible repeat (first | exact .refl _ | exact .nil _ | refine .here ?_ | refine .at2 ?_ | refine .at3 ?_ | refine .at4 ?_ | refine .at5 ?_ | refine .at6 ?_ | refine .at7 ?_ | refine .at8 ?_ | refine .skip ?_)))⟩
end
end Go.Proofs.YtpfbbpiidhhkbaaGreat
