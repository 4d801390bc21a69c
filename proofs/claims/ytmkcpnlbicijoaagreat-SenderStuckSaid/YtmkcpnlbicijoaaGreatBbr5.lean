/- bbr: an engine's window: written by mkbbr2.py. -/
import Derived.Test.YtmkcpnlbicijoaaGreatSndD
namespace Go.Proofs.YtmkcpnlbicijoaaGreat
open Go.RowKit
section
variable (ε w : World) (R : List Asn) (b pb fb rb kb : Nat)
set_option maxRecDepth 100000 in
set_option maxHeartbeats 12800000 in
theorem engWindow_c (s : Eng) (hs : s.Ok) (ac : Int) (ha : U ac) (H : Own ε w (pts b (.cells #[.int .u64 s.c.mss, .int .u64 s.c.init, .int .u64 s.c.reorder, .int .u64 s.c.window, .int .u64 s.c.probe, .int .u64 s.c.loss, .pointer (some ⟨pb, 0, none⟩), .int .u64 s.bd.hi, .int .u64 s.bd.lo, .int .u64 s.bd.bw, .int .i64 s.st, .int .u64 s.since, .int .u64 s.rounds, .pointer (some ⟨fb, 0, none⟩), .pointer (some ⟨rb, 0, none⟩), .pointer (some ⟨kb, 0, none⟩), .int .u64 s.acked, .int .u64 s.lost, .int .u64 s.cwnd, .int .u64 s.kept, .int .u64 s.ended] 82 (0, 0)) :: pip pb s.p :: fil fb s.f :: cyc rb s.r :: ctr kb s.k :: R)) :
  Calls Tryz.prog 81 #[.pointer (some ⟨b, 0, none⟩), .int .u64 ac] w fun e w' => e = .returned (.int .u64 (s.window ac)) ∧ Own ε w' (pts b (.cells #[.int .u64 s.c.mss, .int .u64 s.c.init, .int .u64 s.c.reorder, .int .u64 s.c.window, .int .u64 s.c.probe, .int .u64 s.c.loss, .pointer (some ⟨pb, 0, none⟩), .int .u64 s.bd.hi, .int .u64 s.bd.lo, .int .u64 s.bd.bw, .int .i64 s.st, .int .u64 s.since, .int .u64 s.rounds, .pointer (some ⟨fb, 0, none⟩), .pointer (some ⟨rb, 0, none⟩), .pointer (some ⟨kb, 0, none⟩), .int .u64 s.acked, .int .u64 s.lost, .int .u64 s.cwnd, .int .u64 s.kept, .int .u64 s.ended] 82 (0, 0)) :: pip pb s.p :: fil fb s.f :: cyc rb s.r :: ctr kb s.k :: R) := by
 have HH := Lib.hid H; clear H
 unfold Eng.window Eng.narrow Eng.wide
 have husU := Lib.hid (Eng.U_uses hs)
 have htU := Lib.hid (U_gWindow (s := s.st) husU.out)
 have hrU := Lib.hid (Bnd.U_room hs.bd)
 have hqU := Lib.hid (Cnf.U_quantum hs.c (Eng.U_pace hs))
 have hnU := Lib.hid (U_sadd hs.cwnd ha)
 change Hid (U s.quantum) at hqU
 obtain ⟨us, hus⟩ : ∃ y, s.uses = y := ⟨_, rfl⟩
 rw [hus] at husU htU ⊢
 obtain ⟨tg, htg⟩ : ∃ y, gWindow s.st us = y := ⟨_, rfl⟩
 rw [htg] at htU ⊢
 obtain ⟨rm, hrm⟩ : ∃ y, s.bd.room = y := ⟨_, rfl⟩
 rw [hrm] at hrU ⊢
 obtain ⟨qn, hqn⟩ : ∃ y, s.quantum = y := ⟨_, rfl⟩
 rw [hqn] at hqU ⊢
 obtain ⟨n0, hn0⟩ : ∃ y, sadd s.cwnd ac = y := ⟨_, rfl⟩
 rw [hn0] at hnU ⊢
 obtain ⟨wd, hwd⟩ : ∃ y, min (max (s.bd.cap [if s.st = 2 ∨ s.st = 3 then min (if s.st = 0 ∧ s.p.n < 3 then n0 else min n0 (sadd tg qn)) rm else if s.st = 6 then min (if s.st = 0 ∧ s.p.n < 3 then n0 else min n0 (sadd tg qn)) tg else if s.st = 0 ∧ s.p.n < 3 then n0 else min n0 (sadd tg qn)]) s.c.least) 72057594037927936 = y := ⟨_, rfl⟩
 rw [hwd]
 replace hus := Lib.hid hus
 replace htg := Lib.hid htg
 replace hrm := Lib.hid hrm
 replace hqn := Lib.hid hqn
 replace hn0 := Lib.hid hn0
 replace hwd := Lib.hid hwd
 have hcw := Lib.hid hs.cwnd
 have hbd := Lib.hid hs.bd
 have hc := Lib.hid hs.c
 replace ha := Lib.hid ha
 replace hs := Lib.hid hs
 have ix := max_ite'
 have im := min_ite'
 go_enter Tryz.func81, Tryz.ntmps81
 (try clear cc1_)
 have cc1_ := HH.out.cells
 go_wp2_with fail
 go_wp2_with fail
 refine wp_region_reg none HH.out (by kernel_rfl) ?_
 intro wm H9_
 replace HH := Lib.hid H9_
 clear H9_
 refine reg_s 0 HH.out ?_
 refine reg_s 1 HH.out ?_
 refine reg_s 2 HH.out ?_
 refine mixk_s 3 HH.out (fun _ hx => hx.cells) ?_
 refine reg_s 4 HH.out ?_
 refine reg_s 7 HH.out ?_
 refine reg_s 8 HH.out ?_
 refine reg_s 9 HH.out ?_
 refine reg_s 10 HH.out ?_
 refine mixk_s 11 HH.out (fun _ hx => hx.cells) ?_
 refine reg_s 12 HH.out ?_
 refine reg_l none (i := 5) rfl (by kernel_rfl) (fun wn hk K hK => ?_)
 replace HH := Lib.hid (hk _ _ HH.out)
 clear hk
 go_simp
 replace HH := Lib.hid (HH.out.alloc (.cells #[.int .u64 s.cwnd, .int .u64 ac] 22))
 generalize wn.alloc (.cells #[.int .u64 s.cwnd, .int .u64 ac] 22) = wm at *
 generalize wn.heap.size = sb at *
 refine hK _ _ _ HH.out (.inr ⟨rfl, fun _ h => h.tail⟩) ?_
 clear hK K
 refine reg_l none (i := 6) rfl (by kernel_rfl) (fun wn hk K hK => ?_)
 replace HH := Lib.hid (hk _ _ HH.out)
 clear hk
 go_simp
 refine (fixAdd2_c wn sb s.cwnd ac hcw.out ha.out (HH.out.cells.1 0) (HH.out.cells.1 1)).mono ?_
 rw [hn0.out]
 rintro e wm ⟨rfl, hbel⟩
 replace HH := Lib.hid ((by first | exact .same hbel | exact .drew hbel | exact .below hbel : Kp wn wm) _ _ HH.out)
 clear hbel
 refine hK _ _ _ HH.out (.inr ⟨rfl, fun _ h => h⟩) ?_
 clear hK K
 refine reg_l none (i := 13) rfl (by kernel_rfl) (fun wn hk K hK => ?_)
 replace HH := Lib.hid (hk _ _ HH.out)
 clear hk
 go_simp
 refine (engUses_c ε wn _ b pb fb rb kb s hs.out HH.out.l6).mono ?_
 rw [hus.out]
 rintro e wm ⟨rfl, H9_⟩
 replace HH := Lib.hid H9_
 clear H9_
 refine hK _ _ _ HH.out (.inr ⟨rfl, fun _ h => h.pn⟩) ?_
 clear hK K
 refine reg_l none (i := 14) rfl (by kernel_rfl) (fun wn hk K hK => ?_)
 replace HH := Lib.hid (hk _ _ HH.out)
 clear hk
 go_simp
 refine (gainWindow_c wn s.st us husU.out).mono ?_
 rw [htg.out]
 rintro e wm ⟨rfl, hbel⟩
 replace HH := Lib.hid ((by first | exact .same hbel | exact .drew hbel | exact .below hbel : Kp wn wm) _ _ HH.out)
 clear hbel
 refine hK _ _ _ HH.out (.inr ⟨rfl, fun _ h => h⟩) ?_
 clear hK K
 refine reg_s 15 HH.out ?_
 refine reg_s 16 HH.out ?_
 refine mixk_done (by kernel_rfl) (fun w1_ hk => ?_) _
 replace HH := Lib.hid (hk _ _ HH.out)
 clear hk
 replace HH := Lib.hid (HH.out.pn : Own _ _ (pts b (.cells #[.int .u64 s.c.mss, .int .u64 s.c.init, .int .u64 s.c.reorder, .int .u64 s.c.window, .int .u64 s.c.probe, .int .u64 s.c.loss, .pointer (some ⟨pb, 0, none⟩), .int .u64 s.bd.hi, .int .u64 s.bd.lo, .int .u64 s.bd.bw, .int .i64 s.st, .int .u64 s.since, .int .u64 s.rounds, .pointer (some ⟨fb, 0, none⟩), .pointer (some ⟨rb, 0, none⟩), .pointer (some ⟨kb, 0, none⟩), .int .u64 s.acked, .int .u64 s.lost, .int .u64 s.cwnd, .int .u64 s.kept, .int .u64 s.ended] 82 (0, 0)) :: pip pb s.p :: fil fb s.f :: cyc rb s.r :: ctr kb s.k :: R))
 by_cases h0 : s.st = 0
 ·have b0 : (s.st == 0) = true := by simpa using h0
  have c0 : (s.st != 0) = false := by simpa using h0
  have b2 : (s.st == 2) = false := by simp [h0]
  have b3 : (s.st == 3) = false := by simp [h0]
  have b6 : (s.st == 6) = false := by simp [h0]
  replace h0 := Lib.hid h0
  by_cases hp : s.p.n < 3
  ·have hpf : decide (3 ≤ s.p.n) = false := by simp [hp]
   replace hp := Lib.hid hp
   replace hpf := Lib.hid hpf
   (try clear cc1_)
   have cc1_ := HH.out.cells
   go_wp2_with fail
   refine (pipFull_c ε _ _ pb s.p HH.out.r2).mono ?_
   rw [hpf.out]
   rintro e w2_ ⟨rfl, hbel⟩
   replace HH := Lib.hid ((by first | exact .same hbel | exact .drew hbel | exact .below hbel : Kp _ w2_) _ _ (by first | exact HH.out | exact HH.out.drewN _ | exact (HH.out.alloc _).tail | exact ((HH.out.alloc _).drewN _).tail | exact ((HH.out.alloc _).alloc _).tail.tail))
   clear hbel
   have hn2 := Lib.hid (hnU.out)
   (try clear cc1_)
   have cc1_ := HH.out.cells
   go_wp2_with fail
   go_wp2_with fail
   refine wp_region_reg none HH.out (by kernel_rfl) ?_
   intro wm H9_
   replace HH := Lib.hid H9_
   clear H9_
   refine reg_s 0 HH.out ?_
   refine reg_s 1 HH.out ?_
   refine reg_s 2 HH.out ?_
   refine mixk_s 3 HH.out (fun _ hx => hx.cells) ?_
   refine reg_s 4 HH.out ?_
   refine reg_s 7 HH.out ?_
   refine reg_s 8 HH.out ?_
   refine reg_s 9 HH.out ?_
   refine mixk_s 10 HH.out (fun _ hx => hx.cells) ?_
   refine reg_l none (i := 5) rfl (by kernel_rfl) (fun wn hk K hK => ?_)
   replace HH := Lib.hid (hk _ _ HH.out)
   clear hk
   go_simp
   replace HH := Lib.hid (HH.out.alloc (.cells #[.int .u64 (n0)] 22))
   generalize wn.alloc (.cells #[.int .u64 (n0)] 22) = wm at *
   generalize wn.heap.size = sb at *
   refine hK _ _ _ HH.out (.inr ⟨rfl, fun _ h => h.tail⟩) ?_
   clear hK K
   refine reg_l none (i := 6) rfl (by kernel_rfl) (fun wn hk K hK => ?_)
   replace HH := Lib.hid (hk _ _ HH.out)
   clear hk
   go_simp
   refine (boundCap_c wn s.bd hbd.out _ 1 1 [n0] (by decide) (rd1 hn2.out HH.out)).mono ?_
   rintro e wm ⟨rfl, hbel⟩
   replace HH := Lib.hid ((by first | exact .same hbel | exact .drew hbel | exact .below hbel : Kp wn wm) _ _ HH.out)
   clear hbel
   refine hK _ _ _ HH.out (.inr ⟨rfl, fun _ h => h⟩) ?_
   clear hK K
   refine reg_l none (i := 11) rfl (by kernel_rfl) (fun wn hk K hK => ?_)
   replace HH := Lib.hid (hk _ _ HH.out)
   clear hk
   go_simp
   refine (confLeast_c wn s.c hc.out).mono ?_
   rintro e wm ⟨rfl, hbel⟩
   replace HH := Lib.hid ((by first | exact .same hbel | exact .drew hbel | exact .below hbel : Kp wn wm) _ _ HH.out)
   clear hbel
   refine hK _ _ _ HH.out (.inr ⟨rfl, fun _ h => h⟩) ?_
   clear hK K
   refine reg_s 12 HH.out ?_
   refine reg_s 13 HH.out ?_
   refine reg_s 14 HH.out ?_
   refine mixk_done (by kernel_rfl) (fun w3_ hk => ?_) _
   replace HH := Lib.hid (hk _ _ HH.out)
   clear hk
   replace HH := Lib.hid (HH.out.pn : Own _ _ (pts b (.cells #[.int .u64 s.c.mss, .int .u64 s.c.init, .int .u64 s.c.reorder, .int .u64 s.c.window, .int .u64 s.c.probe, .int .u64 s.c.loss, .pointer (some ⟨pb, 0, none⟩), .int .u64 s.bd.hi, .int .u64 s.bd.lo, .int .u64 s.bd.bw, .int .i64 s.st, .int .u64 s.since, .int .u64 s.rounds, .pointer (some ⟨fb, 0, none⟩), .pointer (some ⟨rb, 0, none⟩), .pointer (some ⟨kb, 0, none⟩), .int .u64 s.acked, .int .u64 s.lost, .int .u64 s.cwnd, .int .u64 s.kept, .int .u64 s.ended] 82 (0, 0)) :: pip pb s.p :: fil fb s.f :: cyc rb s.r :: ctr kb s.k :: R))
   go_wp2_with fail
   go_ret
   obtain rfl : wd = min (max (s.bd.cap [n0]) s.c.least) 72057594037927936 := by rw [← hwd.out]; simp [hp.out, h0.out]
   exact ⟨rfl, HH.out⟩
  ·have hpf : decide (3 ≤ s.p.n) = true := by simpa using hp
   replace hp := Lib.hid hp
   replace hpf := Lib.hid hpf
   (try clear cc1_)
   have cc1_ := HH.out.cells
   go_wp2_with fail
   refine (pipFull_c ε _ _ pb s.p HH.out.r2).mono ?_
   rw [hpf.out]
   rintro e w4_ ⟨rfl, hbel⟩
   replace HH := Lib.hid ((by first | exact .same hbel | exact .drew hbel | exact .below hbel : Kp _ w4_) _ _ (by first | exact HH.out | exact HH.out.drewN _ | exact (HH.out.alloc _).tail | exact ((HH.out.alloc _).drewN _).tail | exact ((HH.out.alloc _).alloc _).tail.tail))
   clear hbel
   (try clear cc1_)
   have cc1_ := HH.out.cells
   go_wp2_with fail
   refine (engQuantum_c ε _ _ b pb fb rb kb s hs.out (Eng.U_pace hs.out) HH.out).mono ?_
   rw [hqn.out]
   rintro e w5_ ⟨rfl, H9_⟩
   replace HH := Lib.hid H9_
   clear H9_
   go_wp2_with (with_reducible refine stop_bs ?_)
   refine Stop.go ?_
   refine wpList_bsv_own HH.out [.int .u64 tg, .int .u64 qn] 1 8 [.int .u64 0] Tryz.underlying141 (by kernel_rfl) (by kernel_rfl) (by decide) (by decide) (by kernel_rfl) ?_
   intro gq w6_ H9_
   replace HH := Lib.hid H9_
   clear H9_
   go_wp2_with fail
   refine (fixAdd2_c _ gq tg qn htU.out hqU.out (HH.out.cells.1 0) (HH.out.cells.1 1)).mono ?_
   rintro e w7_ ⟨rfl, hbel⟩
   replace HH := Lib.hid ((by first | exact .same hbel | exact .drew hbel | exact .below hbel : Kp _ w7_) _ _ (by first | exact HH.out | exact HH.out.drewN _ | exact (HH.out.alloc _).tail | exact ((HH.out.alloc _).drewN _).tail | exact ((HH.out.alloc _).alloc _).tail.tail))
   clear hbel
   replace HH := Lib.hid (HH.out.pn : Own ε _ (pts b (.cells #[.int .u64 s.c.mss, .int .u64 s.c.init, .int .u64 s.c.reorder, .int .u64 s.c.window, .int .u64 s.c.probe, .int .u64 s.c.loss, .pointer (some ⟨pb, 0, none⟩), .int .u64 s.bd.hi, .int .u64 s.bd.lo, .int .u64 s.bd.bw, .int .i64 s.st, .int .u64 s.since, .int .u64 s.rounds, .pointer (some ⟨fb, 0, none⟩), .pointer (some ⟨rb, 0, none⟩), .pointer (some ⟨kb, 0, none⟩), .int .u64 s.acked, .int .u64 s.lost, .int .u64 s.cwnd, .int .u64 s.kept, .int .u64 s.ended] 82 (0, 0)) :: pip pb s.p :: fil fb s.f :: cyc rb s.r :: ctr kb s.k :: R))
   have hn2 := Lib.hid (U_min hnU.out (U_sadd htU.out hqU.out))
   (try clear cc1_)
   have cc1_ := HH.out.cells
   go_wp2_with fail
   go_wp2_with fail
   refine wp_region_reg none HH.out (by kernel_rfl) ?_
   intro wm H9_
   replace HH := Lib.hid H9_
   clear H9_
   refine reg_s 0 HH.out ?_
   refine reg_s 1 HH.out ?_
   refine reg_s 2 HH.out ?_
   refine mixk_s 3 HH.out (fun _ hx => hx.cells) ?_
   refine reg_s 4 HH.out ?_
   refine reg_s 7 HH.out ?_
   refine reg_s 8 HH.out ?_
   refine reg_s 9 HH.out ?_
   refine mixk_s 10 HH.out (fun _ hx => hx.cells) ?_
   refine reg_l none (i := 5) rfl (by kernel_rfl) (fun wn hk K hK => ?_)
   replace HH := Lib.hid (hk _ _ HH.out)
   clear hk
   go_simp
   replace HH := Lib.hid (HH.out.alloc (.cells #[.int .u64 (min n0 (sadd tg qn))] 22))
   generalize wn.alloc (.cells #[.int .u64 (min n0 (sadd tg qn))] 22) = wm at *
   generalize wn.heap.size = sb at *
   refine hK _ _ _ HH.out (.inr ⟨rfl, fun _ h => h.tail⟩) ?_
   clear hK K
   refine reg_l none (i := 6) rfl (by kernel_rfl) (fun wn hk K hK => ?_)
   replace HH := Lib.hid (hk _ _ HH.out)
   clear hk
   go_simp
   refine (boundCap_c wn s.bd hbd.out _ 1 1 [min n0 (sadd tg qn)] (by decide) (rd1 hn2.out HH.out)).mono ?_
   rintro e wm ⟨rfl, hbel⟩
   replace HH := Lib.hid ((by first | exact .same hbel | exact .drew hbel | exact .below hbel : Kp wn wm) _ _ HH.out)
   clear hbel
   refine hK _ _ _ HH.out (.inr ⟨rfl, fun _ h => h⟩) ?_
   clear hK K
   refine reg_l none (i := 11) rfl (by kernel_rfl) (fun wn hk K hK => ?_)
   replace HH := Lib.hid (hk _ _ HH.out)
   clear hk
   go_simp
   refine (confLeast_c wn s.c hc.out).mono ?_
   rintro e wm ⟨rfl, hbel⟩
   replace HH := Lib.hid ((by first | exact .same hbel | exact .drew hbel | exact .below hbel : Kp wn wm) _ _ HH.out)
   clear hbel
   refine hK _ _ _ HH.out (.inr ⟨rfl, fun _ h => h⟩) ?_
   clear hK K
   refine reg_s 12 HH.out ?_
   refine reg_s 13 HH.out ?_
   refine reg_s 14 HH.out ?_
   refine mixk_done (by kernel_rfl) (fun w8_ hk => ?_) _
   replace HH := Lib.hid (hk _ _ HH.out)
   clear hk
   replace HH := Lib.hid (HH.out.pn : Own _ _ (pts b (.cells #[.int .u64 s.c.mss, .int .u64 s.c.init, .int .u64 s.c.reorder, .int .u64 s.c.window, .int .u64 s.c.probe, .int .u64 s.c.loss, .pointer (some ⟨pb, 0, none⟩), .int .u64 s.bd.hi, .int .u64 s.bd.lo, .int .u64 s.bd.bw, .int .i64 s.st, .int .u64 s.since, .int .u64 s.rounds, .pointer (some ⟨fb, 0, none⟩), .pointer (some ⟨rb, 0, none⟩), .pointer (some ⟨kb, 0, none⟩), .int .u64 s.acked, .int .u64 s.lost, .int .u64 s.cwnd, .int .u64 s.kept, .int .u64 s.ended] 82 (0, 0)) :: pip pb s.p :: fil fb s.f :: cyc rb s.r :: ctr kb s.k :: R))
   go_wp2_with fail
   go_ret
   obtain rfl : wd = min (max (s.bd.cap [min n0 (sadd tg qn)]) s.c.least) 72057594037927936 := by rw [← hwd.out, show (if s.st = 0 ∧ s.p.n < 3 then n0 else min n0 (sadd tg qn)) = min n0 (sadd tg qn) from if_neg (fun h => absurd h.2 (by have := hp.out; omega))]; simp [h0.out]
   exact ⟨rfl, HH.out⟩
 ·have b0 : (s.st == 0) = false := by simpa using h0
  have c0 : (s.st != 0) = true := by simpa using h0
  replace h0 := Lib.hid h0
  (try clear cc1_)
  have cc1_ := HH.out.cells
  go_wp2_with fail
  refine (engQuantum_c ε _ _ b pb fb rb kb s hs.out (Eng.U_pace hs.out) HH.out).mono ?_
  rw [hqn.out]
  rintro e w9_ ⟨rfl, H9_⟩
  replace HH := Lib.hid H9_
  clear H9_
  go_wp2_with (with_reducible refine stop_bs ?_)
  refine Stop.go ?_
  refine wpList_bsv_own HH.out [.int .u64 tg, .int .u64 qn] 1 8 [.int .u64 0] Tryz.underlying141 (by kernel_rfl) (by kernel_rfl) (by decide) (by decide) (by kernel_rfl) ?_
  intro gq w10_ H9_
  replace HH := Lib.hid H9_
  clear H9_
  go_wp2_with fail
  refine (fixAdd2_c _ gq tg qn htU.out hqU.out (HH.out.cells.1 0) (HH.out.cells.1 1)).mono ?_
  rintro e w11_ ⟨rfl, hbel⟩
  replace HH := Lib.hid ((by first | exact .same hbel | exact .drew hbel | exact .below hbel : Kp _ w11_) _ _ (by first | exact HH.out | exact HH.out.drewN _ | exact (HH.out.alloc _).tail | exact ((HH.out.alloc _).drewN _).tail | exact ((HH.out.alloc _).alloc _).tail.tail))
  clear hbel
  replace HH := Lib.hid (HH.out.pn : Own ε _ (pts b (.cells #[.int .u64 s.c.mss, .int .u64 s.c.init, .int .u64 s.c.reorder, .int .u64 s.c.window, .int .u64 s.c.probe, .int .u64 s.c.loss, .pointer (some ⟨pb, 0, none⟩), .int .u64 s.bd.hi, .int .u64 s.bd.lo, .int .u64 s.bd.bw, .int .i64 s.st, .int .u64 s.since, .int .u64 s.rounds, .pointer (some ⟨fb, 0, none⟩), .pointer (some ⟨rb, 0, none⟩), .pointer (some ⟨kb, 0, none⟩), .int .u64 s.acked, .int .u64 s.lost, .int .u64 s.cwnd, .int .u64 s.kept, .int .u64 s.ended] 82 (0, 0)) :: pip pb s.p :: fil fb s.f :: cyc rb s.r :: ctr kb s.k :: R))
  by_cases h2 : s.st = 2
  ·have b2 : (s.st == 2) = true := by simpa using h2
   replace h2 := Lib.hid h2
   (try clear cc1_)
   have cc1_ := HH.out.cells
   (try clear cc1_)
   have cc1_ := HH.out.cells
   go_wp2_with fail
   refine (boundRoom_c _ s.bd hbd.out).mono ?_
   rw [hrm.out]
   rintro e w12_ ⟨rfl, hbel⟩
   replace HH := Lib.hid ((by first | exact .same hbel | exact .drew hbel | exact .below hbel : Kp _ w12_) _ _ (by first | exact HH.out | exact HH.out.drewN _ | exact (HH.out.alloc _).tail | exact ((HH.out.alloc _).drewN _).tail | exact ((HH.out.alloc _).alloc _).tail.tail))
   clear hbel
   have hn2 := Lib.hid (U_min hnU.out (U_min (U_sadd htU.out hqU.out) hrU.out))
   (try clear cc1_)
   have cc1_ := HH.out.cells
   go_wp2_with fail
   go_wp2_with fail
   refine wp_region_reg none HH.out (by kernel_rfl) ?_
   intro wm H9_
   replace HH := Lib.hid H9_
   clear H9_
   refine reg_s 0 HH.out ?_
   refine reg_s 1 HH.out ?_
   refine reg_s 2 HH.out ?_
   refine mixk_s 3 HH.out (fun _ hx => hx.cells) ?_
   refine reg_s 4 HH.out ?_
   refine reg_s 7 HH.out ?_
   refine reg_s 8 HH.out ?_
   refine reg_s 9 HH.out ?_
   refine mixk_s 10 HH.out (fun _ hx => hx.cells) ?_
   refine reg_l none (i := 5) rfl (by kernel_rfl) (fun wn hk K hK => ?_)
   replace HH := Lib.hid (hk _ _ HH.out)
   clear hk
   go_simp
   replace HH := Lib.hid (HH.out.alloc (.cells #[.int .u64 (min n0 (min (sadd tg qn) rm))] 22))
   generalize wn.alloc (.cells #[.int .u64 (min n0 (min (sadd tg qn) rm))] 22) = wm at *
   generalize wn.heap.size = sb at *
   refine hK _ _ _ HH.out (.inr ⟨rfl, fun _ h => h.tail⟩) ?_
   clear hK K
   refine reg_l none (i := 6) rfl (by kernel_rfl) (fun wn hk K hK => ?_)
   replace HH := Lib.hid (hk _ _ HH.out)
   clear hk
   go_simp
   refine (boundCap_c wn s.bd hbd.out _ 1 1 [min n0 (min (sadd tg qn) rm)] (by decide) (rd1 hn2.out HH.out)).mono ?_
   rintro e wm ⟨rfl, hbel⟩
   replace HH := Lib.hid ((by first | exact .same hbel | exact .drew hbel | exact .below hbel : Kp wn wm) _ _ HH.out)
   clear hbel
   refine hK _ _ _ HH.out (.inr ⟨rfl, fun _ h => h⟩) ?_
   clear hK K
   refine reg_l none (i := 11) rfl (by kernel_rfl) (fun wn hk K hK => ?_)
   replace HH := Lib.hid (hk _ _ HH.out)
   clear hk
   go_simp
   refine (confLeast_c wn s.c hc.out).mono ?_
   rintro e wm ⟨rfl, hbel⟩
   replace HH := Lib.hid ((by first | exact .same hbel | exact .drew hbel | exact .below hbel : Kp wn wm) _ _ HH.out)
   clear hbel
   refine hK _ _ _ HH.out (.inr ⟨rfl, fun _ h => h⟩) ?_
   clear hK K
   refine reg_s 12 HH.out ?_
   refine reg_s 13 HH.out ?_
   refine reg_s 14 HH.out ?_
   refine mixk_done (by kernel_rfl) (fun w13_ hk => ?_) _
   replace HH := Lib.hid (hk _ _ HH.out)
   clear hk
   replace HH := Lib.hid (HH.out.pn : Own _ _ (pts b (.cells #[.int .u64 s.c.mss, .int .u64 s.c.init, .int .u64 s.c.reorder, .int .u64 s.c.window, .int .u64 s.c.probe, .int .u64 s.c.loss, .pointer (some ⟨pb, 0, none⟩), .int .u64 s.bd.hi, .int .u64 s.bd.lo, .int .u64 s.bd.bw, .int .i64 s.st, .int .u64 s.since, .int .u64 s.rounds, .pointer (some ⟨fb, 0, none⟩), .pointer (some ⟨rb, 0, none⟩), .pointer (some ⟨kb, 0, none⟩), .int .u64 s.acked, .int .u64 s.lost, .int .u64 s.cwnd, .int .u64 s.kept, .int .u64 s.ended] 82 (0, 0)) :: pip pb s.p :: fil fb s.f :: cyc rb s.r :: ctr kb s.k :: R))
   go_wp2_with fail
   go_ret
   obtain rfl : wd = min (max (s.bd.cap [min n0 (min (sadd tg qn) rm)]) s.c.least) 72057594037927936 := by rw [← hwd.out]; simp [h2.out]
   exact ⟨rfl, HH.out⟩
  ·have b2 : (s.st == 2) = false := by simpa using h2
   replace h2 := Lib.hid h2
   (try clear cc1_)
   have cc1_ := HH.out.cells
   by_cases h3 : s.st = 3
   ·have b3 : (s.st == 3) = true := by simpa using h3
    replace h3 := Lib.hid h3
    (try clear cc1_)
    have cc1_ := HH.out.cells
    (try clear cc1_)
    have cc1_ := HH.out.cells
    go_wp2_with fail
    refine (boundRoom_c _ s.bd hbd.out).mono ?_
    rw [hrm.out]
    rintro e w14_ ⟨rfl, hbel⟩
    replace HH := Lib.hid ((by first | exact .same hbel | exact .drew hbel | exact .below hbel : Kp _ w14_) _ _ (by first | exact HH.out | exact HH.out.drewN _ | exact (HH.out.alloc _).tail | exact ((HH.out.alloc _).drewN _).tail | exact ((HH.out.alloc _).alloc _).tail.tail))
    clear hbel
    have hn2 := Lib.hid (U_min hnU.out (U_min (U_sadd htU.out hqU.out) hrU.out))
    (try clear cc1_)
    have cc1_ := HH.out.cells
    go_wp2_with fail
    go_wp2_with fail
    refine wp_region_reg none HH.out (by kernel_rfl) ?_
    intro wm H9_
    replace HH := Lib.hid H9_
    clear H9_
    refine reg_s 0 HH.out ?_
    refine reg_s 1 HH.out ?_
    refine reg_s 2 HH.out ?_
    refine mixk_s 3 HH.out (fun _ hx => hx.cells) ?_
    refine reg_s 4 HH.out ?_
    refine reg_s 7 HH.out ?_
    refine reg_s 8 HH.out ?_
    refine reg_s 9 HH.out ?_
    refine mixk_s 10 HH.out (fun _ hx => hx.cells) ?_
    refine reg_l none (i := 5) rfl (by kernel_rfl) (fun wn hk K hK => ?_)
    replace HH := Lib.hid (hk _ _ HH.out)
    clear hk
    go_simp
    replace HH := Lib.hid (HH.out.alloc (.cells #[.int .u64 (min n0 (min (sadd tg qn) rm))] 22))
    generalize wn.alloc (.cells #[.int .u64 (min n0 (min (sadd tg qn) rm))] 22) = wm at *
    generalize wn.heap.size = sb at *
    refine hK _ _ _ HH.out (.inr ⟨rfl, fun _ h => h.tail⟩) ?_
    clear hK K
    refine reg_l none (i := 6) rfl (by kernel_rfl) (fun wn hk K hK => ?_)
    replace HH := Lib.hid (hk _ _ HH.out)
    clear hk
    go_simp
    refine (boundCap_c wn s.bd hbd.out _ 1 1 [min n0 (min (sadd tg qn) rm)] (by decide) (rd1 hn2.out HH.out)).mono ?_
    rintro e wm ⟨rfl, hbel⟩
    replace HH := Lib.hid ((by first | exact .same hbel | exact .drew hbel | exact .below hbel : Kp wn wm) _ _ HH.out)
    clear hbel
    refine hK _ _ _ HH.out (.inr ⟨rfl, fun _ h => h⟩) ?_
    clear hK K
    refine reg_l none (i := 11) rfl (by kernel_rfl) (fun wn hk K hK => ?_)
    replace HH := Lib.hid (hk _ _ HH.out)
    clear hk
    go_simp
    refine (confLeast_c wn s.c hc.out).mono ?_
    rintro e wm ⟨rfl, hbel⟩
    replace HH := Lib.hid ((by first | exact .same hbel | exact .drew hbel | exact .below hbel : Kp wn wm) _ _ HH.out)
    clear hbel
    refine hK _ _ _ HH.out (.inr ⟨rfl, fun _ h => h⟩) ?_
    clear hK K
    refine reg_s 12 HH.out ?_
    refine reg_s 13 HH.out ?_
    refine reg_s 14 HH.out ?_
    refine mixk_done (by kernel_rfl) (fun w15_ hk => ?_) _
    replace HH := Lib.hid (hk _ _ HH.out)
    clear hk
    replace HH := Lib.hid (HH.out.pn : Own _ _ (pts b (.cells #[.int .u64 s.c.mss, .int .u64 s.c.init, .int .u64 s.c.reorder, .int .u64 s.c.window, .int .u64 s.c.probe, .int .u64 s.c.loss, .pointer (some ⟨pb, 0, none⟩), .int .u64 s.bd.hi, .int .u64 s.bd.lo, .int .u64 s.bd.bw, .int .i64 s.st, .int .u64 s.since, .int .u64 s.rounds, .pointer (some ⟨fb, 0, none⟩), .pointer (some ⟨rb, 0, none⟩), .pointer (some ⟨kb, 0, none⟩), .int .u64 s.acked, .int .u64 s.lost, .int .u64 s.cwnd, .int .u64 s.kept, .int .u64 s.ended] 82 (0, 0)) :: pip pb s.p :: fil fb s.f :: cyc rb s.r :: ctr kb s.k :: R))
    go_wp2_with fail
    go_ret
    obtain rfl : wd = min (max (s.bd.cap [min n0 (min (sadd tg qn) rm)]) s.c.least) 72057594037927936 := by rw [← hwd.out]; simp [h3.out]
    exact ⟨rfl, HH.out⟩
   ·have b3 : (s.st == 3) = false := by simpa using h3
    replace h3 := Lib.hid h3
    (try clear cc1_)
    have cc1_ := HH.out.cells
    by_cases h6 : s.st = 6
    ·have b6 : (s.st == 6) = true := by simpa using h6
     replace h6 := Lib.hid h6
     (try clear cc1_)
     have cc1_ := HH.out.cells
     have hn2 := Lib.hid (U_min hnU.out (U_min (U_sadd htU.out hqU.out) htU.out))
     (try clear cc1_)
     have cc1_ := HH.out.cells
     go_wp2_with fail
     go_wp2_with fail
     refine wp_region_reg none HH.out (by kernel_rfl) ?_
     intro wm H9_
     replace HH := Lib.hid H9_
     clear H9_
     refine reg_s 0 HH.out ?_
     refine reg_s 1 HH.out ?_
     refine reg_s 2 HH.out ?_
     refine mixk_s 3 HH.out (fun _ hx => hx.cells) ?_
     refine reg_s 4 HH.out ?_
     refine reg_s 7 HH.out ?_
     refine reg_s 8 HH.out ?_
     refine reg_s 9 HH.out ?_
     refine mixk_s 10 HH.out (fun _ hx => hx.cells) ?_
     refine reg_l none (i := 5) rfl (by kernel_rfl) (fun wn hk K hK => ?_)
     replace HH := Lib.hid (hk _ _ HH.out)
     clear hk
     go_simp
     replace HH := Lib.hid (HH.out.alloc (.cells #[.int .u64 (min n0 (min (sadd tg qn) tg))] 22))
     generalize wn.alloc (.cells #[.int .u64 (min n0 (min (sadd tg qn) tg))] 22) = wm at *
     generalize wn.heap.size = sb at *
     refine hK _ _ _ HH.out (.inr ⟨rfl, fun _ h => h.tail⟩) ?_
     clear hK K
     refine reg_l none (i := 6) rfl (by kernel_rfl) (fun wn hk K hK => ?_)
     replace HH := Lib.hid (hk _ _ HH.out)
     clear hk
     go_simp
     refine (boundCap_c wn s.bd hbd.out _ 1 1 [min n0 (min (sadd tg qn) tg)] (by decide) (rd1 hn2.out HH.out)).mono ?_
     rintro e wm ⟨rfl, hbel⟩
     replace HH := Lib.hid ((by first | exact .same hbel | exact .drew hbel | exact .below hbel : Kp wn wm) _ _ HH.out)
     clear hbel
     refine hK _ _ _ HH.out (.inr ⟨rfl, fun _ h => h⟩) ?_
     clear hK K
     refine reg_l none (i := 11) rfl (by kernel_rfl) (fun wn hk K hK => ?_)
     replace HH := Lib.hid (hk _ _ HH.out)
     clear hk
     go_simp
     refine (confLeast_c wn s.c hc.out).mono ?_
     rintro e wm ⟨rfl, hbel⟩
     replace HH := Lib.hid ((by first | exact .same hbel | exact .drew hbel | exact .below hbel : Kp wn wm) _ _ HH.out)
     clear hbel
     refine hK _ _ _ HH.out (.inr ⟨rfl, fun _ h => h⟩) ?_
     clear hK K
     refine reg_s 12 HH.out ?_
     refine reg_s 13 HH.out ?_
     refine reg_s 14 HH.out ?_
     refine mixk_done (by kernel_rfl) (fun w16_ hk => ?_) _
     replace HH := Lib.hid (hk _ _ HH.out)
     clear hk
     replace HH := Lib.hid (HH.out.pn : Own _ _ (pts b (.cells #[.int .u64 s.c.mss, .int .u64 s.c.init, .int .u64 s.c.reorder, .int .u64 s.c.window, .int .u64 s.c.probe, .int .u64 s.c.loss, .pointer (some ⟨pb, 0, none⟩), .int .u64 s.bd.hi, .int .u64 s.bd.lo, .int .u64 s.bd.bw, .int .i64 s.st, .int .u64 s.since, .int .u64 s.rounds, .pointer (some ⟨fb, 0, none⟩), .pointer (some ⟨rb, 0, none⟩), .pointer (some ⟨kb, 0, none⟩), .int .u64 s.acked, .int .u64 s.lost, .int .u64 s.cwnd, .int .u64 s.kept, .int .u64 s.ended] 82 (0, 0)) :: pip pb s.p :: fil fb s.f :: cyc rb s.r :: ctr kb s.k :: R))
     go_wp2_with fail
     go_ret
     obtain rfl : wd = min (max (s.bd.cap [min n0 (min (sadd tg qn) tg)]) s.c.least) 72057594037927936 := by rw [← hwd.out]; simp [h6.out]
     exact ⟨rfl, HH.out⟩
    ·have b6 : (s.st == 6) = false := by simpa using h6
     replace h6 := Lib.hid h6
     (try clear cc1_)
     have cc1_ := HH.out.cells
     have hn2 := Lib.hid (U_min hnU.out (U_sadd htU.out hqU.out))
     (try clear cc1_)
     have cc1_ := HH.out.cells
     go_wp2_with fail
     go_wp2_with fail
     refine wp_region_reg none HH.out (by kernel_rfl) ?_
     intro wm H9_
     replace HH := Lib.hid H9_
     clear H9_
     refine reg_s 0 HH.out ?_
     refine reg_s 1 HH.out ?_
     refine reg_s 2 HH.out ?_
     refine mixk_s 3 HH.out (fun _ hx => hx.cells) ?_
     refine reg_s 4 HH.out ?_
     refine reg_s 7 HH.out ?_
     refine reg_s 8 HH.out ?_
     refine reg_s 9 HH.out ?_
     refine mixk_s 10 HH.out (fun _ hx => hx.cells) ?_
     refine reg_l none (i := 5) rfl (by kernel_rfl) (fun wn hk K hK => ?_)
     replace HH := Lib.hid (hk _ _ HH.out)
     clear hk
     go_simp
     replace HH := Lib.hid (HH.out.alloc (.cells #[.int .u64 (min n0 (sadd tg qn))] 22))
     generalize wn.alloc (.cells #[.int .u64 (min n0 (sadd tg qn))] 22) = wm at *
     generalize wn.heap.size = sb at *
     refine hK _ _ _ HH.out (.inr ⟨rfl, fun _ h => h.tail⟩) ?_
     clear hK K
     refine reg_l none (i := 6) rfl (by kernel_rfl) (fun wn hk K hK => ?_)
     replace HH := Lib.hid (hk _ _ HH.out)
     clear hk
     go_simp
     refine (boundCap_c wn s.bd hbd.out _ 1 1 [min n0 (sadd tg qn)] (by decide) (rd1 hn2.out HH.out)).mono ?_
     rintro e wm ⟨rfl, hbel⟩
     replace HH := Lib.hid ((by first | exact .same hbel | exact .drew hbel | exact .below hbel : Kp wn wm) _ _ HH.out)
     clear hbel
     refine hK _ _ _ HH.out (.inr ⟨rfl, fun _ h => h⟩) ?_
     clear hK K
     refine reg_l none (i := 11) rfl (by kernel_rfl) (fun wn hk K hK => ?_)
     replace HH := Lib.hid (hk _ _ HH.out)
     clear hk
     go_simp
     refine (confLeast_c wn s.c hc.out).mono ?_
     rintro e wm ⟨rfl, hbel⟩
     replace HH := Lib.hid ((by first | exact .same hbel | exact .drew hbel | exact .below hbel : Kp wn wm) _ _ HH.out)
     clear hbel
     refine hK _ _ _ HH.out (.inr ⟨rfl, fun _ h => h⟩) ?_
     clear hK K
     refine reg_s 12 HH.out ?_
     refine reg_s 13 HH.out ?_
     refine reg_s 14 HH.out ?_
     refine mixk_done (by kernel_rfl) (fun w17_ hk => ?_) _
     replace HH := Lib.hid (hk _ _ HH.out)
     clear hk
     replace HH := Lib.hid (HH.out.pn : Own _ _ (pts b (.cells #[.int .u64 s.c.mss, .int .u64 s.c.init, .int .u64 s.c.reorder, .int .u64 s.c.window, .int .u64 s.c.probe, .int .u64 s.c.loss, .pointer (some ⟨pb, 0, none⟩), .int .u64 s.bd.hi, .int .u64 s.bd.lo, .int .u64 s.bd.bw, .int .i64 s.st, .int .u64 s.since, .int .u64 s.rounds, .pointer (some ⟨fb, 0, none⟩), .pointer (some ⟨rb, 0, none⟩), .pointer (some ⟨kb, 0, none⟩), .int .u64 s.acked, .int .u64 s.lost, .int .u64 s.cwnd, .int .u64 s.kept, .int .u64 s.ended] 82 (0, 0)) :: pip pb s.p :: fil fb s.f :: cyc rb s.r :: ctr kb s.k :: R))
     go_wp2_with fail
     go_ret
     obtain rfl : wd = min (max (s.bd.cap [min n0 (sadd tg qn)]) s.c.least) 72057594037927936 := by rw [← hwd.out]; simp [h0.out, h2.out, h3.out, h6.out]
     exact ⟨rfl, HH.out⟩
end
end Go.Proofs.YtmkcpnlbicijoaaGreat
