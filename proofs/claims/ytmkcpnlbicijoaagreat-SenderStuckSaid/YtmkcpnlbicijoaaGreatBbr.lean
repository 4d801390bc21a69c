/- bbr: what an engine tells: written by mkbbr.py. -/
import Derived.Test.YtmkcpnlbicijoaaGreatConf3
import Derived.Test.YtmkcpnlbicijoaaGreatBound
import Derived.Test.YtmkcpnlbicijoaaGreatGain
import Derived.Test.YtmkcpnlbicijoaaGreatFilt3
namespace Go.Proofs.YtmkcpnlbicijoaaGreat
open Go.RowKit
structure Eng where
 c : Cnf
 p : Pip
 bd : Bnd
 st : Int
 since : Int
 rounds : Int
 f : Fil
 r : Cyc
 k : Ctr
 acked : Int
 lost : Int
 cwnd : Int
 kept : Int
 ended : Int
def Eng.least (s : Eng) : Int := if s.f.best.2 = true then s.f.best.1.2 else 1000
def Eng.best (s : Eng) : Int := if 0 < s.r.best then s.r.best else sshare s.c.first 1000000 s.least
def Eng.pace (s : Eng) : Int := min (max (gPace s.st (s.bd.limit s.best)) s.c.least) 1099511627776
def Eng.quantum (s : Eng) : Int := s.c.quantum s.pace
def Eng.holds (s : Eng) : Int := flightI s.best s.least
def Eng.uses (s : Eng) : Int := flightI (s.bd.limit s.best) s.least
structure Eng.Ok (s : Eng) : Prop where
 c : s.c.Ok
 p : s.p.Ok
 bd : s.bd.Ok
 st0 : 0 ≤ s.st
 st6 : s.st ≤ 6
 since : U s.since
 rounds : U s.rounds
 f : s.f.Ok
 r : s.r.Ok
 rn : U s.r.n
 k1 : U s.k.mark
 k2 : U s.k.n
 acked : U s.acked
 lost : U s.lost
 cwnd : U s.cwnd
 kept : U s.kept
 ended : U s.ended
theorem Eng.U_least {s : Eng} (h : s.f.Ok) : U s.least := by
 unfold Eng.least
 split
 ·unfold Fil.best
  cases hl : s.f.l with
  | nil => exact U_zero
  | cons r l => exact (h.2.2 r (by rw [hl]; exact List.mem_cons_self ..)).2
 ·decide
theorem Eng.U_rbest {s : Eng} (h : s.r.Ok) : U s.r.best := by obtain ⟨h1, h2⟩ := h; unfold Cyc.best U at *; omega
theorem Cnf.U_first {c : Cnf} (h : c.Ok) : U c.first := U_smul h.init h.mss
theorem Cnf.U_least {c : Cnf} (h : c.Ok) : U c.least := U_smul (by decide) h.mss
theorem Eng.U_best {s : Eng} (h : s.Ok) : U s.best := by
 unfold Eng.best
 split
 ·exact Eng.U_rbest h.r
 ·exact U_sshare (Cnf.U_first h.c) (by decide)
theorem Eng.U_limit {s : Eng} (h : s.Ok) : U (s.bd.limit s.best) := U_min (Eng.U_best h) h.bd.2.2
section
variable (ε w : World) (R : List Asn) (b pb fb rb kb : Nat)
set_option maxHeartbeats 1600000 in
theorem engLeast_c (s : Eng) (H : Own ε w (pts b (.cells #[.int .u64 s.c.mss, .int .u64 s.c.init, .int .u64 s.c.reorder, .int .u64 s.c.window, .int .u64 s.c.probe, .int .u64 s.c.loss, .pointer (some ⟨pb, 0, none⟩), .int .u64 s.bd.hi, .int .u64 s.bd.lo, .int .u64 s.bd.bw, .int .i64 s.st, .int .u64 s.since, .int .u64 s.rounds, .pointer (some ⟨fb, 0, none⟩), .pointer (some ⟨rb, 0, none⟩), .pointer (some ⟨kb, 0, none⟩), .int .u64 s.acked, .int .u64 s.lost, .int .u64 s.cwnd, .int .u64 s.kept, .int .u64 s.ended] 82 (0, 0)) :: pip pb s.p :: fil fb s.f :: cyc rb s.r :: ctr kb s.k :: R)) :
  Calls Tryz.prog 24 #[.pointer (some ⟨b, 0, none⟩)] w fun e w' => e = .returned (.int .u64 s.least) ∧ Own ε w' (pts b (.cells #[.int .u64 s.c.mss, .int .u64 s.c.init, .int .u64 s.c.reorder, .int .u64 s.c.window, .int .u64 s.c.probe, .int .u64 s.c.loss, .pointer (some ⟨pb, 0, none⟩), .int .u64 s.bd.hi, .int .u64 s.bd.lo, .int .u64 s.bd.bw, .int .i64 s.st, .int .u64 s.since, .int .u64 s.rounds, .pointer (some ⟨fb, 0, none⟩), .pointer (some ⟨rb, 0, none⟩), .pointer (some ⟨kb, 0, none⟩), .int .u64 s.acked, .int .u64 s.lost, .int .u64 s.cwnd, .int .u64 s.kept, .int .u64 s.ended] 82 (0, 0)) :: pip pb s.p :: fil fb s.f :: cyc rb s.r :: ctr kb s.k :: R) := by
 have HH := Lib.hid H; clear H
 unfold Eng.least
 obtain ⟨⟨⟨q1, q2⟩, so⟩, hq⟩ : ∃ r, s.f.best = r := ⟨_, rfl⟩
 rw [hq]
 replace hq := Lib.hid hq
 cases so
 case' false => rw [if_neg (by simp)]
 case' true => rw [if_pos rfl]
 all_goals
  go_enter Tryz.func24, Tryz.ntmps24
  (try clear cc1_)
  have cc1_ := HH.out.cells
  go_wp2_with fail
  refine (filBest_c ε _ _ fb s.f HH.out.r3).mono ?_
  rw [hq.out]
  rintro e w1_ ⟨rfl, H9_⟩
  replace HH := Lib.hid H9_
  clear H9_
  go_wp2_with fail
  go_ret
  exact ⟨rfl, HH.out.pn⟩
set_option maxHeartbeats 1600000 in
theorem engBest_c (s : Eng) (hs : s.Ok) (H : Own ε w (pts b (.cells #[.int .u64 s.c.mss, .int .u64 s.c.init, .int .u64 s.c.reorder, .int .u64 s.c.window, .int .u64 s.c.probe, .int .u64 s.c.loss, .pointer (some ⟨pb, 0, none⟩), .int .u64 s.bd.hi, .int .u64 s.bd.lo, .int .u64 s.bd.bw, .int .i64 s.st, .int .u64 s.since, .int .u64 s.rounds, .pointer (some ⟨fb, 0, none⟩), .pointer (some ⟨rb, 0, none⟩), .pointer (some ⟨kb, 0, none⟩), .int .u64 s.acked, .int .u64 s.lost, .int .u64 s.cwnd, .int .u64 s.kept, .int .u64 s.ended] 82 (0, 0)) :: pip pb s.p :: fil fb s.f :: cyc rb s.r :: ctr kb s.k :: R)) :
  Calls Tryz.prog 65 #[.pointer (some ⟨b, 0, none⟩)] w fun e w' => e = .returned (.int .u64 s.best) ∧ Own ε w' (pts b (.cells #[.int .u64 s.c.mss, .int .u64 s.c.init, .int .u64 s.c.reorder, .int .u64 s.c.window, .int .u64 s.c.probe, .int .u64 s.c.loss, .pointer (some ⟨pb, 0, none⟩), .int .u64 s.bd.hi, .int .u64 s.bd.lo, .int .u64 s.bd.bw, .int .i64 s.st, .int .u64 s.since, .int .u64 s.rounds, .pointer (some ⟨fb, 0, none⟩), .pointer (some ⟨rb, 0, none⟩), .pointer (some ⟨kb, 0, none⟩), .int .u64 s.acked, .int .u64 s.lost, .int .u64 s.cwnd, .int .u64 s.kept, .int .u64 s.ended] 82 (0, 0)) :: pip pb s.p :: fil fb s.f :: cyc rb s.r :: ctr kb s.k :: R) := by
 have HH := Lib.hid H; clear H
 have hr := Lib.hid hs.r
 have hf := Lib.hid (Cnf.U_first hs.c)
 have hl := Lib.hid (Eng.U_least hs.f)
 have hc := Lib.hid hs.c
 unfold Eng.best
 obtain ⟨rbest, hrb⟩ : ∃ x, s.r.best = x := ⟨_, rfl⟩
 rw [hrb]
 replace hrb := Lib.hid hrb
 clear hs
 by_cases h0 : 0 < rbest
 ·rw [if_pos h0]
  go_enter Tryz.func65, Tryz.ntmps65
  (try clear cc1_)
  have cc1_ := HH.out.cells
  go_wp2_with fail
  refine (cycBest_c ε _ _ rb s.r hr.out HH.out.r4).mono ?_
  rw [hrb.out]
  rintro e w2_ ⟨rfl, nd, hnd⟩
  replace HH := Lib.hid (HH.out.drewN nd)
  rw [← hnd] at HH
  clear hnd
  go_wp2_with fail
  go_ret
  exact ⟨rfl, HH.out⟩
 ·rw [if_neg h0]
  go_enter Tryz.func65, Tryz.ntmps65
  (try clear cc1_)
  have cc1_ := HH.out.cells
  go_wp2_with fail
  refine (cycBest_c ε _ _ rb s.r hr.out HH.out.r4).mono ?_
  rw [hrb.out]
  rintro e w3_ ⟨rfl, nd, hnd⟩
  replace HH := Lib.hid (HH.out.drewN nd)
  rw [← hnd] at HH
  clear hnd
  (try clear cc1_)
  have cc1_ := HH.out.cells
  go_wp2_with fail
  refine (confFirst_c _ s.c hc.out).mono ?_
  rintro e w4_ ⟨rfl, hbel⟩
  replace HH := Lib.hid ((by first | exact .same hbel | exact .drew hbel | exact .below hbel : Kp _ w4_) _ _ (by first | exact HH.out | exact HH.out.drewN _ | exact (HH.out.alloc _).tail | exact ((HH.out.alloc _).drewN _).tail | exact ((HH.out.alloc _).alloc _).tail.tail))
  clear hbel
  (try clear cc1_)
  go_wp2_with fail
  refine (engLeast_c ε _ _ b pb fb rb kb s HH.out).mono ?_
  rintro e w5_ ⟨rfl, H9_⟩
  replace HH := Lib.hid H9_
  clear H9_
  go_wp2_with fail
  refine (fixShare_c _ s.c.first 1000000 s.least hf.out (by decide) hl.out).mono ?_
  rintro e w6_ ⟨rfl, nd, hnd⟩
  replace HH := Lib.hid (HH.out.drewN nd)
  rw [← hnd] at HH
  clear hnd
  go_wp2_with fail
  go_ret
  exact ⟨rfl, HH.out⟩
set_option maxHeartbeats 1600000 in
theorem engHolds_c (s : Eng) (hs : s.Ok) (H : Own ε w (pts b (.cells #[.int .u64 s.c.mss, .int .u64 s.c.init, .int .u64 s.c.reorder, .int .u64 s.c.window, .int .u64 s.c.probe, .int .u64 s.c.loss, .pointer (some ⟨pb, 0, none⟩), .int .u64 s.bd.hi, .int .u64 s.bd.lo, .int .u64 s.bd.bw, .int .i64 s.st, .int .u64 s.since, .int .u64 s.rounds, .pointer (some ⟨fb, 0, none⟩), .pointer (some ⟨rb, 0, none⟩), .pointer (some ⟨kb, 0, none⟩), .int .u64 s.acked, .int .u64 s.lost, .int .u64 s.cwnd, .int .u64 s.kept, .int .u64 s.ended] 82 (0, 0)) :: pip pb s.p :: fil fb s.f :: cyc rb s.r :: ctr kb s.k :: R)) :
  Calls Tryz.prog 77 #[.pointer (some ⟨b, 0, none⟩)] w fun e w' => e = .returned (.int .u64 s.holds) ∧ Own ε w' (pts b (.cells #[.int .u64 s.c.mss, .int .u64 s.c.init, .int .u64 s.c.reorder, .int .u64 s.c.window, .int .u64 s.c.probe, .int .u64 s.c.loss, .pointer (some ⟨pb, 0, none⟩), .int .u64 s.bd.hi, .int .u64 s.bd.lo, .int .u64 s.bd.bw, .int .i64 s.st, .int .u64 s.since, .int .u64 s.rounds, .pointer (some ⟨fb, 0, none⟩), .pointer (some ⟨rb, 0, none⟩), .pointer (some ⟨kb, 0, none⟩), .int .u64 s.acked, .int .u64 s.lost, .int .u64 s.cwnd, .int .u64 s.kept, .int .u64 s.ended] 82 (0, 0)) :: pip pb s.p :: fil fb s.f :: cyc rb s.r :: ctr kb s.k :: R) := by
 have HH := Lib.hid H; clear H
 have h1 := Lib.hid (Eng.U_best hs)
 have h2 := Lib.hid (Eng.U_least hs.f)
 replace hs := Lib.hid hs
 unfold Eng.holds
 go_enter Tryz.func77, Tryz.ntmps77
 go_wp2_with fail
 refine (engBest_c ε _ _ b pb fb rb kb s hs.out HH.out).mono ?_
 rintro e w7_ ⟨rfl, H9_⟩
 replace HH := Lib.hid H9_
 clear H9_
 go_wp2_with fail
 refine (engLeast_c ε _ _ b pb fb rb kb s HH.out).mono ?_
 rintro e w8_ ⟨rfl, H9_⟩
 replace HH := Lib.hid H9_
 clear H9_
 go_wp2_with fail
 refine (confFlight_c _ s.best s.least h1.out h2.out).mono ?_
 rintro e w9_ ⟨rfl, hbel⟩
 replace HH := Lib.hid ((by first | exact .same hbel | exact .drew hbel | exact .below hbel : Kp _ w9_) _ _ (by first | exact HH.out | exact HH.out.drewN _ | exact (HH.out.alloc _).tail | exact ((HH.out.alloc _).drewN _).tail | exact ((HH.out.alloc _).alloc _).tail.tail))
 clear hbel
 go_wp2_with fail
 go_ret
 exact ⟨rfl, HH.out⟩
set_option maxHeartbeats 3200000 in
theorem engUses_c (s : Eng) (hs : s.Ok) (H : Own ε w (pts b (.cells #[.int .u64 s.c.mss, .int .u64 s.c.init, .int .u64 s.c.reorder, .int .u64 s.c.window, .int .u64 s.c.probe, .int .u64 s.c.loss, .pointer (some ⟨pb, 0, none⟩), .int .u64 s.bd.hi, .int .u64 s.bd.lo, .int .u64 s.bd.bw, .int .i64 s.st, .int .u64 s.since, .int .u64 s.rounds, .pointer (some ⟨fb, 0, none⟩), .pointer (some ⟨rb, 0, none⟩), .pointer (some ⟨kb, 0, none⟩), .int .u64 s.acked, .int .u64 s.lost, .int .u64 s.cwnd, .int .u64 s.kept, .int .u64 s.ended] 82 (0, 0)) :: pip pb s.p :: fil fb s.f :: cyc rb s.r :: ctr kb s.k :: R)) :
  Calls Tryz.prog 123 #[.pointer (some ⟨b, 0, none⟩)] w fun e w' => e = .returned (.int .u64 s.uses) ∧ Own ε w' (pts b (.cells #[.int .u64 s.c.mss, .int .u64 s.c.init, .int .u64 s.c.reorder, .int .u64 s.c.window, .int .u64 s.c.probe, .int .u64 s.c.loss, .pointer (some ⟨pb, 0, none⟩), .int .u64 s.bd.hi, .int .u64 s.bd.lo, .int .u64 s.bd.bw, .int .i64 s.st, .int .u64 s.since, .int .u64 s.rounds, .pointer (some ⟨fb, 0, none⟩), .pointer (some ⟨rb, 0, none⟩), .pointer (some ⟨kb, 0, none⟩), .int .u64 s.acked, .int .u64 s.lost, .int .u64 s.cwnd, .int .u64 s.kept, .int .u64 s.ended] 82 (0, 0)) :: pip pb s.p :: fil fb s.f :: cyc rb s.r :: ctr kb s.k :: R) := by
 have HH := Lib.hid H; clear H
 have h1 := Lib.hid (Eng.U_limit hs)
 have h2 := Lib.hid (Eng.U_least hs.f)
 replace hs := Lib.hid hs
 unfold Eng.uses
 go_enter Tryz.func123, Tryz.ntmps123
 go_wp2_with fail
 go_wp2_with fail
 refine wp_region_reg none HH.out (by kernel_rfl) ?_
 intro wm H9_
 replace HH := Lib.hid H9_
 clear H9_
 refine reg_s 0 HH.out ?_
 refine reg_s 1 HH.out ?_
 refine reg_s 2 HH.out ?_
 refine mixk_s 3 HH.out (fun _ hx => hx.cells) ?_
 refine reg_s 4 HH.out ?_
 refine reg_s 7 HH.out ?_
 refine reg_l none (i := 5) rfl (by kernel_rfl) (fun wn hk K hK => ?_)
 replace HH := Lib.hid (hk _ _ HH.out)
 clear hk
 go_simp
 refine (engBest_c ε wn _ b pb fb rb kb s hs.out HH.out).mono ?_
 rintro e wm ⟨rfl, H9_⟩
 replace HH := Lib.hid H9_
 clear H9_
 refine hK _ _ _ HH.out (.inr ⟨rfl, fun _ h => h.pn⟩) ?_
 clear hK K
 refine reg_l none (i := 6) rfl (by kernel_rfl) (fun wn hk K hK => ?_)
 replace HH := Lib.hid (hk _ _ HH.out)
 clear hk
 go_simp
 refine (boundLimit_c wn s.bd s.best).mono ?_
 rintro e wm ⟨rfl, hbel⟩
 replace HH := Lib.hid ((by first | exact .same hbel | exact .drew hbel | exact .below hbel : Kp wn wm) _ _ HH.out)
 clear hbel
 refine hK _ _ _ HH.out (.inr ⟨rfl, fun _ h => h⟩) ?_
 clear hK K
 refine reg_l none (i := 8) rfl (by kernel_rfl) (fun wn hk K hK => ?_)
 replace HH := Lib.hid (hk _ _ HH.out)
 clear hk
 go_simp
 refine (engLeast_c ε wn _ b pb fb rb kb s HH.out).mono ?_
 rintro e wm ⟨rfl, H9_⟩
 replace HH := Lib.hid H9_
 clear H9_
 refine hK _ _ _ HH.out (.inr ⟨rfl, fun _ h => h.pn⟩) ?_
 clear hK K
 refine reg_l none (i := 9) rfl (by kernel_rfl) (fun wn hk K hK => ?_)
 replace HH := Lib.hid (hk _ _ HH.out)
 clear hk
 go_simp
 refine (confFlight_c wn (s.bd.limit s.best) s.least h1.out h2.out).mono ?_
 rintro e wm ⟨rfl, hbel⟩
 replace HH := Lib.hid ((by first | exact .same hbel | exact .drew hbel | exact .below hbel : Kp wn wm) _ _ HH.out)
 clear hbel
 refine hK _ _ _ HH.out (.inr ⟨rfl, fun _ h => h⟩) ?_
 clear hK K
 refine reg_s 10 HH.out ?_
 refine mixk_done (by kernel_rfl) (fun w10_ hk => ?_) _
 replace HH := Lib.hid (hk _ _ HH.out)
 clear hk
 go_wp2_with fail
 go_ret
 exact ⟨rfl, HH.out⟩
set_option maxHeartbeats 3200000 in
theorem engPace_c (s : Eng) (hs : s.Ok) (H : Own ε w (pts b (.cells #[.int .u64 s.c.mss, .int .u64 s.c.init, .int .u64 s.c.reorder, .int .u64 s.c.window, .int .u64 s.c.probe, .int .u64 s.c.loss, .pointer (some ⟨pb, 0, none⟩), .int .u64 s.bd.hi, .int .u64 s.bd.lo, .int .u64 s.bd.bw, .int .i64 s.st, .int .u64 s.since, .int .u64 s.rounds, .pointer (some ⟨fb, 0, none⟩), .pointer (some ⟨rb, 0, none⟩), .pointer (some ⟨kb, 0, none⟩), .int .u64 s.acked, .int .u64 s.lost, .int .u64 s.cwnd, .int .u64 s.kept, .int .u64 s.ended] 82 (0, 0)) :: pip pb s.p :: fil fb s.f :: cyc rb s.r :: ctr kb s.k :: R)) :
  Calls Tryz.prog 34 #[.pointer (some ⟨b, 0, none⟩)] w fun e w' => e = .returned (.int .u64 s.pace) ∧ Own ε w' (pts b (.cells #[.int .u64 s.c.mss, .int .u64 s.c.init, .int .u64 s.c.reorder, .int .u64 s.c.window, .int .u64 s.c.probe, .int .u64 s.c.loss, .pointer (some ⟨pb, 0, none⟩), .int .u64 s.bd.hi, .int .u64 s.bd.lo, .int .u64 s.bd.bw, .int .i64 s.st, .int .u64 s.since, .int .u64 s.rounds, .pointer (some ⟨fb, 0, none⟩), .pointer (some ⟨rb, 0, none⟩), .pointer (some ⟨kb, 0, none⟩), .int .u64 s.acked, .int .u64 s.lost, .int .u64 s.cwnd, .int .u64 s.kept, .int .u64 s.ended] 82 (0, 0)) :: pip pb s.p :: fil fb s.f :: cyc rb s.r :: ctr kb s.k :: R) := by
 have HH := Lib.hid H; clear H
 have h1 := Lib.hid (Eng.U_limit hs)
 have hc := Lib.hid hs.c
 replace hs := Lib.hid hs
 have im := min_ite'
 have ix := max_ite'
 unfold Eng.pace
 go_enter Tryz.func34, Tryz.ntmps34
 go_wp2_with fail
 go_wp2_with fail
 refine wp_region_reg none HH.out (by kernel_rfl) ?_
 intro wm H9_
 replace HH := Lib.hid H9_
 clear H9_
 refine reg_s 0 HH.out ?_
 refine reg_s 1 HH.out ?_
 refine reg_s 2 HH.out ?_
 refine reg_s 3 HH.out ?_
 refine mixk_s 4 HH.out (fun _ hx => hx.cells) ?_
 refine reg_s 5 HH.out ?_
 refine reg_s 6 HH.out ?_
 refine reg_s 7 HH.out ?_
 refine mixk_s 8 HH.out (fun _ hx => hx.cells) ?_
 refine reg_s 9 HH.out ?_
 refine reg_s 13 HH.out ?_
 refine reg_s 14 HH.out ?_
 refine reg_s 15 HH.out ?_
 refine mixk_s 16 HH.out (fun _ hx => hx.cells) ?_
 refine reg_l none (i := 10) rfl (by kernel_rfl) (fun wn hk K hK => ?_)
 replace HH := Lib.hid (hk _ _ HH.out)
 clear hk
 go_simp
 refine (engBest_c ε wn _ b pb fb rb kb s hs.out HH.out).mono ?_
 rintro e wm ⟨rfl, H9_⟩
 replace HH := Lib.hid H9_
 clear H9_
 refine hK _ _ _ HH.out (.inr ⟨rfl, fun _ h => h.pn⟩) ?_
 clear hK K
 refine reg_l none (i := 11) rfl (by kernel_rfl) (fun wn hk K hK => ?_)
 replace HH := Lib.hid (hk _ _ HH.out)
 clear hk
 go_simp
 refine (boundLimit_c wn s.bd s.best).mono ?_
 rintro e wm ⟨rfl, hbel⟩
 replace HH := Lib.hid ((by first | exact .same hbel | exact .drew hbel | exact .below hbel : Kp wn wm) _ _ HH.out)
 clear hbel
 refine hK _ _ _ HH.out (.inr ⟨rfl, fun _ h => h⟩) ?_
 clear hK K
 refine reg_l none (i := 12) rfl (by kernel_rfl) (fun wn hk K hK => ?_)
 replace HH := Lib.hid (hk _ _ HH.out)
 clear hk
 go_simp
 refine (gainPace_c wn s.st (s.bd.limit s.best) h1.out).mono ?_
 rintro e wm ⟨rfl, hbel⟩
 replace HH := Lib.hid ((by first | exact .same hbel | exact .drew hbel | exact .below hbel : Kp wn wm) _ _ HH.out)
 clear hbel
 refine hK _ _ _ HH.out (.inr ⟨rfl, fun _ h => h⟩) ?_
 clear hK K
 refine reg_l none (i := 17) rfl (by kernel_rfl) (fun wn hk K hK => ?_)
 replace HH := Lib.hid (hk _ _ HH.out)
 clear hk
 go_simp
 refine (confLeast_c wn s.c hc.out).mono ?_
 rintro e wm ⟨rfl, hbel⟩
 replace HH := Lib.hid ((by first | exact .same hbel | exact .drew hbel | exact .below hbel : Kp wn wm) _ _ HH.out)
 clear hbel
 refine hK _ _ _ HH.out (.inr ⟨rfl, fun _ h => h⟩) ?_
 clear hK K
 refine reg_s 18 HH.out ?_
 refine reg_s 19 HH.out ?_
 refine reg_s 20 HH.out ?_
 refine mixk_done (by kernel_rfl) (fun w11_ hk => ?_) _
 replace HH := Lib.hid (hk _ _ HH.out)
 clear hk
 go_wp2_with fail
 go_ret
 exact ⟨rfl, HH.out⟩
set_option maxHeartbeats 1600000 in
theorem engQuantum_c (s : Eng) (hs : s.Ok) (hp : U s.pace) (H : Own ε w (pts b (.cells #[.int .u64 s.c.mss, .int .u64 s.c.init, .int .u64 s.c.reorder, .int .u64 s.c.window, .int .u64 s.c.probe, .int .u64 s.c.loss, .pointer (some ⟨pb, 0, none⟩), .int .u64 s.bd.hi, .int .u64 s.bd.lo, .int .u64 s.bd.bw, .int .i64 s.st, .int .u64 s.since, .int .u64 s.rounds, .pointer (some ⟨fb, 0, none⟩), .pointer (some ⟨rb, 0, none⟩), .pointer (some ⟨kb, 0, none⟩), .int .u64 s.acked, .int .u64 s.lost, .int .u64 s.cwnd, .int .u64 s.kept, .int .u64 s.ended] 82 (0, 0)) :: pip pb s.p :: fil fb s.f :: cyc rb s.r :: ctr kb s.k :: R)) :
  Calls Tryz.prog 13 #[.pointer (some ⟨b, 0, none⟩)] w fun e w' => e = .returned (.int .u64 s.quantum) ∧ Own ε w' (pts b (.cells #[.int .u64 s.c.mss, .int .u64 s.c.init, .int .u64 s.c.reorder, .int .u64 s.c.window, .int .u64 s.c.probe, .int .u64 s.c.loss, .pointer (some ⟨pb, 0, none⟩), .int .u64 s.bd.hi, .int .u64 s.bd.lo, .int .u64 s.bd.bw, .int .i64 s.st, .int .u64 s.since, .int .u64 s.rounds, .pointer (some ⟨fb, 0, none⟩), .pointer (some ⟨rb, 0, none⟩), .pointer (some ⟨kb, 0, none⟩), .int .u64 s.acked, .int .u64 s.lost, .int .u64 s.cwnd, .int .u64 s.kept, .int .u64 s.ended] 82 (0, 0)) :: pip pb s.p :: fil fb s.f :: cyc rb s.r :: ctr kb s.k :: R) := by
 have HH := Lib.hid H; clear H
 have hc := Lib.hid hs.c
 replace hp := Lib.hid hp
 replace hs := Lib.hid hs
 unfold Eng.quantum
 go_enter Tryz.func13, Tryz.ntmps13
 go_wp2_with fail
 go_wp2_with fail
 refine wp_region_reg none HH.out (by kernel_rfl) ?_
 intro wm H9_
 replace HH := Lib.hid H9_
 clear H9_
 refine reg_s 0 HH.out ?_
 refine reg_s 1 HH.out ?_
 refine reg_s 2 HH.out ?_
 refine mixk_s 3 HH.out (fun _ hx => hx.cells) ?_
 refine reg_s 4 HH.out ?_
 refine reg_l none (i := 5) rfl (by kernel_rfl) (fun wn hk K hK => ?_)
 replace HH := Lib.hid (hk _ _ HH.out)
 clear hk
 go_simp
 refine (engPace_c ε wn _ b pb fb rb kb s hs.out HH.out).mono ?_
 rintro e wm ⟨rfl, H9_⟩
 replace HH := Lib.hid H9_
 clear H9_
 refine hK _ _ _ HH.out (.inr ⟨rfl, fun _ h => h.pn⟩) ?_
 clear hK K
 refine reg_l none (i := 6) rfl (by kernel_rfl) (fun wn hk K hK => ?_)
 replace HH := Lib.hid (hk _ _ HH.out)
 clear hk
 go_simp
 refine (confQuantum_c wn s.c hc.out s.pace hp.out).mono ?_
 rintro e wm ⟨rfl, hbel⟩
 replace HH := Lib.hid ((by first | exact .same hbel | exact .drew hbel | exact .below hbel : Kp wn wm) _ _ HH.out)
 clear hbel
 refine hK _ _ _ HH.out (.inr ⟨rfl, fun _ h => h⟩) ?_
 clear hK K
 refine reg_s 7 HH.out ?_
 refine mixk_done (by kernel_rfl) (fun w12_ hk => ?_) _
 replace HH := Lib.hid (hk _ _ HH.out)
 clear hk
 go_wp2_with fail
 go_ret
 exact ⟨rfl, HH.out⟩
end
end Go.Proofs.YtmkcpnlbicijoaaGreat
