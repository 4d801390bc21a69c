/- bbr: an engine is told an event: written by mkbbr2.py. -/
import Derived.Deep.CutBlock
import Derived.Test.YtmkcpnlbicijoaaGreatBbr4
import Derived.Test.YtmkcpnlbicijoaaGreatBbr5
import Derived.Test.YtmkcpnlbicijoaaGreatSndD
namespace Go.Proofs.YtmkcpnlbicijoaaGreat
open Go.RowKit
theorem Own.as {ε w : World} {L L' : List Asn} (h : Own ε w L) (e : L = L') : Own ε w L' := e ▸ h
section
variable (ε w : World) (R : List Asn) (b pb fb rb kb : Nat)
set_option maxRecDepth 100000 in
set_option maxHeartbeats 12800000 in
theorem engOn_c (s : Eng) (hs : s.Ok) (x : Evt) (hx : x.Ok) (hl : s.f.l.length ≤ 999999) (H : Own ε w (pts b (.cells #[.int .u64 s.c.mss, .int .u64 s.c.init, .int .u64 s.c.reorder, .int .u64 s.c.window, .int .u64 s.c.probe, .int .u64 s.c.loss, .pointer (some ⟨pb, 0, none⟩), .int .u64 s.bd.hi, .int .u64 s.bd.lo, .int .u64 s.bd.bw, .int .i64 s.st, .int .u64 s.since, .int .u64 s.rounds, .pointer (some ⟨fb, 0, none⟩), .pointer (some ⟨rb, 0, none⟩), .pointer (some ⟨kb, 0, none⟩), .int .u64 s.acked, .int .u64 s.lost, .int .u64 s.cwnd, .int .u64 s.kept, .int .u64 s.ended] 82 (0, 0)) :: pip pb s.p :: fil fb s.f :: cyc rb s.r :: ctr kb s.k :: R)) :
  Calls Tryz.prog 38 #[.pointer (some ⟨b, 0, none⟩), x.v] w fun e w' => e = .returned (.tuple #[]) ∧ Own ε w' (pts b (.cells #[.int .u64 (s.on x).c.mss, .int .u64 (s.on x).c.init, .int .u64 (s.on x).c.reorder, .int .u64 (s.on x).c.window, .int .u64 (s.on x).c.probe, .int .u64 (s.on x).c.loss, .pointer (some ⟨pb, 0, none⟩), .int .u64 (s.on x).bd.hi, .int .u64 (s.on x).bd.lo, .int .u64 (s.on x).bd.bw, .int .i64 (s.on x).st, .int .u64 (s.on x).since, .int .u64 (s.on x).rounds, .pointer (some ⟨fb, 0, none⟩), .pointer (some ⟨rb, 0, none⟩), .pointer (some ⟨kb, 0, none⟩), .int .u64 (s.on x).acked, .int .u64 (s.on x).lost, .int .u64 (s.on x).cwnd, .int .u64 (s.on x).kept, .int .u64 (s.on x).ended] 82 (0, 0)) :: pip pb (s.on x).p :: fil fb (s.on x).f :: cyc rb (s.on x).r :: ctr kb (s.on x).k :: R) := by
 have HH := Lib.hid H; clear H
 have k1 := Eng.ok_hear hs hx
 have k2 := Eng.ok_tos k1 hx.now
 have k3 := Eng.ok_sampled k2 hx
 have k4 : (if (((s.hear x).tos x.now).overs x) = true then (((s.hear x).tos x.now).sampled x).calm else (((s.hear x).tos x.now).sampled x)).Ok := Eng.ok_past hs hx
 have hl2 : ((s.hear x).tos x.now).f.l.length ≤ 1000000 := Nat.le_trans (Fil.lenTo s.f x.now) (Nat.le_succ_of_le hl)
 obtain ⟨q, hq⟩ : ∃ q, s.on x = q := ⟨_, rfl⟩
 rw [hq]
 unfold Eng.on Eng.past Eng.loses Eng.tells Eng.read at hq
 obtain ⟨s1, e1⟩ : ∃ y, s.hear x = y := ⟨_, rfl⟩
 rw [e1] at hq k1 k2 k3 k4 hl2
 obtain ⟨s2, e2⟩ : ∃ y, s1.tos x.now = y := ⟨_, rfl⟩
 rw [e2] at hq k2 k3 k4 hl2
 obtain ⟨ov, eo⟩ : ∃ y, s2.overs x = y := ⟨_, rfl⟩
 rw [eo] at hq k4
 obtain ⟨s3, e3⟩ : ∃ y, s2.sampled x = y := ⟨_, rfl⟩
 rw [e3] at hq k3 k4
 obtain ⟨il, ei⟩ : ∃ y, s3.isLossy = y := ⟨_, rfl⟩
 rw [ei] at hq
 obtain ⟨lz, ez⟩ : ∃ y, (ov && il) = y := ⟨_, rfl⟩
 rw [ez] at hq
 obtain ⟨s4, e4⟩ : ∃ y, (if ov = true then s3.calm else s3) = y := ⟨_, rfl⟩
 rw [e4] at hq k4
 have k5 := Eng.ok_bounded (lz := lz) k4 hx
 obtain ⟨s5, e5⟩ : ∃ y, s4.bounded x lz = y := ⟨_, rfl⟩
 rw [e5] at hq k5
 have k6 := Eng.ok_turn (ov := ov) (lz := lz) k5 hx
 obtain ⟨s6, e6⟩ : ∃ y, s5.turn x ov lz = y := ⟨_, rfl⟩
 rw [e6] at hq k6
 have k7 := Eng.ok_pushed (lz := lz) k6 hx
 obtain ⟨s7, e7⟩ : ∃ y, s6.pushed x lz = y := ⟨_, rfl⟩
 rw [e7] at hq k7
 obtain ⟨pr, hpr⟩ : ∃ y, decide (s4.st = 0 ∨ s4.st = 5) = y := ⟨_, rfl⟩
 obtain ⟨pu, hpu⟩ : ∃ y, decide (s6.st = 5 ∧ lz = false) = y := ⟨_, rfl⟩
 have u1 := Lib.hid hs.acked
 have u2 := Lib.hid hs.lost
 have v1 := Lib.hid hx.acked
 have v2 := Lib.hid hx.lost
 have v3 := Lib.hid hx.fl
 have v4 := Lib.hid hx.sd
 have v5 := Lib.hid hx.sr
 have hf1 := Lib.hid k1.f
 have hn := Lib.hid hx.now
 have hb4 := Lib.hid k4.bd
 have hh4 := Lib.hid (Eng.U_holds k4)
 have hc4 := Lib.hid k4.cwnd
 have hb6 := Lib.hid k6.bd
 replace e1 := Lib.hid e1
 replace e2 := Lib.hid e2
 replace eo := Lib.hid eo
 replace e3 := Lib.hid e3
 replace ei := Lib.hid ei
 replace ez := Lib.hid ez
 replace e4 := Lib.hid e4
 replace e5 := Lib.hid e5
 replace e6 := Lib.hid e6
 replace e7 := Lib.hid e7
 replace hq := Lib.hid hq
 replace hpr := Lib.hid hpr
 replace hpu := Lib.hid hpu
 replace k2 := Lib.hid k2
 replace k3 := Lib.hid k3
 replace k4 := Lib.hid k4
 replace k5 := Lib.hid k5
 replace k6 := Lib.hid k6
 replace k7 := Lib.hid k7
 replace hl2 := Lib.hid hl2
 replace hx := Lib.hid hx
 clear k1 hs hl
 unfold Evt.v
 go_enter Tryz.func38, Tryz.ntmps38
 go_wp2_with (with_reducible refine stop_bx ?_)
 refine Stop.go ?_
 refine wpList_box_own HH.out [_, _, _, _, _, _, _, _, _, _, _] rfl ?_
 intro g w1_ H9_
 replace HH := Lib.hid H9_
 clear H9_
 replace HH := Lib.hid (HH.out.pn : Own ε _ (pts g (.cells #[.int .u64 x.now, .int .u64 x.sd, .int .u64 x.si, .int .u64 x.sr, .int .u64 x.rtt, .bool x.slim, .bool x.some, .int .u64 x.deliv, .int .u64 x.acked, .int .u64 x.lost, .int .u64 x.fl] 87 (0, 0)) :: pts b (.cells #[.int .u64 s.c.mss, .int .u64 s.c.init, .int .u64 s.c.reorder, .int .u64 s.c.window, .int .u64 s.c.probe, .int .u64 s.c.loss, .pointer (some ⟨pb, 0, none⟩), .int .u64 s.bd.hi, .int .u64 s.bd.lo, .int .u64 s.bd.bw, .int .i64 s.st, .int .u64 s.since, .int .u64 s.rounds, .pointer (some ⟨fb, 0, none⟩), .pointer (some ⟨rb, 0, none⟩), .pointer (some ⟨kb, 0, none⟩), .int .u64 s.acked, .int .u64 s.lost, .int .u64 s.cwnd, .int .u64 s.kept, .int .u64 s.ended] 82 (0, 0)) :: pip pb s.p :: fil fb s.f :: cyc rb s.r :: ctr kb s.k :: R))
 go_upto_region 2 with (fail)
 go_cut [] from 129 (fun wc => Own ε wc (pts b (.cells #[.int .u64 s1.c.mss, .int .u64 s1.c.init, .int .u64 s1.c.reorder, .int .u64 s1.c.window, .int .u64 s1.c.probe, .int .u64 s1.c.loss, .pointer (some ⟨pb, 0, none⟩), .int .u64 s1.bd.hi, .int .u64 s1.bd.lo, .int .u64 s1.bd.bw, .int .i64 s1.st, .int .u64 s1.since, .int .u64 s1.rounds, .pointer (some ⟨fb, 0, none⟩), .pointer (some ⟨rb, 0, none⟩), .pointer (some ⟨kb, 0, none⟩), .int .u64 s1.acked, .int .u64 s1.lost, .int .u64 s1.cwnd, .int .u64 s1.kept, .int .u64 s1.ended] 82 (0, 0)) :: pip pb s1.p :: fil fb s1.f :: cyc rb s1.r :: ctr kb s1.k :: pts g (.cells #[.int .u64 x.now, .int .u64 x.sd, .int .u64 x.si, .int .u64 x.sr, .int .u64 x.rtt, .bool x.slim, .bool x.some, .int .u64 x.deliv, .int .u64 x.acked, .int .u64 x.lost, .int .u64 x.fl] 87 (0, 0)) :: R))
 case first =>
  go_wp2_with fail
  refine wp_region_reg (some 20) HH.out (by kernel_rfl) ?_
  intro wm H9_
  replace HH := Lib.hid H9_
  clear H9_
  refine reg_s 0 HH.out ?_
  refine reg_s 1 HH.out ?_
  refine reg_s 2 HH.out ?_
  refine reg_s 3 HH.out ?_
  refine reg_s 4 HH.out ?_
  refine mixk_s 5 HH.out (fun _ hx => And.intro hx.cells hx.r2.cells) ?_
  refine reg_s 6 HH.out ?_
  refine mixk_s 7 HH.out (fun _ hx => And.intro hx.cells hx.r2.cells) ?_
  refine reg_s 10 HH.out ?_
  refine reg_s 11 HH.out ?_
  refine reg_s 12 HH.out ?_
  refine mixk_s 13 HH.out (fun _ hx => And.intro hx.cells hx.r2.cells) ?_
  refine reg_s 14 HH.out ?_
  refine mixk_s 15 HH.out (fun _ hx => And.intro hx.cells hx.r2.cells) ?_
  refine reg_two (some 20) (some 20) (i := 8) (j := 16) rfl rfl (by kernel_rfl) (fun wn hk K hK => ?g1_) (fun wn hk K hK => ?g2_)
  case' g1_ =>
   replace HH := Lib.hid (hk _ _ HH.out)
   clear hk
   go_simp
   replace HH := Lib.hid (HH.out.alloc (.cells #[.int .u64 s.acked, .int .u64 x.acked] 22))
   generalize wn.alloc (.cells #[.int .u64 s.acked, .int .u64 x.acked] 22) = wm at *
   generalize wn.heap.size = sb1 at *
   refine hK _ _ _ HH.out (.inr ⟨rfl, fun _ h => h.tail⟩) ?_
   clear hK K
   refine reg_two (some 20) (some 20) (i := 9) (j := 16) rfl rfl (by kernel_rfl) (fun wn hk K hK => ?g3_) (fun wn hk K hK => ?g4_)
   case' g3_ =>
    replace HH := Lib.hid (hk _ _ HH.out)
    clear hk
    go_simp
    refine (fixAdd2_c wn sb1 s.acked x.acked u1.out v1.out (HH.out.cells.1 0) (HH.out.cells.1 1)).mono ?_
    rintro e wm ⟨rfl, hbel⟩
    replace HH := Lib.hid ((by first | exact .same hbel | exact .drew hbel | exact .below hbel : Kp wn wm) _ _ HH.out)
    clear hbel
    refine hK _ _ _ HH.out (.inr ⟨rfl, fun _ h => h⟩) ?_
    clear hK K
    refine reg_l (some 20) (i := 16) rfl (by kernel_rfl) (fun wn hk K hK => ?_)
    replace HH := Lib.hid (hk _ _ HH.out)
    clear hk
    go_simp
    replace HH := Lib.hid (HH.out.alloc (.cells #[.int .u64 s.lost, .int .u64 x.lost] 22))
    generalize wn.alloc (.cells #[.int .u64 s.lost, .int .u64 x.lost] 22) = wm at *
    generalize wn.heap.size = sb2 at *
    refine hK _ _ _ HH.out (.inr ⟨rfl, fun _ h => h.tail⟩) ?_
    clear hK K
    refine reg_l (some 20) (i := 17) rfl (by kernel_rfl) (fun wn hk K hK => ?_)
    replace HH := Lib.hid (hk _ _ HH.out)
    clear hk
    go_simp
    refine (fixAdd2_c wn sb2 s.lost x.lost u2.out v2.out (HH.out.cells.1 0) (HH.out.cells.1 1)).mono ?_
    rintro e wm ⟨rfl, hbel⟩
    replace HH := Lib.hid ((by first | exact .same hbel | exact .drew hbel | exact .below hbel : Kp wn wm) _ _ HH.out)
    clear hbel
    refine hK _ _ _ HH.out (.inr ⟨rfl, fun _ h => h⟩) ?_
    clear hK K
    refine reg_s 18 HH.out ?_
    refine reg_s 19 HH.out ?_
    refine reg_l (some 23) (i := 20) rfl (by kernel_rfl) (fun wn hk K hK => ?_)
    replace HH := Lib.hid (hk _ _ HH.out)
    clear hk
    have hx := HH.out
    have x1_ := hx.r3.cells
    have x2_ := hx.r4.cells
    go_simp
    replace HH := Lib.hid (HH.out.r4.set 16 (.int .u64 (sadd s.acked x.acked)))
    simp only [List.setIfInBounds_toArray, List.set_cons_succ, List.set_cons_zero] at HH
    generalize wn.setCell ⟨b, 16, none⟩ (.int .u64 (sadd s.acked x.acked)) = wm at *
    clear hx x1_ x2_
    refine hK _ _ _ HH.out (.inl (by kernel_rfl)) ?_
    clear hK K
    refine reg_s 21 HH.out ?_
    refine reg_s 22 HH.out ?_
    refine reg_l none (i := 23) rfl (by kernel_rfl) (fun wn hk K hK => ?_)
    replace HH := Lib.hid (hk _ _ HH.out)
    clear hk
    have hx := HH.out
    have x1_ := hx.r4.cells
    have x2_ := hx.cells
    go_simp
    replace HH := Lib.hid (HH.out.set 17 (.int .u64 (sadd s.lost x.lost)))
    simp only [List.setIfInBounds_toArray, List.set_cons_succ, List.set_cons_zero] at HH
    generalize wn.setCell ⟨b, 17, none⟩ (.int .u64 (sadd s.lost x.lost)) = wm at *
    clear hx x1_ x2_
    refine hK _ _ _ HH.out (.inl (by kernel_rfl)) ?_
    clear hK K
    refine mixk_done (by kernel_rfl) (fun w2_ hk => ?_) _
    replace HH := Lib.hid (hk _ _ HH.out)
    clear hk
    replace HH := Lib.hid (HH.out.pn : Own _ _ (pts b (.cells #[.int .u64 s.c.mss, .int .u64 s.c.init, .int .u64 s.c.reorder, .int .u64 s.c.window, .int .u64 s.c.probe, .int .u64 s.c.loss, .pointer (some ⟨pb, 0, none⟩), .int .u64 s.bd.hi, .int .u64 s.bd.lo, .int .u64 s.bd.bw, .int .i64 s.st, .int .u64 s.since, .int .u64 s.rounds, .pointer (some ⟨fb, 0, none⟩), .pointer (some ⟨rb, 0, none⟩), .pointer (some ⟨kb, 0, none⟩), .int .u64 (sadd s.acked x.acked), .int .u64 (sadd s.lost x.lost), .int .u64 s.cwnd, .int .u64 s.kept, .int .u64 s.ended] 82 (0, 0)) :: pip pb s.p :: fil fb s.f :: cyc rb s.r :: ctr kb s.k :: pts g (.cells #[.int .u64 x.now, .int .u64 x.sd, .int .u64 x.si, .int .u64 x.sr, .int .u64 x.rtt, .bool x.slim, .bool x.some, .int .u64 x.deliv, .int .u64 x.acked, .int .u64 x.lost, .int .u64 x.fl] 87 (0, 0)) :: R))
   case' g4_ =>
    replace HH := Lib.hid (hk _ _ HH.out)
    clear hk
    go_simp
    replace HH := Lib.hid (HH.out.alloc (.cells #[.int .u64 s.lost, .int .u64 x.lost] 22))
    generalize wn.alloc (.cells #[.int .u64 s.lost, .int .u64 x.lost] 22) = wm at *
    generalize wn.heap.size = sb2 at *
    refine hK _ _ _ HH.out (.inr ⟨rfl, fun _ h => h.tail⟩) ?_
    clear hK K
    refine reg_l (some 20) (i := 9) rfl (by kernel_rfl) (fun wn hk K hK => ?_)
    replace HH := Lib.hid (hk _ _ HH.out)
    clear hk
    go_simp
    refine (fixAdd2_c wn sb1 s.acked x.acked u1.out v1.out (HH.out.r2.cells.1 0) (HH.out.r2.cells.1 1)).mono ?_
    rintro e wm ⟨rfl, hbel⟩
    replace HH := Lib.hid ((by first | exact .same hbel | exact .drew hbel | exact .below hbel : Kp wn wm) _ _ HH.out)
    clear hbel
    refine hK _ _ _ HH.out (.inr ⟨rfl, fun _ h => h⟩) ?_
    clear hK K
    refine reg_l (some 20) (i := 17) rfl (by kernel_rfl) (fun wn hk K hK => ?_)
    replace HH := Lib.hid (hk _ _ HH.out)
    clear hk
    go_simp
    refine (fixAdd2_c wn sb2 s.lost x.lost u2.out v2.out (HH.out.cells.1 0) (HH.out.cells.1 1)).mono ?_
    rintro e wm ⟨rfl, hbel⟩
    replace HH := Lib.hid ((by first | exact .same hbel | exact .drew hbel | exact .below hbel : Kp wn wm) _ _ HH.out)
    clear hbel
    refine hK _ _ _ HH.out (.inr ⟨rfl, fun _ h => h⟩) ?_
    clear hK K
    refine reg_s 18 HH.out ?_
    refine reg_s 19 HH.out ?_
    refine reg_l (some 23) (i := 20) rfl (by kernel_rfl) (fun wn hk K hK => ?_)
    replace HH := Lib.hid (hk _ _ HH.out)
    clear hk
    have hx := HH.out
    have x1_ := hx.r3.cells
    have x2_ := hx.r4.cells
    go_simp
    replace HH := Lib.hid (HH.out.r4.set 16 (.int .u64 (sadd s.acked x.acked)))
    simp only [List.setIfInBounds_toArray, List.set_cons_succ, List.set_cons_zero] at HH
    generalize wn.setCell ⟨b, 16, none⟩ (.int .u64 (sadd s.acked x.acked)) = wm at *
    clear hx x1_ x2_
    refine hK _ _ _ HH.out (.inl (by kernel_rfl)) ?_
    clear hK K
    refine reg_s 21 HH.out ?_
    refine reg_s 22 HH.out ?_
    refine reg_l none (i := 23) rfl (by kernel_rfl) (fun wn hk K hK => ?_)
    replace HH := Lib.hid (hk _ _ HH.out)
    clear hk
    have hx := HH.out
    have x1_ := hx.r4.cells
    have x2_ := hx.cells
    go_simp
    replace HH := Lib.hid (HH.out.set 17 (.int .u64 (sadd s.lost x.lost)))
    simp only [List.setIfInBounds_toArray, List.set_cons_succ, List.set_cons_zero] at HH
    generalize wn.setCell ⟨b, 17, none⟩ (.int .u64 (sadd s.lost x.lost)) = wm at *
    clear hx x1_ x2_
    refine hK _ _ _ HH.out (.inl (by kernel_rfl)) ?_
    clear hK K
    refine mixk_done (by kernel_rfl) (fun w2_ hk => ?_) _
    replace HH := Lib.hid (hk _ _ HH.out)
    clear hk
    replace HH := Lib.hid (HH.out.pn : Own _ _ (pts b (.cells #[.int .u64 s.c.mss, .int .u64 s.c.init, .int .u64 s.c.reorder, .int .u64 s.c.window, .int .u64 s.c.probe, .int .u64 s.c.loss, .pointer (some ⟨pb, 0, none⟩), .int .u64 s.bd.hi, .int .u64 s.bd.lo, .int .u64 s.bd.bw, .int .i64 s.st, .int .u64 s.since, .int .u64 s.rounds, .pointer (some ⟨fb, 0, none⟩), .pointer (some ⟨rb, 0, none⟩), .pointer (some ⟨kb, 0, none⟩), .int .u64 (sadd s.acked x.acked), .int .u64 (sadd s.lost x.lost), .int .u64 s.cwnd, .int .u64 s.kept, .int .u64 s.ended] 82 (0, 0)) :: pip pb s.p :: fil fb s.f :: cyc rb s.r :: ctr kb s.k :: pts g (.cells #[.int .u64 x.now, .int .u64 x.sd, .int .u64 x.si, .int .u64 x.sr, .int .u64 x.rtt, .bool x.slim, .bool x.some, .int .u64 x.deliv, .int .u64 x.acked, .int .u64 x.lost, .int .u64 x.fl] 87 (0, 0)) :: R))
  case' g2_ =>
   replace HH := Lib.hid (hk _ _ HH.out)
   clear hk
   go_simp
   replace HH := Lib.hid (HH.out.alloc (.cells #[.int .u64 s.lost, .int .u64 x.lost] 22))
   generalize wn.alloc (.cells #[.int .u64 s.lost, .int .u64 x.lost] 22) = wm at *
   generalize wn.heap.size = sb2 at *
   refine hK _ _ _ HH.out (.inr ⟨rfl, fun _ h => h.tail⟩) ?_
   clear hK K
   refine reg_l (some 20) (i := 8) rfl (by kernel_rfl) (fun wn hk K hK => ?_)
   replace HH := Lib.hid (hk _ _ HH.out)
   clear hk
   go_simp
   replace HH := Lib.hid (HH.out.alloc (.cells #[.int .u64 s.acked, .int .u64 x.acked] 22))
   generalize wn.alloc (.cells #[.int .u64 s.acked, .int .u64 x.acked] 22) = wm at *
   generalize wn.heap.size = sb1 at *
   refine hK _ _ _ HH.out (.inr ⟨rfl, fun _ h => h.tail⟩) ?_
   clear hK K
   refine reg_l (some 20) (i := 9) rfl (by kernel_rfl) (fun wn hk K hK => ?_)
   replace HH := Lib.hid (hk _ _ HH.out)
   clear hk
   go_simp
   refine (fixAdd2_c wn sb1 s.acked x.acked u1.out v1.out (HH.out.cells.1 0) (HH.out.cells.1 1)).mono ?_
   rintro e wm ⟨rfl, hbel⟩
   replace HH := Lib.hid ((by first | exact .same hbel | exact .drew hbel | exact .below hbel : Kp wn wm) _ _ HH.out)
   clear hbel
   refine hK _ _ _ HH.out (.inr ⟨rfl, fun _ h => h⟩) ?_
   clear hK K
   refine reg_l (some 20) (i := 17) rfl (by kernel_rfl) (fun wn hk K hK => ?_)
   replace HH := Lib.hid (hk _ _ HH.out)
   clear hk
   go_simp
   refine (fixAdd2_c wn sb2 s.lost x.lost u2.out v2.out (HH.out.r2.cells.1 0) (HH.out.r2.cells.1 1)).mono ?_
   rintro e wm ⟨rfl, hbel⟩
   replace HH := Lib.hid ((by first | exact .same hbel | exact .drew hbel | exact .below hbel : Kp wn wm) _ _ HH.out)
   clear hbel
   refine hK _ _ _ HH.out (.inr ⟨rfl, fun _ h => h⟩) ?_
   clear hK K
   refine reg_s 18 HH.out ?_
   refine reg_s 19 HH.out ?_
   refine reg_l (some 23) (i := 20) rfl (by kernel_rfl) (fun wn hk K hK => ?_)
   replace HH := Lib.hid (hk _ _ HH.out)
   clear hk
   have hx := HH.out
   have x1_ := hx.r3.cells
   have x2_ := hx.r4.cells
   go_simp
   replace HH := Lib.hid (HH.out.r4.set 16 (.int .u64 (sadd s.acked x.acked)))
   simp only [List.setIfInBounds_toArray, List.set_cons_succ, List.set_cons_zero] at HH
   generalize wn.setCell ⟨b, 16, none⟩ (.int .u64 (sadd s.acked x.acked)) = wm at *
   clear hx x1_ x2_
   refine hK _ _ _ HH.out (.inl (by kernel_rfl)) ?_
   clear hK K
   refine reg_s 21 HH.out ?_
   refine reg_s 22 HH.out ?_
   refine reg_l none (i := 23) rfl (by kernel_rfl) (fun wn hk K hK => ?_)
   replace HH := Lib.hid (hk _ _ HH.out)
   clear hk
   have hx := HH.out
   have x1_ := hx.r4.cells
   have x2_ := hx.cells
   go_simp
   replace HH := Lib.hid (HH.out.set 17 (.int .u64 (sadd s.lost x.lost)))
   simp only [List.setIfInBounds_toArray, List.set_cons_succ, List.set_cons_zero] at HH
   generalize wn.setCell ⟨b, 17, none⟩ (.int .u64 (sadd s.lost x.lost)) = wm at *
   clear hx x1_ x2_
   refine hK _ _ _ HH.out (.inl (by kernel_rfl)) ?_
   clear hK K
   refine mixk_done (by kernel_rfl) (fun w2_ hk => ?_) _
   replace HH := Lib.hid (hk _ _ HH.out)
   clear hk
   replace HH := Lib.hid (HH.out.pn : Own _ _ (pts b (.cells #[.int .u64 s.c.mss, .int .u64 s.c.init, .int .u64 s.c.reorder, .int .u64 s.c.window, .int .u64 s.c.probe, .int .u64 s.c.loss, .pointer (some ⟨pb, 0, none⟩), .int .u64 s.bd.hi, .int .u64 s.bd.lo, .int .u64 s.bd.bw, .int .i64 s.st, .int .u64 s.since, .int .u64 s.rounds, .pointer (some ⟨fb, 0, none⟩), .pointer (some ⟨rb, 0, none⟩), .pointer (some ⟨kb, 0, none⟩), .int .u64 (sadd s.acked x.acked), .int .u64 (sadd s.lost x.lost), .int .u64 s.cwnd, .int .u64 s.kept, .int .u64 s.ended] 82 (0, 0)) :: pip pb s.p :: fil fb s.f :: cyc rb s.r :: ctr kb s.k :: pts g (.cells #[.int .u64 x.now, .int .u64 x.sd, .int .u64 x.si, .int .u64 x.sr, .int .u64 x.rtt, .bool x.slim, .bool x.some, .int .u64 x.deliv, .int .u64 x.acked, .int .u64 x.lost, .int .u64 x.fl] 87 (0, 0)) :: R))
  all_goals
   go_wp2_with fail
   go_meet
   case rel => rw [← e1.out]; exact HH.out
 case rest =>
  clear HH
  have HH := Lib.hid hcut
  clear hcut
  (try clear cc1_); (try clear cc2_); (try clear cc6_)
  have cc1_ := HH.out.cells
  have cc2_ := HH.out.r2.cells
  have cc6_ := HH.out.r6.cells
  go_wp2_with fail
  go_wp2_with fail
  refine wp_region_reg (some 6) HH.out (by kernel_rfl) ?_
  intro wm H9_
  replace HH := Lib.hid H9_
  clear H9_
  refine reg_s 0 HH.out ?_
  refine reg_s 1 HH.out ?_
  refine reg_s 2 HH.out ?_
  refine mixk_s 3 HH.out (fun _ hx => And.intro hx.cells hx.r6.cells) ?_
  refine reg_s 4 HH.out ?_
  refine mixk_s 5 HH.out (fun _ hx => And.intro hx.cells hx.r6.cells) ?_
  refine reg_l none (i := 6) rfl (by kernel_rfl) (fun wn hk K hK => ?_)
  replace HH := Lib.hid (hk _ _ HH.out)
  clear hk
  go_simp
  refine (filTo_c ε wn _ fb s1.f x.now hf1.out HH.out.r3).mono ?_
  rintro e wm ⟨rfl, H9_⟩
  replace HH := Lib.hid H9_
  clear H9_
  refine hK _ _ _ HH.out (.inl (by kernel_rfl)) ?_
  clear hK K
  refine mixk_done (by kernel_rfl) (fun w3_ hk => ?_) _
  replace HH := Lib.hid (hk _ _ HH.out)
  clear hk
  replace HH := Lib.hid (HH.out.pn : Own _ _ (pts b (.cells #[.int .u64 s1.c.mss, .int .u64 s1.c.init, .int .u64 s1.c.reorder, .int .u64 s1.c.window, .int .u64 s1.c.probe, .int .u64 s1.c.loss, .pointer (some ⟨pb, 0, none⟩), .int .u64 s1.bd.hi, .int .u64 s1.bd.lo, .int .u64 s1.bd.bw, .int .i64 s1.st, .int .u64 s1.since, .int .u64 s1.rounds, .pointer (some ⟨fb, 0, none⟩), .pointer (some ⟨rb, 0, none⟩), .pointer (some ⟨kb, 0, none⟩), .int .u64 s1.acked, .int .u64 s1.lost, .int .u64 s1.cwnd, .int .u64 s1.kept, .int .u64 s1.ended] 82 (0, 0)) :: pip pb s1.p :: fil fb (s1.f.to x.now).2 :: cyc rb s1.r :: ctr kb s1.k :: pts g (.cells #[.int .u64 x.now, .int .u64 x.sd, .int .u64 x.si, .int .u64 x.sr, .int .u64 x.rtt, .bool x.slim, .bool x.some, .int .u64 x.deliv, .int .u64 x.acked, .int .u64 x.lost, .int .u64 x.fl] 87 (0, 0)) :: R))
  replace HH := Lib.hid (Own.as HH.out (show _ = pts b (.cells #[.int .u64 s2.c.mss, .int .u64 s2.c.init, .int .u64 s2.c.reorder, .int .u64 s2.c.window, .int .u64 s2.c.probe, .int .u64 s2.c.loss, .pointer (some ⟨pb, 0, none⟩), .int .u64 s2.bd.hi, .int .u64 s2.bd.lo, .int .u64 s2.bd.bw, .int .i64 s2.st, .int .u64 s2.since, .int .u64 s2.rounds, .pointer (some ⟨fb, 0, none⟩), .pointer (some ⟨rb, 0, none⟩), .pointer (some ⟨kb, 0, none⟩), .int .u64 s2.acked, .int .u64 s2.lost, .int .u64 s2.cwnd, .int .u64 s2.kept, .int .u64 s2.ended] 82 (0, 0)) :: pip pb s2.p :: fil fb s2.f :: cyc rb s2.r :: ctr kb s2.k :: pts g (.cells #[.int .u64 x.now, .int .u64 x.sd, .int .u64 x.si, .int .u64 x.sr, .int .u64 x.rtt, .bool x.slim, .bool x.some, .int .u64 x.deliv, .int .u64 x.acked, .int .u64 x.lost, .int .u64 x.fl] 87 (0, 0)) :: R from congrArg (fun y : Eng => pts b (.cells #[.int .u64 y.c.mss, .int .u64 y.c.init, .int .u64 y.c.reorder, .int .u64 y.c.window, .int .u64 y.c.probe, .int .u64 y.c.loss, .pointer (some ⟨pb, 0, none⟩), .int .u64 y.bd.hi, .int .u64 y.bd.lo, .int .u64 y.bd.bw, .int .i64 y.st, .int .u64 y.since, .int .u64 y.rounds, .pointer (some ⟨fb, 0, none⟩), .pointer (some ⟨rb, 0, none⟩), .pointer (some ⟨kb, 0, none⟩), .int .u64 y.acked, .int .u64 y.lost, .int .u64 y.cwnd, .int .u64 y.kept, .int .u64 y.ended] 82 (0, 0)) :: pip pb y.p :: fil fb y.f :: cyc rb y.r :: ctr kb y.k :: pts g (.cells #[.int .u64 x.now, .int .u64 x.sd, .int .u64 x.si, .int .u64 x.sr, .int .u64 x.rtt, .bool x.slim, .bool x.some, .int .u64 x.deliv, .int .u64 x.acked, .int .u64 x.lost, .int .u64 x.fl] 87 (0, 0)) :: R) e2.out))
  (try clear cc1_); (try clear cc2_); (try clear cc6_)
  have cc1_ := HH.out.cells
  have cc6_ := HH.out.r6.cells
  go_wp2_with fail
  refine (engSample_c ε _ _ b pb fb rb kb s2 k2.out x hx.out hl2.out HH.out).mono ?_
  rw [eo.out]
  rw [e3.out]
  rintro e w4_ ⟨rfl, H9_⟩
  replace HH := Lib.hid H9_
  clear H9_
  go_upto_region 5 with (fail)
  go_cut [5] from 129 (fun v wc => v = .bool lz ∧ Own ε wc (pts b (.cells #[.int .u64 s4.c.mss, .int .u64 s4.c.init, .int .u64 s4.c.reorder, .int .u64 s4.c.window, .int .u64 s4.c.probe, .int .u64 s4.c.loss, .pointer (some ⟨pb, 0, none⟩), .int .u64 s4.bd.hi, .int .u64 s4.bd.lo, .int .u64 s4.bd.bw, .int .i64 s4.st, .int .u64 s4.since, .int .u64 s4.rounds, .pointer (some ⟨fb, 0, none⟩), .pointer (some ⟨rb, 0, none⟩), .pointer (some ⟨kb, 0, none⟩), .int .u64 s4.acked, .int .u64 s4.lost, .int .u64 s4.cwnd, .int .u64 s4.kept, .int .u64 s4.ended] 82 (0, 0)) :: pip pb s4.p :: fil fb s4.f :: cyc rb s4.r :: ctr kb s4.k :: pts g (.cells #[.int .u64 x.now, .int .u64 x.sd, .int .u64 x.si, .int .u64 x.sr, .int .u64 x.rtt, .bool x.slim, .bool x.some, .int .u64 x.deliv, .int .u64 x.acked, .int .u64 x.lost, .int .u64 x.fl] 87 (0, 0)) :: R))
  case first =>
   cases ov
   ·go_wp2_with fail
    go_meet
    case rel => exact ⟨by rw [← ez.out, Bool.false_and], by rw [← e4.out]; exact HH.out⟩
   ·go_wp2_with fail
    refine (engLossy_c ε _ _ b pb fb rb kb s3 k3.out HH.out).mono ?_
    rw [ei.out]
    rintro e w5_ ⟨rfl, H9_⟩
    replace HH := Lib.hid H9_
    clear H9_
    go_wp2_with fail
    go_meet
    case rel => exact ⟨by rw [← ez.out, Bool.true_and], by rw [← e4.out]; exact HH.out⟩
  case rest =>
   clear HH
   obtain ⟨rfl, HR⟩ := hcut
   have HH := Lib.hid HR
   clear HR
   go_upto_region 6 with (fail)
   go_cut [6] from 129 (fun v wc => v = .bool pr ∧ Own ε wc (pts b (.cells #[.int .u64 s4.c.mss, .int .u64 s4.c.init, .int .u64 s4.c.reorder, .int .u64 s4.c.window, .int .u64 s4.c.probe, .int .u64 s4.c.loss, .pointer (some ⟨pb, 0, none⟩), .int .u64 s4.bd.hi, .int .u64 s4.bd.lo, .int .u64 s4.bd.bw, .int .i64 s4.st, .int .u64 s4.since, .int .u64 s4.rounds, .pointer (some ⟨fb, 0, none⟩), .pointer (some ⟨rb, 0, none⟩), .pointer (some ⟨kb, 0, none⟩), .int .u64 s4.acked, .int .u64 s4.lost, .int .u64 s4.cwnd, .int .u64 s4.kept, .int .u64 s4.ended] 82 (0, 0)) :: pip pb s4.p :: fil fb s4.f :: cyc rb s4.r :: ctr kb s4.k :: pts g (.cells #[.int .u64 x.now, .int .u64 x.sd, .int .u64 x.si, .int .u64 x.sr, .int .u64 x.rtt, .bool x.slim, .bool x.some, .int .u64 x.deliv, .int .u64 x.acked, .int .u64 x.lost, .int .u64 x.fl] 87 (0, 0)) :: R))
   case first =>
    by_cases h0 : s4.st = 0
    ·have b0 : (s4.st == 0) = true := by simpa using h0
     have hp : pr = true := by rw [← hpr.out]; simp [h0]
     replace h0 := Lib.hid h0
     (try clear cc1_); (try clear cc2_); (try clear cc6_)
     have cc1_ := HH.out.cells
     go_wp2_with fail
     go_meet
     case rel => exact ⟨by rw [hp], HH.out⟩
    ·have b0 : (s4.st == 0) = false := by simpa using h0
     by_cases h5 : s4.st = 5
     ·have b5 : (s4.st == 5) = true := by simpa using h5
      have hp : pr = true := by rw [← hpr.out]; simp [h5]
      replace h0 := Lib.hid h0
      replace h5 := Lib.hid h5
      (try clear cc1_); (try clear cc2_); (try clear cc6_)
      have cc1_ := HH.out.cells
      go_wp2_with fail
      go_meet
      case rel => exact ⟨by rw [hp], HH.out⟩
     ·have b5 : (s4.st == 5) = false := by simpa using h5
      have hp : pr = false := by rw [← hpr.out]; simp [h0, h5]
      replace h0 := Lib.hid h0
      replace h5 := Lib.hid h5
      (try clear cc1_); (try clear cc2_); (try clear cc6_)
      have cc1_ := HH.out.cells
      go_wp2_with fail
      go_meet
      case rel => exact ⟨by rw [hp], HH.out⟩
   case rest =>
    clear HH
    obtain ⟨rfl, HR⟩ := hcut
    have HH := Lib.hid HR
    clear HR
    go_upto_block 0 with (fail)
    go_cut [] from 129 (fun wc => Own ε wc (pts b (.cells #[.int .u64 s5.c.mss, .int .u64 s5.c.init, .int .u64 s5.c.reorder, .int .u64 s5.c.window, .int .u64 s5.c.probe, .int .u64 s5.c.loss, .pointer (some ⟨pb, 0, none⟩), .int .u64 s5.bd.hi, .int .u64 s5.bd.lo, .int .u64 s5.bd.bw, .int .i64 s5.st, .int .u64 s5.since, .int .u64 s5.rounds, .pointer (some ⟨fb, 0, none⟩), .pointer (some ⟨rb, 0, none⟩), .pointer (some ⟨kb, 0, none⟩), .int .u64 s5.acked, .int .u64 s5.lost, .int .u64 s5.cwnd, .int .u64 s5.kept, .int .u64 s5.ended] 82 (0, 0)) :: pip pb s5.p :: fil fb s5.f :: cyc rb s5.r :: ctr kb s5.k :: pts g (.cells #[.int .u64 x.now, .int .u64 x.sd, .int .u64 x.si, .int .u64 x.sr, .int .u64 x.rtt, .bool x.slim, .bool x.some, .int .u64 x.deliv, .int .u64 x.acked, .int .u64 x.lost, .int .u64 x.fl] 87 (0, 0)) :: R))
    case first =>
     cases lz
     ·have h5 : s5 = s4 := by rw [← e5.out]; unfold Eng.bounded; exact if_neg (by decide)
      go_wp2_with fail
      go_meet
      case rel => rw [h5]; exact HH.out
     ·cases pr
      ·have h5 : s5 = { s4 with bd := s4.bd.lose x.sd x.sr s4.cwnd } := by rw [← e5.out]; unfold Eng.bounded; rw [if_pos rfl]; exact if_neg (of_decide_eq_false hpr.out)
       replace h5 := Lib.hid h5
       (try clear cc1_); (try clear cc2_); (try clear cc6_)
       have cc1_ := HH.out.cells
       have cc6_ := HH.out.r6.cells
       go_wp2_with fail
       go_wp2_with fail
       refine wp_region_reg (some 18) HH.out (by kernel_rfl) ?_
       intro wm H9_
       replace HH := Lib.hid H9_
       clear H9_
       refine reg_s 0 HH.out ?_
       refine reg_s 1 HH.out ?_
       refine reg_s 2 HH.out ?_
       refine reg_s 3 HH.out ?_
       refine mixk_s 4 HH.out (fun _ hx => And.intro hx.cells hx.r6.cells) ?_
       refine reg_s 5 HH.out ?_
       refine reg_s 6 HH.out ?_
       refine mixk_s 7 HH.out (fun _ hx => And.intro hx.cells hx.r6.cells) ?_
       refine reg_s 8 HH.out ?_
       refine reg_s 9 HH.out ?_
       refine mixk_s 10 HH.out (fun _ hx => And.intro hx.cells hx.r6.cells) ?_
       refine reg_s 11 HH.out ?_
       refine reg_s 12 HH.out ?_
       refine reg_s 13 HH.out ?_
       refine mixk_s 14 HH.out (fun _ hx => And.intro hx.cells hx.r6.cells) ?_
       refine reg_l (some 18) (i := 15) rfl (by kernel_rfl) (fun wn hk K hK => ?_)
       replace HH := Lib.hid (hk _ _ HH.out)
       clear hk
       go_simp
       refine (boundLose_c wn s4.bd x.sd x.sr s4.cwnd hb4.out v4.out v5.out hc4.out).mono ?_
       rintro e wm ⟨rfl, hbel⟩
       replace HH := Lib.hid ((by first | exact .same hbel | exact .drew hbel | exact .below hbel : Kp wn wm) _ _ HH.out)
       clear hbel
       refine hK _ _ _ HH.out (.inr ⟨rfl, fun _ h => h⟩) ?_
       clear hK K
       refine reg_s 16 HH.out ?_
       refine reg_s 17 HH.out ?_
       refine reg_l none (i := 18) rfl (by kernel_rfl) (fun wn hk K hK => ?_)
       replace HH := Lib.hid (hk _ _ HH.out)
       clear hk
       refine want rfl (wp_storek_own (k := 7) (#[.int .u64 (s4.bd.lose x.sd x.sr s4.cwnd).hi, .int .u64 (s4.bd.lose x.sd x.sr s4.cwnd).lo, .int .u64 (s4.bd.lose x.sd x.sr s4.cwnd).bw]) rfl rfl rfl HH.out (by kernel_rfl) (by simp) (by repeat (first | (refine List.forall_mem_cons.2 ⟨(by first | with_reducible assumption | rfl), ?_⟩) | exact fun _ h => absurd h List.not_mem_nil)) ?_)
       intro wm H9_
       replace HH := Lib.hid (show Own _ _ ((pts b (.cells #[.int .u64 s4.c.mss, .int .u64 s4.c.init, .int .u64 s4.c.reorder, .int .u64 s4.c.window, .int .u64 s4.c.probe, .int .u64 s4.c.loss, .pointer (some ⟨pb, 0, none⟩), .int .u64 (s4.bd.lose x.sd x.sr s4.cwnd).hi, .int .u64 (s4.bd.lose x.sd x.sr s4.cwnd).lo, .int .u64 (s4.bd.lose x.sd x.sr s4.cwnd).bw, .int .i64 s4.st, .int .u64 s4.since, .int .u64 s4.rounds, .pointer (some ⟨fb, 0, none⟩), .pointer (some ⟨rb, 0, none⟩), .pointer (some ⟨kb, 0, none⟩), .int .u64 s4.acked, .int .u64 s4.lost, .int .u64 s4.cwnd, .int .u64 s4.kept, .int .u64 s4.ended] 82 (0, 0)) :: pip pb s4.p :: fil fb s4.f :: cyc rb s4.r :: ctr kb s4.k :: pts g (.cells #[.int .u64 x.now, .int .u64 x.sd, .int .u64 x.si, .int .u64 x.sr, .int .u64 x.rtt, .bool x.slim, .bool x.some, .int .u64 x.deliv, .int .u64 x.acked, .int .u64 x.lost, .int .u64 x.fl] 87 (0, 0)) :: R)) from H9_)
       clear H9_
       refine hK _ _ _ HH.out (.inl (by kernel_rfl)) ?_
       clear hK K
       refine mixk_done (by kernel_rfl) (fun w6_ hk => ?_) _
       replace HH := Lib.hid (hk _ _ HH.out)
       clear hk
       go_wp2_with fail
       go_meet
       case rel => rw [h5.out]; exact HH.out
      ·have h5 : s5 = { s4 with bd := s4.bd.pull x.fl s4.holds } := by rw [← e5.out]; unfold Eng.bounded; rw [if_pos rfl]; exact if_pos (of_decide_eq_true hpr.out)
       replace h5 := Lib.hid h5
       (try clear cc1_); (try clear cc2_); (try clear cc6_)
       have cc1_ := HH.out.cells
       have cc6_ := HH.out.r6.cells
       go_wp2_with fail
       go_wp2_with fail
       refine wp_region_reg (some 12) HH.out (by kernel_rfl) ?_
       intro wm H9_
       replace HH := Lib.hid H9_
       clear H9_
       refine reg_s 0 HH.out ?_
       refine reg_s 1 HH.out ?_
       refine reg_s 2 HH.out ?_
       refine reg_s 3 HH.out ?_
       refine mixk_s 4 HH.out (fun _ hx => And.intro hx.cells hx.r6.cells) ?_
       refine reg_s 5 HH.out ?_
       refine mixk_s 6 HH.out (fun _ hx => And.intro hx.cells hx.r6.cells) ?_
       refine reg_s 7 HH.out ?_
       refine reg_l (some 12) (i := 8) rfl (by kernel_rfl) (fun wn hk K hK => ?_)
       replace HH := Lib.hid (hk _ _ HH.out)
       clear hk
       go_simp
       refine (engHolds_c ε wn _ b pb fb rb kb s4 k4.out HH.out).mono ?_
       rintro e wm ⟨rfl, H9_⟩
       replace HH := Lib.hid H9_
       clear H9_
       refine hK _ _ _ HH.out (.inr ⟨rfl, fun _ h => h.pn⟩) ?_
       clear hK K
       refine reg_l (some 12) (i := 9) rfl (by kernel_rfl) (fun wn hk K hK => ?_)
       replace HH := Lib.hid (hk _ _ HH.out)
       clear hk
       go_simp
       refine (boundPull_c wn s4.bd x.fl s4.holds v3.out hh4.out).mono ?_
       rintro e wm ⟨rfl, hbel⟩
       replace HH := Lib.hid ((by first | exact .same hbel | exact .drew hbel | exact .below hbel : Kp wn wm) _ _ HH.out)
       clear hbel
       refine hK _ _ _ HH.out (.inr ⟨rfl, fun _ h => h⟩) ?_
       clear hK K
       refine reg_s 10 HH.out ?_
       refine reg_s 11 HH.out ?_
       refine reg_l none (i := 12) rfl (by kernel_rfl) (fun wn hk K hK => ?_)
       replace HH := Lib.hid (hk _ _ HH.out)
       clear hk
       refine want rfl (wp_storek_own (k := 7) (#[.int .u64 (s4.bd.pull x.fl s4.holds).hi, .int .u64 (s4.bd.pull x.fl s4.holds).lo, .int .u64 (s4.bd.pull x.fl s4.holds).bw]) rfl rfl rfl HH.out (by kernel_rfl) (by simp) (by repeat (first | (refine List.forall_mem_cons.2 ⟨(by first | with_reducible assumption | rfl), ?_⟩) | exact fun _ h => absurd h List.not_mem_nil)) ?_)
       intro wm H9_
       replace HH := Lib.hid (show Own _ _ ((pts b (.cells #[.int .u64 s4.c.mss, .int .u64 s4.c.init, .int .u64 s4.c.reorder, .int .u64 s4.c.window, .int .u64 s4.c.probe, .int .u64 s4.c.loss, .pointer (some ⟨pb, 0, none⟩), .int .u64 (s4.bd.pull x.fl s4.holds).hi, .int .u64 (s4.bd.pull x.fl s4.holds).lo, .int .u64 (s4.bd.pull x.fl s4.holds).bw, .int .i64 s4.st, .int .u64 s4.since, .int .u64 s4.rounds, .pointer (some ⟨fb, 0, none⟩), .pointer (some ⟨rb, 0, none⟩), .pointer (some ⟨kb, 0, none⟩), .int .u64 s4.acked, .int .u64 s4.lost, .int .u64 s4.cwnd, .int .u64 s4.kept, .int .u64 s4.ended] 82 (0, 0)) :: pip pb s4.p :: fil fb s4.f :: cyc rb s4.r :: ctr kb s4.k :: pts g (.cells #[.int .u64 x.now, .int .u64 x.sd, .int .u64 x.si, .int .u64 x.sr, .int .u64 x.rtt, .bool x.slim, .bool x.some, .int .u64 x.deliv, .int .u64 x.acked, .int .u64 x.lost, .int .u64 x.fl] 87 (0, 0)) :: R)) from H9_)
       clear H9_
       refine hK _ _ _ HH.out (.inl (by kernel_rfl)) ?_
       clear hK K
       refine mixk_done (by kernel_rfl) (fun w7_ hk => ?_) _
       replace HH := Lib.hid (hk _ _ HH.out)
       clear hk
       go_wp2_with fail
       go_meet
       case rel => rw [h5.out]; exact HH.out
    case rest =>
     clear HH
     have HH := Lib.hid hcut
     clear hcut
     (try clear cc1_); (try clear cc2_); (try clear cc6_)
     have cc1_ := HH.out.cells
     have cc6_ := HH.out.r6.cells
     go_wp2_with fail
     refine (engTurn_c ε _ _ b pb fb rb kb s5 k5.out x hx.out ov lz HH.out).mono ?_
     rw [e6.out]
     rintro e w8_ ⟨rfl, H9_⟩
     replace HH := Lib.hid H9_
     clear H9_
     go_upto_region 12 with (fail)
     go_cut [111] from 129 (fun v wc => v = .bool pu ∧ Own ε wc (pts b (.cells #[.int .u64 s6.c.mss, .int .u64 s6.c.init, .int .u64 s6.c.reorder, .int .u64 s6.c.window, .int .u64 s6.c.probe, .int .u64 s6.c.loss, .pointer (some ⟨pb, 0, none⟩), .int .u64 s6.bd.hi, .int .u64 s6.bd.lo, .int .u64 s6.bd.bw, .int .i64 s6.st, .int .u64 s6.since, .int .u64 s6.rounds, .pointer (some ⟨fb, 0, none⟩), .pointer (some ⟨rb, 0, none⟩), .pointer (some ⟨kb, 0, none⟩), .int .u64 s6.acked, .int .u64 s6.lost, .int .u64 s6.cwnd, .int .u64 s6.kept, .int .u64 s6.ended] 82 (0, 0)) :: pip pb s6.p :: fil fb s6.f :: cyc rb s6.r :: ctr kb s6.k :: pts g (.cells #[.int .u64 x.now, .int .u64 x.sd, .int .u64 x.si, .int .u64 x.sr, .int .u64 x.rtt, .bool x.slim, .bool x.some, .int .u64 x.deliv, .int .u64 x.acked, .int .u64 x.lost, .int .u64 x.fl] 87 (0, 0)) :: R))
     case first =>
      by_cases h5 : s6.st = 5
      ·have b5 : (s6.st == 5) = true := by simpa using h5
       have hp : pu = !lz := by rw [← hpu.out]; cases lz <;> simp [h5]
       replace h5 := Lib.hid h5
       (try clear cc1_); (try clear cc2_); (try clear cc6_)
       have cc1_ := HH.out.cells
       go_wp2_with fail
       go_meet
       case rel => exact ⟨by rw [hp], HH.out⟩
      ·have b5 : (s6.st == 5) = false := by simpa using h5
       have hp : pu = false := by rw [← hpu.out]; simp [h5]
       replace h5 := Lib.hid h5
       (try clear cc1_); (try clear cc2_); (try clear cc6_)
       have cc1_ := HH.out.cells
       go_wp2_with fail
       go_meet
       case rel => exact ⟨by rw [hp], HH.out⟩
     case rest =>
      clear HH
      obtain ⟨rfl, HR⟩ := hcut
      have HH := Lib.hid HR
      clear HR
      go_upto_if 111 with (fail)
      go_cut [] from 129 (fun wc => Own ε wc (pts b (.cells #[.int .u64 s7.c.mss, .int .u64 s7.c.init, .int .u64 s7.c.reorder, .int .u64 s7.c.window, .int .u64 s7.c.probe, .int .u64 s7.c.loss, .pointer (some ⟨pb, 0, none⟩), .int .u64 s7.bd.hi, .int .u64 s7.bd.lo, .int .u64 s7.bd.bw, .int .i64 s7.st, .int .u64 s7.since, .int .u64 s7.rounds, .pointer (some ⟨fb, 0, none⟩), .pointer (some ⟨rb, 0, none⟩), .pointer (some ⟨kb, 0, none⟩), .int .u64 s7.acked, .int .u64 s7.lost, .int .u64 s7.cwnd, .int .u64 s7.kept, .int .u64 s7.ended] 82 (0, 0)) :: pip pb s7.p :: fil fb s7.f :: cyc rb s7.r :: ctr kb s7.k :: pts g (.cells #[.int .u64 x.now, .int .u64 x.sd, .int .u64 x.si, .int .u64 x.sr, .int .u64 x.rtt, .bool x.slim, .bool x.some, .int .u64 x.deliv, .int .u64 x.acked, .int .u64 x.lost, .int .u64 x.fl] 87 (0, 0)) :: R))
      case first =>
       cases pu
       ·have h7 : s7 = s6 := by rw [← e7.out]; unfold Eng.pushed; exact if_neg (of_decide_eq_false hpu.out)
        go_wp2_with fail
        go_meet
        case rel => rw [h7]; exact HH.out
       ·have h7 : s7 = { s6 with bd := s6.bd.push x.acked } := by rw [← e7.out]; unfold Eng.pushed; exact if_pos (of_decide_eq_true hpu.out)
        replace h7 := Lib.hid h7
        (try clear cc1_); (try clear cc2_); (try clear cc6_)
        have cc1_ := HH.out.cells
        have cc6_ := HH.out.r6.cells
        go_wp2_with fail
        go_wp2_with fail
        refine wp_region_reg (some 10) HH.out (by kernel_rfl) ?_
        intro wm H9_
        replace HH := Lib.hid H9_
        clear H9_
        refine reg_s 0 HH.out ?_
        refine reg_s 1 HH.out ?_
        refine reg_s 2 HH.out ?_
        refine reg_s 3 HH.out ?_
        refine mixk_s 4 HH.out (fun _ hx => And.intro hx.cells hx.r6.cells) ?_
        refine reg_s 5 HH.out ?_
        refine mixk_s 6 HH.out (fun _ hx => And.intro hx.cells hx.r6.cells) ?_
        refine reg_l (some 10) (i := 7) rfl (by kernel_rfl) (fun wn hk K hK => ?_)
        replace HH := Lib.hid (hk _ _ HH.out)
        clear hk
        go_simp
        refine (boundPush_c wn s6.bd x.acked hb6.out v1.out).mono ?_
        rintro e wm ⟨rfl, hbel⟩
        replace HH := Lib.hid ((by first | exact .same hbel | exact .drew hbel | exact .below hbel : Kp wn wm) _ _ HH.out)
        clear hbel
        refine hK _ _ _ HH.out (.inr ⟨rfl, fun _ h => h⟩) ?_
        clear hK K
        refine reg_s 8 HH.out ?_
        refine reg_s 9 HH.out ?_
        refine reg_l none (i := 10) rfl (by kernel_rfl) (fun wn hk K hK => ?_)
        replace HH := Lib.hid (hk _ _ HH.out)
        clear hk
        refine want rfl (wp_storek_own (k := 7) (#[.int .u64 (s6.bd.push x.acked).hi, .int .u64 (s6.bd.push x.acked).lo, .int .u64 (s6.bd.push x.acked).bw]) rfl rfl rfl HH.out (by kernel_rfl) (by simp) (by repeat (first | (refine List.forall_mem_cons.2 ⟨(by first | with_reducible assumption | rfl), ?_⟩) | exact fun _ h => absurd h List.not_mem_nil)) ?_)
        intro wm H9_
        replace HH := Lib.hid (show Own _ _ ((pts b (.cells #[.int .u64 s6.c.mss, .int .u64 s6.c.init, .int .u64 s6.c.reorder, .int .u64 s6.c.window, .int .u64 s6.c.probe, .int .u64 s6.c.loss, .pointer (some ⟨pb, 0, none⟩), .int .u64 (s6.bd.push x.acked).hi, .int .u64 (s6.bd.push x.acked).lo, .int .u64 (s6.bd.push x.acked).bw, .int .i64 s6.st, .int .u64 s6.since, .int .u64 s6.rounds, .pointer (some ⟨fb, 0, none⟩), .pointer (some ⟨rb, 0, none⟩), .pointer (some ⟨kb, 0, none⟩), .int .u64 s6.acked, .int .u64 s6.lost, .int .u64 s6.cwnd, .int .u64 s6.kept, .int .u64 s6.ended] 82 (0, 0)) :: pip pb s6.p :: fil fb s6.f :: cyc rb s6.r :: ctr kb s6.k :: pts g (.cells #[.int .u64 x.now, .int .u64 x.sd, .int .u64 x.si, .int .u64 x.sr, .int .u64 x.rtt, .bool x.slim, .bool x.some, .int .u64 x.deliv, .int .u64 x.acked, .int .u64 x.lost, .int .u64 x.fl] 87 (0, 0)) :: R)) from H9_)
        clear H9_
        refine hK _ _ _ HH.out (.inl (by kernel_rfl)) ?_
        clear hK K
        refine mixk_done (by kernel_rfl) (fun w9_ hk => ?_) _
        replace HH := Lib.hid (hk _ _ HH.out)
        clear hk
        go_wp2_with fail
        go_meet
        case rel => rw [h7.out]; exact HH.out
      case rest =>
       clear HH
       have HH := Lib.hid hcut
       clear hcut
       (try clear cc1_); (try clear cc2_); (try clear cc6_)
       have cc1_ := HH.out.cells
       have cc6_ := HH.out.r6.cells
       go_wp2_with fail
       refine (engWindow_c ε _ _ b pb fb rb kb s7 k7.out x.acked v1.out HH.out).mono ?_
       rintro e w10_ ⟨rfl, H9_⟩
       replace HH := Lib.hid H9_
       clear H9_
       go_wp2_with (with_reducible refine stop_st ?_)
       refine Stop.go ?_
       refine wpList_store1_own (v := .int .u64 (s7.window x.acked)) (k := 18) rfl rfl HH.out (by kernel_rfl) (by simp) (by first | rfl | assumption) ?_
       intro w11_ H9_
       replace HH := Lib.hid H9_
       clear H9_
       simp only [List.setIfInBounds_toArray, List.set_cons_succ, List.set_cons_zero] at HH
       go_wp2_with fail
       first | go_end0 | ((try simp only [Exit.inBlock, Exit.then]); refine bodyPost_ret (results_none rfl _ _ _) rfl ?_)
       rw [← hq.out]
       exact ⟨rfl, (HH.out.pn : Own ε _ (pts b (.cells #[.int .u64 s7.c.mss, .int .u64 s7.c.init, .int .u64 s7.c.reorder, .int .u64 s7.c.window, .int .u64 s7.c.probe, .int .u64 s7.c.loss, .pointer (some ⟨pb, 0, none⟩), .int .u64 s7.bd.hi, .int .u64 s7.bd.lo, .int .u64 s7.bd.bw, .int .i64 s7.st, .int .u64 s7.since, .int .u64 s7.rounds, .pointer (some ⟨fb, 0, none⟩), .pointer (some ⟨rb, 0, none⟩), .pointer (some ⟨kb, 0, none⟩), .int .u64 s7.acked, .int .u64 s7.lost, .int .u64 (s7.window x.acked), .int .u64 s7.kept, .int .u64 s7.ended] 82 (0, 0)) :: pip pb s7.p :: fil fb s7.f :: cyc rb s7.r :: ctr kb s7.k :: R))⟩
end
end Go.Proofs.YtmkcpnlbicijoaaGreat
