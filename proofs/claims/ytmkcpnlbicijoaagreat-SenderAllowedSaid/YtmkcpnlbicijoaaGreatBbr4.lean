/- bbr: an engine's next state: written by mkbbr2.py. -/
import Derived.Test.YtmkcpnlbicijoaaGreatSndD
namespace Go.Proofs.YtmkcpnlbicijoaaGreat
open Go.RowKit
section
variable (ε w : World) (R : List Asn) (b pb fb rb kb : Nat)
set_option maxRecDepth 100000 in
set_option maxHeartbeats 12800000 in
theorem engTurn_c (s : Eng) (hs : s.Ok) (x : Evt) (hx : x.Ok) (ov lz : Bool) (H : Own ε w (pts b (.cells #[.int .u64 s.c.mss, .int .u64 s.c.init, .int .u64 s.c.reorder, .int .u64 s.c.window, .int .u64 s.c.probe, .int .u64 s.c.loss, .pointer (some ⟨pb, 0, none⟩), .int .u64 s.bd.hi, .int .u64 s.bd.lo, .int .u64 s.bd.bw, .int .i64 s.st, .int .u64 s.since, .int .u64 s.rounds, .pointer (some ⟨fb, 0, none⟩), .pointer (some ⟨rb, 0, none⟩), .pointer (some ⟨kb, 0, none⟩), .int .u64 s.acked, .int .u64 s.lost, .int .u64 s.cwnd, .int .u64 s.kept, .int .u64 s.ended] 82 (0, 0)) :: pip pb s.p :: fil fb s.f :: cyc rb s.r :: ctr kb s.k :: R)) :
  Calls Tryz.prog 79 #[.pointer (some ⟨b, 0, none⟩), x.v, .bool ov, .bool lz] w fun e w' => e = .returned (.tuple #[]) ∧ Own ε w' (pts b (.cells #[.int .u64 (s.turn x ov lz).c.mss, .int .u64 (s.turn x ov lz).c.init, .int .u64 (s.turn x ov lz).c.reorder, .int .u64 (s.turn x ov lz).c.window, .int .u64 (s.turn x ov lz).c.probe, .int .u64 (s.turn x ov lz).c.loss, .pointer (some ⟨pb, 0, none⟩), .int .u64 (s.turn x ov lz).bd.hi, .int .u64 (s.turn x ov lz).bd.lo, .int .u64 (s.turn x ov lz).bd.bw, .int .i64 (s.turn x ov lz).st, .int .u64 (s.turn x ov lz).since, .int .u64 (s.turn x ov lz).rounds, .pointer (some ⟨fb, 0, none⟩), .pointer (some ⟨rb, 0, none⟩), .pointer (some ⟨kb, 0, none⟩), .int .u64 (s.turn x ov lz).acked, .int .u64 (s.turn x ov lz).lost, .int .u64 (s.turn x ov lz).cwnd, .int .u64 (s.turn x ov lz).kept, .int .u64 (s.turn x ov lz).ended] 82 (0, 0)) :: pip pb (s.turn x ov lz).p :: fil fb (s.turn x ov lz).f :: cyc rb (s.turn x ov lz).r :: ctr kb (s.turn x ov lz).k :: R) := by
 have HH := Lib.hid H; clear H
 obtain ⟨now, sd, si, sr, rtt, slim, smp, deliv, acked, lost, fl⟩ := x
 unfold Evt.v Eng.turn
 simp only
 obtain ⟨nx, hnx⟩ : ∃ nx, s.next ⟨now, sd, si, sr, rtt, slim, smp, deliv, acked, lost, fl⟩ ov lz = nx := ⟨_, rfl⟩
 rw [hnx]
 obtain ⟨tg, htg⟩ : ∃ tg, (if nx = s.st then s else ((s.leave now nx).enter nx).comes now nx) = tg := ⟨_, rfl⟩
 rw [htg]
 replace htg := Lib.hid htg
 have hn := Lib.hid hx.now
 have hfl := hx.fl
 clear hx
 simp only at hn hfl
 unfold Eng.next Eng.sig at hnx
 simp only at hnx
 have hsg : Sig.Ok ⟨decide (3 ≤ s.p.n), ov, lz, s.stale now, fl, s.holds, s.bd.room, s.rounds, ssub now s.since, waitI s.st s.r.n s.c.probe⟩ := ⟨hfl, Eng.U_holds hs, Bnd.U_room hs.bd, hs.rounds, U_ssub hn.out hs.since, U_waitI hs.c.probe⟩
 obtain ⟨pf, hpf⟩ : ∃ y, decide (3 ≤ s.p.n) = y := ⟨_, rfl⟩
 obtain ⟨st8, hst⟩ : ∃ y, s.stale now = y := ⟨_, rfl⟩
 obtain ⟨hd, hhd⟩ : ∃ y, s.holds = y := ⟨_, rfl⟩
 obtain ⟨rm, hrm⟩ : ∃ y, s.bd.room = y := ⟨_, rfl⟩
 obtain ⟨el, hel⟩ : ∃ y, ssub now s.since = y := ⟨_, rfl⟩
 obtain ⟨wt, hwt⟩ : ∃ y, waitI s.st s.r.n s.c.probe = y := ⟨_, rfl⟩
 rw [hpf, hst, hhd, hrm, hel, hwt] at hnx hsg
 replace hpf := Lib.hid hpf
 replace hst := Lib.hid hst
 replace hhd := Lib.hid hhd
 replace hrm := Lib.hid hrm
 replace hel := Lib.hid hel
 replace hwt := Lib.hid hwt
 replace hnx := Lib.hid hnx
 replace hsg := Lib.hid hsg
 have hbd := Lib.hid hs.bd
 have hrn := Lib.hid hs.rn
 have hsi := Lib.hid hs.since
 replace hs := Lib.hid hs
 clear hfl
 have ix := max_ite'
 go_enter Tryz.func79, Tryz.ntmps79
 go_wp2_with (with_reducible refine stop_bx ?_)
 refine Stop.go ?_
 refine wpList_box_own HH.out [_, _, _, _, _, _, _, _, _, _, _] rfl ?_
 intro g w1_ H9_
 replace HH := Lib.hid H9_
 clear H9_
 replace HH := Lib.hid (HH.out.pn : Own ε _ (pts b (.cells #[.int .u64 s.c.mss, .int .u64 s.c.init, .int .u64 s.c.reorder, .int .u64 s.c.window, .int .u64 s.c.probe, .int .u64 s.c.loss, .pointer (some ⟨pb, 0, none⟩), .int .u64 s.bd.hi, .int .u64 s.bd.lo, .int .u64 s.bd.bw, .int .i64 s.st, .int .u64 s.since, .int .u64 s.rounds, .pointer (some ⟨fb, 0, none⟩), .pointer (some ⟨rb, 0, none⟩), .pointer (some ⟨kb, 0, none⟩), .int .u64 s.acked, .int .u64 s.lost, .int .u64 s.cwnd, .int .u64 s.kept, .int .u64 s.ended] 82 (0, 0)) :: pip pb s.p :: fil fb s.f :: cyc rb s.r :: ctr kb s.k :: pts g (.cells #[.int .u64 now, .int .u64 sd, .int .u64 si, .int .u64 sr, .int .u64 rtt, .bool slim, .bool smp, .int .u64 deliv, .int .u64 acked, .int .u64 lost, .int .u64 fl] 87 (0, 0)) :: R))
 go_wp2_with fail
 go_wp2_with fail
 refine wp_region_regK none (pts b (.cells #[.int .u64 s.c.mss, .int .u64 s.c.init, .int .u64 s.c.reorder, .int .u64 s.c.window, .int .u64 s.c.probe, .int .u64 s.c.loss, .pointer (some ⟨pb, 0, none⟩), .int .u64 s.bd.hi, .int .u64 s.bd.lo, .int .u64 s.bd.bw, .int .i64 s.st, .int .u64 s.since, .int .u64 s.rounds, .pointer (some ⟨fb, 0, none⟩), .pointer (some ⟨rb, 0, none⟩), .pointer (some ⟨kb, 0, none⟩), .int .u64 s.acked, .int .u64 s.lost, .int .u64 s.cwnd, .int .u64 s.kept, .int .u64 s.ended] 82 (0, 0)) :: pip pb s.p :: fil fb s.f :: cyc rb s.r :: ctr kb s.k :: pts g (.cells #[.int .u64 now, .int .u64 sd, .int .u64 si, .int .u64 sr, .int .u64 rtt, .bool slim, .bool smp, .int .u64 deliv, .int .u64 acked, .int .u64 lost, .int .u64 fl] 87 (0, 0)) :: R) HH.out (by kernel_rfl) ?_
 intro wm H9_
 replace HH := Lib.hid H9_
 clear H9_
 have HS : Own _ wm (pts b (.cells #[.int .u64 s.c.mss, .int .u64 s.c.init, .int .u64 s.c.reorder, .int .u64 s.c.window, .int .u64 s.c.probe, .int .u64 s.c.loss, .pointer (some ⟨pb, 0, none⟩), .int .u64 s.bd.hi, .int .u64 s.bd.lo, .int .u64 s.bd.bw, .int .i64 s.st, .int .u64 s.since, .int .u64 s.rounds, .pointer (some ⟨fb, 0, none⟩), .pointer (some ⟨rb, 0, none⟩), .pointer (some ⟨kb, 0, none⟩), .int .u64 s.acked, .int .u64 s.lost, .int .u64 s.cwnd, .int .u64 s.kept, .int .u64 s.ended] 82 (0, 0)) :: pip pb s.p :: fil fb s.f :: cyc rb s.r :: ctr kb s.k :: pts g (.cells #[.int .u64 now, .int .u64 sd, .int .u64 si, .int .u64 sr, .int .u64 rtt, .bool slim, .bool smp, .int .u64 deliv, .int .u64 acked, .int .u64 lost, .int .u64 fl] 87 (0, 0)) :: R) := HH.out.pn
 refine reg_s 0 HS ?_
 refine reg_s 1 HS ?_
 refine reg_s 2 HS ?_
 refine reg_s 3 HS ?_
 refine mixk_s 4 HS (fun _ hx => And.intro hx.cells hx.r6.cells) ?_
 refine reg_s 5 HS ?_
 refine reg_s 6 HS ?_
 refine reg_s 7 HS ?_
 refine mixk_s 8 HS (fun _ hx => And.intro hx.cells hx.r6.cells) ?_
 refine mixk_q (i := 9) rfl (by kernel_rfl) (fun _ _ _ _ h => h) HS (fun K hK => ?_)
 go_simp
 (first | refine hK _ ?_ | (apply Exists.intro; refine ⟨?_, hK _ ?_⟩; focus intro wx hx; first | (first | (go_at_call 115; refine (pipFull_c ε wx _ pb s.p hx.r2).mono ?_; rw [hpf.out]; rintro e wy ⟨rfl, hbel⟩; exact ⟨rfl, (by first | exact .same hbel | exact .drew hbel | exact .below hbel : Kp wx wy)⟩)) | (go_simp; first | rfl | exact ⟨rfl, rfl⟩) | rfl | exact ⟨rfl, rfl⟩)); clear hK K
 refine reg_s 10 HS ?_
 refine reg_s 11 HS ?_
 refine reg_s 12 HS ?_
 refine reg_s 13 HS ?_
 refine mixk_s 14 HS (fun _ hx => And.intro hx.cells hx.r6.cells) ?_
 refine reg_s 16 HS ?_
 refine mixk_s 17 HS (fun _ hx => And.intro hx.cells hx.r6.cells) ?_
 refine reg_s 18 HS ?_
 refine reg_s 20 HS ?_
 refine reg_s 21 HS ?_
 refine reg_s 22 HS ?_
 refine mixk_s 23 HS (fun _ hx => And.intro hx.cells hx.r6.cells) ?_
 refine reg_s 25 HS ?_
 refine reg_s 26 HS ?_
 refine reg_s 27 HS ?_
 refine reg_s 28 HS ?_
 refine mixk_s 29 HS (fun _ hx => And.intro hx.cells hx.r6.cells) ?_
 refine reg_s 30 HS ?_
 refine mixk_s 31 HS (fun _ hx => And.intro hx.cells hx.r6.cells) ?_
 refine reg_s 32 HS ?_
 refine reg_s 33 HS ?_
 refine reg_s 34 HS ?_
 refine reg_s 35 HS ?_
 refine mixk_s 36 HS (fun _ hx => And.intro hx.cells hx.r6.cells) ?_
 refine reg_s 39 HS ?_
 refine reg_s 40 HS ?_
 refine reg_s 41 HS ?_
 refine reg_s 42 HS ?_
 refine mixk_s 43 HS (fun _ hx => And.intro hx.cells hx.r6.cells) ?_
 refine reg_s 44 HS ?_
 refine reg_s 45 HS ?_
 refine reg_s 46 HS ?_
 refine mixk_s 47 HS (fun _ hx => And.intro hx.cells hx.r6.cells) ?_
 refine reg_s 49 HS ?_
 refine reg_s 50 HS ?_
 refine reg_s 51 HS ?_
 refine reg_s 52 HS ?_
 refine mixk_s 53 HS (fun _ hx => And.intro hx.cells hx.r6.cells) ?_
 refine reg_two none none (i := 15) (j := 37) rfl rfl (by kernel_rfl) (fun wn hk K hK => ?g1_) (fun wn hk K hK => ?g2_)
 case' g1_ =>
  replace HH := Lib.hid (hk _ _ HH.out)
  clear hk HS
  go_simp
  refine (engStale_c ε wn _ b pb fb rb kb s hs.out now hn.out (by first | exact HH.out | exact HH.out.l6)).mono ?_
  rw [hst.out]
  rintro e wm ⟨rfl, H9_⟩
  replace HH := Lib.hid H9_
  clear H9_
  have HS : Own _ wm (pts b (.cells #[.int .u64 s.c.mss, .int .u64 s.c.init, .int .u64 s.c.reorder, .int .u64 s.c.window, .int .u64 s.c.probe, .int .u64 s.c.loss, .pointer (some ⟨pb, 0, none⟩), .int .u64 s.bd.hi, .int .u64 s.bd.lo, .int .u64 s.bd.bw, .int .i64 s.st, .int .u64 s.since, .int .u64 s.rounds, .pointer (some ⟨fb, 0, none⟩), .pointer (some ⟨rb, 0, none⟩), .pointer (some ⟨kb, 0, none⟩), .int .u64 s.acked, .int .u64 s.lost, .int .u64 s.cwnd, .int .u64 s.kept, .int .u64 s.ended] 82 (0, 0)) :: pip pb s.p :: fil fb s.f :: cyc rb s.r :: ctr kb s.k :: pts g (.cells #[.int .u64 now, .int .u64 sd, .int .u64 si, .int .u64 sr, .int .u64 rtt, .bool slim, .bool smp, .int .u64 deliv, .int .u64 acked, .int .u64 lost, .int .u64 fl] 87 (0, 0)) :: R) := HH.out.pn
  refine hK _ _ (pts b (.cells #[.int .u64 s.c.mss, .int .u64 s.c.init, .int .u64 s.c.reorder, .int .u64 s.c.window, .int .u64 s.c.probe, .int .u64 s.c.loss, .pointer (some ⟨pb, 0, none⟩), .int .u64 s.bd.hi, .int .u64 s.bd.lo, .int .u64 s.bd.bw, .int .i64 s.st, .int .u64 s.since, .int .u64 s.rounds, .pointer (some ⟨fb, 0, none⟩), .pointer (some ⟨rb, 0, none⟩), .pointer (some ⟨kb, 0, none⟩), .int .u64 s.acked, .int .u64 s.lost, .int .u64 s.cwnd, .int .u64 s.kept, .int .u64 s.ended] 82 (0, 0)) :: pip pb s.p :: fil fb s.f :: cyc rb s.r :: ctr kb s.k :: pts g (.cells #[.int .u64 now, .int .u64 sd, .int .u64 si, .int .u64 sr, .int .u64 rtt, .bool slim, .bool smp, .int .u64 deliv, .int .u64 acked, .int .u64 lost, .int .u64 fl] 87 (0, 0)) :: R) HS (.inr ⟨rfl, fun _ h => h⟩) ?_
  clear hK K
  refine reg_two none none (i := 19) (j := 37) rfl rfl (by kernel_rfl) (fun wn hk K hK => ?g3_) (fun wn hk K hK => ?g4_)
  case' g3_ =>
   replace HH := Lib.hid (hk _ _ HH.out)
   clear hk HS
   go_simp
   refine (engHolds_c ε wn _ b pb fb rb kb s hs.out (by first | exact HH.out | exact HH.out.l6)).mono ?_
   rw [hhd.out]
   rintro e wm ⟨rfl, H9_⟩
   replace HH := Lib.hid H9_
   clear H9_
   have HS : Own _ wm (pts b (.cells #[.int .u64 s.c.mss, .int .u64 s.c.init, .int .u64 s.c.reorder, .int .u64 s.c.window, .int .u64 s.c.probe, .int .u64 s.c.loss, .pointer (some ⟨pb, 0, none⟩), .int .u64 s.bd.hi, .int .u64 s.bd.lo, .int .u64 s.bd.bw, .int .i64 s.st, .int .u64 s.since, .int .u64 s.rounds, .pointer (some ⟨fb, 0, none⟩), .pointer (some ⟨rb, 0, none⟩), .pointer (some ⟨kb, 0, none⟩), .int .u64 s.acked, .int .u64 s.lost, .int .u64 s.cwnd, .int .u64 s.kept, .int .u64 s.ended] 82 (0, 0)) :: pip pb s.p :: fil fb s.f :: cyc rb s.r :: ctr kb s.k :: pts g (.cells #[.int .u64 now, .int .u64 sd, .int .u64 si, .int .u64 sr, .int .u64 rtt, .bool slim, .bool smp, .int .u64 deliv, .int .u64 acked, .int .u64 lost, .int .u64 fl] 87 (0, 0)) :: R) := HH.out.pn
   refine hK _ _ (pts b (.cells #[.int .u64 s.c.mss, .int .u64 s.c.init, .int .u64 s.c.reorder, .int .u64 s.c.window, .int .u64 s.c.probe, .int .u64 s.c.loss, .pointer (some ⟨pb, 0, none⟩), .int .u64 s.bd.hi, .int .u64 s.bd.lo, .int .u64 s.bd.bw, .int .i64 s.st, .int .u64 s.since, .int .u64 s.rounds, .pointer (some ⟨fb, 0, none⟩), .pointer (some ⟨rb, 0, none⟩), .pointer (some ⟨kb, 0, none⟩), .int .u64 s.acked, .int .u64 s.lost, .int .u64 s.cwnd, .int .u64 s.kept, .int .u64 s.ended] 82 (0, 0)) :: pip pb s.p :: fil fb s.f :: cyc rb s.r :: ctr kb s.k :: pts g (.cells #[.int .u64 now, .int .u64 sd, .int .u64 si, .int .u64 sr, .int .u64 rtt, .bool slim, .bool smp, .int .u64 deliv, .int .u64 acked, .int .u64 lost, .int .u64 fl] 87 (0, 0)) :: R) HS (.inr ⟨rfl, fun _ h => h⟩) ?_
   clear hK K
   refine mixk_q (i := 24) rfl (by kernel_rfl) (fun _ _ _ _ h => h) HS (fun K hK => ?_)
   go_simp
   (first | refine hK _ ?_ | (apply Exists.intro; refine ⟨?_, hK _ ?_⟩; focus intro wx hx; first | (first | (go_at_call 117; refine (boundRoom_c wx s.bd hbd.out).mono ?_; rw [hrm.out]; rintro e wy ⟨rfl, hbel⟩; exact ⟨rfl, (by first | exact .same hbel | exact .drew hbel | exact .below hbel : Kp wx wy)⟩)) | (go_simp; first | rfl | exact ⟨rfl, rfl⟩) | rfl | exact ⟨rfl, rfl⟩)); clear hK K
   refine reg_l none (i := 37) rfl (by kernel_rfl) (fun wn hk K hK => ?_)
   replace HH := Lib.hid (hk _ _ HH.out)
   clear hk HS
   go_simp
   replace HH := Lib.hid (HH.out.alloc (.cells #[.int .u64 s.since] 22))
   generalize wn.alloc (.cells #[.int .u64 s.since] 22) = wm at *
   generalize wn.heap.size = sb at *
   have HS : Own _ wm (pts b (.cells #[.int .u64 s.c.mss, .int .u64 s.c.init, .int .u64 s.c.reorder, .int .u64 s.c.window, .int .u64 s.c.probe, .int .u64 s.c.loss, .pointer (some ⟨pb, 0, none⟩), .int .u64 s.bd.hi, .int .u64 s.bd.lo, .int .u64 s.bd.bw, .int .i64 s.st, .int .u64 s.since, .int .u64 s.rounds, .pointer (some ⟨fb, 0, none⟩), .pointer (some ⟨rb, 0, none⟩), .pointer (some ⟨kb, 0, none⟩), .int .u64 s.acked, .int .u64 s.lost, .int .u64 s.cwnd, .int .u64 s.kept, .int .u64 s.ended] 82 (0, 0)) :: pip pb s.p :: fil fb s.f :: cyc rb s.r :: ctr kb s.k :: pts g (.cells #[.int .u64 now, .int .u64 sd, .int .u64 si, .int .u64 sr, .int .u64 rtt, .bool slim, .bool smp, .int .u64 deliv, .int .u64 acked, .int .u64 lost, .int .u64 fl] 87 (0, 0)) :: R) := HH.out.pn
   refine hK _ _ (pts b (.cells #[.int .u64 s.c.mss, .int .u64 s.c.init, .int .u64 s.c.reorder, .int .u64 s.c.window, .int .u64 s.c.probe, .int .u64 s.c.loss, .pointer (some ⟨pb, 0, none⟩), .int .u64 s.bd.hi, .int .u64 s.bd.lo, .int .u64 s.bd.bw, .int .i64 s.st, .int .u64 s.since, .int .u64 s.rounds, .pointer (some ⟨fb, 0, none⟩), .pointer (some ⟨rb, 0, none⟩), .pointer (some ⟨kb, 0, none⟩), .int .u64 s.acked, .int .u64 s.lost, .int .u64 s.cwnd, .int .u64 s.kept, .int .u64 s.ended] 82 (0, 0)) :: pip pb s.p :: fil fb s.f :: cyc rb s.r :: ctr kb s.k :: pts g (.cells #[.int .u64 now, .int .u64 sd, .int .u64 si, .int .u64 sr, .int .u64 rtt, .bool slim, .bool smp, .int .u64 deliv, .int .u64 acked, .int .u64 lost, .int .u64 fl] 87 (0, 0)) :: R) HS (.inr ⟨rfl, fun _ h => h⟩) ?_
   clear hK K
   refine reg_l none (i := 38) rfl (by kernel_rfl) (fun wn hk K hK => ?_)
   replace HH := Lib.hid (hk _ _ HH.out)
   clear hk HS
   go_simp
   refine (fixSub_c wn now _ 1 1 [s.since] hn.out (rd1 hsi.out (by first | exact HH.out | exact HH.out.r6))).mono ?_
   rw [show sless now [s.since] = ssub now s.since from by first | rfl | decide]
   rw [hel.out]
   rintro e wm ⟨rfl, hbel⟩
   replace HH := Lib.hid ((by first | exact .same hbel | exact .drew hbel | exact .below hbel : Kp wn wm) _ _ HH.out)
   clear hbel
   have HS : Own _ wm (pts b (.cells #[.int .u64 s.c.mss, .int .u64 s.c.init, .int .u64 s.c.reorder, .int .u64 s.c.window, .int .u64 s.c.probe, .int .u64 s.c.loss, .pointer (some ⟨pb, 0, none⟩), .int .u64 s.bd.hi, .int .u64 s.bd.lo, .int .u64 s.bd.bw, .int .i64 s.st, .int .u64 s.since, .int .u64 s.rounds, .pointer (some ⟨fb, 0, none⟩), .pointer (some ⟨rb, 0, none⟩), .pointer (some ⟨kb, 0, none⟩), .int .u64 s.acked, .int .u64 s.lost, .int .u64 s.cwnd, .int .u64 s.kept, .int .u64 s.ended] 82 (0, 0)) :: pip pb s.p :: fil fb s.f :: cyc rb s.r :: ctr kb s.k :: pts g (.cells #[.int .u64 now, .int .u64 sd, .int .u64 si, .int .u64 sr, .int .u64 rtt, .bool slim, .bool smp, .int .u64 deliv, .int .u64 acked, .int .u64 lost, .int .u64 fl] 87 (0, 0)) :: R) := HH.out.pn
   refine hK _ _ (pts b (.cells #[.int .u64 s.c.mss, .int .u64 s.c.init, .int .u64 s.c.reorder, .int .u64 s.c.window, .int .u64 s.c.probe, .int .u64 s.c.loss, .pointer (some ⟨pb, 0, none⟩), .int .u64 s.bd.hi, .int .u64 s.bd.lo, .int .u64 s.bd.bw, .int .i64 s.st, .int .u64 s.since, .int .u64 s.rounds, .pointer (some ⟨fb, 0, none⟩), .pointer (some ⟨rb, 0, none⟩), .pointer (some ⟨kb, 0, none⟩), .int .u64 s.acked, .int .u64 s.lost, .int .u64 s.cwnd, .int .u64 s.kept, .int .u64 s.ended] 82 (0, 0)) :: pip pb s.p :: fil fb s.f :: cyc rb s.r :: ctr kb s.k :: pts g (.cells #[.int .u64 now, .int .u64 sd, .int .u64 si, .int .u64 sr, .int .u64 rtt, .bool slim, .bool smp, .int .u64 deliv, .int .u64 acked, .int .u64 lost, .int .u64 fl] 87 (0, 0)) :: R) HS (.inr ⟨rfl, fun _ h => h⟩) ?_
   clear hK K
   refine mixk_q (i := 48) rfl (by kernel_rfl) (fun _ _ _ _ h => h) HS (fun K hK => ?_)
   go_simp
   (first | refine hK _ ?_ | (apply Exists.intro; refine ⟨?_, hK _ ?_⟩; focus intro wx hx; first | (first | (go_at_call 119; refine (cycCount_c ε wx _ rb s.r hx.r4).mono ?_; rintro e wy ⟨rfl, hbel⟩; exact ⟨rfl, (by first | exact .same hbel | exact .drew hbel | exact .below hbel : Kp wx wy)⟩)) | (go_simp; first | rfl | exact ⟨rfl, rfl⟩) | rfl | exact ⟨rfl, rfl⟩)); clear hK K
   refine mixk_q (i := 54) rfl (by kernel_rfl) (fun _ _ _ _ h => h) HS (fun K hK => ?_)
   go_simp
   (first | refine hK _ ?_ | (apply Exists.intro; refine ⟨?_, hK _ ?_⟩; focus intro wx hx; first | (first | (go_at_call 118; refine (modeWaitB_c wx s.st s.r.n s.c.probe hrn.out).mono ?_; rw [hwt.out]; rintro e wy ⟨rfl, hbel⟩; exact ⟨rfl, (by first | exact .same hbel | exact .drew hbel | exact .below hbel : Kp wx wy)⟩)) | (go_simp; first | rfl | exact ⟨rfl, rfl⟩) | rfl | exact ⟨rfl, rfl⟩)); clear hK K
   refine reg_s 55 HS ?_
   refine mixk_q (i := 56) rfl (by kernel_rfl) (fun _ _ _ _ h => h) HS (fun K hK => ?_)
   go_simp
   (first | refine hK _ ?_ | (apply Exists.intro; refine ⟨?_, hK _ ?_⟩; focus intro wx hx; first | (first | (go_at_call 114; refine (modeNext_c wx s.st ⟨pf, ov, lz, st8, fl, hd, rm, s.rounds, el, wt⟩ hsg.out).mono ?_; rw [hnx.out]; rintro e wy ⟨rfl, hbel⟩; exact ⟨rfl, (by first | exact .same hbel | exact .drew hbel | exact .below hbel : Kp wx wy)⟩)) | (go_simp; first | rfl | exact ⟨rfl, rfl⟩) | rfl | exact ⟨rfl, rfl⟩)); clear hK K
   refine reg_s 57 HS ?_
   refine mixk_done (by kernel_rfl) (fun w2_ hk => ?_) _
   replace HH := Lib.hid (hk _ _ HH.out)
   clear hk
   replace HH := Lib.hid (HH.out.pn : Own _ _ (pts b (.cells #[.int .u64 s.c.mss, .int .u64 s.c.init, .int .u64 s.c.reorder, .int .u64 s.c.window, .int .u64 s.c.probe, .int .u64 s.c.loss, .pointer (some ⟨pb, 0, none⟩), .int .u64 s.bd.hi, .int .u64 s.bd.lo, .int .u64 s.bd.bw, .int .i64 s.st, .int .u64 s.since, .int .u64 s.rounds, .pointer (some ⟨fb, 0, none⟩), .pointer (some ⟨rb, 0, none⟩), .pointer (some ⟨kb, 0, none⟩), .int .u64 s.acked, .int .u64 s.lost, .int .u64 s.cwnd, .int .u64 s.kept, .int .u64 s.ended] 82 (0, 0)) :: pip pb s.p :: fil fb s.f :: cyc rb s.r :: ctr kb s.k :: pts g (.cells #[.int .u64 now, .int .u64 sd, .int .u64 si, .int .u64 sr, .int .u64 rtt, .bool slim, .bool smp, .int .u64 deliv, .int .u64 acked, .int .u64 lost, .int .u64 fl] 87 (0, 0)) :: R))
  case' g4_ =>
   replace HH := Lib.hid (hk _ _ HH.out)
   clear hk HS
   go_simp
   replace HH := Lib.hid (HH.out.alloc (.cells #[.int .u64 s.since] 22))
   generalize wn.alloc (.cells #[.int .u64 s.since] 22) = wm at *
   generalize wn.heap.size = sb at *
   have HS : Own _ wm (pts b (.cells #[.int .u64 s.c.mss, .int .u64 s.c.init, .int .u64 s.c.reorder, .int .u64 s.c.window, .int .u64 s.c.probe, .int .u64 s.c.loss, .pointer (some ⟨pb, 0, none⟩), .int .u64 s.bd.hi, .int .u64 s.bd.lo, .int .u64 s.bd.bw, .int .i64 s.st, .int .u64 s.since, .int .u64 s.rounds, .pointer (some ⟨fb, 0, none⟩), .pointer (some ⟨rb, 0, none⟩), .pointer (some ⟨kb, 0, none⟩), .int .u64 s.acked, .int .u64 s.lost, .int .u64 s.cwnd, .int .u64 s.kept, .int .u64 s.ended] 82 (0, 0)) :: pip pb s.p :: fil fb s.f :: cyc rb s.r :: ctr kb s.k :: pts g (.cells #[.int .u64 now, .int .u64 sd, .int .u64 si, .int .u64 sr, .int .u64 rtt, .bool slim, .bool smp, .int .u64 deliv, .int .u64 acked, .int .u64 lost, .int .u64 fl] 87 (0, 0)) :: R) := HH.out.pn
   refine hK _ _ (pts b (.cells #[.int .u64 s.c.mss, .int .u64 s.c.init, .int .u64 s.c.reorder, .int .u64 s.c.window, .int .u64 s.c.probe, .int .u64 s.c.loss, .pointer (some ⟨pb, 0, none⟩), .int .u64 s.bd.hi, .int .u64 s.bd.lo, .int .u64 s.bd.bw, .int .i64 s.st, .int .u64 s.since, .int .u64 s.rounds, .pointer (some ⟨fb, 0, none⟩), .pointer (some ⟨rb, 0, none⟩), .pointer (some ⟨kb, 0, none⟩), .int .u64 s.acked, .int .u64 s.lost, .int .u64 s.cwnd, .int .u64 s.kept, .int .u64 s.ended] 82 (0, 0)) :: pip pb s.p :: fil fb s.f :: cyc rb s.r :: ctr kb s.k :: pts g (.cells #[.int .u64 now, .int .u64 sd, .int .u64 si, .int .u64 sr, .int .u64 rtt, .bool slim, .bool smp, .int .u64 deliv, .int .u64 acked, .int .u64 lost, .int .u64 fl] 87 (0, 0)) :: R) HS (.inr ⟨rfl, fun _ h => h⟩) ?_
   clear hK K
   refine reg_l none (i := 19) rfl (by kernel_rfl) (fun wn hk K hK => ?_)
   replace HH := Lib.hid (hk _ _ HH.out)
   clear hk HS
   go_simp
   refine (engHolds_c ε wn _ b pb fb rb kb s hs.out (by first | exact HH.out | exact HH.out.l6)).mono ?_
   rw [hhd.out]
   rintro e wm ⟨rfl, H9_⟩
   replace HH := Lib.hid H9_
   clear H9_
   have HS : Own _ wm (pts b (.cells #[.int .u64 s.c.mss, .int .u64 s.c.init, .int .u64 s.c.reorder, .int .u64 s.c.window, .int .u64 s.c.probe, .int .u64 s.c.loss, .pointer (some ⟨pb, 0, none⟩), .int .u64 s.bd.hi, .int .u64 s.bd.lo, .int .u64 s.bd.bw, .int .i64 s.st, .int .u64 s.since, .int .u64 s.rounds, .pointer (some ⟨fb, 0, none⟩), .pointer (some ⟨rb, 0, none⟩), .pointer (some ⟨kb, 0, none⟩), .int .u64 s.acked, .int .u64 s.lost, .int .u64 s.cwnd, .int .u64 s.kept, .int .u64 s.ended] 82 (0, 0)) :: pip pb s.p :: fil fb s.f :: cyc rb s.r :: ctr kb s.k :: pts g (.cells #[.int .u64 now, .int .u64 sd, .int .u64 si, .int .u64 sr, .int .u64 rtt, .bool slim, .bool smp, .int .u64 deliv, .int .u64 acked, .int .u64 lost, .int .u64 fl] 87 (0, 0)) :: R) := HH.out.pn
   refine hK _ _ (pts b (.cells #[.int .u64 s.c.mss, .int .u64 s.c.init, .int .u64 s.c.reorder, .int .u64 s.c.window, .int .u64 s.c.probe, .int .u64 s.c.loss, .pointer (some ⟨pb, 0, none⟩), .int .u64 s.bd.hi, .int .u64 s.bd.lo, .int .u64 s.bd.bw, .int .i64 s.st, .int .u64 s.since, .int .u64 s.rounds, .pointer (some ⟨fb, 0, none⟩), .pointer (some ⟨rb, 0, none⟩), .pointer (some ⟨kb, 0, none⟩), .int .u64 s.acked, .int .u64 s.lost, .int .u64 s.cwnd, .int .u64 s.kept, .int .u64 s.ended] 82 (0, 0)) :: pip pb s.p :: fil fb s.f :: cyc rb s.r :: ctr kb s.k :: pts g (.cells #[.int .u64 now, .int .u64 sd, .int .u64 si, .int .u64 sr, .int .u64 rtt, .bool slim, .bool smp, .int .u64 deliv, .int .u64 acked, .int .u64 lost, .int .u64 fl] 87 (0, 0)) :: R) HS (.inr ⟨rfl, fun _ h => h⟩) ?_
   clear hK K
   refine mixk_q (i := 24) rfl (by kernel_rfl) (fun _ _ _ _ h => h) HS (fun K hK => ?_)
   go_simp
   (first | refine hK _ ?_ | (apply Exists.intro; refine ⟨?_, hK _ ?_⟩; focus intro wx hx; first | (first | (go_at_call 117; refine (boundRoom_c wx s.bd hbd.out).mono ?_; rw [hrm.out]; rintro e wy ⟨rfl, hbel⟩; exact ⟨rfl, (by first | exact .same hbel | exact .drew hbel | exact .below hbel : Kp wx wy)⟩)) | (go_simp; first | rfl | exact ⟨rfl, rfl⟩) | rfl | exact ⟨rfl, rfl⟩)); clear hK K
   refine reg_l none (i := 38) rfl (by kernel_rfl) (fun wn hk K hK => ?_)
   replace HH := Lib.hid (hk _ _ HH.out)
   clear hk HS
   go_simp
   refine (fixSub_c wn now _ 1 1 [s.since] hn.out (rd1 hsi.out (by first | exact HH.out | exact HH.out.r6))).mono ?_
   rw [show sless now [s.since] = ssub now s.since from by first | rfl | decide]
   rw [hel.out]
   rintro e wm ⟨rfl, hbel⟩
   replace HH := Lib.hid ((by first | exact .same hbel | exact .drew hbel | exact .below hbel : Kp wn wm) _ _ HH.out)
   clear hbel
   have HS : Own _ wm (pts b (.cells #[.int .u64 s.c.mss, .int .u64 s.c.init, .int .u64 s.c.reorder, .int .u64 s.c.window, .int .u64 s.c.probe, .int .u64 s.c.loss, .pointer (some ⟨pb, 0, none⟩), .int .u64 s.bd.hi, .int .u64 s.bd.lo, .int .u64 s.bd.bw, .int .i64 s.st, .int .u64 s.since, .int .u64 s.rounds, .pointer (some ⟨fb, 0, none⟩), .pointer (some ⟨rb, 0, none⟩), .pointer (some ⟨kb, 0, none⟩), .int .u64 s.acked, .int .u64 s.lost, .int .u64 s.cwnd, .int .u64 s.kept, .int .u64 s.ended] 82 (0, 0)) :: pip pb s.p :: fil fb s.f :: cyc rb s.r :: ctr kb s.k :: pts g (.cells #[.int .u64 now, .int .u64 sd, .int .u64 si, .int .u64 sr, .int .u64 rtt, .bool slim, .bool smp, .int .u64 deliv, .int .u64 acked, .int .u64 lost, .int .u64 fl] 87 (0, 0)) :: R) := HH.out.pn
   refine hK _ _ (pts b (.cells #[.int .u64 s.c.mss, .int .u64 s.c.init, .int .u64 s.c.reorder, .int .u64 s.c.window, .int .u64 s.c.probe, .int .u64 s.c.loss, .pointer (some ⟨pb, 0, none⟩), .int .u64 s.bd.hi, .int .u64 s.bd.lo, .int .u64 s.bd.bw, .int .i64 s.st, .int .u64 s.since, .int .u64 s.rounds, .pointer (some ⟨fb, 0, none⟩), .pointer (some ⟨rb, 0, none⟩), .pointer (some ⟨kb, 0, none⟩), .int .u64 s.acked, .int .u64 s.lost, .int .u64 s.cwnd, .int .u64 s.kept, .int .u64 s.ended] 82 (0, 0)) :: pip pb s.p :: fil fb s.f :: cyc rb s.r :: ctr kb s.k :: pts g (.cells #[.int .u64 now, .int .u64 sd, .int .u64 si, .int .u64 sr, .int .u64 rtt, .bool slim, .bool smp, .int .u64 deliv, .int .u64 acked, .int .u64 lost, .int .u64 fl] 87 (0, 0)) :: R) HS (.inr ⟨rfl, fun _ h => h⟩) ?_
   clear hK K
   refine mixk_q (i := 48) rfl (by kernel_rfl) (fun _ _ _ _ h => h) HS (fun K hK => ?_)
   go_simp
   (first | refine hK _ ?_ | (apply Exists.intro; refine ⟨?_, hK _ ?_⟩; focus intro wx hx; first | (first | (go_at_call 119; refine (cycCount_c ε wx _ rb s.r hx.r4).mono ?_; rintro e wy ⟨rfl, hbel⟩; exact ⟨rfl, (by first | exact .same hbel | exact .drew hbel | exact .below hbel : Kp wx wy)⟩)) | (go_simp; first | rfl | exact ⟨rfl, rfl⟩) | rfl | exact ⟨rfl, rfl⟩)); clear hK K
   refine mixk_q (i := 54) rfl (by kernel_rfl) (fun _ _ _ _ h => h) HS (fun K hK => ?_)
   go_simp
   (first | refine hK _ ?_ | (apply Exists.intro; refine ⟨?_, hK _ ?_⟩; focus intro wx hx; first | (first | (go_at_call 118; refine (modeWaitB_c wx s.st s.r.n s.c.probe hrn.out).mono ?_; rw [hwt.out]; rintro e wy ⟨rfl, hbel⟩; exact ⟨rfl, (by first | exact .same hbel | exact .drew hbel | exact .below hbel : Kp wx wy)⟩)) | (go_simp; first | rfl | exact ⟨rfl, rfl⟩) | rfl | exact ⟨rfl, rfl⟩)); clear hK K
   refine reg_s 55 HS ?_
   refine mixk_q (i := 56) rfl (by kernel_rfl) (fun _ _ _ _ h => h) HS (fun K hK => ?_)
   go_simp
   (first | refine hK _ ?_ | (apply Exists.intro; refine ⟨?_, hK _ ?_⟩; focus intro wx hx; first | (first | (go_at_call 114; refine (modeNext_c wx s.st ⟨pf, ov, lz, st8, fl, hd, rm, s.rounds, el, wt⟩ hsg.out).mono ?_; rw [hnx.out]; rintro e wy ⟨rfl, hbel⟩; exact ⟨rfl, (by first | exact .same hbel | exact .drew hbel | exact .below hbel : Kp wx wy)⟩)) | (go_simp; first | rfl | exact ⟨rfl, rfl⟩) | rfl | exact ⟨rfl, rfl⟩)); clear hK K
   refine reg_s 57 HS ?_
   refine mixk_done (by kernel_rfl) (fun w2_ hk => ?_) _
   replace HH := Lib.hid (hk _ _ HH.out)
   clear hk
   replace HH := Lib.hid (HH.out.pn : Own _ _ (pts b (.cells #[.int .u64 s.c.mss, .int .u64 s.c.init, .int .u64 s.c.reorder, .int .u64 s.c.window, .int .u64 s.c.probe, .int .u64 s.c.loss, .pointer (some ⟨pb, 0, none⟩), .int .u64 s.bd.hi, .int .u64 s.bd.lo, .int .u64 s.bd.bw, .int .i64 s.st, .int .u64 s.since, .int .u64 s.rounds, .pointer (some ⟨fb, 0, none⟩), .pointer (some ⟨rb, 0, none⟩), .pointer (some ⟨kb, 0, none⟩), .int .u64 s.acked, .int .u64 s.lost, .int .u64 s.cwnd, .int .u64 s.kept, .int .u64 s.ended] 82 (0, 0)) :: pip pb s.p :: fil fb s.f :: cyc rb s.r :: ctr kb s.k :: pts g (.cells #[.int .u64 now, .int .u64 sd, .int .u64 si, .int .u64 sr, .int .u64 rtt, .bool slim, .bool smp, .int .u64 deliv, .int .u64 acked, .int .u64 lost, .int .u64 fl] 87 (0, 0)) :: R))
 case' g2_ =>
  replace HH := Lib.hid (hk _ _ HH.out)
  clear hk HS
  go_simp
  replace HH := Lib.hid (HH.out.alloc (.cells #[.int .u64 s.since] 22))
  generalize wn.alloc (.cells #[.int .u64 s.since] 22) = wm at *
  generalize wn.heap.size = sb at *
  have HS : Own _ wm (pts b (.cells #[.int .u64 s.c.mss, .int .u64 s.c.init, .int .u64 s.c.reorder, .int .u64 s.c.window, .int .u64 s.c.probe, .int .u64 s.c.loss, .pointer (some ⟨pb, 0, none⟩), .int .u64 s.bd.hi, .int .u64 s.bd.lo, .int .u64 s.bd.bw, .int .i64 s.st, .int .u64 s.since, .int .u64 s.rounds, .pointer (some ⟨fb, 0, none⟩), .pointer (some ⟨rb, 0, none⟩), .pointer (some ⟨kb, 0, none⟩), .int .u64 s.acked, .int .u64 s.lost, .int .u64 s.cwnd, .int .u64 s.kept, .int .u64 s.ended] 82 (0, 0)) :: pip pb s.p :: fil fb s.f :: cyc rb s.r :: ctr kb s.k :: pts g (.cells #[.int .u64 now, .int .u64 sd, .int .u64 si, .int .u64 sr, .int .u64 rtt, .bool slim, .bool smp, .int .u64 deliv, .int .u64 acked, .int .u64 lost, .int .u64 fl] 87 (0, 0)) :: R) := HH.out.pn
  refine hK _ _ (pts b (.cells #[.int .u64 s.c.mss, .int .u64 s.c.init, .int .u64 s.c.reorder, .int .u64 s.c.window, .int .u64 s.c.probe, .int .u64 s.c.loss, .pointer (some ⟨pb, 0, none⟩), .int .u64 s.bd.hi, .int .u64 s.bd.lo, .int .u64 s.bd.bw, .int .i64 s.st, .int .u64 s.since, .int .u64 s.rounds, .pointer (some ⟨fb, 0, none⟩), .pointer (some ⟨rb, 0, none⟩), .pointer (some ⟨kb, 0, none⟩), .int .u64 s.acked, .int .u64 s.lost, .int .u64 s.cwnd, .int .u64 s.kept, .int .u64 s.ended] 82 (0, 0)) :: pip pb s.p :: fil fb s.f :: cyc rb s.r :: ctr kb s.k :: pts g (.cells #[.int .u64 now, .int .u64 sd, .int .u64 si, .int .u64 sr, .int .u64 rtt, .bool slim, .bool smp, .int .u64 deliv, .int .u64 acked, .int .u64 lost, .int .u64 fl] 87 (0, 0)) :: R) HS (.inr ⟨rfl, fun _ h => h⟩) ?_
  clear hK K
  refine reg_l none (i := 15) rfl (by kernel_rfl) (fun wn hk K hK => ?_)
  replace HH := Lib.hid (hk _ _ HH.out)
  clear hk HS
  go_simp
  refine (engStale_c ε wn _ b pb fb rb kb s hs.out now hn.out (by first | exact HH.out | exact HH.out.l6)).mono ?_
  rw [hst.out]
  rintro e wm ⟨rfl, H9_⟩
  replace HH := Lib.hid H9_
  clear H9_
  have HS : Own _ wm (pts b (.cells #[.int .u64 s.c.mss, .int .u64 s.c.init, .int .u64 s.c.reorder, .int .u64 s.c.window, .int .u64 s.c.probe, .int .u64 s.c.loss, .pointer (some ⟨pb, 0, none⟩), .int .u64 s.bd.hi, .int .u64 s.bd.lo, .int .u64 s.bd.bw, .int .i64 s.st, .int .u64 s.since, .int .u64 s.rounds, .pointer (some ⟨fb, 0, none⟩), .pointer (some ⟨rb, 0, none⟩), .pointer (some ⟨kb, 0, none⟩), .int .u64 s.acked, .int .u64 s.lost, .int .u64 s.cwnd, .int .u64 s.kept, .int .u64 s.ended] 82 (0, 0)) :: pip pb s.p :: fil fb s.f :: cyc rb s.r :: ctr kb s.k :: pts g (.cells #[.int .u64 now, .int .u64 sd, .int .u64 si, .int .u64 sr, .int .u64 rtt, .bool slim, .bool smp, .int .u64 deliv, .int .u64 acked, .int .u64 lost, .int .u64 fl] 87 (0, 0)) :: R) := HH.out.pn
  refine hK _ _ (pts b (.cells #[.int .u64 s.c.mss, .int .u64 s.c.init, .int .u64 s.c.reorder, .int .u64 s.c.window, .int .u64 s.c.probe, .int .u64 s.c.loss, .pointer (some ⟨pb, 0, none⟩), .int .u64 s.bd.hi, .int .u64 s.bd.lo, .int .u64 s.bd.bw, .int .i64 s.st, .int .u64 s.since, .int .u64 s.rounds, .pointer (some ⟨fb, 0, none⟩), .pointer (some ⟨rb, 0, none⟩), .pointer (some ⟨kb, 0, none⟩), .int .u64 s.acked, .int .u64 s.lost, .int .u64 s.cwnd, .int .u64 s.kept, .int .u64 s.ended] 82 (0, 0)) :: pip pb s.p :: fil fb s.f :: cyc rb s.r :: ctr kb s.k :: pts g (.cells #[.int .u64 now, .int .u64 sd, .int .u64 si, .int .u64 sr, .int .u64 rtt, .bool slim, .bool smp, .int .u64 deliv, .int .u64 acked, .int .u64 lost, .int .u64 fl] 87 (0, 0)) :: R) HS (.inr ⟨rfl, fun _ h => h⟩) ?_
  clear hK K
  refine reg_l none (i := 19) rfl (by kernel_rfl) (fun wn hk K hK => ?_)
  replace HH := Lib.hid (hk _ _ HH.out)
  clear hk HS
  go_simp
  refine (engHolds_c ε wn _ b pb fb rb kb s hs.out (by first | exact HH.out | exact HH.out.l6)).mono ?_
  rw [hhd.out]
  rintro e wm ⟨rfl, H9_⟩
  replace HH := Lib.hid H9_
  clear H9_
  have HS : Own _ wm (pts b (.cells #[.int .u64 s.c.mss, .int .u64 s.c.init, .int .u64 s.c.reorder, .int .u64 s.c.window, .int .u64 s.c.probe, .int .u64 s.c.loss, .pointer (some ⟨pb, 0, none⟩), .int .u64 s.bd.hi, .int .u64 s.bd.lo, .int .u64 s.bd.bw, .int .i64 s.st, .int .u64 s.since, .int .u64 s.rounds, .pointer (some ⟨fb, 0, none⟩), .pointer (some ⟨rb, 0, none⟩), .pointer (some ⟨kb, 0, none⟩), .int .u64 s.acked, .int .u64 s.lost, .int .u64 s.cwnd, .int .u64 s.kept, .int .u64 s.ended] 82 (0, 0)) :: pip pb s.p :: fil fb s.f :: cyc rb s.r :: ctr kb s.k :: pts g (.cells #[.int .u64 now, .int .u64 sd, .int .u64 si, .int .u64 sr, .int .u64 rtt, .bool slim, .bool smp, .int .u64 deliv, .int .u64 acked, .int .u64 lost, .int .u64 fl] 87 (0, 0)) :: R) := HH.out.pn
  refine hK _ _ (pts b (.cells #[.int .u64 s.c.mss, .int .u64 s.c.init, .int .u64 s.c.reorder, .int .u64 s.c.window, .int .u64 s.c.probe, .int .u64 s.c.loss, .pointer (some ⟨pb, 0, none⟩), .int .u64 s.bd.hi, .int .u64 s.bd.lo, .int .u64 s.bd.bw, .int .i64 s.st, .int .u64 s.since, .int .u64 s.rounds, .pointer (some ⟨fb, 0, none⟩), .pointer (some ⟨rb, 0, none⟩), .pointer (some ⟨kb, 0, none⟩), .int .u64 s.acked, .int .u64 s.lost, .int .u64 s.cwnd, .int .u64 s.kept, .int .u64 s.ended] 82 (0, 0)) :: pip pb s.p :: fil fb s.f :: cyc rb s.r :: ctr kb s.k :: pts g (.cells #[.int .u64 now, .int .u64 sd, .int .u64 si, .int .u64 sr, .int .u64 rtt, .bool slim, .bool smp, .int .u64 deliv, .int .u64 acked, .int .u64 lost, .int .u64 fl] 87 (0, 0)) :: R) HS (.inr ⟨rfl, fun _ h => h⟩) ?_
  clear hK K
  refine mixk_q (i := 24) rfl (by kernel_rfl) (fun _ _ _ _ h => h) HS (fun K hK => ?_)
  go_simp
  (first | refine hK _ ?_ | (apply Exists.intro; refine ⟨?_, hK _ ?_⟩; focus intro wx hx; first | (first | (go_at_call 117; refine (boundRoom_c wx s.bd hbd.out).mono ?_; rw [hrm.out]; rintro e wy ⟨rfl, hbel⟩; exact ⟨rfl, (by first | exact .same hbel | exact .drew hbel | exact .below hbel : Kp wx wy)⟩)) | (go_simp; first | rfl | exact ⟨rfl, rfl⟩) | rfl | exact ⟨rfl, rfl⟩)); clear hK K
  refine reg_l none (i := 38) rfl (by kernel_rfl) (fun wn hk K hK => ?_)
  replace HH := Lib.hid (hk _ _ HH.out)
  clear hk HS
  go_simp
  refine (fixSub_c wn now _ 1 1 [s.since] hn.out (rd1 hsi.out (by first | exact HH.out | exact HH.out.r6))).mono ?_
  rw [show sless now [s.since] = ssub now s.since from by first | rfl | decide]
  rw [hel.out]
  rintro e wm ⟨rfl, hbel⟩
  replace HH := Lib.hid ((by first | exact .same hbel | exact .drew hbel | exact .below hbel : Kp wn wm) _ _ HH.out)
  clear hbel
  have HS : Own _ wm (pts b (.cells #[.int .u64 s.c.mss, .int .u64 s.c.init, .int .u64 s.c.reorder, .int .u64 s.c.window, .int .u64 s.c.probe, .int .u64 s.c.loss, .pointer (some ⟨pb, 0, none⟩), .int .u64 s.bd.hi, .int .u64 s.bd.lo, .int .u64 s.bd.bw, .int .i64 s.st, .int .u64 s.since, .int .u64 s.rounds, .pointer (some ⟨fb, 0, none⟩), .pointer (some ⟨rb, 0, none⟩), .pointer (some ⟨kb, 0, none⟩), .int .u64 s.acked, .int .u64 s.lost, .int .u64 s.cwnd, .int .u64 s.kept, .int .u64 s.ended] 82 (0, 0)) :: pip pb s.p :: fil fb s.f :: cyc rb s.r :: ctr kb s.k :: pts g (.cells #[.int .u64 now, .int .u64 sd, .int .u64 si, .int .u64 sr, .int .u64 rtt, .bool slim, .bool smp, .int .u64 deliv, .int .u64 acked, .int .u64 lost, .int .u64 fl] 87 (0, 0)) :: R) := HH.out.pn
  refine hK _ _ (pts b (.cells #[.int .u64 s.c.mss, .int .u64 s.c.init, .int .u64 s.c.reorder, .int .u64 s.c.window, .int .u64 s.c.probe, .int .u64 s.c.loss, .pointer (some ⟨pb, 0, none⟩), .int .u64 s.bd.hi, .int .u64 s.bd.lo, .int .u64 s.bd.bw, .int .i64 s.st, .int .u64 s.since, .int .u64 s.rounds, .pointer (some ⟨fb, 0, none⟩), .pointer (some ⟨rb, 0, none⟩), .pointer (some ⟨kb, 0, none⟩), .int .u64 s.acked, .int .u64 s.lost, .int .u64 s.cwnd, .int .u64 s.kept, .int .u64 s.ended] 82 (0, 0)) :: pip pb s.p :: fil fb s.f :: cyc rb s.r :: ctr kb s.k :: pts g (.cells #[.int .u64 now, .int .u64 sd, .int .u64 si, .int .u64 sr, .int .u64 rtt, .bool slim, .bool smp, .int .u64 deliv, .int .u64 acked, .int .u64 lost, .int .u64 fl] 87 (0, 0)) :: R) HS (.inr ⟨rfl, fun _ h => h⟩) ?_
  clear hK K
  refine mixk_q (i := 48) rfl (by kernel_rfl) (fun _ _ _ _ h => h) HS (fun K hK => ?_)
  go_simp
  (first | refine hK _ ?_ | (apply Exists.intro; refine ⟨?_, hK _ ?_⟩; focus intro wx hx; first | (first | (go_at_call 119; refine (cycCount_c ε wx _ rb s.r hx.r4).mono ?_; rintro e wy ⟨rfl, hbel⟩; exact ⟨rfl, (by first | exact .same hbel | exact .drew hbel | exact .below hbel : Kp wx wy)⟩)) | (go_simp; first | rfl | exact ⟨rfl, rfl⟩) | rfl | exact ⟨rfl, rfl⟩)); clear hK K
  refine mixk_q (i := 54) rfl (by kernel_rfl) (fun _ _ _ _ h => h) HS (fun K hK => ?_)
  go_simp
  (first | refine hK _ ?_ | (apply Exists.intro; refine ⟨?_, hK _ ?_⟩; focus intro wx hx; first | (first | (go_at_call 118; refine (modeWaitB_c wx s.st s.r.n s.c.probe hrn.out).mono ?_; rw [hwt.out]; rintro e wy ⟨rfl, hbel⟩; exact ⟨rfl, (by first | exact .same hbel | exact .drew hbel | exact .below hbel : Kp wx wy)⟩)) | (go_simp; first | rfl | exact ⟨rfl, rfl⟩) | rfl | exact ⟨rfl, rfl⟩)); clear hK K
  refine reg_s 55 HS ?_
  refine mixk_q (i := 56) rfl (by kernel_rfl) (fun _ _ _ _ h => h) HS (fun K hK => ?_)
  go_simp
  (first | refine hK _ ?_ | (apply Exists.intro; refine ⟨?_, hK _ ?_⟩; focus intro wx hx; first | (first | (go_at_call 114; refine (modeNext_c wx s.st ⟨pf, ov, lz, st8, fl, hd, rm, s.rounds, el, wt⟩ hsg.out).mono ?_; rw [hnx.out]; rintro e wy ⟨rfl, hbel⟩; exact ⟨rfl, (by first | exact .same hbel | exact .drew hbel | exact .below hbel : Kp wx wy)⟩)) | (go_simp; first | rfl | exact ⟨rfl, rfl⟩) | rfl | exact ⟨rfl, rfl⟩)); clear hK K
  refine reg_s 57 HS ?_
  refine mixk_done (by kernel_rfl) (fun w2_ hk => ?_) _
  replace HH := Lib.hid (hk _ _ HH.out)
  clear hk
  replace HH := Lib.hid (HH.out.pn : Own _ _ (pts b (.cells #[.int .u64 s.c.mss, .int .u64 s.c.init, .int .u64 s.c.reorder, .int .u64 s.c.window, .int .u64 s.c.probe, .int .u64 s.c.loss, .pointer (some ⟨pb, 0, none⟩), .int .u64 s.bd.hi, .int .u64 s.bd.lo, .int .u64 s.bd.bw, .int .i64 s.st, .int .u64 s.since, .int .u64 s.rounds, .pointer (some ⟨fb, 0, none⟩), .pointer (some ⟨rb, 0, none⟩), .pointer (some ⟨kb, 0, none⟩), .int .u64 s.acked, .int .u64 s.lost, .int .u64 s.cwnd, .int .u64 s.kept, .int .u64 s.ended] 82 (0, 0)) :: pip pb s.p :: fil fb s.f :: cyc rb s.r :: ctr kb s.k :: pts g (.cells #[.int .u64 now, .int .u64 sd, .int .u64 si, .int .u64 sr, .int .u64 rtt, .bool slim, .bool smp, .int .u64 deliv, .int .u64 acked, .int .u64 lost, .int .u64 fl] 87 (0, 0)) :: R))
 all_goals
  by_cases hn : nx = s.st
  ·have bn : (nx == s.st) = true := by simpa using hn
   replace hn := Lib.hid hn
   (try clear cc1_); (try clear cc6_)
   have cc1_ := HH.out.cells
   have cc6_ := HH.out.r6.cells
   go_wp2_with fail
   first | go_end0 | ((try simp only [Exit.inBlock, Exit.then]); refine bodyPost_ret (results_none rfl _ _ _) rfl ?_)
   obtain rfl : tg = s := by rw [← htg.out, if_pos hn.out]
   exact ⟨rfl, HH.out.pn⟩
  ·have bn : (nx == s.st) = false := by simpa using hn
   replace hn := Lib.hid hn
   by_cases h6 : s.st = 6
   ·have b6 : (s.st == 6) = true := by simpa using h6
    replace h6 := Lib.hid h6
    (try clear cc1_); (try clear cc6_)
    have cc1_ := HH.out.cells
    have cc6_ := HH.out.r6.cells
    go_wp2_with fail
    go_wp2_with fail
    refine wp_region_reg (some 15) HH.out (by kernel_rfl) ?_
    intro wm H9_
    replace HH := Lib.hid H9_
    clear H9_
    refine reg_s 0 HH.out ?_
    refine reg_s 1 HH.out ?_
    refine reg_s 2 HH.out ?_
    refine mixk_s 3 HH.out (fun _ hx => And.intro hx.cells hx.r6.cells) ?_
    refine reg_s 4 HH.out ?_
    refine reg_s 5 HH.out ?_
    refine reg_s 6 HH.out ?_
    refine mixk_s 7 HH.out (fun _ hx => And.intro hx.cells hx.r6.cells) ?_
    refine reg_s 8 HH.out ?_
    refine reg_s 9 HH.out ?_
    refine reg_s 10 HH.out ?_
    refine mixk_s 11 HH.out (fun _ hx => And.intro hx.cells hx.r6.cells) ?_
    refine reg_s 12 HH.out ?_
    refine reg_s 13 HH.out ?_
    refine reg_s 14 HH.out ?_
    refine reg_l (some 18) (i := 15) rfl (by kernel_rfl) (fun wn hk K hK => ?_)
    replace HH := Lib.hid (hk _ _ HH.out)
    clear hk
    have hx := HH.out
    have x1_ := hx.cells
    have x6_ := hx.r6.cells
    go_simp
    replace HH := Lib.hid (HH.out.set 20 (.int .u64 now))
    simp only [List.setIfInBounds_toArray, List.set_cons_succ, List.set_cons_zero] at HH
    generalize wn.setCell ⟨b, 20, none⟩ (.int .u64 now) = wm at *
    clear hx x1_ x6_
    refine hK _ _ _ HH.out (.inl (by kernel_rfl)) ?_
    clear hK K
    refine reg_s 16 HH.out ?_
    refine reg_s 17 HH.out ?_
    refine reg_l none (i := 18) rfl (by kernel_rfl) (fun wn hk K hK => ?_)
    replace HH := Lib.hid (hk _ _ HH.out)
    clear hk
    have hx := HH.out
    have x1_ := hx.cells
    have x6_ := hx.r6.cells
    go_simp
    replace HH := Lib.hid (HH.out.set 18 (.int .u64 (max s.cwnd s.kept)))
    simp only [List.setIfInBounds_toArray, List.set_cons_succ, List.set_cons_zero] at HH
    generalize wn.setCell ⟨b, 18, none⟩ (.int .u64 (max s.cwnd s.kept)) = wm at *
    clear hx x1_ x6_
    refine hK _ _ _ HH.out (.inl (by kernel_rfl)) ?_
    clear hK K
    refine mixk_done (by kernel_rfl) (fun w3_ hk => ?_) _
    replace HH := Lib.hid (hk _ _ HH.out)
    clear hk
    replace HH := Lib.hid (HH.out.pn : Own _ _ (pts b (.cells #[.int .u64 s.c.mss, .int .u64 s.c.init, .int .u64 s.c.reorder, .int .u64 s.c.window, .int .u64 s.c.probe, .int .u64 s.c.loss, .pointer (some ⟨pb, 0, none⟩), .int .u64 s.bd.hi, .int .u64 s.bd.lo, .int .u64 s.bd.bw, .int .i64 s.st, .int .u64 s.since, .int .u64 s.rounds, .pointer (some ⟨fb, 0, none⟩), .pointer (some ⟨rb, 0, none⟩), .pointer (some ⟨kb, 0, none⟩), .int .u64 s.acked, .int .u64 s.lost, .int .u64 (max s.cwnd s.kept), .int .u64 s.kept, .int .u64 now] 82 (0, 0)) :: pip pb s.p :: fil fb s.f :: cyc rb s.r :: ctr kb s.k :: pts g (.cells #[.int .u64 now, .int .u64 sd, .int .u64 si, .int .u64 sr, .int .u64 rtt, .bool slim, .bool smp, .int .u64 deliv, .int .u64 acked, .int .u64 lost, .int .u64 fl] 87 (0, 0)) :: R))
    by_cases h4 : nx = 4
    ·have b4 : (nx == 4) = true := by simpa using h4
     replace h4 := Lib.hid h4
     (try clear cc1_); (try clear cc6_)
     have cc1_ := HH.out.cells
     have cc6_ := HH.out.r6.cells
     go_wp2_with fail
     refine (boundShort_c _ s.bd).mono ?_
     rintro e w4_ ⟨rfl, hbel⟩
     replace HH := Lib.hid ((by first | exact .same hbel | exact .drew hbel | exact .below hbel : Kp _ w4_) _ _ (by first | exact HH.out | exact HH.out.drewN _ | exact (HH.out.alloc _).tail | exact ((HH.out.alloc _).drewN _).tail | exact ((HH.out.alloc _).alloc _).tail.tail))
     clear hbel
     go_wp2_with (with_reducible refine stop_st ?_)
     refine Stop.go ?_
     refine wpList_storek_own (k := 7) (#[.int .u64 s.bd.short.hi, .int .u64 s.bd.short.lo, .int .u64 s.bd.short.bw]) rfl rfl HH.out (by kernel_rfl) (by simp) (by repeat (first | (refine List.forall_mem_cons.2 ⟨(by first | with_reducible assumption | rfl), ?_⟩) | exact fun _ h => absurd h List.not_mem_nil)) ?_
     intro w5_ H9_
     replace HH := Lib.hid (show Own _ _ ((pts b (.cells #[.int .u64 s.c.mss, .int .u64 s.c.init, .int .u64 s.c.reorder, .int .u64 s.c.window, .int .u64 s.c.probe, .int .u64 s.c.loss, .pointer (some ⟨pb, 0, none⟩), .int .u64 s.bd.short.hi, .int .u64 s.bd.short.lo, .int .u64 s.bd.short.bw, .int .i64 s.st, .int .u64 s.since, .int .u64 s.rounds, .pointer (some ⟨fb, 0, none⟩), .pointer (some ⟨rb, 0, none⟩), .pointer (some ⟨kb, 0, none⟩), .int .u64 s.acked, .int .u64 s.lost, .int .u64 (max s.cwnd s.kept), .int .u64 s.kept, .int .u64 now] 82 (0, 0)) :: pip pb s.p :: fil fb s.f :: cyc rb s.r :: ctr kb s.k :: pts g (.cells #[.int .u64 now, .int .u64 sd, .int .u64 si, .int .u64 sr, .int .u64 rtt, .bool slim, .bool smp, .int .u64 deliv, .int .u64 acked, .int .u64 lost, .int .u64 fl] 87 (0, 0)) :: R)) from H9_)
     clear H9_
     (try clear cc1_); (try clear cc6_)
     have cc1_ := HH.out.cells
     have cc6_ := HH.out.r6.cells
     go_wp2_with (with_reducible refine stop_st ?_)
     refine Stop.go ?_
     refine wpList_storek_own (k := 10) (#[.int .i64 nx, .int .u64 now, .int .u64 0]) rfl rfl HH.out (by kernel_rfl) (by simp) (by repeat (first | (refine List.forall_mem_cons.2 ⟨(by first | with_reducible assumption | rfl), ?_⟩) | exact fun _ h => absurd h List.not_mem_nil)) ?_
     intro w6_ H9_
     replace HH := Lib.hid (show Own _ _ ((pts b (.cells #[.int .u64 s.c.mss, .int .u64 s.c.init, .int .u64 s.c.reorder, .int .u64 s.c.window, .int .u64 s.c.probe, .int .u64 s.c.loss, .pointer (some ⟨pb, 0, none⟩), .int .u64 s.bd.short.hi, .int .u64 s.bd.short.lo, .int .u64 s.bd.short.bw, .int .i64 nx, .int .u64 now, .int .u64 0, .pointer (some ⟨fb, 0, none⟩), .pointer (some ⟨rb, 0, none⟩), .pointer (some ⟨kb, 0, none⟩), .int .u64 s.acked, .int .u64 s.lost, .int .u64 (max s.cwnd s.kept), .int .u64 s.kept, .int .u64 now] 82 (0, 0)) :: pip pb s.p :: fil fb s.f :: cyc rb s.r :: ctr kb s.k :: pts g (.cells #[.int .u64 now, .int .u64 sd, .int .u64 si, .int .u64 sr, .int .u64 rtt, .bool slim, .bool smp, .int .u64 deliv, .int .u64 acked, .int .u64 lost, .int .u64 fl] 87 (0, 0)) :: R)) from H9_)
     clear H9_
     go_wp2_with fail
     first | go_end0 | ((try simp only [Exit.inBlock, Exit.then]); refine bodyPost_ret (results_none rfl _ _ _) rfl ?_)
     obtain rfl : tg = { s with ended := now, cwnd := (max s.cwnd s.kept), bd := s.bd.short, st := nx, since := now, rounds := 0 } := by have := h6.out; have := h4.out; rw [← htg.out, if_neg hn.out]; simp [Eng.leave, Eng.enter, Eng.comes, *]
     exact ⟨rfl, (HH.out.pn : Own ε _ (pts b (.cells #[.int .u64 s.c.mss, .int .u64 s.c.init, .int .u64 s.c.reorder, .int .u64 s.c.window, .int .u64 s.c.probe, .int .u64 s.c.loss, .pointer (some ⟨pb, 0, none⟩), .int .u64 s.bd.short.hi, .int .u64 s.bd.short.lo, .int .u64 s.bd.short.bw, .int .i64 nx, .int .u64 now, .int .u64 0, .pointer (some ⟨fb, 0, none⟩), .pointer (some ⟨rb, 0, none⟩), .pointer (some ⟨kb, 0, none⟩), .int .u64 s.acked, .int .u64 s.lost, .int .u64 (max s.cwnd s.kept), .int .u64 s.kept, .int .u64 now] 82 (0, 0)) :: pip pb s.p :: fil fb s.f :: cyc rb s.r :: ctr kb s.k :: R))⟩
    ·have b4 : (nx == 4) = false := by simpa using h4
     replace h4 := Lib.hid h4
     have hk : ¬ nx = 6 := fun h => hn.out (h.trans h6.out.symm)
     have bk : (nx == 6) = false := by simpa using hk
     replace hk := Lib.hid hk
     (try clear cc1_); (try clear cc6_)
     have cc1_ := HH.out.cells
     have cc6_ := HH.out.r6.cells
     go_wp2_with (with_reducible refine stop_st ?_)
     refine Stop.go ?_
     refine wpList_storek_own (k := 10) (#[.int .i64 nx, .int .u64 now, .int .u64 0]) rfl rfl HH.out (by kernel_rfl) (by simp) (by repeat (first | (refine List.forall_mem_cons.2 ⟨(by first | with_reducible assumption | rfl), ?_⟩) | exact fun _ h => absurd h List.not_mem_nil)) ?_
     intro w7_ H9_
     replace HH := Lib.hid (show Own _ _ ((pts b (.cells #[.int .u64 s.c.mss, .int .u64 s.c.init, .int .u64 s.c.reorder, .int .u64 s.c.window, .int .u64 s.c.probe, .int .u64 s.c.loss, .pointer (some ⟨pb, 0, none⟩), .int .u64 s.bd.hi, .int .u64 s.bd.lo, .int .u64 s.bd.bw, .int .i64 nx, .int .u64 now, .int .u64 0, .pointer (some ⟨fb, 0, none⟩), .pointer (some ⟨rb, 0, none⟩), .pointer (some ⟨kb, 0, none⟩), .int .u64 s.acked, .int .u64 s.lost, .int .u64 (max s.cwnd s.kept), .int .u64 s.kept, .int .u64 now] 82 (0, 0)) :: pip pb s.p :: fil fb s.f :: cyc rb s.r :: ctr kb s.k :: pts g (.cells #[.int .u64 now, .int .u64 sd, .int .u64 si, .int .u64 sr, .int .u64 rtt, .bool slim, .bool smp, .int .u64 deliv, .int .u64 acked, .int .u64 lost, .int .u64 fl] 87 (0, 0)) :: R)) from H9_)
     clear H9_
     go_wp2_with fail
     first | go_end0 | ((try simp only [Exit.inBlock, Exit.then]); refine bodyPost_ret (results_none rfl _ _ _) rfl ?_)
     obtain rfl : tg = { s with ended := now, cwnd := (max s.cwnd s.kept), st := nx, since := now, rounds := 0 } := by have := h6.out; have := h4.out; have := hk.out; rw [← htg.out, if_neg hn.out]; simp [Eng.leave, Eng.enter, Eng.comes, *]
     exact ⟨rfl, (HH.out.pn : Own ε _ (pts b (.cells #[.int .u64 s.c.mss, .int .u64 s.c.init, .int .u64 s.c.reorder, .int .u64 s.c.window, .int .u64 s.c.probe, .int .u64 s.c.loss, .pointer (some ⟨pb, 0, none⟩), .int .u64 s.bd.hi, .int .u64 s.bd.lo, .int .u64 s.bd.bw, .int .i64 nx, .int .u64 now, .int .u64 0, .pointer (some ⟨fb, 0, none⟩), .pointer (some ⟨rb, 0, none⟩), .pointer (some ⟨kb, 0, none⟩), .int .u64 s.acked, .int .u64 s.lost, .int .u64 (max s.cwnd s.kept), .int .u64 s.kept, .int .u64 now] 82 (0, 0)) :: pip pb s.p :: fil fb s.f :: cyc rb s.r :: ctr kb s.k :: R))⟩
   ·have b6 : (s.st == 6) = false := by simpa using h6
    replace h6 := Lib.hid h6
    by_cases h5 : s.st = 5
    ·have b5 : (s.st == 5) = true := by simpa using h5
     replace h5 := Lib.hid h5
     by_cases h2 : nx = 2
     ·have b2 : (nx == 2) = true := by simpa using h2
      replace h2 := Lib.hid h2
      (try clear cc1_); (try clear cc6_)
      have cc1_ := HH.out.cells
      have cc6_ := HH.out.r6.cells
      go_wp2_with fail
      refine (cycNext_c ε _ _ rb s.r HH.out.r4).mono ?_
      rintro e w8_ ⟨rfl, H9_⟩
      replace HH := Lib.hid H9_
      clear H9_
      replace HH := Lib.hid (HH.out.pn : Own ε _ (pts b (.cells #[.int .u64 s.c.mss, .int .u64 s.c.init, .int .u64 s.c.reorder, .int .u64 s.c.window, .int .u64 s.c.probe, .int .u64 s.c.loss, .pointer (some ⟨pb, 0, none⟩), .int .u64 s.bd.hi, .int .u64 s.bd.lo, .int .u64 s.bd.bw, .int .i64 s.st, .int .u64 s.since, .int .u64 s.rounds, .pointer (some ⟨fb, 0, none⟩), .pointer (some ⟨rb, 0, none⟩), .pointer (some ⟨kb, 0, none⟩), .int .u64 s.acked, .int .u64 s.lost, .int .u64 s.cwnd, .int .u64 s.kept, .int .u64 s.ended] 82 (0, 0)) :: pip pb s.p :: fil fb s.f :: cyc rb s.r.next :: ctr kb s.k :: pts g (.cells #[.int .u64 now, .int .u64 sd, .int .u64 si, .int .u64 sr, .int .u64 rtt, .bool slim, .bool smp, .int .u64 deliv, .int .u64 acked, .int .u64 lost, .int .u64 fl] 87 (0, 0)) :: R))
      have h4 : ¬ nx = 4 := fun h => absurd (h.symm.trans h2.out) (by decide)
      have b4 : (nx == 4) = false := by simpa using h4
      replace h4 := Lib.hid h4
      have hk : ¬ nx = 6 := fun h => absurd (h.symm.trans h2.out) (by decide)
      have bk : (nx == 6) = false := by simpa using hk
      replace hk := Lib.hid hk
      (try clear cc1_); (try clear cc6_)
      have cc1_ := HH.out.cells
      have cc6_ := HH.out.r6.cells
      go_wp2_with (with_reducible refine stop_st ?_)
      refine Stop.go ?_
      refine wpList_storek_own (k := 10) (#[.int .i64 nx, .int .u64 now, .int .u64 0]) rfl rfl HH.out (by kernel_rfl) (by simp) (by repeat (first | (refine List.forall_mem_cons.2 ⟨(by first | with_reducible assumption | rfl), ?_⟩) | exact fun _ h => absurd h List.not_mem_nil)) ?_
      intro w9_ H9_
      replace HH := Lib.hid (show Own _ _ ((pts b (.cells #[.int .u64 s.c.mss, .int .u64 s.c.init, .int .u64 s.c.reorder, .int .u64 s.c.window, .int .u64 s.c.probe, .int .u64 s.c.loss, .pointer (some ⟨pb, 0, none⟩), .int .u64 s.bd.hi, .int .u64 s.bd.lo, .int .u64 s.bd.bw, .int .i64 nx, .int .u64 now, .int .u64 0, .pointer (some ⟨fb, 0, none⟩), .pointer (some ⟨rb, 0, none⟩), .pointer (some ⟨kb, 0, none⟩), .int .u64 s.acked, .int .u64 s.lost, .int .u64 s.cwnd, .int .u64 s.kept, .int .u64 s.ended] 82 (0, 0)) :: pip pb s.p :: fil fb s.f :: cyc rb s.r.next :: ctr kb s.k :: pts g (.cells #[.int .u64 now, .int .u64 sd, .int .u64 si, .int .u64 sr, .int .u64 rtt, .bool slim, .bool smp, .int .u64 deliv, .int .u64 acked, .int .u64 lost, .int .u64 fl] 87 (0, 0)) :: R)) from H9_)
      clear H9_
      go_wp2_with fail
      first | go_end0 | ((try simp only [Exit.inBlock, Exit.then]); refine bodyPost_ret (results_none rfl _ _ _) rfl ?_)
      obtain rfl : tg = { s with r := s.r.next, st := nx, since := now, rounds := 0 } := by have := h6.out; have := h5.out; have := h2.out; have := h4.out; have := hk.out; rw [← htg.out, if_neg hn.out]; simp [Eng.leave, Eng.enter, Eng.comes, *]
      exact ⟨rfl, (HH.out.pn : Own ε _ (pts b (.cells #[.int .u64 s.c.mss, .int .u64 s.c.init, .int .u64 s.c.reorder, .int .u64 s.c.window, .int .u64 s.c.probe, .int .u64 s.c.loss, .pointer (some ⟨pb, 0, none⟩), .int .u64 s.bd.hi, .int .u64 s.bd.lo, .int .u64 s.bd.bw, .int .i64 nx, .int .u64 now, .int .u64 0, .pointer (some ⟨fb, 0, none⟩), .pointer (some ⟨rb, 0, none⟩), .pointer (some ⟨kb, 0, none⟩), .int .u64 s.acked, .int .u64 s.lost, .int .u64 s.cwnd, .int .u64 s.kept, .int .u64 s.ended] 82 (0, 0)) :: pip pb s.p :: fil fb s.f :: cyc rb s.r.next :: ctr kb s.k :: R))⟩
     ·have b2 : (nx == 2) = false := by simpa using h2
      replace h2 := Lib.hid h2
      by_cases h4 : nx = 4
      ·have b4 : (nx == 4) = true := by simpa using h4
       replace h4 := Lib.hid h4
       (try clear cc1_); (try clear cc6_)
       have cc1_ := HH.out.cells
       have cc6_ := HH.out.r6.cells
       go_wp2_with fail
       refine (boundShort_c _ s.bd).mono ?_
       rintro e w10_ ⟨rfl, hbel⟩
       replace HH := Lib.hid ((by first | exact .same hbel | exact .drew hbel | exact .below hbel : Kp _ w10_) _ _ (by first | exact HH.out | exact HH.out.drewN _ | exact (HH.out.alloc _).tail | exact ((HH.out.alloc _).drewN _).tail | exact ((HH.out.alloc _).alloc _).tail.tail))
       clear hbel
       go_wp2_with (with_reducible refine stop_st ?_)
       refine Stop.go ?_
       refine wpList_storek_own (k := 7) (#[.int .u64 s.bd.short.hi, .int .u64 s.bd.short.lo, .int .u64 s.bd.short.bw]) rfl rfl HH.out (by kernel_rfl) (by simp) (by repeat (first | (refine List.forall_mem_cons.2 ⟨(by first | with_reducible assumption | rfl), ?_⟩) | exact fun _ h => absurd h List.not_mem_nil)) ?_
       intro w11_ H9_
       replace HH := Lib.hid (show Own _ _ ((pts b (.cells #[.int .u64 s.c.mss, .int .u64 s.c.init, .int .u64 s.c.reorder, .int .u64 s.c.window, .int .u64 s.c.probe, .int .u64 s.c.loss, .pointer (some ⟨pb, 0, none⟩), .int .u64 s.bd.short.hi, .int .u64 s.bd.short.lo, .int .u64 s.bd.short.bw, .int .i64 s.st, .int .u64 s.since, .int .u64 s.rounds, .pointer (some ⟨fb, 0, none⟩), .pointer (some ⟨rb, 0, none⟩), .pointer (some ⟨kb, 0, none⟩), .int .u64 s.acked, .int .u64 s.lost, .int .u64 s.cwnd, .int .u64 s.kept, .int .u64 s.ended] 82 (0, 0)) :: pip pb s.p :: fil fb s.f :: cyc rb s.r :: ctr kb s.k :: pts g (.cells #[.int .u64 now, .int .u64 sd, .int .u64 si, .int .u64 sr, .int .u64 rtt, .bool slim, .bool smp, .int .u64 deliv, .int .u64 acked, .int .u64 lost, .int .u64 fl] 87 (0, 0)) :: R)) from H9_)
       clear H9_
       (try clear cc1_); (try clear cc6_)
       have cc1_ := HH.out.cells
       have cc6_ := HH.out.r6.cells
       go_wp2_with (with_reducible refine stop_st ?_)
       refine Stop.go ?_
       refine wpList_storek_own (k := 10) (#[.int .i64 nx, .int .u64 now, .int .u64 0]) rfl rfl HH.out (by kernel_rfl) (by simp) (by repeat (first | (refine List.forall_mem_cons.2 ⟨(by first | with_reducible assumption | rfl), ?_⟩) | exact fun _ h => absurd h List.not_mem_nil)) ?_
       intro w12_ H9_
       replace HH := Lib.hid (show Own _ _ ((pts b (.cells #[.int .u64 s.c.mss, .int .u64 s.c.init, .int .u64 s.c.reorder, .int .u64 s.c.window, .int .u64 s.c.probe, .int .u64 s.c.loss, .pointer (some ⟨pb, 0, none⟩), .int .u64 s.bd.short.hi, .int .u64 s.bd.short.lo, .int .u64 s.bd.short.bw, .int .i64 nx, .int .u64 now, .int .u64 0, .pointer (some ⟨fb, 0, none⟩), .pointer (some ⟨rb, 0, none⟩), .pointer (some ⟨kb, 0, none⟩), .int .u64 s.acked, .int .u64 s.lost, .int .u64 s.cwnd, .int .u64 s.kept, .int .u64 s.ended] 82 (0, 0)) :: pip pb s.p :: fil fb s.f :: cyc rb s.r :: ctr kb s.k :: pts g (.cells #[.int .u64 now, .int .u64 sd, .int .u64 si, .int .u64 sr, .int .u64 rtt, .bool slim, .bool smp, .int .u64 deliv, .int .u64 acked, .int .u64 lost, .int .u64 fl] 87 (0, 0)) :: R)) from H9_)
       clear H9_
       go_wp2_with fail
       first | go_end0 | ((try simp only [Exit.inBlock, Exit.then]); refine bodyPost_ret (results_none rfl _ _ _) rfl ?_)
       obtain rfl : tg = { s with bd := s.bd.short, st := nx, since := now, rounds := 0 } := by have := h6.out; have := h5.out; have := h2.out; have := h4.out; rw [← htg.out, if_neg hn.out]; simp [Eng.leave, Eng.enter, Eng.comes, *]
       exact ⟨rfl, (HH.out.pn : Own ε _ (pts b (.cells #[.int .u64 s.c.mss, .int .u64 s.c.init, .int .u64 s.c.reorder, .int .u64 s.c.window, .int .u64 s.c.probe, .int .u64 s.c.loss, .pointer (some ⟨pb, 0, none⟩), .int .u64 s.bd.short.hi, .int .u64 s.bd.short.lo, .int .u64 s.bd.short.bw, .int .i64 nx, .int .u64 now, .int .u64 0, .pointer (some ⟨fb, 0, none⟩), .pointer (some ⟨rb, 0, none⟩), .pointer (some ⟨kb, 0, none⟩), .int .u64 s.acked, .int .u64 s.lost, .int .u64 s.cwnd, .int .u64 s.kept, .int .u64 s.ended] 82 (0, 0)) :: pip pb s.p :: fil fb s.f :: cyc rb s.r :: ctr kb s.k :: R))⟩
      ·have b4 : (nx == 4) = false := by simpa using h4
       replace h4 := Lib.hid h4
       by_cases hk : nx = 6
       ·have bk : (nx == 6) = true := by simpa using hk
        replace hk := Lib.hid hk
        (try clear cc1_); (try clear cc6_)
        have cc1_ := HH.out.cells
        have cc6_ := HH.out.r6.cells
        go_wp2_with (with_reducible refine stop_st ?_)
        refine Stop.go ?_
        refine wpList_store1_own (v := .int .u64 (s.cwnd)) (k := 19) rfl rfl HH.out (by kernel_rfl) (by simp) (by first | rfl | assumption) ?_
        intro w13_ H9_
        replace HH := Lib.hid H9_
        clear H9_
        simp only [List.setIfInBounds_toArray, List.set_cons_succ, List.set_cons_zero] at HH
        (try clear cc1_); (try clear cc6_)
        have cc1_ := HH.out.cells
        have cc6_ := HH.out.r6.cells
        go_wp2_with (with_reducible refine stop_st ?_)
        refine Stop.go ?_
        refine wpList_storek_own (k := 10) (#[.int .i64 nx, .int .u64 now, .int .u64 0]) rfl rfl HH.out (by kernel_rfl) (by simp) (by repeat (first | (refine List.forall_mem_cons.2 ⟨(by first | with_reducible assumption | rfl), ?_⟩) | exact fun _ h => absurd h List.not_mem_nil)) ?_
        intro w14_ H9_
        replace HH := Lib.hid (show Own _ _ ((pts b (.cells #[.int .u64 s.c.mss, .int .u64 s.c.init, .int .u64 s.c.reorder, .int .u64 s.c.window, .int .u64 s.c.probe, .int .u64 s.c.loss, .pointer (some ⟨pb, 0, none⟩), .int .u64 s.bd.hi, .int .u64 s.bd.lo, .int .u64 s.bd.bw, .int .i64 nx, .int .u64 now, .int .u64 0, .pointer (some ⟨fb, 0, none⟩), .pointer (some ⟨rb, 0, none⟩), .pointer (some ⟨kb, 0, none⟩), .int .u64 s.acked, .int .u64 s.lost, .int .u64 s.cwnd, .int .u64 s.cwnd, .int .u64 s.ended] 82 (0, 0)) :: pip pb s.p :: fil fb s.f :: cyc rb s.r :: ctr kb s.k :: pts g (.cells #[.int .u64 now, .int .u64 sd, .int .u64 si, .int .u64 sr, .int .u64 rtt, .bool slim, .bool smp, .int .u64 deliv, .int .u64 acked, .int .u64 lost, .int .u64 fl] 87 (0, 0)) :: R)) from H9_)
        clear H9_
        go_wp2_with fail
        first | go_end0 | ((try simp only [Exit.inBlock, Exit.then]); refine bodyPost_ret (results_none rfl _ _ _) rfl ?_)
        obtain rfl : tg = { s with kept := s.cwnd, st := nx, since := now, rounds := 0 } := by have := h6.out; have := h5.out; have := h2.out; have := h4.out; have := hk.out; rw [← htg.out, if_neg hn.out]; simp [Eng.leave, Eng.enter, Eng.comes, *]
        exact ⟨rfl, (HH.out.pn : Own ε _ (pts b (.cells #[.int .u64 s.c.mss, .int .u64 s.c.init, .int .u64 s.c.reorder, .int .u64 s.c.window, .int .u64 s.c.probe, .int .u64 s.c.loss, .pointer (some ⟨pb, 0, none⟩), .int .u64 s.bd.hi, .int .u64 s.bd.lo, .int .u64 s.bd.bw, .int .i64 nx, .int .u64 now, .int .u64 0, .pointer (some ⟨fb, 0, none⟩), .pointer (some ⟨rb, 0, none⟩), .pointer (some ⟨kb, 0, none⟩), .int .u64 s.acked, .int .u64 s.lost, .int .u64 s.cwnd, .int .u64 s.cwnd, .int .u64 s.ended] 82 (0, 0)) :: pip pb s.p :: fil fb s.f :: cyc rb s.r :: ctr kb s.k :: R))⟩
       ·have bk : (nx == 6) = false := by simpa using hk
        replace hk := Lib.hid hk
        (try clear cc1_); (try clear cc6_)
        have cc1_ := HH.out.cells
        have cc6_ := HH.out.r6.cells
        go_wp2_with (with_reducible refine stop_st ?_)
        refine Stop.go ?_
        refine wpList_storek_own (k := 10) (#[.int .i64 nx, .int .u64 now, .int .u64 0]) rfl rfl HH.out (by kernel_rfl) (by simp) (by repeat (first | (refine List.forall_mem_cons.2 ⟨(by first | with_reducible assumption | rfl), ?_⟩) | exact fun _ h => absurd h List.not_mem_nil)) ?_
        intro w15_ H9_
        replace HH := Lib.hid (show Own _ _ ((pts b (.cells #[.int .u64 s.c.mss, .int .u64 s.c.init, .int .u64 s.c.reorder, .int .u64 s.c.window, .int .u64 s.c.probe, .int .u64 s.c.loss, .pointer (some ⟨pb, 0, none⟩), .int .u64 s.bd.hi, .int .u64 s.bd.lo, .int .u64 s.bd.bw, .int .i64 nx, .int .u64 now, .int .u64 0, .pointer (some ⟨fb, 0, none⟩), .pointer (some ⟨rb, 0, none⟩), .pointer (some ⟨kb, 0, none⟩), .int .u64 s.acked, .int .u64 s.lost, .int .u64 s.cwnd, .int .u64 s.kept, .int .u64 s.ended] 82 (0, 0)) :: pip pb s.p :: fil fb s.f :: cyc rb s.r :: ctr kb s.k :: pts g (.cells #[.int .u64 now, .int .u64 sd, .int .u64 si, .int .u64 sr, .int .u64 rtt, .bool slim, .bool smp, .int .u64 deliv, .int .u64 acked, .int .u64 lost, .int .u64 fl] 87 (0, 0)) :: R)) from H9_)
        clear H9_
        go_wp2_with fail
        first | go_end0 | ((try simp only [Exit.inBlock, Exit.then]); refine bodyPost_ret (results_none rfl _ _ _) rfl ?_)
        obtain rfl : tg = { s with st := nx, since := now, rounds := 0 } := by have := h6.out; have := h5.out; have := h2.out; have := h4.out; have := hk.out; rw [← htg.out, if_neg hn.out]; simp [Eng.leave, Eng.enter, Eng.comes, *]
        exact ⟨rfl, (HH.out.pn : Own ε _ (pts b (.cells #[.int .u64 s.c.mss, .int .u64 s.c.init, .int .u64 s.c.reorder, .int .u64 s.c.window, .int .u64 s.c.probe, .int .u64 s.c.loss, .pointer (some ⟨pb, 0, none⟩), .int .u64 s.bd.hi, .int .u64 s.bd.lo, .int .u64 s.bd.bw, .int .i64 nx, .int .u64 now, .int .u64 0, .pointer (some ⟨fb, 0, none⟩), .pointer (some ⟨rb, 0, none⟩), .pointer (some ⟨kb, 0, none⟩), .int .u64 s.acked, .int .u64 s.lost, .int .u64 s.cwnd, .int .u64 s.kept, .int .u64 s.ended] 82 (0, 0)) :: pip pb s.p :: fil fb s.f :: cyc rb s.r :: ctr kb s.k :: R))⟩
    ·have b5 : (s.st == 5) = false := by simpa using h5
     replace h5 := Lib.hid h5
     by_cases h4 : nx = 4
     ·have b4 : (nx == 4) = true := by simpa using h4
      replace h4 := Lib.hid h4
      (try clear cc1_); (try clear cc6_)
      have cc1_ := HH.out.cells
      have cc6_ := HH.out.r6.cells
      go_wp2_with fail
      refine (boundShort_c _ s.bd).mono ?_
      rintro e w16_ ⟨rfl, hbel⟩
      replace HH := Lib.hid ((by first | exact .same hbel | exact .drew hbel | exact .below hbel : Kp _ w16_) _ _ (by first | exact HH.out | exact HH.out.drewN _ | exact (HH.out.alloc _).tail | exact ((HH.out.alloc _).drewN _).tail | exact ((HH.out.alloc _).alloc _).tail.tail))
      clear hbel
      go_wp2_with (with_reducible refine stop_st ?_)
      refine Stop.go ?_
      refine wpList_storek_own (k := 7) (#[.int .u64 s.bd.short.hi, .int .u64 s.bd.short.lo, .int .u64 s.bd.short.bw]) rfl rfl HH.out (by kernel_rfl) (by simp) (by repeat (first | (refine List.forall_mem_cons.2 ⟨(by first | with_reducible assumption | rfl), ?_⟩) | exact fun _ h => absurd h List.not_mem_nil)) ?_
      intro w17_ H9_
      replace HH := Lib.hid (show Own _ _ ((pts b (.cells #[.int .u64 s.c.mss, .int .u64 s.c.init, .int .u64 s.c.reorder, .int .u64 s.c.window, .int .u64 s.c.probe, .int .u64 s.c.loss, .pointer (some ⟨pb, 0, none⟩), .int .u64 s.bd.short.hi, .int .u64 s.bd.short.lo, .int .u64 s.bd.short.bw, .int .i64 s.st, .int .u64 s.since, .int .u64 s.rounds, .pointer (some ⟨fb, 0, none⟩), .pointer (some ⟨rb, 0, none⟩), .pointer (some ⟨kb, 0, none⟩), .int .u64 s.acked, .int .u64 s.lost, .int .u64 s.cwnd, .int .u64 s.kept, .int .u64 s.ended] 82 (0, 0)) :: pip pb s.p :: fil fb s.f :: cyc rb s.r :: ctr kb s.k :: pts g (.cells #[.int .u64 now, .int .u64 sd, .int .u64 si, .int .u64 sr, .int .u64 rtt, .bool slim, .bool smp, .int .u64 deliv, .int .u64 acked, .int .u64 lost, .int .u64 fl] 87 (0, 0)) :: R)) from H9_)
      clear H9_
      (try clear cc1_); (try clear cc6_)
      have cc1_ := HH.out.cells
      have cc6_ := HH.out.r6.cells
      go_wp2_with (with_reducible refine stop_st ?_)
      refine Stop.go ?_
      refine wpList_storek_own (k := 10) (#[.int .i64 nx, .int .u64 now, .int .u64 0]) rfl rfl HH.out (by kernel_rfl) (by simp) (by repeat (first | (refine List.forall_mem_cons.2 ⟨(by first | with_reducible assumption | rfl), ?_⟩) | exact fun _ h => absurd h List.not_mem_nil)) ?_
      intro w18_ H9_
      replace HH := Lib.hid (show Own _ _ ((pts b (.cells #[.int .u64 s.c.mss, .int .u64 s.c.init, .int .u64 s.c.reorder, .int .u64 s.c.window, .int .u64 s.c.probe, .int .u64 s.c.loss, .pointer (some ⟨pb, 0, none⟩), .int .u64 s.bd.short.hi, .int .u64 s.bd.short.lo, .int .u64 s.bd.short.bw, .int .i64 nx, .int .u64 now, .int .u64 0, .pointer (some ⟨fb, 0, none⟩), .pointer (some ⟨rb, 0, none⟩), .pointer (some ⟨kb, 0, none⟩), .int .u64 s.acked, .int .u64 s.lost, .int .u64 s.cwnd, .int .u64 s.kept, .int .u64 s.ended] 82 (0, 0)) :: pip pb s.p :: fil fb s.f :: cyc rb s.r :: ctr kb s.k :: pts g (.cells #[.int .u64 now, .int .u64 sd, .int .u64 si, .int .u64 sr, .int .u64 rtt, .bool slim, .bool smp, .int .u64 deliv, .int .u64 acked, .int .u64 lost, .int .u64 fl] 87 (0, 0)) :: R)) from H9_)
      clear H9_
      go_wp2_with fail
      first | go_end0 | ((try simp only [Exit.inBlock, Exit.then]); refine bodyPost_ret (results_none rfl _ _ _) rfl ?_)
      obtain rfl : tg = { s with bd := s.bd.short, st := nx, since := now, rounds := 0 } := by have := h6.out; have := h5.out; have := h4.out; rw [← htg.out, if_neg hn.out]; simp [Eng.leave, Eng.enter, Eng.comes, *]
      exact ⟨rfl, (HH.out.pn : Own ε _ (pts b (.cells #[.int .u64 s.c.mss, .int .u64 s.c.init, .int .u64 s.c.reorder, .int .u64 s.c.window, .int .u64 s.c.probe, .int .u64 s.c.loss, .pointer (some ⟨pb, 0, none⟩), .int .u64 s.bd.short.hi, .int .u64 s.bd.short.lo, .int .u64 s.bd.short.bw, .int .i64 nx, .int .u64 now, .int .u64 0, .pointer (some ⟨fb, 0, none⟩), .pointer (some ⟨rb, 0, none⟩), .pointer (some ⟨kb, 0, none⟩), .int .u64 s.acked, .int .u64 s.lost, .int .u64 s.cwnd, .int .u64 s.kept, .int .u64 s.ended] 82 (0, 0)) :: pip pb s.p :: fil fb s.f :: cyc rb s.r :: ctr kb s.k :: R))⟩
     ·have b4 : (nx == 4) = false := by simpa using h4
      replace h4 := Lib.hid h4
      by_cases hk : nx = 6
      ·have bk : (nx == 6) = true := by simpa using hk
       replace hk := Lib.hid hk
       (try clear cc1_); (try clear cc6_)
       have cc1_ := HH.out.cells
       have cc6_ := HH.out.r6.cells
       go_wp2_with (with_reducible refine stop_st ?_)
       refine Stop.go ?_
       refine wpList_store1_own (v := .int .u64 (s.cwnd)) (k := 19) rfl rfl HH.out (by kernel_rfl) (by simp) (by first | rfl | assumption) ?_
       intro w19_ H9_
       replace HH := Lib.hid H9_
       clear H9_
       simp only [List.setIfInBounds_toArray, List.set_cons_succ, List.set_cons_zero] at HH
       (try clear cc1_); (try clear cc6_)
       have cc1_ := HH.out.cells
       have cc6_ := HH.out.r6.cells
       go_wp2_with (with_reducible refine stop_st ?_)
       refine Stop.go ?_
       refine wpList_storek_own (k := 10) (#[.int .i64 nx, .int .u64 now, .int .u64 0]) rfl rfl HH.out (by kernel_rfl) (by simp) (by repeat (first | (refine List.forall_mem_cons.2 ⟨(by first | with_reducible assumption | rfl), ?_⟩) | exact fun _ h => absurd h List.not_mem_nil)) ?_
       intro w20_ H9_
       replace HH := Lib.hid (show Own _ _ ((pts b (.cells #[.int .u64 s.c.mss, .int .u64 s.c.init, .int .u64 s.c.reorder, .int .u64 s.c.window, .int .u64 s.c.probe, .int .u64 s.c.loss, .pointer (some ⟨pb, 0, none⟩), .int .u64 s.bd.hi, .int .u64 s.bd.lo, .int .u64 s.bd.bw, .int .i64 nx, .int .u64 now, .int .u64 0, .pointer (some ⟨fb, 0, none⟩), .pointer (some ⟨rb, 0, none⟩), .pointer (some ⟨kb, 0, none⟩), .int .u64 s.acked, .int .u64 s.lost, .int .u64 s.cwnd, .int .u64 s.cwnd, .int .u64 s.ended] 82 (0, 0)) :: pip pb s.p :: fil fb s.f :: cyc rb s.r :: ctr kb s.k :: pts g (.cells #[.int .u64 now, .int .u64 sd, .int .u64 si, .int .u64 sr, .int .u64 rtt, .bool slim, .bool smp, .int .u64 deliv, .int .u64 acked, .int .u64 lost, .int .u64 fl] 87 (0, 0)) :: R)) from H9_)
       clear H9_
       go_wp2_with fail
       first | go_end0 | ((try simp only [Exit.inBlock, Exit.then]); refine bodyPost_ret (results_none rfl _ _ _) rfl ?_)
       obtain rfl : tg = { s with kept := s.cwnd, st := nx, since := now, rounds := 0 } := by have := h6.out; have := h5.out; have := h4.out; have := hk.out; rw [← htg.out, if_neg hn.out]; simp [Eng.leave, Eng.enter, Eng.comes, *]
       exact ⟨rfl, (HH.out.pn : Own ε _ (pts b (.cells #[.int .u64 s.c.mss, .int .u64 s.c.init, .int .u64 s.c.reorder, .int .u64 s.c.window, .int .u64 s.c.probe, .int .u64 s.c.loss, .pointer (some ⟨pb, 0, none⟩), .int .u64 s.bd.hi, .int .u64 s.bd.lo, .int .u64 s.bd.bw, .int .i64 nx, .int .u64 now, .int .u64 0, .pointer (some ⟨fb, 0, none⟩), .pointer (some ⟨rb, 0, none⟩), .pointer (some ⟨kb, 0, none⟩), .int .u64 s.acked, .int .u64 s.lost, .int .u64 s.cwnd, .int .u64 s.cwnd, .int .u64 s.ended] 82 (0, 0)) :: pip pb s.p :: fil fb s.f :: cyc rb s.r :: ctr kb s.k :: R))⟩
      ·have bk : (nx == 6) = false := by simpa using hk
       replace hk := Lib.hid hk
       (try clear cc1_); (try clear cc6_)
       have cc1_ := HH.out.cells
       have cc6_ := HH.out.r6.cells
       go_wp2_with (with_reducible refine stop_st ?_)
       refine Stop.go ?_
       refine wpList_storek_own (k := 10) (#[.int .i64 nx, .int .u64 now, .int .u64 0]) rfl rfl HH.out (by kernel_rfl) (by simp) (by repeat (first | (refine List.forall_mem_cons.2 ⟨(by first | with_reducible assumption | rfl), ?_⟩) | exact fun _ h => absurd h List.not_mem_nil)) ?_
       intro w21_ H9_
       replace HH := Lib.hid (show Own _ _ ((pts b (.cells #[.int .u64 s.c.mss, .int .u64 s.c.init, .int .u64 s.c.reorder, .int .u64 s.c.window, .int .u64 s.c.probe, .int .u64 s.c.loss, .pointer (some ⟨pb, 0, none⟩), .int .u64 s.bd.hi, .int .u64 s.bd.lo, .int .u64 s.bd.bw, .int .i64 nx, .int .u64 now, .int .u64 0, .pointer (some ⟨fb, 0, none⟩), .pointer (some ⟨rb, 0, none⟩), .pointer (some ⟨kb, 0, none⟩), .int .u64 s.acked, .int .u64 s.lost, .int .u64 s.cwnd, .int .u64 s.kept, .int .u64 s.ended] 82 (0, 0)) :: pip pb s.p :: fil fb s.f :: cyc rb s.r :: ctr kb s.k :: pts g (.cells #[.int .u64 now, .int .u64 sd, .int .u64 si, .int .u64 sr, .int .u64 rtt, .bool slim, .bool smp, .int .u64 deliv, .int .u64 acked, .int .u64 lost, .int .u64 fl] 87 (0, 0)) :: R)) from H9_)
       clear H9_
       go_wp2_with fail
       first | go_end0 | ((try simp only [Exit.inBlock, Exit.then]); refine bodyPost_ret (results_none rfl _ _ _) rfl ?_)
       obtain rfl : tg = { s with st := nx, since := now, rounds := 0 } := by have := h6.out; have := h5.out; have := h4.out; have := hk.out; rw [← htg.out, if_neg hn.out]; simp [Eng.leave, Eng.enter, Eng.comes, *]
       exact ⟨rfl, (HH.out.pn : Own ε _ (pts b (.cells #[.int .u64 s.c.mss, .int .u64 s.c.init, .int .u64 s.c.reorder, .int .u64 s.c.window, .int .u64 s.c.probe, .int .u64 s.c.loss, .pointer (some ⟨pb, 0, none⟩), .int .u64 s.bd.hi, .int .u64 s.bd.lo, .int .u64 s.bd.bw, .int .i64 nx, .int .u64 now, .int .u64 0, .pointer (some ⟨fb, 0, none⟩), .pointer (some ⟨rb, 0, none⟩), .pointer (some ⟨kb, 0, none⟩), .int .u64 s.acked, .int .u64 s.lost, .int .u64 s.cwnd, .int .u64 s.kept, .int .u64 s.ended] 82 (0, 0)) :: pip pb s.p :: fil fb s.f :: cyc rb s.r :: ctr kb s.k :: R))⟩
end
end Go.Proofs.YtmkcpnlbicijoaaGreat
