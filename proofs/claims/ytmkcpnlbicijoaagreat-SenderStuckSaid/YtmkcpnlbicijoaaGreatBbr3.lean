/- bbr: what an engine does at an event, told; its samples: written by mkbbr2.py. -/
import Derived.Test.YtmkcpnlbicijoaaGreatBbr2
import Derived.Test.YtmkcpnlbicijoaaGreatSeq4
namespace Go.Proofs.YtmkcpnlbicijoaaGreat
open Go.RowKit
def Eng.hear (s : Eng) (x : Evt) : Eng := { s with acked := sadd s.acked x.acked, lost := sadd s.lost x.lost }
def Eng.tos (s : Eng) (now : Int) : Eng := { s with f := (s.f.to now).2 }
def Eng.sampled (s : Eng) (x : Evt) : Eng := if x.some = true then s.sample x else s
def Eng.overs (s : Eng) (x : Evt) : Bool := x.some && s.over x
def Eng.bounded (s : Eng) (x : Evt) (lz : Bool) : Eng := if lz = true then (if s.st = 0 ∨ s.st = 5 then { s with bd := s.bd.pull x.fl s.holds } else { s with bd := s.bd.lose x.sd x.sr s.cwnd }) else s
def Eng.sig (s : Eng) (x : Evt) (over lz : Bool) : Sig := ⟨decide (3 ≤ s.p.n), over, lz, s.stale x.now, x.fl, s.holds, s.bd.room, s.rounds, ssub x.now s.since, waitI s.st s.r.n s.c.probe⟩
def Eng.next (s : Eng) (x : Evt) (over lz : Bool) : Int := nextI s.st (s.sig x over lz)
def Eng.leave (s : Eng) (now n : Int) : Eng := if s.st = 6 then { s with ended := now, cwnd := max s.cwnd s.kept } else if s.st = 5 ∧ n = 2 then { s with r := s.r.next } else s
def Eng.enter (s : Eng) (n : Int) : Eng := if n = 4 then { s with bd := s.bd.short } else if n = 6 then { s with kept := s.cwnd } else s
def Eng.comes (s : Eng) (now n : Int) : Eng := { s with st := n, since := now, rounds := 0 }
def Eng.turn (s : Eng) (x : Evt) (over lz : Bool) : Eng := if s.next x over lz = s.st then s else ((s.leave x.now (s.next x over lz)).enter (s.next x over lz)).comes x.now (s.next x over lz)
def Eng.pushed (s : Eng) (x : Evt) (lz : Bool) : Eng := if s.st = 5 ∧ lz = false then { s with bd := s.bd.push x.acked } else s
def Eng.wide (s : Eng) (acked : Int) : Int := if s.st = 0 ∧ s.p.n < 3 then sadd s.cwnd acked else min (sadd s.cwnd acked) (sadd (gWindow s.st s.uses) s.quantum)
def Eng.narrow (s : Eng) (acked : Int) : Int := if s.st = 2 ∨ s.st = 3 then min (s.wide acked) s.bd.room else if s.st = 6 then min (s.wide acked) (gWindow s.st s.uses) else s.wide acked
def Eng.window (s : Eng) (acked : Int) : Int := min (max (s.bd.cap [s.narrow acked]) s.c.least) 72057594037927936
def Eng.win (s : Eng) (x : Evt) : Eng := { s with cwnd := s.window x.acked }
def Eng.read (s : Eng) (x : Evt) : Eng := ((s.hear x).tos x.now).sampled x
def Eng.tells (s : Eng) (x : Evt) : Bool := ((s.hear x).tos x.now).overs x
def Eng.loses (s : Eng) (x : Evt) : Bool := s.tells x && (s.read x).isLossy
def Eng.past (s : Eng) (x : Evt) : Eng := if s.tells x = true then (s.read x).calm else s.read x
def Eng.on (s : Eng) (x : Evt) : Eng := ((((s.past x).bounded x (s.loses x)).turn x (s.tells x) (s.loses x)).pushed x (s.loses x)).win x
theorem Cyc.U_best {s : Cyc} (h : s.Ok) : U s.best := by obtain ⟨h1, h2⟩ := h; unfold Cyc.best U at *; omega
theorem modeWaitB_c (w : World) (s c p : Int) (hc : U c) : Calls Tryz.prog 118 #[.int .i64 s, .int .u64 c, .int .u64 p] w fun e w' => e = .returned (.int .u64 (waitI s c p)) ∧ w = w' := by
 unfold U at hc
 unfold waitI
 by_cases h2 : s = 2
 ·subst h2
  go_enter Tryz.func118, Tryz.ntmps118
  go_wp2_with fail
  go_ret
  exact ⟨rfl, rfl⟩
 by_cases h3 : s = 3
 ·subst h3
  go_enter Tryz.func118, Tryz.ntmps118
  go_wp2_with fail
  go_ret
  exact ⟨rfl, rfl⟩
 rw [if_neg (by omega)]
 have b2 : (s == 2) = false := by simpa using h2
 have b3 : (s == 3) = false := by simpa using h3
 by_cases h6 : s = 6
 ·subst h6
  rw [if_pos rfl]
  go_enter Tryz.func118, Tryz.ntmps118
  go_wp2_with fail
  go_ret
  exact ⟨rfl, rfl⟩
 ·rw [if_neg h6]
  have b6 : (s == 6) = false := by simpa using h6
  go_enter Tryz.func118, Tryz.ntmps118
  go_wp2_with fail
  go_ret
  exact ⟨rfl, rfl⟩
section
variable (ε w : World) (R : List Asn) (b pb fb rb kb : Nat)
set_option maxRecDepth 100000 in
set_option maxHeartbeats 12800000 in
theorem engSample_c (s : Eng) (hs : s.Ok) (x : Evt) (hx : x.Ok) (hl : s.f.l.length ≤ 1000000) (H : Own ε w (pts b (.cells #[.int .u64 s.c.mss, .int .u64 s.c.init, .int .u64 s.c.reorder, .int .u64 s.c.window, .int .u64 s.c.probe, .int .u64 s.c.loss, .pointer (some ⟨pb, 0, none⟩), .int .u64 s.bd.hi, .int .u64 s.bd.lo, .int .u64 s.bd.bw, .int .i64 s.st, .int .u64 s.since, .int .u64 s.rounds, .pointer (some ⟨fb, 0, none⟩), .pointer (some ⟨rb, 0, none⟩), .pointer (some ⟨kb, 0, none⟩), .int .u64 s.acked, .int .u64 s.lost, .int .u64 s.cwnd, .int .u64 s.kept, .int .u64 s.ended] 82 (0, 0)) :: pip pb s.p :: fil fb s.f :: cyc rb s.r :: ctr kb s.k :: R)) :
  Calls Tryz.prog 74 #[.pointer (some ⟨b, 0, none⟩), x.v] w fun e w' => e = .returned (.bool (s.overs x)) ∧ Own ε w' (pts b (.cells #[.int .u64 (s.sampled x).c.mss, .int .u64 (s.sampled x).c.init, .int .u64 (s.sampled x).c.reorder, .int .u64 (s.sampled x).c.window, .int .u64 (s.sampled x).c.probe, .int .u64 (s.sampled x).c.loss, .pointer (some ⟨pb, 0, none⟩), .int .u64 (s.sampled x).bd.hi, .int .u64 (s.sampled x).bd.lo, .int .u64 (s.sampled x).bd.bw, .int .i64 (s.sampled x).st, .int .u64 (s.sampled x).since, .int .u64 (s.sampled x).rounds, .pointer (some ⟨fb, 0, none⟩), .pointer (some ⟨rb, 0, none⟩), .pointer (some ⟨kb, 0, none⟩), .int .u64 (s.sampled x).acked, .int .u64 (s.sampled x).lost, .int .u64 (s.sampled x).cwnd, .int .u64 (s.sampled x).kept, .int .u64 (s.sampled x).ended] 82 (0, 0)) :: pip pb (s.sampled x).p :: fil fb (s.sampled x).f :: cyc rb (s.sampled x).r :: ctr kb (s.sampled x).k :: R) := by
 have HH := Lib.hid H; clear H
 obtain ⟨now, sd, si, sr, rtt, slim, some, deliv, acked, lost, fl⟩ := x
 unfold Evt.v
 cases some
 ·rw [show s.sampled ⟨now, sd, si, sr, rtt, slim, false, deliv, acked, lost, fl⟩ = s from rfl, show s.overs ⟨now, sd, si, sr, rtt, slim, false, deliv, acked, lost, fl⟩ = false from rfl]
  clear hs hx hl
  go_enter Tryz.func74, Tryz.ntmps74
  go_wp2_with (with_reducible refine stop_bx ?_)
  refine Stop.go ?_
  refine wpList_box_own HH.out [_, _, _, _, _, _, _, _, _, _, _] rfl ?_
  intro g w1_ H9_
  replace HH := Lib.hid H9_
  clear H9_
  (try clear cc1_); (try clear cc2_)
  have cc1_ := HH.out.cells
  go_wp2_with fail
  go_ret
  exact ⟨rfl, HH.out.pn⟩
 have hU1 := Lib.hid hx.sr
 have hU2 := Lib.hid hx.deliv
 have hU3 := Lib.hid hx.sd
 clear hx
 simp only at hU1 hU2 hU3
 have hf := Lib.hid hs.f
 have hr := Lib.hid hs.r
 have hp := Lib.hid hs.p
 replace hl := Lib.hid hl
 clear hs
 rw [show s.sampled ⟨now, sd, si, sr, rtt, slim, true, deliv, acked, lost, fl⟩ = s.sample ⟨now, sd, si, sr, rtt, slim, true, deliv, acked, lost, fl⟩ from rfl, show s.overs ⟨now, sd, si, sr, rtt, slim, true, deliv, acked, lost, fl⟩ = s.over ⟨now, sd, si, sr, rtt, slim, true, deliv, acked, lost, fl⟩ from rfl]
 unfold Eng.sample Eng.over Eng.rates
 simp only
 obtain ⟨f2, hf2⟩ : ∃ f2, (s.f.put now rtt).2 = f2 := ⟨_, rfl⟩
 obtain ⟨⟨ov, k2⟩, hk2⟩ : ∃ r, s.k.ack (ssub deliv sd) deliv = r := ⟨_, rfl⟩
 obtain ⟨rbest, hrb⟩ : ∃ y, s.r.best = y := ⟨_, rfl⟩
 obtain ⟨rt, hrt⟩ : ∃ y, s.r.put [sr] = y := ⟨_, rfl⟩
 have hrU : U s.r.best := Eng.U_rbest hr.out
 have hr3 : rt.Ok := by rw [← hrt]; exact Cyc.ok_put (by intro y hy; rw [List.mem_singleton.1 hy]; exact hU1.out) hr.out
 rw [hf2, hk2, hrb, hrt]
 replace hf2 := Lib.hid hf2
 replace hk2 := Lib.hid hk2
 cases slim
 ·rw [if_pos (.inl rfl)]
  have hr2 := Lib.hid hr3
  have hb3 := Lib.hid (Cyc.U_best hr3)
  obtain ⟨b2, hb2⟩ : ∃ y, rt.best = y := ⟨_, rfl⟩
  rw [hb2] at hb3 ⊢
  obtain ⟨p2, hp2⟩ : ∃ y, s.p.put b2 ov false = y := ⟨_, rfl⟩
  rw [hp2]
  replace hb2 := Lib.hid hb2
  replace hp2 := Lib.hid hp2
  replace hrt := Lib.hid hrt
  replace hrb := Lib.hid hrb
  clear hr3 hrU
  go_enter Tryz.func74, Tryz.ntmps74
  go_wp2_with (with_reducible refine stop_bx ?_)
  refine Stop.go ?_
  refine wpList_box_own HH.out [_, _, _, _, _, _, _, _, _, _, _] rfl ?_
  intro g w2_ H9_
  replace HH := Lib.hid H9_
  clear H9_
  (try clear cc1_); (try clear cc2_)
  have cc1_ := HH.out.cells
  have cc2_ := HH.out.r2.cells
  go_wp2_with fail
  go_wp2_with fail
  refine wp_region_reg (some 9) HH.out (by kernel_rfl) ?_
  intro wm H9_
  replace HH := Lib.hid H9_
  clear H9_
  refine reg_s 0 HH.out ?_
  refine reg_s 1 HH.out ?_
  refine reg_s 2 HH.out ?_
  refine mixk_s 3 HH.out (fun _ hx => And.intro hx.cells hx.r2.cells) ?_
  refine reg_s 4 HH.out ?_
  refine mixk_s 5 HH.out (fun _ hx => And.intro hx.cells hx.r2.cells) ?_
  refine reg_s 6 HH.out ?_
  refine reg_s 7 HH.out ?_
  refine mixk_s 8 HH.out (fun _ hx => And.intro hx.cells hx.r2.cells) ?_
  refine reg_l none (i := 9) rfl (by kernel_rfl) (fun wn hk K hK => ?_)
  replace HH := Lib.hid (hk _ _ HH.out)
  clear hk
  go_simp
  refine (filPut_c ε wn _ fb s.f now rtt hf.out hl.out HH.out.r4).mono ?_
  rw [hf2.out]
  rintro e wm ⟨rfl, H9_⟩
  replace HH := Lib.hid H9_
  clear H9_
  refine hK _ _ _ HH.out (.inl (by kernel_rfl)) ?_
  clear hK K
  refine mixk_done (by kernel_rfl) (fun w3_ hk => ?_) _
  replace HH := Lib.hid (hk _ _ HH.out)
  clear hk
  replace HH := Lib.hid (HH.out.pn : Own _ _ (pts g (.cells #[.int .u64 now, .int .u64 sd, .int .u64 si, .int .u64 sr, .int .u64 rtt, .bool false, .bool true, .int .u64 deliv, .int .u64 acked, .int .u64 lost, .int .u64 fl] 87 (0, 0)) :: pts b (.cells #[.int .u64 s.c.mss, .int .u64 s.c.init, .int .u64 s.c.reorder, .int .u64 s.c.window, .int .u64 s.c.probe, .int .u64 s.c.loss, .pointer (some ⟨pb, 0, none⟩), .int .u64 s.bd.hi, .int .u64 s.bd.lo, .int .u64 s.bd.bw, .int .i64 s.st, .int .u64 s.since, .int .u64 s.rounds, .pointer (some ⟨fb, 0, none⟩), .pointer (some ⟨rb, 0, none⟩), .pointer (some ⟨kb, 0, none⟩), .int .u64 s.acked, .int .u64 s.lost, .int .u64 s.cwnd, .int .u64 s.kept, .int .u64 s.ended] 82 (0, 0)) :: pip pb s.p :: fil fb f2 :: cyc rb s.r :: ctr kb s.k :: R))
  (try clear cc1_); (try clear cc2_)
  have cc1_ := HH.out.cells
  have cc2_ := HH.out.r2.cells
  go_wp2_with fail
  go_wp2_with fail
  refine wp_region_reg none HH.out (by kernel_rfl) ?_
  intro wm H9_
  replace HH := Lib.hid H9_
  clear H9_
  refine reg_s 0 HH.out ?_
  refine reg_s 1 HH.out ?_
  refine mixk_s 2 HH.out (fun _ hx => And.intro hx.cells hx.r2.cells) ?_
  refine reg_s 3 HH.out ?_
  refine reg_s 4 HH.out ?_
  refine reg_s 5 HH.out ?_
  refine reg_s 6 HH.out ?_
  refine mixk_s 7 HH.out (fun _ hx => And.intro hx.cells hx.r2.cells) ?_
  refine reg_s 8 HH.out ?_
  refine reg_s 9 HH.out ?_
  refine reg_s 10 HH.out ?_
  refine mixk_s 11 HH.out (fun _ hx => And.intro hx.cells hx.r2.cells) ?_
  refine reg_l none (i := 12) rfl (by kernel_rfl) (fun wn hk K hK => ?_)
  replace HH := Lib.hid (hk _ _ HH.out)
  clear hk
  go_simp
  refine hK _ _ _ HH.out (.inr ⟨rfl, fun _ h => h⟩) ?_
  clear hK K
  refine reg_s 13 HH.out ?_
  refine reg_s 14 HH.out ?_
  refine mixk_done (by kernel_rfl) (fun w4_ hk => ?_) _
  replace HH := Lib.hid (hk _ _ HH.out)
  clear hk
  replace HH := Lib.hid (HH.out.pn : Own _ _ (pts g (.cells #[.int .u64 now, .int .u64 sd, .int .u64 si, .int .u64 sr, .int .u64 rtt, .bool false, .bool true, .int .u64 deliv, .int .u64 acked, .int .u64 lost, .int .u64 fl] 87 (0, 0)) :: pts b (.cells #[.int .u64 s.c.mss, .int .u64 s.c.init, .int .u64 s.c.reorder, .int .u64 s.c.window, .int .u64 s.c.probe, .int .u64 s.c.loss, .pointer (some ⟨pb, 0, none⟩), .int .u64 s.bd.hi, .int .u64 s.bd.lo, .int .u64 s.bd.bw, .int .i64 s.st, .int .u64 s.since, .int .u64 s.rounds, .pointer (some ⟨fb, 0, none⟩), .pointer (some ⟨rb, 0, none⟩), .pointer (some ⟨kb, 0, none⟩), .int .u64 s.acked, .int .u64 s.lost, .int .u64 s.cwnd, .int .u64 s.kept, .int .u64 s.ended] 82 (0, 0)) :: pip pb s.p :: fil fb f2 :: cyc rb s.r :: ctr kb s.k :: R))
  (try clear cc1_); (try clear cc2_)
  have cc1_ := HH.out.cells
  have cc2_ := HH.out.r2.cells
  go_wp2_with fail
  go_wp2_with fail
  refine wp_region_reg (some 8) HH.out (by kernel_rfl) ?_
  intro wm H9_
  replace HH := Lib.hid H9_
  clear H9_
  refine reg_s 0 HH.out ?_
  refine reg_s 1 HH.out ?_
  refine reg_s 2 HH.out ?_
  refine mixk_s 3 HH.out (fun _ hx => And.intro hx.cells hx.r2.cells) ?_
  refine reg_s 4 HH.out ?_
  refine reg_s 5 HH.out ?_
  refine mixk_s 6 HH.out (fun _ hx => And.intro hx.cells hx.r2.cells) ?_
  refine reg_l (some 8) (i := 7) rfl (by kernel_rfl) (fun wn hk K hK => ?_)
  replace HH := Lib.hid (hk _ _ HH.out)
  clear hk
  go_simp
  replace HH := Lib.hid (HH.out.alloc (.cells #[.int .u64 sr] 22))
  generalize wn.alloc (.cells #[.int .u64 sr] 22) = wm at *
  generalize wn.heap.size = sb at *
  refine hK _ _ _ HH.out (.inr ⟨rfl, fun _ h => h.tail⟩) ?_
  clear hK K
  refine reg_l none (i := 8) rfl (by kernel_rfl) (fun wn hk K hK => ?_)
  replace HH := Lib.hid (hk _ _ HH.out)
  clear hk
  go_simp
  refine (cycPut_c ε wn _ rb s.r _ 1 1 [sr] (rd1 hU1.out HH.out) hr.out HH.out.r6).mono ?_
  rw [hrt.out]
  rintro e wm ⟨rfl, H9_⟩
  replace HH := Lib.hid H9_
  clear H9_
  refine hK _ _ _ HH.out (.inl (by kernel_rfl)) ?_
  clear hK K
  refine mixk_done (by kernel_rfl) (fun w5_ hk => ?_) _
  replace HH := Lib.hid (hk _ _ HH.out)
  clear hk
  replace HH := Lib.hid (HH.out.pn : Own _ _ (pts g (.cells #[.int .u64 now, .int .u64 sd, .int .u64 si, .int .u64 sr, .int .u64 rtt, .bool false, .bool true, .int .u64 deliv, .int .u64 acked, .int .u64 lost, .int .u64 fl] 87 (0, 0)) :: pts b (.cells #[.int .u64 s.c.mss, .int .u64 s.c.init, .int .u64 s.c.reorder, .int .u64 s.c.window, .int .u64 s.c.probe, .int .u64 s.c.loss, .pointer (some ⟨pb, 0, none⟩), .int .u64 s.bd.hi, .int .u64 s.bd.lo, .int .u64 s.bd.bw, .int .i64 s.st, .int .u64 s.since, .int .u64 s.rounds, .pointer (some ⟨fb, 0, none⟩), .pointer (some ⟨rb, 0, none⟩), .pointer (some ⟨kb, 0, none⟩), .int .u64 s.acked, .int .u64 s.lost, .int .u64 s.cwnd, .int .u64 s.kept, .int .u64 s.ended] 82 (0, 0)) :: pip pb s.p :: fil fb f2 :: cyc rb rt :: ctr kb s.k :: R))
  (try clear cc1_); (try clear cc2_)
  have cc1_ := HH.out.cells
  have cc2_ := HH.out.r2.cells
  go_wp2_with fail
  go_wp2_with fail
  refine wp_region_reg (some 13) HH.out (by kernel_rfl) ?_
  intro wm H9_
  replace HH := Lib.hid H9_
  clear H9_
  refine reg_s 0 HH.out ?_
  refine reg_s 1 HH.out ?_
  refine reg_s 2 HH.out ?_
  refine mixk_s 3 HH.out (fun _ hx => And.intro hx.cells hx.r2.cells) ?_
  refine reg_s 4 HH.out ?_
  refine mixk_s 5 HH.out (fun _ hx => And.intro hx.cells hx.r2.cells) ?_
  refine reg_s 6 HH.out ?_
  refine reg_s 7 HH.out ?_
  refine mixk_s 8 HH.out (fun _ hx => And.intro hx.cells hx.r2.cells) ?_
  refine reg_s 11 HH.out ?_
  refine mixk_s 12 HH.out (fun _ hx => And.intro hx.cells hx.r2.cells) ?_
  refine reg_l (some 13) (i := 9) rfl (by kernel_rfl) (fun wn hk K hK => ?_)
  replace HH := Lib.hid (hk _ _ HH.out)
  clear hk
  go_simp
  replace HH := Lib.hid (HH.out.alloc (.cells #[.int .u64 sd] 22))
  generalize wn.alloc (.cells #[.int .u64 sd] 22) = wm at *
  generalize wn.heap.size = sb at *
  refine hK _ _ _ HH.out (.inr ⟨rfl, fun _ h => h.tail⟩) ?_
  clear hK K
  refine reg_l (some 13) (i := 10) rfl (by kernel_rfl) (fun wn hk K hK => ?_)
  replace HH := Lib.hid (hk _ _ HH.out)
  clear hk
  go_simp
  refine (fixSub_c wn deliv _ 1 1 [sd] hU2.out (rd1 hU3.out HH.out)).mono ?_
  rw [show sless deliv [sd] = ssub deliv sd from by first | rfl | decide]
  rintro e wm ⟨rfl, hbel⟩
  replace HH := Lib.hid ((by first | exact .same hbel | exact .drew hbel | exact .below hbel : Kp wn wm) _ _ HH.out)
  clear hbel
  refine hK _ _ _ HH.out (.inr ⟨rfl, fun _ h => h⟩) ?_
  clear hK K
  refine reg_l none (i := 13) rfl (by kernel_rfl) (fun wn hk K hK => ?_)
  replace HH := Lib.hid (hk _ _ HH.out)
  clear hk
  go_simp
  refine (ctrAck_c ε wn _ kb s.k (ssub deliv sd) deliv HH.out.r7).mono ?_
  rw [hk2.out]
  rintro e wm ⟨rfl, H9_⟩
  replace HH := Lib.hid H9_
  clear H9_
  refine hK _ _ _ HH.out (.inl (by kernel_rfl)) ?_
  clear hK K
  refine reg_s 14 HH.out ?_
  refine mixk_done (by kernel_rfl) (fun w6_ hk => ?_) _
  replace HH := Lib.hid (hk _ _ HH.out)
  clear hk
  replace HH := Lib.hid (HH.out.pn : Own _ _ (pts g (.cells #[.int .u64 now, .int .u64 sd, .int .u64 si, .int .u64 sr, .int .u64 rtt, .bool false, .bool true, .int .u64 deliv, .int .u64 acked, .int .u64 lost, .int .u64 fl] 87 (0, 0)) :: pts b (.cells #[.int .u64 s.c.mss, .int .u64 s.c.init, .int .u64 s.c.reorder, .int .u64 s.c.window, .int .u64 s.c.probe, .int .u64 s.c.loss, .pointer (some ⟨pb, 0, none⟩), .int .u64 s.bd.hi, .int .u64 s.bd.lo, .int .u64 s.bd.bw, .int .i64 s.st, .int .u64 s.since, .int .u64 s.rounds, .pointer (some ⟨fb, 0, none⟩), .pointer (some ⟨rb, 0, none⟩), .pointer (some ⟨kb, 0, none⟩), .int .u64 s.acked, .int .u64 s.lost, .int .u64 s.cwnd, .int .u64 s.kept, .int .u64 s.ended] 82 (0, 0)) :: pip pb s.p :: fil fb f2 :: cyc rb rt :: ctr kb k2 :: R))
  (try clear cc1_); (try clear cc2_)
  have cc1_ := HH.out.cells
  have cc2_ := HH.out.r2.cells
  go_wp2_with fail
  go_wp2_with fail
  refine wp_region_reg (some 13) HH.out (by kernel_rfl) ?_
  intro wm H9_
  replace HH := Lib.hid H9_
  clear H9_
  refine reg_s 0 HH.out ?_
  refine reg_s 1 HH.out ?_
  refine reg_s 2 HH.out ?_
  refine mixk_s 3 HH.out (fun _ hx => And.intro hx.cells hx.r2.cells) ?_
  refine reg_s 4 HH.out ?_
  refine reg_s 5 HH.out ?_
  refine reg_s 6 HH.out ?_
  refine mixk_s 7 HH.out (fun _ hx => And.intro hx.cells hx.r2.cells) ?_
  refine reg_s 9 HH.out ?_
  refine reg_s 10 HH.out ?_
  refine reg_s 11 HH.out ?_
  refine mixk_s 12 HH.out (fun _ hx => And.intro hx.cells hx.r2.cells) ?_
  refine reg_l (some 13) (i := 8) rfl (by kernel_rfl) (fun wn hk K hK => ?_)
  replace HH := Lib.hid (hk _ _ HH.out)
  clear hk
  go_simp
  refine (cycBest_c ε wn _ rb rt hr2.out HH.out.r5).mono ?_
  rw [hb2.out]
  rintro e wm ⟨rfl, hbel⟩
  replace HH := Lib.hid ((by first | exact .same hbel | exact .drew hbel | exact .below hbel : Kp wn wm) _ _ HH.out)
  clear hbel
  refine hK _ _ _ HH.out (.inr ⟨rfl, fun _ h => h⟩) ?_
  clear hK K
  refine reg_l none (i := 13) rfl (by kernel_rfl) (fun wn hk K hK => ?_)
  replace HH := Lib.hid (hk _ _ HH.out)
  clear hk
  go_simp
  refine (pipPut_c ε wn _ pb s.p b2 ov false hb3.out hp.out HH.out.r3).mono ?_
  rw [hp2.out]
  rintro e wm ⟨rfl, H9_⟩
  replace HH := Lib.hid H9_
  clear H9_
  refine hK _ _ _ HH.out (.inl (by kernel_rfl)) ?_
  clear hK K
  refine mixk_done (by kernel_rfl) (fun w7_ hk => ?_) _
  replace HH := Lib.hid (hk _ _ HH.out)
  clear hk
  replace HH := Lib.hid (HH.out.pn : Own _ _ (pts g (.cells #[.int .u64 now, .int .u64 sd, .int .u64 si, .int .u64 sr, .int .u64 rtt, .bool false, .bool true, .int .u64 deliv, .int .u64 acked, .int .u64 lost, .int .u64 fl] 87 (0, 0)) :: pts b (.cells #[.int .u64 s.c.mss, .int .u64 s.c.init, .int .u64 s.c.reorder, .int .u64 s.c.window, .int .u64 s.c.probe, .int .u64 s.c.loss, .pointer (some ⟨pb, 0, none⟩), .int .u64 s.bd.hi, .int .u64 s.bd.lo, .int .u64 s.bd.bw, .int .i64 s.st, .int .u64 s.since, .int .u64 s.rounds, .pointer (some ⟨fb, 0, none⟩), .pointer (some ⟨rb, 0, none⟩), .pointer (some ⟨kb, 0, none⟩), .int .u64 s.acked, .int .u64 s.lost, .int .u64 s.cwnd, .int .u64 s.kept, .int .u64 s.ended] 82 (0, 0)) :: pip pb p2 :: fil fb f2 :: cyc rb rt :: ctr kb k2 :: R))
  go_wp2_with fail
  go_ret
  exact ⟨rfl, (HH.out.pn : Own ε _ (pts b (.cells #[.int .u64 s.c.mss, .int .u64 s.c.init, .int .u64 s.c.reorder, .int .u64 s.c.window, .int .u64 s.c.probe, .int .u64 s.c.loss, .pointer (some ⟨pb, 0, none⟩), .int .u64 s.bd.hi, .int .u64 s.bd.lo, .int .u64 s.bd.bw, .int .i64 s.st, .int .u64 s.since, .int .u64 s.rounds, .pointer (some ⟨fb, 0, none⟩), .pointer (some ⟨rb, 0, none⟩), .pointer (some ⟨kb, 0, none⟩), .int .u64 s.acked, .int .u64 s.lost, .int .u64 s.cwnd, .int .u64 s.kept, .int .u64 s.ended] 82 (0, 0)) :: pip pb p2 :: fil fb f2 :: cyc rb rt :: ctr kb k2 :: R))⟩
 by_cases hc : rbest ≤ sr
 ·rw [if_pos (.inr hc)]
  have hr2 := Lib.hid hr3
  have hb3 := Lib.hid (Cyc.U_best hr3)
  obtain ⟨b2, hb2⟩ : ∃ y, rt.best = y := ⟨_, rfl⟩
  rw [hb2] at hb3 ⊢
  obtain ⟨p2, hp2⟩ : ∃ y, s.p.put b2 ov true = y := ⟨_, rfl⟩
  rw [hp2]
  replace hb2 := Lib.hid hb2
  replace hp2 := Lib.hid hp2
  replace hrt := Lib.hid hrt
  replace hrb := Lib.hid hrb
  clear hr3 hrU
  go_enter Tryz.func74, Tryz.ntmps74
  go_wp2_with (with_reducible refine stop_bx ?_)
  refine Stop.go ?_
  refine wpList_box_own HH.out [_, _, _, _, _, _, _, _, _, _, _] rfl ?_
  intro g w8_ H9_
  replace HH := Lib.hid H9_
  clear H9_
  (try clear cc1_); (try clear cc2_)
  have cc1_ := HH.out.cells
  have cc2_ := HH.out.r2.cells
  go_wp2_with fail
  go_wp2_with fail
  refine wp_region_reg (some 9) HH.out (by kernel_rfl) ?_
  intro wm H9_
  replace HH := Lib.hid H9_
  clear H9_
  refine reg_s 0 HH.out ?_
  refine reg_s 1 HH.out ?_
  refine reg_s 2 HH.out ?_
  refine mixk_s 3 HH.out (fun _ hx => And.intro hx.cells hx.r2.cells) ?_
  refine reg_s 4 HH.out ?_
  refine mixk_s 5 HH.out (fun _ hx => And.intro hx.cells hx.r2.cells) ?_
  refine reg_s 6 HH.out ?_
  refine reg_s 7 HH.out ?_
  refine mixk_s 8 HH.out (fun _ hx => And.intro hx.cells hx.r2.cells) ?_
  refine reg_l none (i := 9) rfl (by kernel_rfl) (fun wn hk K hK => ?_)
  replace HH := Lib.hid (hk _ _ HH.out)
  clear hk
  go_simp
  refine (filPut_c ε wn _ fb s.f now rtt hf.out hl.out HH.out.r4).mono ?_
  rw [hf2.out]
  rintro e wm ⟨rfl, H9_⟩
  replace HH := Lib.hid H9_
  clear H9_
  refine hK _ _ _ HH.out (.inl (by kernel_rfl)) ?_
  clear hK K
  refine mixk_done (by kernel_rfl) (fun w9_ hk => ?_) _
  replace HH := Lib.hid (hk _ _ HH.out)
  clear hk
  replace HH := Lib.hid (HH.out.pn : Own _ _ (pts g (.cells #[.int .u64 now, .int .u64 sd, .int .u64 si, .int .u64 sr, .int .u64 rtt, .bool true, .bool true, .int .u64 deliv, .int .u64 acked, .int .u64 lost, .int .u64 fl] 87 (0, 0)) :: pts b (.cells #[.int .u64 s.c.mss, .int .u64 s.c.init, .int .u64 s.c.reorder, .int .u64 s.c.window, .int .u64 s.c.probe, .int .u64 s.c.loss, .pointer (some ⟨pb, 0, none⟩), .int .u64 s.bd.hi, .int .u64 s.bd.lo, .int .u64 s.bd.bw, .int .i64 s.st, .int .u64 s.since, .int .u64 s.rounds, .pointer (some ⟨fb, 0, none⟩), .pointer (some ⟨rb, 0, none⟩), .pointer (some ⟨kb, 0, none⟩), .int .u64 s.acked, .int .u64 s.lost, .int .u64 s.cwnd, .int .u64 s.kept, .int .u64 s.ended] 82 (0, 0)) :: pip pb s.p :: fil fb f2 :: cyc rb s.r :: ctr kb s.k :: R))
  (try clear cc1_); (try clear cc2_)
  have cc1_ := HH.out.cells
  have cc2_ := HH.out.r2.cells
  go_wp2_with fail
  go_wp2_with fail
  refine wp_region_reg none HH.out (by kernel_rfl) ?_
  intro wm H9_
  replace HH := Lib.hid H9_
  clear H9_
  refine reg_s 0 HH.out ?_
  refine reg_s 1 HH.out ?_
  refine mixk_s 2 HH.out (fun _ hx => And.intro hx.cells hx.r2.cells) ?_
  refine reg_s 3 HH.out ?_
  refine reg_s 4 HH.out ?_
  refine reg_s 5 HH.out ?_
  refine reg_s 6 HH.out ?_
  refine mixk_s 7 HH.out (fun _ hx => And.intro hx.cells hx.r2.cells) ?_
  refine reg_s 8 HH.out ?_
  refine reg_s 9 HH.out ?_
  refine reg_s 10 HH.out ?_
  refine mixk_s 11 HH.out (fun _ hx => And.intro hx.cells hx.r2.cells) ?_
  refine reg_l none (i := 12) rfl (by kernel_rfl) (fun wn hk K hK => ?_)
  replace HH := Lib.hid (hk _ _ HH.out)
  clear hk
  go_simp
  refine (cycBest_c ε wn _ rb s.r hr.out HH.out.r5).mono ?_
  rw [hrb.out]
  rintro e wm ⟨rfl, hbel⟩
  replace HH := Lib.hid ((by first | exact .same hbel | exact .drew hbel | exact .below hbel : Kp wn wm) _ _ HH.out)
  clear hbel
  refine hK _ _ _ HH.out (.inr ⟨rfl, fun _ h => h⟩) ?_
  clear hK K
  refine reg_s 13 HH.out ?_
  refine reg_s 14 HH.out ?_
  refine mixk_done (by kernel_rfl) (fun w10_ hk => ?_) _
  replace HH := Lib.hid (hk _ _ HH.out)
  clear hk
  replace HH := Lib.hid (HH.out.pn : Own _ _ (pts g (.cells #[.int .u64 now, .int .u64 sd, .int .u64 si, .int .u64 sr, .int .u64 rtt, .bool true, .bool true, .int .u64 deliv, .int .u64 acked, .int .u64 lost, .int .u64 fl] 87 (0, 0)) :: pts b (.cells #[.int .u64 s.c.mss, .int .u64 s.c.init, .int .u64 s.c.reorder, .int .u64 s.c.window, .int .u64 s.c.probe, .int .u64 s.c.loss, .pointer (some ⟨pb, 0, none⟩), .int .u64 s.bd.hi, .int .u64 s.bd.lo, .int .u64 s.bd.bw, .int .i64 s.st, .int .u64 s.since, .int .u64 s.rounds, .pointer (some ⟨fb, 0, none⟩), .pointer (some ⟨rb, 0, none⟩), .pointer (some ⟨kb, 0, none⟩), .int .u64 s.acked, .int .u64 s.lost, .int .u64 s.cwnd, .int .u64 s.kept, .int .u64 s.ended] 82 (0, 0)) :: pip pb s.p :: fil fb f2 :: cyc rb s.r :: ctr kb s.k :: R))
  (try clear cc1_); (try clear cc2_)
  have cc1_ := HH.out.cells
  have cc2_ := HH.out.r2.cells
  go_wp2_with fail
  go_wp2_with fail
  refine wp_region_reg (some 8) HH.out (by kernel_rfl) ?_
  intro wm H9_
  replace HH := Lib.hid H9_
  clear H9_
  refine reg_s 0 HH.out ?_
  refine reg_s 1 HH.out ?_
  refine reg_s 2 HH.out ?_
  refine mixk_s 3 HH.out (fun _ hx => And.intro hx.cells hx.r2.cells) ?_
  refine reg_s 4 HH.out ?_
  refine reg_s 5 HH.out ?_
  refine mixk_s 6 HH.out (fun _ hx => And.intro hx.cells hx.r2.cells) ?_
  refine reg_l (some 8) (i := 7) rfl (by kernel_rfl) (fun wn hk K hK => ?_)
  replace HH := Lib.hid (hk _ _ HH.out)
  clear hk
  go_simp
  replace HH := Lib.hid (HH.out.alloc (.cells #[.int .u64 sr] 22))
  generalize wn.alloc (.cells #[.int .u64 sr] 22) = wm at *
  generalize wn.heap.size = sb at *
  refine hK _ _ _ HH.out (.inr ⟨rfl, fun _ h => h.tail⟩) ?_
  clear hK K
  refine reg_l none (i := 8) rfl (by kernel_rfl) (fun wn hk K hK => ?_)
  replace HH := Lib.hid (hk _ _ HH.out)
  clear hk
  go_simp
  refine (cycPut_c ε wn _ rb s.r _ 1 1 [sr] (rd1 hU1.out HH.out) hr.out HH.out.r6).mono ?_
  rw [hrt.out]
  rintro e wm ⟨rfl, H9_⟩
  replace HH := Lib.hid H9_
  clear H9_
  refine hK _ _ _ HH.out (.inl (by kernel_rfl)) ?_
  clear hK K
  refine mixk_done (by kernel_rfl) (fun w11_ hk => ?_) _
  replace HH := Lib.hid (hk _ _ HH.out)
  clear hk
  replace HH := Lib.hid (HH.out.pn : Own _ _ (pts g (.cells #[.int .u64 now, .int .u64 sd, .int .u64 si, .int .u64 sr, .int .u64 rtt, .bool true, .bool true, .int .u64 deliv, .int .u64 acked, .int .u64 lost, .int .u64 fl] 87 (0, 0)) :: pts b (.cells #[.int .u64 s.c.mss, .int .u64 s.c.init, .int .u64 s.c.reorder, .int .u64 s.c.window, .int .u64 s.c.probe, .int .u64 s.c.loss, .pointer (some ⟨pb, 0, none⟩), .int .u64 s.bd.hi, .int .u64 s.bd.lo, .int .u64 s.bd.bw, .int .i64 s.st, .int .u64 s.since, .int .u64 s.rounds, .pointer (some ⟨fb, 0, none⟩), .pointer (some ⟨rb, 0, none⟩), .pointer (some ⟨kb, 0, none⟩), .int .u64 s.acked, .int .u64 s.lost, .int .u64 s.cwnd, .int .u64 s.kept, .int .u64 s.ended] 82 (0, 0)) :: pip pb s.p :: fil fb f2 :: cyc rb rt :: ctr kb s.k :: R))
  (try clear cc1_); (try clear cc2_)
  have cc1_ := HH.out.cells
  have cc2_ := HH.out.r2.cells
  go_wp2_with fail
  go_wp2_with fail
  refine wp_region_reg (some 13) HH.out (by kernel_rfl) ?_
  intro wm H9_
  replace HH := Lib.hid H9_
  clear H9_
  refine reg_s 0 HH.out ?_
  refine reg_s 1 HH.out ?_
  refine reg_s 2 HH.out ?_
  refine mixk_s 3 HH.out (fun _ hx => And.intro hx.cells hx.r2.cells) ?_
  refine reg_s 4 HH.out ?_
  refine mixk_s 5 HH.out (fun _ hx => And.intro hx.cells hx.r2.cells) ?_
  refine reg_s 6 HH.out ?_
  refine reg_s 7 HH.out ?_
  refine mixk_s 8 HH.out (fun _ hx => And.intro hx.cells hx.r2.cells) ?_
  refine reg_s 11 HH.out ?_
  refine mixk_s 12 HH.out (fun _ hx => And.intro hx.cells hx.r2.cells) ?_
  refine reg_l (some 13) (i := 9) rfl (by kernel_rfl) (fun wn hk K hK => ?_)
  replace HH := Lib.hid (hk _ _ HH.out)
  clear hk
  go_simp
  replace HH := Lib.hid (HH.out.alloc (.cells #[.int .u64 sd] 22))
  generalize wn.alloc (.cells #[.int .u64 sd] 22) = wm at *
  generalize wn.heap.size = sb at *
  refine hK _ _ _ HH.out (.inr ⟨rfl, fun _ h => h.tail⟩) ?_
  clear hK K
  refine reg_l (some 13) (i := 10) rfl (by kernel_rfl) (fun wn hk K hK => ?_)
  replace HH := Lib.hid (hk _ _ HH.out)
  clear hk
  go_simp
  refine (fixSub_c wn deliv _ 1 1 [sd] hU2.out (rd1 hU3.out HH.out)).mono ?_
  rw [show sless deliv [sd] = ssub deliv sd from by first | rfl | decide]
  rintro e wm ⟨rfl, hbel⟩
  replace HH := Lib.hid ((by first | exact .same hbel | exact .drew hbel | exact .below hbel : Kp wn wm) _ _ HH.out)
  clear hbel
  refine hK _ _ _ HH.out (.inr ⟨rfl, fun _ h => h⟩) ?_
  clear hK K
  refine reg_l none (i := 13) rfl (by kernel_rfl) (fun wn hk K hK => ?_)
  replace HH := Lib.hid (hk _ _ HH.out)
  clear hk
  go_simp
  refine (ctrAck_c ε wn _ kb s.k (ssub deliv sd) deliv HH.out.r7).mono ?_
  rw [hk2.out]
  rintro e wm ⟨rfl, H9_⟩
  replace HH := Lib.hid H9_
  clear H9_
  refine hK _ _ _ HH.out (.inl (by kernel_rfl)) ?_
  clear hK K
  refine reg_s 14 HH.out ?_
  refine mixk_done (by kernel_rfl) (fun w12_ hk => ?_) _
  replace HH := Lib.hid (hk _ _ HH.out)
  clear hk
  replace HH := Lib.hid (HH.out.pn : Own _ _ (pts g (.cells #[.int .u64 now, .int .u64 sd, .int .u64 si, .int .u64 sr, .int .u64 rtt, .bool true, .bool true, .int .u64 deliv, .int .u64 acked, .int .u64 lost, .int .u64 fl] 87 (0, 0)) :: pts b (.cells #[.int .u64 s.c.mss, .int .u64 s.c.init, .int .u64 s.c.reorder, .int .u64 s.c.window, .int .u64 s.c.probe, .int .u64 s.c.loss, .pointer (some ⟨pb, 0, none⟩), .int .u64 s.bd.hi, .int .u64 s.bd.lo, .int .u64 s.bd.bw, .int .i64 s.st, .int .u64 s.since, .int .u64 s.rounds, .pointer (some ⟨fb, 0, none⟩), .pointer (some ⟨rb, 0, none⟩), .pointer (some ⟨kb, 0, none⟩), .int .u64 s.acked, .int .u64 s.lost, .int .u64 s.cwnd, .int .u64 s.kept, .int .u64 s.ended] 82 (0, 0)) :: pip pb s.p :: fil fb f2 :: cyc rb rt :: ctr kb k2 :: R))
  (try clear cc1_); (try clear cc2_)
  have cc1_ := HH.out.cells
  have cc2_ := HH.out.r2.cells
  go_wp2_with fail
  go_wp2_with fail
  refine wp_region_reg (some 13) HH.out (by kernel_rfl) ?_
  intro wm H9_
  replace HH := Lib.hid H9_
  clear H9_
  refine reg_s 0 HH.out ?_
  refine reg_s 1 HH.out ?_
  refine reg_s 2 HH.out ?_
  refine mixk_s 3 HH.out (fun _ hx => And.intro hx.cells hx.r2.cells) ?_
  refine reg_s 4 HH.out ?_
  refine reg_s 5 HH.out ?_
  refine reg_s 6 HH.out ?_
  refine mixk_s 7 HH.out (fun _ hx => And.intro hx.cells hx.r2.cells) ?_
  refine reg_s 9 HH.out ?_
  refine reg_s 10 HH.out ?_
  refine reg_s 11 HH.out ?_
  refine mixk_s 12 HH.out (fun _ hx => And.intro hx.cells hx.r2.cells) ?_
  refine reg_l (some 13) (i := 8) rfl (by kernel_rfl) (fun wn hk K hK => ?_)
  replace HH := Lib.hid (hk _ _ HH.out)
  clear hk
  go_simp
  refine (cycBest_c ε wn _ rb rt hr2.out HH.out.r5).mono ?_
  rw [hb2.out]
  rintro e wm ⟨rfl, hbel⟩
  replace HH := Lib.hid ((by first | exact .same hbel | exact .drew hbel | exact .below hbel : Kp wn wm) _ _ HH.out)
  clear hbel
  refine hK _ _ _ HH.out (.inr ⟨rfl, fun _ h => h⟩) ?_
  clear hK K
  refine reg_l none (i := 13) rfl (by kernel_rfl) (fun wn hk K hK => ?_)
  replace HH := Lib.hid (hk _ _ HH.out)
  clear hk
  go_simp
  refine (pipPut_c ε wn _ pb s.p b2 ov true hb3.out hp.out HH.out.r3).mono ?_
  rw [hp2.out]
  rintro e wm ⟨rfl, H9_⟩
  replace HH := Lib.hid H9_
  clear H9_
  refine hK _ _ _ HH.out (.inl (by kernel_rfl)) ?_
  clear hK K
  refine mixk_done (by kernel_rfl) (fun w13_ hk => ?_) _
  replace HH := Lib.hid (hk _ _ HH.out)
  clear hk
  replace HH := Lib.hid (HH.out.pn : Own _ _ (pts g (.cells #[.int .u64 now, .int .u64 sd, .int .u64 si, .int .u64 sr, .int .u64 rtt, .bool true, .bool true, .int .u64 deliv, .int .u64 acked, .int .u64 lost, .int .u64 fl] 87 (0, 0)) :: pts b (.cells #[.int .u64 s.c.mss, .int .u64 s.c.init, .int .u64 s.c.reorder, .int .u64 s.c.window, .int .u64 s.c.probe, .int .u64 s.c.loss, .pointer (some ⟨pb, 0, none⟩), .int .u64 s.bd.hi, .int .u64 s.bd.lo, .int .u64 s.bd.bw, .int .i64 s.st, .int .u64 s.since, .int .u64 s.rounds, .pointer (some ⟨fb, 0, none⟩), .pointer (some ⟨rb, 0, none⟩), .pointer (some ⟨kb, 0, none⟩), .int .u64 s.acked, .int .u64 s.lost, .int .u64 s.cwnd, .int .u64 s.kept, .int .u64 s.ended] 82 (0, 0)) :: pip pb p2 :: fil fb f2 :: cyc rb rt :: ctr kb k2 :: R))
  go_wp2_with fail
  go_ret
  exact ⟨rfl, (HH.out.pn : Own ε _ (pts b (.cells #[.int .u64 s.c.mss, .int .u64 s.c.init, .int .u64 s.c.reorder, .int .u64 s.c.window, .int .u64 s.c.probe, .int .u64 s.c.loss, .pointer (some ⟨pb, 0, none⟩), .int .u64 s.bd.hi, .int .u64 s.bd.lo, .int .u64 s.bd.bw, .int .i64 s.st, .int .u64 s.since, .int .u64 s.rounds, .pointer (some ⟨fb, 0, none⟩), .pointer (some ⟨rb, 0, none⟩), .pointer (some ⟨kb, 0, none⟩), .int .u64 s.acked, .int .u64 s.lost, .int .u64 s.cwnd, .int .u64 s.kept, .int .u64 s.ended] 82 (0, 0)) :: pip pb p2 :: fil fb f2 :: cyc rb rt :: ctr kb k2 :: R))⟩
 ·rw [if_neg (by simp [hc])]
  have hr2 := Lib.hid hr.out
  have hb3 := Lib.hid hrU
  have hb2 := hrb
  rw [hb2] at hb3 ⊢
  obtain ⟨b2, hbb⟩ : ∃ y, rbest = y := ⟨_, rfl⟩
  subst hbb
  obtain ⟨p2, hp2⟩ : ∃ y, s.p.put rbest ov true = y := ⟨_, rfl⟩
  rw [hp2]
  replace hb2 := Lib.hid hb2
  replace hp2 := Lib.hid hp2
  replace hrt := Lib.hid hrt
  replace hrb := Lib.hid hrb
  clear hr3 hrU
  go_enter Tryz.func74, Tryz.ntmps74
  go_wp2_with (with_reducible refine stop_bx ?_)
  refine Stop.go ?_
  refine wpList_box_own HH.out [_, _, _, _, _, _, _, _, _, _, _] rfl ?_
  intro g w14_ H9_
  replace HH := Lib.hid H9_
  clear H9_
  (try clear cc1_); (try clear cc2_)
  have cc1_ := HH.out.cells
  have cc2_ := HH.out.r2.cells
  go_wp2_with fail
  go_wp2_with fail
  refine wp_region_reg (some 9) HH.out (by kernel_rfl) ?_
  intro wm H9_
  replace HH := Lib.hid H9_
  clear H9_
  refine reg_s 0 HH.out ?_
  refine reg_s 1 HH.out ?_
  refine reg_s 2 HH.out ?_
  refine mixk_s 3 HH.out (fun _ hx => And.intro hx.cells hx.r2.cells) ?_
  refine reg_s 4 HH.out ?_
  refine mixk_s 5 HH.out (fun _ hx => And.intro hx.cells hx.r2.cells) ?_
  refine reg_s 6 HH.out ?_
  refine reg_s 7 HH.out ?_
  refine mixk_s 8 HH.out (fun _ hx => And.intro hx.cells hx.r2.cells) ?_
  refine reg_l none (i := 9) rfl (by kernel_rfl) (fun wn hk K hK => ?_)
  replace HH := Lib.hid (hk _ _ HH.out)
  clear hk
  go_simp
  refine (filPut_c ε wn _ fb s.f now rtt hf.out hl.out HH.out.r4).mono ?_
  rw [hf2.out]
  rintro e wm ⟨rfl, H9_⟩
  replace HH := Lib.hid H9_
  clear H9_
  refine hK _ _ _ HH.out (.inl (by kernel_rfl)) ?_
  clear hK K
  refine mixk_done (by kernel_rfl) (fun w15_ hk => ?_) _
  replace HH := Lib.hid (hk _ _ HH.out)
  clear hk
  replace HH := Lib.hid (HH.out.pn : Own _ _ (pts g (.cells #[.int .u64 now, .int .u64 sd, .int .u64 si, .int .u64 sr, .int .u64 rtt, .bool true, .bool true, .int .u64 deliv, .int .u64 acked, .int .u64 lost, .int .u64 fl] 87 (0, 0)) :: pts b (.cells #[.int .u64 s.c.mss, .int .u64 s.c.init, .int .u64 s.c.reorder, .int .u64 s.c.window, .int .u64 s.c.probe, .int .u64 s.c.loss, .pointer (some ⟨pb, 0, none⟩), .int .u64 s.bd.hi, .int .u64 s.bd.lo, .int .u64 s.bd.bw, .int .i64 s.st, .int .u64 s.since, .int .u64 s.rounds, .pointer (some ⟨fb, 0, none⟩), .pointer (some ⟨rb, 0, none⟩), .pointer (some ⟨kb, 0, none⟩), .int .u64 s.acked, .int .u64 s.lost, .int .u64 s.cwnd, .int .u64 s.kept, .int .u64 s.ended] 82 (0, 0)) :: pip pb s.p :: fil fb f2 :: cyc rb s.r :: ctr kb s.k :: R))
  (try clear cc1_); (try clear cc2_)
  have cc1_ := HH.out.cells
  have cc2_ := HH.out.r2.cells
  go_wp2_with fail
  go_wp2_with fail
  refine wp_region_reg none HH.out (by kernel_rfl) ?_
  intro wm H9_
  replace HH := Lib.hid H9_
  clear H9_
  refine reg_s 0 HH.out ?_
  refine reg_s 1 HH.out ?_
  refine mixk_s 2 HH.out (fun _ hx => And.intro hx.cells hx.r2.cells) ?_
  refine reg_s 3 HH.out ?_
  refine reg_s 4 HH.out ?_
  refine reg_s 5 HH.out ?_
  refine reg_s 6 HH.out ?_
  refine mixk_s 7 HH.out (fun _ hx => And.intro hx.cells hx.r2.cells) ?_
  refine reg_s 8 HH.out ?_
  refine reg_s 9 HH.out ?_
  refine reg_s 10 HH.out ?_
  refine mixk_s 11 HH.out (fun _ hx => And.intro hx.cells hx.r2.cells) ?_
  refine reg_l none (i := 12) rfl (by kernel_rfl) (fun wn hk K hK => ?_)
  replace HH := Lib.hid (hk _ _ HH.out)
  clear hk
  go_simp
  refine (cycBest_c ε wn _ rb s.r hr.out HH.out.r5).mono ?_
  rw [hrb.out]
  rintro e wm ⟨rfl, hbel⟩
  replace HH := Lib.hid ((by first | exact .same hbel | exact .drew hbel | exact .below hbel : Kp wn wm) _ _ HH.out)
  clear hbel
  refine hK _ _ _ HH.out (.inr ⟨rfl, fun _ h => h⟩) ?_
  clear hK K
  refine reg_s 13 HH.out ?_
  refine reg_s 14 HH.out ?_
  refine mixk_done (by kernel_rfl) (fun w16_ hk => ?_) _
  replace HH := Lib.hid (hk _ _ HH.out)
  clear hk
  replace HH := Lib.hid (HH.out.pn : Own _ _ (pts g (.cells #[.int .u64 now, .int .u64 sd, .int .u64 si, .int .u64 sr, .int .u64 rtt, .bool true, .bool true, .int .u64 deliv, .int .u64 acked, .int .u64 lost, .int .u64 fl] 87 (0, 0)) :: pts b (.cells #[.int .u64 s.c.mss, .int .u64 s.c.init, .int .u64 s.c.reorder, .int .u64 s.c.window, .int .u64 s.c.probe, .int .u64 s.c.loss, .pointer (some ⟨pb, 0, none⟩), .int .u64 s.bd.hi, .int .u64 s.bd.lo, .int .u64 s.bd.bw, .int .i64 s.st, .int .u64 s.since, .int .u64 s.rounds, .pointer (some ⟨fb, 0, none⟩), .pointer (some ⟨rb, 0, none⟩), .pointer (some ⟨kb, 0, none⟩), .int .u64 s.acked, .int .u64 s.lost, .int .u64 s.cwnd, .int .u64 s.kept, .int .u64 s.ended] 82 (0, 0)) :: pip pb s.p :: fil fb f2 :: cyc rb s.r :: ctr kb s.k :: R))
  (try clear cc1_); (try clear cc2_)
  have cc1_ := HH.out.cells
  have cc2_ := HH.out.r2.cells
  go_wp2_with fail
  go_wp2_with fail
  refine wp_region_reg (some 13) HH.out (by kernel_rfl) ?_
  intro wm H9_
  replace HH := Lib.hid H9_
  clear H9_
  refine reg_s 0 HH.out ?_
  refine reg_s 1 HH.out ?_
  refine reg_s 2 HH.out ?_
  refine mixk_s 3 HH.out (fun _ hx => And.intro hx.cells hx.r2.cells) ?_
  refine reg_s 4 HH.out ?_
  refine mixk_s 5 HH.out (fun _ hx => And.intro hx.cells hx.r2.cells) ?_
  refine reg_s 6 HH.out ?_
  refine reg_s 7 HH.out ?_
  refine mixk_s 8 HH.out (fun _ hx => And.intro hx.cells hx.r2.cells) ?_
  refine reg_s 11 HH.out ?_
  refine mixk_s 12 HH.out (fun _ hx => And.intro hx.cells hx.r2.cells) ?_
  refine reg_l (some 13) (i := 9) rfl (by kernel_rfl) (fun wn hk K hK => ?_)
  replace HH := Lib.hid (hk _ _ HH.out)
  clear hk
  go_simp
  replace HH := Lib.hid (HH.out.alloc (.cells #[.int .u64 sd] 22))
  generalize wn.alloc (.cells #[.int .u64 sd] 22) = wm at *
  generalize wn.heap.size = sb at *
  refine hK _ _ _ HH.out (.inr ⟨rfl, fun _ h => h.tail⟩) ?_
  clear hK K
  refine reg_l (some 13) (i := 10) rfl (by kernel_rfl) (fun wn hk K hK => ?_)
  replace HH := Lib.hid (hk _ _ HH.out)
  clear hk
  go_simp
  refine (fixSub_c wn deliv _ 1 1 [sd] hU2.out (rd1 hU3.out HH.out)).mono ?_
  rw [show sless deliv [sd] = ssub deliv sd from by first | rfl | decide]
  rintro e wm ⟨rfl, hbel⟩
  replace HH := Lib.hid ((by first | exact .same hbel | exact .drew hbel | exact .below hbel : Kp wn wm) _ _ HH.out)
  clear hbel
  refine hK _ _ _ HH.out (.inr ⟨rfl, fun _ h => h⟩) ?_
  clear hK K
  refine reg_l none (i := 13) rfl (by kernel_rfl) (fun wn hk K hK => ?_)
  replace HH := Lib.hid (hk _ _ HH.out)
  clear hk
  go_simp
  refine (ctrAck_c ε wn _ kb s.k (ssub deliv sd) deliv HH.out.r7).mono ?_
  rw [hk2.out]
  rintro e wm ⟨rfl, H9_⟩
  replace HH := Lib.hid H9_
  clear H9_
  refine hK _ _ _ HH.out (.inl (by kernel_rfl)) ?_
  clear hK K
  refine reg_s 14 HH.out ?_
  refine mixk_done (by kernel_rfl) (fun w17_ hk => ?_) _
  replace HH := Lib.hid (hk _ _ HH.out)
  clear hk
  replace HH := Lib.hid (HH.out.pn : Own _ _ (pts g (.cells #[.int .u64 now, .int .u64 sd, .int .u64 si, .int .u64 sr, .int .u64 rtt, .bool true, .bool true, .int .u64 deliv, .int .u64 acked, .int .u64 lost, .int .u64 fl] 87 (0, 0)) :: pts b (.cells #[.int .u64 s.c.mss, .int .u64 s.c.init, .int .u64 s.c.reorder, .int .u64 s.c.window, .int .u64 s.c.probe, .int .u64 s.c.loss, .pointer (some ⟨pb, 0, none⟩), .int .u64 s.bd.hi, .int .u64 s.bd.lo, .int .u64 s.bd.bw, .int .i64 s.st, .int .u64 s.since, .int .u64 s.rounds, .pointer (some ⟨fb, 0, none⟩), .pointer (some ⟨rb, 0, none⟩), .pointer (some ⟨kb, 0, none⟩), .int .u64 s.acked, .int .u64 s.lost, .int .u64 s.cwnd, .int .u64 s.kept, .int .u64 s.ended] 82 (0, 0)) :: pip pb s.p :: fil fb f2 :: cyc rb s.r :: ctr kb k2 :: R))
  (try clear cc1_); (try clear cc2_)
  have cc1_ := HH.out.cells
  have cc2_ := HH.out.r2.cells
  go_wp2_with fail
  go_wp2_with fail
  refine wp_region_reg (some 13) HH.out (by kernel_rfl) ?_
  intro wm H9_
  replace HH := Lib.hid H9_
  clear H9_
  refine reg_s 0 HH.out ?_
  refine reg_s 1 HH.out ?_
  refine reg_s 2 HH.out ?_
  refine mixk_s 3 HH.out (fun _ hx => And.intro hx.cells hx.r2.cells) ?_
  refine reg_s 4 HH.out ?_
  refine reg_s 5 HH.out ?_
  refine reg_s 6 HH.out ?_
  refine mixk_s 7 HH.out (fun _ hx => And.intro hx.cells hx.r2.cells) ?_
  refine reg_s 9 HH.out ?_
  refine reg_s 10 HH.out ?_
  refine reg_s 11 HH.out ?_
  refine mixk_s 12 HH.out (fun _ hx => And.intro hx.cells hx.r2.cells) ?_
  refine reg_l (some 13) (i := 8) rfl (by kernel_rfl) (fun wn hk K hK => ?_)
  replace HH := Lib.hid (hk _ _ HH.out)
  clear hk
  go_simp
  refine (cycBest_c ε wn _ rb s.r hr2.out HH.out.r5).mono ?_
  rw [hb2.out]
  rintro e wm ⟨rfl, hbel⟩
  replace HH := Lib.hid ((by first | exact .same hbel | exact .drew hbel | exact .below hbel : Kp wn wm) _ _ HH.out)
  clear hbel
  refine hK _ _ _ HH.out (.inr ⟨rfl, fun _ h => h⟩) ?_
  clear hK K
  refine reg_l none (i := 13) rfl (by kernel_rfl) (fun wn hk K hK => ?_)
  replace HH := Lib.hid (hk _ _ HH.out)
  clear hk
  go_simp
  refine (pipPut_c ε wn _ pb s.p rbest ov true hb3.out hp.out HH.out.r3).mono ?_
  rw [hp2.out]
  rintro e wm ⟨rfl, H9_⟩
  replace HH := Lib.hid H9_
  clear H9_
  refine hK _ _ _ HH.out (.inl (by kernel_rfl)) ?_
  clear hK K
  refine mixk_done (by kernel_rfl) (fun w18_ hk => ?_) _
  replace HH := Lib.hid (hk _ _ HH.out)
  clear hk
  replace HH := Lib.hid (HH.out.pn : Own _ _ (pts g (.cells #[.int .u64 now, .int .u64 sd, .int .u64 si, .int .u64 sr, .int .u64 rtt, .bool true, .bool true, .int .u64 deliv, .int .u64 acked, .int .u64 lost, .int .u64 fl] 87 (0, 0)) :: pts b (.cells #[.int .u64 s.c.mss, .int .u64 s.c.init, .int .u64 s.c.reorder, .int .u64 s.c.window, .int .u64 s.c.probe, .int .u64 s.c.loss, .pointer (some ⟨pb, 0, none⟩), .int .u64 s.bd.hi, .int .u64 s.bd.lo, .int .u64 s.bd.bw, .int .i64 s.st, .int .u64 s.since, .int .u64 s.rounds, .pointer (some ⟨fb, 0, none⟩), .pointer (some ⟨rb, 0, none⟩), .pointer (some ⟨kb, 0, none⟩), .int .u64 s.acked, .int .u64 s.lost, .int .u64 s.cwnd, .int .u64 s.kept, .int .u64 s.ended] 82 (0, 0)) :: pip pb p2 :: fil fb f2 :: cyc rb s.r :: ctr kb k2 :: R))
  go_wp2_with fail
  go_ret
  exact ⟨rfl, (HH.out.pn : Own ε _ (pts b (.cells #[.int .u64 s.c.mss, .int .u64 s.c.init, .int .u64 s.c.reorder, .int .u64 s.c.window, .int .u64 s.c.probe, .int .u64 s.c.loss, .pointer (some ⟨pb, 0, none⟩), .int .u64 s.bd.hi, .int .u64 s.bd.lo, .int .u64 s.bd.bw, .int .i64 s.st, .int .u64 s.since, .int .u64 s.rounds, .pointer (some ⟨fb, 0, none⟩), .pointer (some ⟨rb, 0, none⟩), .pointer (some ⟨kb, 0, none⟩), .int .u64 s.acked, .int .u64 s.lost, .int .u64 s.cwnd, .int .u64 s.kept, .int .u64 s.ended] 82 (0, 0)) :: pip pb p2 :: fil fb f2 :: cyc rb s.r :: ctr kb k2 :: R))⟩
end
end Go.Proofs.YtmkcpnlbicijoaaGreat
