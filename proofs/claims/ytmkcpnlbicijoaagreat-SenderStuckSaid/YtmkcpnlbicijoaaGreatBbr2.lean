/- bbr: samples, rounds, what is stale: written by mkbbr.py. -/
import Derived.Test.YtmkcpnlbicijoaaGreatBbr
import Derived.Test.YtmkcpnlbicijoaaGreatMode3
namespace Go.Proofs.YtmkcpnlbicijoaaGreat
open Go.RowKit
structure Evt where
 now : Int
 sd : Int
 si : Int
 sr : Int
 rtt : Int
 slim : Bool
 some : Bool
 deliv : Int
 acked : Int
 lost : Int
 fl : Int
def Evt.v (x : Evt) : Value := .agg #[.int .u64 x.now, .int .u64 x.sd, .int .u64 x.si, .int .u64 x.sr, .int .u64 x.rtt, .bool x.slim, .bool x.some, .int .u64 x.deliv, .int .u64 x.acked, .int .u64 x.lost, .int .u64 x.fl]
abbrev evtB (g : Nat) (x : Evt) : Asn := pts g (.cells #[.int .u64 x.now, .int .u64 x.sd, .int .u64 x.si, .int .u64 x.sr, .int .u64 x.rtt, .bool x.slim, .bool x.some, .int .u64 x.deliv, .int .u64 x.acked, .int .u64 x.lost, .int .u64 x.fl] 87 (0, 0))
structure Evt.Ok (x : Evt) : Prop where
 now : U x.now
 sd : U x.sd
 si : U x.si
 sr : U x.sr
 rtt : U x.rtt
 deliv : U x.deliv
 acked : U x.acked
 lost : U x.lost
 fl : U x.fl
def Eng.isLossy (s : Eng) : Bool := decide (smul s.c.loss (sadd s.acked s.lost) < smul s.lost 1000)
def Eng.calm (s : Eng) : Eng := { s with acked := 0, lost := 0, rounds := IntKind.u64.wrap (s.rounds + 1) }
def Eng.stale (s : Eng) (now : Int) : Bool := if s.f.best.2 = true then decide (s.c.window / 2 < ssub now (max s.f.best.1.1 s.ended)) else false
def Eng.rates (s : Eng) (x : Evt) : Cyc := if x.slim = false ∨ s.r.best ≤ x.sr then s.r.put [x.sr] else s.r
def Eng.over (s : Eng) (x : Evt) : Bool := (s.k.ack (ssub x.deliv x.sd) x.deliv).1
def Eng.sample (s : Eng) (x : Evt) : Eng := { s with f := (s.f.put x.now x.rtt).2, r := s.rates x, k := (s.k.ack (ssub x.deliv x.sd) x.deliv).2, p := s.p.put (s.rates x).best (s.over x) x.slim }
theorem rd1 {ε w : World} {R : List Asn} {g : Nat} {T : TypeId} {x : Int} (hx : U x) (H : Own ε w (pts g (.cells #[.int .u64 x] T (0, 0)) :: R)) : rdSlice (rdInt .u64) 1 w [.slice (some ⟨g, 0, none⟩) 1 1] [x] := by
 refine rdInts_at [x] (fun i hi => ?_) (by intro y hy; rw [List.mem_singleton.1 hy]; exact hx) (by show 1 ≤ maxLen; decide)
 obtain rfl : i = 0 := by simp at hi; omega
 exact H.cells.1 0
section
variable (ε w : World) (R : List Asn) (b pb fb rb kb : Nat)
set_option maxHeartbeats 3200000 in
theorem engStale_c (s : Eng) (hs : s.Ok) (now : Int) (hn : U now) (H : Own ε w (pts b (.cells #[.int .u64 s.c.mss, .int .u64 s.c.init, .int .u64 s.c.reorder, .int .u64 s.c.window, .int .u64 s.c.probe, .int .u64 s.c.loss, .pointer (some ⟨pb, 0, none⟩), .int .u64 s.bd.hi, .int .u64 s.bd.lo, .int .u64 s.bd.bw, .int .i64 s.st, .int .u64 s.since, .int .u64 s.rounds, .pointer (some ⟨fb, 0, none⟩), .pointer (some ⟨rb, 0, none⟩), .pointer (some ⟨kb, 0, none⟩), .int .u64 s.acked, .int .u64 s.lost, .int .u64 s.cwnd, .int .u64 s.kept, .int .u64 s.ended] 82 (0, 0)) :: pip pb s.p :: fil fb s.f :: cyc rb s.r :: ctr kb s.k :: R)) :
  Calls Tryz.prog 116 #[.pointer (some ⟨b, 0, none⟩), .int .u64 now] w fun e w' => e = .returned (.bool (s.stale now)) ∧ Own ε w' (pts b (.cells #[.int .u64 s.c.mss, .int .u64 s.c.init, .int .u64 s.c.reorder, .int .u64 s.c.window, .int .u64 s.c.probe, .int .u64 s.c.loss, .pointer (some ⟨pb, 0, none⟩), .int .u64 s.bd.hi, .int .u64 s.bd.lo, .int .u64 s.bd.bw, .int .i64 s.st, .int .u64 s.since, .int .u64 s.rounds, .pointer (some ⟨fb, 0, none⟩), .pointer (some ⟨rb, 0, none⟩), .pointer (some ⟨kb, 0, none⟩), .int .u64 s.acked, .int .u64 s.lost, .int .u64 s.cwnd, .int .u64 s.kept, .int .u64 s.ended] 82 (0, 0)) :: pip pb s.p :: fil fb s.f :: cyc rb s.r :: ctr kb s.k :: R) := by
 have HH := Lib.hid H; clear H
 unfold Eng.stale
 have hb1 : s.f.best.2 = true → U s.f.best.1.1 := by
  intro h
  unfold Fil.best at h ⊢
  cases hl : s.f.l with
  | nil => rw [hl] at h; cases h
  | cons r l => exact (hs.f.2.2 r (by rw [hl]; exact List.mem_cons_self ..)).1
 obtain ⟨⟨⟨q1, q2⟩, so⟩, hq⟩ : ∃ r, s.f.best = r := ⟨_, rfl⟩
 rw [hq] at hb1 ⊢
 have hen := hs.ended
 have hdv : s.c.window.tdiv 2 = s.c.window / 2 := Int.tdiv_eq_ediv_of_nonneg hs.c.window.1
 have hwv : IntKind.u64.wrap (s.c.window / 2) = s.c.window / 2 := by have := hs.c.window; unfold U at this; rw [IntKind.wrap_u64]; omega
 obtain ⟨hw2, hhw⟩ : ∃ x, s.c.window / 2 = x := ⟨_, rfl⟩
 rw [hhw] at hdv hwv ⊢
 replace hhw := Lib.hid hhw
 replace hq := Lib.hid hq
 replace hn := Lib.hid hn
 clear hs
 have ix := max_ite'
 cases so
 ·clear hb1
  rw [if_neg (by simp)]
  go_enter Tryz.func116, Tryz.ntmps116
  (try clear cc1_)
  have cc1_ := HH.out.cells
  go_wp2_with fail
  refine (filBest_c ε _ _ fb s.f HH.out.r3).mono ?_
  rw [hq.out]
  rintro e w1_ ⟨rfl, H9_⟩
  replace HH := Lib.hid H9_
  clear H9_
  replace HH := Lib.hid (HH.out.pn : Own ε _ (pts b (.cells #[.int .u64 s.c.mss, .int .u64 s.c.init, .int .u64 s.c.reorder, .int .u64 s.c.window, .int .u64 s.c.probe, .int .u64 s.c.loss, .pointer (some ⟨pb, 0, none⟩), .int .u64 s.bd.hi, .int .u64 s.bd.lo, .int .u64 s.bd.bw, .int .i64 s.st, .int .u64 s.since, .int .u64 s.rounds, .pointer (some ⟨fb, 0, none⟩), .pointer (some ⟨rb, 0, none⟩), .pointer (some ⟨kb, 0, none⟩), .int .u64 s.acked, .int .u64 s.lost, .int .u64 s.cwnd, .int .u64 s.kept, .int .u64 s.ended] 82 (0, 0)) :: pip pb s.p :: fil fb s.f :: cyc rb s.r :: ctr kb s.k :: R))
  (try clear cc1_)
  go_wp2_with fail
  go_wp2_with fail
  refine wp_region_reg none HH.out (by kernel_rfl) ?_
  intro wm H9_
  replace HH := Lib.hid H9_
  clear H9_
  refine reg_s 0 HH.out ?_
  refine reg_s 1 HH.out ?_
  refine reg_s 2 HH.out ?_
  refine reg_s 3 HH.out ?_
  refine reg_s 4 HH.out ?_
  refine reg_s 5 HH.out ?_
  refine reg_s 6 HH.out ?_
  refine mixk_s 7 HH.out (fun _ hx => hx.cells) ?_
  refine reg_s 8 HH.out ?_
  refine reg_s 11 HH.out ?_
  refine reg_s 12 HH.out ?_
  refine reg_s 13 HH.out ?_
  refine reg_s 14 HH.out ?_
  refine mixk_s 15 HH.out (fun _ hx => hx.cells) ?_
  refine reg_s 16 HH.out ?_
  refine reg_l none (i := 9) rfl (by kernel_rfl) (fun wn hk K hK => ?_)
  replace HH := Lib.hid (hk _ _ HH.out)
  clear hk
  go_simp
  refine hK _ _ _ HH.out (.inr ⟨rfl, fun _ h => h⟩) ?_
  clear hK K
  refine reg_l none (i := 10) rfl (by kernel_rfl) (fun wn hk K hK => ?_)
  replace HH := Lib.hid (hk _ _ HH.out)
  clear hk
  go_simp
  refine hK _ _ _ HH.out (.inr ⟨rfl, fun _ h => h⟩) ?_
  clear hK K
  refine reg_s 17 HH.out ?_
  refine reg_s 18 HH.out ?_
  refine reg_s 19 HH.out ?_
  refine mixk_done (by kernel_rfl) (fun w2_ hk => ?_) _
  replace HH := Lib.hid (hk _ _ HH.out)
  clear hk
  go_wp2_with fail
  go_ret
  exact ⟨rfl, HH.out⟩
 ·have hm := U_max (hb1 rfl) hen
  rw [if_pos rfl]
  replace hm := Lib.hid hm
  replace hen := Lib.hid hen
  clear hb1
  go_enter Tryz.func116, Tryz.ntmps116
  (try clear cc1_)
  have cc1_ := HH.out.cells
  go_wp2_with fail
  refine (filBest_c ε _ _ fb s.f HH.out.r3).mono ?_
  rw [hq.out]
  rintro e w3_ ⟨rfl, H9_⟩
  replace HH := Lib.hid H9_
  clear H9_
  replace HH := Lib.hid (HH.out.pn : Own ε _ (pts b (.cells #[.int .u64 s.c.mss, .int .u64 s.c.init, .int .u64 s.c.reorder, .int .u64 s.c.window, .int .u64 s.c.probe, .int .u64 s.c.loss, .pointer (some ⟨pb, 0, none⟩), .int .u64 s.bd.hi, .int .u64 s.bd.lo, .int .u64 s.bd.bw, .int .i64 s.st, .int .u64 s.since, .int .u64 s.rounds, .pointer (some ⟨fb, 0, none⟩), .pointer (some ⟨rb, 0, none⟩), .pointer (some ⟨kb, 0, none⟩), .int .u64 s.acked, .int .u64 s.lost, .int .u64 s.cwnd, .int .u64 s.kept, .int .u64 s.ended] 82 (0, 0)) :: pip pb s.p :: fil fb s.f :: cyc rb s.r :: ctr kb s.k :: R))
  (try clear cc1_)
  go_wp2_with fail
  go_wp2_with fail
  refine wp_region_reg none HH.out (by kernel_rfl) ?_
  intro wm H9_
  replace HH := Lib.hid H9_
  clear H9_
  refine reg_s 0 HH.out ?_
  refine reg_s 1 HH.out ?_
  refine reg_s 2 HH.out ?_
  refine reg_s 3 HH.out ?_
  refine reg_s 4 HH.out ?_
  refine reg_s 5 HH.out ?_
  refine reg_s 6 HH.out ?_
  refine mixk_s 7 HH.out (fun _ hx => hx.cells) ?_
  refine reg_s 8 HH.out ?_
  refine reg_s 11 HH.out ?_
  refine reg_s 12 HH.out ?_
  refine reg_s 13 HH.out ?_
  refine reg_s 14 HH.out ?_
  refine mixk_s 15 HH.out (fun _ hx => hx.cells) ?_
  refine reg_s 16 HH.out ?_
  refine reg_l none (i := 9) rfl (by kernel_rfl) (fun wn hk K hK => ?_)
  replace HH := Lib.hid (hk _ _ HH.out)
  clear hk
  go_simp
  replace HH := Lib.hid (HH.out.alloc (.cells #[.int .u64 (max q1 s.ended)] 22))
  generalize wn.alloc (.cells #[.int .u64 (max q1 s.ended)] 22) = wm at *
  generalize wn.heap.size = sb at *
  refine hK _ _ _ HH.out (.inr ⟨rfl, fun _ h => h.tail⟩) ?_
  clear hK K
  refine reg_l none (i := 10) rfl (by kernel_rfl) (fun wn hk K hK => ?_)
  replace HH := Lib.hid (hk _ _ HH.out)
  clear hk
  go_simp
  refine (fixSub_c wn now _ 1 1 [max q1 s.ended] hn.out (rd1 hm.out HH.out)).mono ?_
  rw [show sless now [max q1 s.ended] = ssub now (max q1 s.ended) from by first | rfl | decide]
  rintro e wm ⟨rfl, hbel⟩
  replace HH := Lib.hid ((by first | exact .same hbel | exact .drew hbel | exact .below hbel : Kp wn wm) _ _ HH.out)
  clear hbel
  refine hK _ _ _ HH.out (.inr ⟨rfl, fun _ h => h⟩) ?_
  clear hK K
  refine reg_s 17 HH.out ?_
  refine reg_s 18 HH.out ?_
  refine reg_s 19 HH.out ?_
  refine mixk_done (by kernel_rfl) (fun w4_ hk => ?_) _
  replace HH := Lib.hid (hk _ _ HH.out)
  clear hk
  go_wp2_with fail
  go_ret
  exact ⟨rfl, HH.out.pn⟩
set_option maxHeartbeats 3200000 in
theorem engLossy_c (s : Eng) (hs : s.Ok) (H : Own ε w (pts b (.cells #[.int .u64 s.c.mss, .int .u64 s.c.init, .int .u64 s.c.reorder, .int .u64 s.c.window, .int .u64 s.c.probe, .int .u64 s.c.loss, .pointer (some ⟨pb, 0, none⟩), .int .u64 s.bd.hi, .int .u64 s.bd.lo, .int .u64 s.bd.bw, .int .i64 s.st, .int .u64 s.since, .int .u64 s.rounds, .pointer (some ⟨fb, 0, none⟩), .pointer (some ⟨rb, 0, none⟩), .pointer (some ⟨kb, 0, none⟩), .int .u64 s.acked, .int .u64 s.lost, .int .u64 s.cwnd, .int .u64 s.kept, .int .u64 s.ended] 82 (0, 0)) :: pip pb s.p :: fil fb s.f :: cyc rb s.r :: ctr kb s.k :: R)) :
  Calls Tryz.prog 75 #[.pointer (some ⟨b, 0, none⟩)] w fun e w' => e = .returned (.bool s.isLossy) ∧ Own ε w' (pts b (.cells #[.int .u64 s.calm.c.mss, .int .u64 s.calm.c.init, .int .u64 s.calm.c.reorder, .int .u64 s.calm.c.window, .int .u64 s.calm.c.probe, .int .u64 s.calm.c.loss, .pointer (some ⟨pb, 0, none⟩), .int .u64 s.calm.bd.hi, .int .u64 s.calm.bd.lo, .int .u64 s.calm.bd.bw, .int .i64 s.calm.st, .int .u64 s.calm.since, .int .u64 s.calm.rounds, .pointer (some ⟨fb, 0, none⟩), .pointer (some ⟨rb, 0, none⟩), .pointer (some ⟨kb, 0, none⟩), .int .u64 s.calm.acked, .int .u64 s.calm.lost, .int .u64 s.calm.cwnd, .int .u64 s.calm.kept, .int .u64 s.calm.ended] 82 (0, 0)) :: pip pb s.calm.p :: fil fb s.calm.f :: cyc rb s.calm.r :: ctr kb s.calm.k :: R) := by
 have HH := Lib.hid H; clear H
 unfold Eng.isLossy
 have h1 := Lib.hid hs.acked
 have h2 := Lib.hid hs.lost
 have h3 := Lib.hid hs.c.loss
 have h4 := Lib.hid (U_sadd hs.acked hs.lost)
 clear hs
 go_enter Tryz.func75, Tryz.ntmps75
 go_wp2_with fail
 go_wp2_with fail
 refine wp_region_reg none HH.out (by kernel_rfl) ?_
 intro wm H9_
 replace HH := Lib.hid H9_
 clear H9_
 refine reg_s 0 HH.out ?_
 refine reg_s 1 HH.out ?_
 refine reg_s 2 HH.out ?_
 refine mixk_s 3 HH.out (fun _ hx => hx.cells) ?_
 refine reg_s 5 HH.out ?_
 refine reg_s 6 HH.out ?_
 refine reg_s 7 HH.out ?_
 refine reg_s 8 HH.out ?_
 refine mixk_s 9 HH.out (fun _ hx => hx.cells) ?_
 refine reg_s 10 HH.out ?_
 refine reg_s 11 HH.out ?_
 refine reg_s 12 HH.out ?_
 refine mixk_s 13 HH.out (fun _ hx => hx.cells) ?_
 refine reg_s 14 HH.out ?_
 refine reg_s 15 HH.out ?_
 refine reg_s 16 HH.out ?_
 refine mixk_s 17 HH.out (fun _ hx => hx.cells) ?_
 refine reg_two none none (i := 4) (j := 18) rfl rfl (by kernel_rfl) (fun wn hk K hK => ?g1_) (fun wn hk K hK => ?g2_)
 case' g1_ =>
  replace HH := Lib.hid (hk _ _ HH.out)
  clear hk
  go_simp
  refine (fixMul_c wn s.lost 1000 h2.out (by decide)).mono ?_
  rintro e wm ⟨rfl, hbel⟩
  replace HH := Lib.hid ((by first | exact .same hbel | exact .drew hbel | exact .below hbel : Kp wn wm) _ _ HH.out)
  clear hbel
  refine hK _ _ _ HH.out (.inr ⟨rfl, fun _ h => h⟩) ?_
  clear hK K
  refine reg_l none (i := 18) rfl (by kernel_rfl) (fun wn hk K hK => ?_)
  replace HH := Lib.hid (hk _ _ HH.out)
  clear hk
  go_simp
  replace HH := Lib.hid (HH.out.alloc (.cells #[.int .u64 s.acked, .int .u64 s.lost] 22))
  generalize wn.alloc (.cells #[.int .u64 s.acked, .int .u64 s.lost] 22) = wm at *
  generalize wn.heap.size = sb at *
  refine hK _ _ _ HH.out (.inr ⟨rfl, fun _ h => h.tail⟩) ?_
  clear hK K
  refine reg_l none (i := 19) rfl (by kernel_rfl) (fun wn hk K hK => ?_)
  replace HH := Lib.hid (hk _ _ HH.out)
  clear hk
  go_simp
  refine (fixAdd2_c wn sb s.acked s.lost h1.out h2.out (HH.out.cells.1 0) (HH.out.cells.1 1)).mono ?_
  rintro e wm ⟨rfl, hbel⟩
  replace HH := Lib.hid ((by first | exact .same hbel | exact .drew hbel | exact .below hbel : Kp wn wm) _ _ HH.out)
  clear hbel
  refine hK _ _ _ HH.out (.inr ⟨rfl, fun _ h => h⟩) ?_
  clear hK K
  refine reg_l none (i := 20) rfl (by kernel_rfl) (fun wn hk K hK => ?_)
  replace HH := Lib.hid (hk _ _ HH.out)
  clear hk
  go_simp
  refine (fixMul_c wn s.c.loss (sadd s.acked s.lost) h3.out h4.out).mono ?_
  rintro e wm ⟨rfl, hbel⟩
  replace HH := Lib.hid ((by first | exact .same hbel | exact .drew hbel | exact .below hbel : Kp wn wm) _ _ HH.out)
  clear hbel
  refine hK _ _ _ HH.out (.inr ⟨rfl, fun _ h => h⟩) ?_
  clear hK K
  refine reg_s 21 HH.out ?_
  refine reg_s 22 HH.out ?_
  refine mixk_done (by kernel_rfl) (fun w5_ hk => ?_) _
  replace HH := Lib.hid (hk _ _ HH.out)
  clear hk
  replace HH := Lib.hid (HH.out.pn : Own _ _ (pts b (.cells #[.int .u64 s.c.mss, .int .u64 s.c.init, .int .u64 s.c.reorder, .int .u64 s.c.window, .int .u64 s.c.probe, .int .u64 s.c.loss, .pointer (some ⟨pb, 0, none⟩), .int .u64 s.bd.hi, .int .u64 s.bd.lo, .int .u64 s.bd.bw, .int .i64 s.st, .int .u64 s.since, .int .u64 s.rounds, .pointer (some ⟨fb, 0, none⟩), .pointer (some ⟨rb, 0, none⟩), .pointer (some ⟨kb, 0, none⟩), .int .u64 s.acked, .int .u64 s.lost, .int .u64 s.cwnd, .int .u64 s.kept, .int .u64 s.ended] 82 (0, 0)) :: pip pb s.p :: fil fb s.f :: cyc rb s.r :: ctr kb s.k :: R))
 case' g2_ =>
  replace HH := Lib.hid (hk _ _ HH.out)
  clear hk
  go_simp
  replace HH := Lib.hid (HH.out.alloc (.cells #[.int .u64 s.acked, .int .u64 s.lost] 22))
  generalize wn.alloc (.cells #[.int .u64 s.acked, .int .u64 s.lost] 22) = wm at *
  generalize wn.heap.size = sb at *
  refine hK _ _ _ HH.out (.inr ⟨rfl, fun _ h => h.tail⟩) ?_
  clear hK K
  refine reg_l none (i := 4) rfl (by kernel_rfl) (fun wn hk K hK => ?_)
  replace HH := Lib.hid (hk _ _ HH.out)
  clear hk
  go_simp
  refine (fixMul_c wn s.lost 1000 h2.out (by decide)).mono ?_
  rintro e wm ⟨rfl, hbel⟩
  replace HH := Lib.hid ((by first | exact .same hbel | exact .drew hbel | exact .below hbel : Kp wn wm) _ _ HH.out)
  clear hbel
  refine hK _ _ _ HH.out (.inr ⟨rfl, fun _ h => h⟩) ?_
  clear hK K
  refine reg_l none (i := 19) rfl (by kernel_rfl) (fun wn hk K hK => ?_)
  replace HH := Lib.hid (hk _ _ HH.out)
  clear hk
  go_simp
  refine (fixAdd2_c wn sb s.acked s.lost h1.out h2.out (HH.out.cells.1 0) (HH.out.cells.1 1)).mono ?_
  rintro e wm ⟨rfl, hbel⟩
  replace HH := Lib.hid ((by first | exact .same hbel | exact .drew hbel | exact .below hbel : Kp wn wm) _ _ HH.out)
  clear hbel
  refine hK _ _ _ HH.out (.inr ⟨rfl, fun _ h => h⟩) ?_
  clear hK K
  refine reg_l none (i := 20) rfl (by kernel_rfl) (fun wn hk K hK => ?_)
  replace HH := Lib.hid (hk _ _ HH.out)
  clear hk
  go_simp
  refine (fixMul_c wn s.c.loss (sadd s.acked s.lost) h3.out h4.out).mono ?_
  rintro e wm ⟨rfl, hbel⟩
  replace HH := Lib.hid ((by first | exact .same hbel | exact .drew hbel | exact .below hbel : Kp wn wm) _ _ HH.out)
  clear hbel
  refine hK _ _ _ HH.out (.inr ⟨rfl, fun _ h => h⟩) ?_
  clear hK K
  refine reg_s 21 HH.out ?_
  refine reg_s 22 HH.out ?_
  refine mixk_done (by kernel_rfl) (fun w5_ hk => ?_) _
  replace HH := Lib.hid (hk _ _ HH.out)
  clear hk
  replace HH := Lib.hid (HH.out.pn : Own _ _ (pts b (.cells #[.int .u64 s.c.mss, .int .u64 s.c.init, .int .u64 s.c.reorder, .int .u64 s.c.window, .int .u64 s.c.probe, .int .u64 s.c.loss, .pointer (some ⟨pb, 0, none⟩), .int .u64 s.bd.hi, .int .u64 s.bd.lo, .int .u64 s.bd.bw, .int .i64 s.st, .int .u64 s.since, .int .u64 s.rounds, .pointer (some ⟨fb, 0, none⟩), .pointer (some ⟨rb, 0, none⟩), .pointer (some ⟨kb, 0, none⟩), .int .u64 s.acked, .int .u64 s.lost, .int .u64 s.cwnd, .int .u64 s.kept, .int .u64 s.ended] 82 (0, 0)) :: pip pb s.p :: fil fb s.f :: cyc rb s.r :: ctr kb s.k :: R))
 all_goals
  go_wp2_with (with_reducible refine stop_st ?_)
  refine Stop.go ?_
  refine wpList_store1_own (v := .int .u64 0) (k := 16) rfl rfl HH.out (by kernel_rfl) (by simp) (by first | rfl | assumption) ?_
  intro w6_ H9_
  replace HH := Lib.hid H9_
  clear H9_
  simp only [List.setIfInBounds_toArray, List.set_cons_succ, List.set_cons_zero] at HH
  go_wp2_with (with_reducible refine stop_st ?_)
  refine Stop.go ?_
  refine wpList_store1_own (v := .int .u64 0) (k := 17) rfl rfl HH.out (by kernel_rfl) (by simp) (by first | rfl | assumption) ?_
  intro w7_ H9_
  replace HH := Lib.hid H9_
  clear H9_
  simp only [List.setIfInBounds_toArray, List.set_cons_succ, List.set_cons_zero] at HH
  (try clear cc1_)
  have cc1_ := HH.out.cells
  go_wp2_with (with_reducible refine stop_st ?_)
  refine Stop.go ?_
  refine wpList_store1_own (v := .int .u64 (IntKind.u64.wrap (s.rounds + 1))) (k := 12) rfl rfl HH.out (by kernel_rfl) (by simp) (by first | rfl | assumption) ?_
  intro w8_ H9_
  replace HH := Lib.hid H9_
  clear H9_
  simp only [List.setIfInBounds_toArray, List.set_cons_succ, List.set_cons_zero] at HH
  go_wp2_with fail
  go_ret
  exact ⟨rfl, HH.out⟩
end
end Go.Proofs.YtmkcpnlbicijoaaGreat
