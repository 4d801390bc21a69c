/- sender: acts that are read; what an act keeps. -/
import Derived.Test.YtmkcpnlbicijoaaGreatSnd7
import Derived.Test.YtmkcpnlbicijoaaGreatBbr2
import Derived.Test.YtmkcpnlbicijoaaGreatLen
import Derived.Test.YtmkcpnlbicijoaaGreatItAt
namespace Go.Proofs.YtmkcpnlbicijoaaGreat
open Go.RowKit
theorem Sent.no {s0 s : Snd} {l : List Pk} (h : Sent s0 l s) (hc : s0.can = false) : l = [] ∧ s = s0 := by
 induction h with
 | zero => exact ⟨rfl, rfl⟩
 | more eb _ hcan ih =>
  obtain ⟨rfl, rfl⟩ := ih
  rw [hc] at hcan
  cases hcan
theorem Sent.one {s0 s : Snd} {l : List Pk} (h : Sent s0 l s) (h0 : s0.can = true) (hs : s.can = false) (h1 : ∀ eb, (s0.go eb).can = false) : ∃ eb, l = [s0.pk] ∧ s = s0.go eb := by
 have key : (l = [] ∧ s = s0) ∨ ∃ eb, l = [s0.pk] ∧ s = s0.go eb := by
  clear hs
  induction h with
  | zero => exact .inl ⟨rfl, rfl⟩
  | more eb _ hcan ih =>
   rcases ih with ⟨rfl, rfl⟩ | ⟨eb', rfl, rfl⟩
   ·exact .inr ⟨eb, rfl, rfl⟩
   ·rw [h1 eb'] at hcan; cases hcan
 rcases key with ⟨_, rfl⟩ | h
 ·rw [h0] at hs; cases hs
 ·exact h
theorem TickEnd.no {s s' : Snd} {now e : Int} {l : List Pk} (h : TickEnd s now l e s') (h0 : (s.k.to now).1 = 0) (hc : (s.begin now).can = false) : l = [] ∧ e = 0 ∧ s' = (s.begin now).done := by
 rcases h with ⟨h1, _⟩ | ⟨_, rfl, s2, hs, _, rfl⟩
 ·exact absurd h0 h1
 ·obtain ⟨rfl, rfl⟩ := hs.no hc
  exact ⟨rfl, rfl, rfl⟩
theorem TickEnd.one {s s' : Snd} {now e : Int} {l : List Pk} (h : TickEnd s now l e s') (h0 : (s.k.to now).1 = 0) (hc : (s.begin now).can = true) (h1 : ∀ eb, ((s.begin now).go eb).can = false) : ∃ eb, l = [(s.begin now).pk] ∧ e = 0 ∧ s' = ((s.begin now).go eb).done := by
 rcases h with ⟨h2, _⟩ | ⟨_, rfl, s2, hs, hn, rfl⟩
 ·exact absurd h0 h2
 ·obtain ⟨eb, rfl, rfl⟩ := hs.one hc hn h1
  exact ⟨eb, rfl, rfl, rfl⟩
def lv1 : Snd := ((Snd.fresh liveC).write 4000).2
def lv2 : Snd := (lv1.begin 0).done
def lv3 (eb : Nat) : Snd := ((lv2.begin 37).go eb).done
theorem lv_told : ((Snd.fresh liveC).write 4000).1 = 0 ∧ (lv1.k.to 0).1 = 0 ∧ (lv1.begin 0).can = false ∧ lv2.next = (37, true) ∧ (lv2.k.to 37).1 = 0 ∧ (lv2.begin 37).can = true ∧ (lv2.begin 37).pk.size = 1500 := by
 refine ⟨?_, ?_, ?_, ?_, ?_, ?_, ?_⟩ <;> kernel_rfl
theorem lv_go (eb : Nat) : ((lv2.begin 37).go eb).can = false := by kernel_rfl
theorem lv_ack (eb : Nat) : ((lv3 eb).ack 40000 [(0, 1)]).1 = 0 ∧ ((lv3 eb).ack 40000 [(0, 1)]).2.infl = 0 ∧ ((lv3 eb).ack 40000 [(0, 1)]).2.wait = 2500 ∧ ((lv3 eb).ack 40000 [(0, 1)]).2.e.least = 39963 := by
 refine ⟨?_, ?_, ?_, ?_⟩ <;> kernel_rfl
theorem pk_size {ε w : World} {R : List Asn} {g off n cap i : Nat} {l : List Pk} {p : Pk} (H : Own ε w (slcP (.slice (some ⟨g, off, none⟩) n cap) l :: R)) (hp : l[i]? = some p) : w.cell? ⟨g, off + i * 7 + 1, none⟩ = some (.int .u64 p.size) := by
 obtain ⟨_, _, _, e, _, _, h⟩ := H.slcP_val
 cases e
 obtain ⟨hi, rfl⟩ := List.getElem?_eq_some_iff.1 hp
 obtain ⟨g', off', e, hc⟩ := h.2 i hi
 cases e
 exact hc 1 _ rfl
section
variable (ε w : World) (R : List Asn)
set_option maxRecDepth 100000 in
set_option maxHeartbeats 6400000 in
theorem alive17_c (H : Own ε w R) : Calls Tryz.prog 8 #[] w fun e w' => e = .returned (.bool true) ∧ Own ε w' R := by
 have HH := Lib.hid H; clear H
 have hr := live_told.1
 obtain ⟨t1, t2, t3, t4, t5, t6, t7⟩ := lv_told
 have i0 := Snd.In.fresh live_okC hr
 have i1 : lv1.In liveC 0 0 := (i0.write (n := 4000) (by decide)).1
 have hs1 : ((Snd.fresh liveC).write 4000).2 = lv1 := rfl
 have hU4 : U 40000 := by decide
 replace t1 := Lib.hid t1
 replace t2 := Lib.hid t2
 replace t3 := Lib.hid t3
 replace t4 := Lib.hid t4
 replace t5 := Lib.hid t5
 replace t6 := Lib.hid t6
 replace t7 := Lib.hid t7
 replace hr := Lib.hid hr
 replace i0 := Lib.hid i0
 replace i1 := Lib.hid i1
 replace hs1 := Lib.hid hs1
 go_enter Tryz.func8, Tryz.ntmps8
 go_wp2_with fail
 refine (confDefault_c ε _ _ HH.out).mono ?_
 rintro e w1_ ⟨rfl, H9_⟩
 replace HH := Lib.hid H9_
 clear H9_
 go_wp2_with fail
 refine (sndNew_c ε _ _ liveC live_okC hr.out HH.out).mono ?_
 rintro e w2_ ⟨b, kb, lb, tb, sb, eb, pb, rfl, H9_⟩
 replace HH := Lib.hid H9_
 clear H9_
 go_wp2_with fail
 refine (sndWrite_c ε _ _ b kb lb tb sb eb pb (Snd.fresh liveC) liveC 0 0 i0.out 4000 (by decide) HH.out).mono ?_
 rw [t1.out]
 rintro e w3_ ⟨rfl, H9_⟩
 replace HH := Lib.hid H9_
 clear H9_
 rw [hs1.out] at HH
 go_wp2_with fail
 refine (sndTick_c ε _ _ b kb lb tb sb eb pb lv1 liveC 0 0 hr.out i1.out (by omega) (by omega) 0 HH.out).mono ?_
 rintro e w4_ ⟨v, out, e0, s2, ht, rfl, H9_⟩
 replace HH := Lib.hid H9_
 clear H9_
 have i2 := (TickEnd.inn hr.out (by omega) i1.out ht).1
 obtain ⟨rfl, rfl, hs2⟩ := TickEnd.no ht t2.out t3.out
 have hs2 : s2 = lv2 := hs2
 subst hs2
 clear ht
 obtain ⟨A1, n1, c1, rfl, _, _, hpk⟩ := HH.out.slcP_val
 obtain rfl : n1 = 0 := hpk.1.symm
 clear hpk
 replace HH := Lib.hid HH.out.tail
 replace i2 := Lib.hid i2
 go_wp2_with fail
 refine (sndNext_c ε _ _ b kb lb tb sb eb pb lv2 liveC (0 + 65) (0 + 1) i2.out (by omega) HH.out).mono ?_
 rw [t4.out]
 rintro e w5_ ⟨rfl, H9_⟩
 replace HH := Lib.hid H9_
 clear H9_
 go_wp2_with fail
 refine (sndTick_c ε _ _ b kb lb tb sb eb pb lv2 liveC (0 + 65) (0 + 1) hr.out i2.out (by omega) (by omega) 37 HH.out).mono ?_
 rintro e w6_ ⟨v, out, e0, s3, ht, rfl, H9_⟩
 replace HH := Lib.hid H9_
 clear H9_
 have i3 := (TickEnd.inn hr.out (by omega) i2.out ht).1
 obtain ⟨eb2, rfl, rfl, hs3⟩ := TickEnd.one ht t5.out t6.out lv_go
 have hs3 : s3 = lv3 eb2 := hs3
 subst hs3
 clear ht
 obtain ⟨a1, a2, a3, a4⟩ := lv_ack eb2
 replace a1 := Lib.hid a1
 replace a2 := Lib.hid a2
 replace a3 := Lib.hid a3
 replace a4 := Lib.hid a4
 obtain ⟨A2, n2, c2, rfl, _, _, hpk⟩ := HH.out.slcP_val
 obtain rfl : n2 = 1 := hpk.1.symm
 obtain ⟨gB, oB, pB, rfl, hpB, _, _⟩ := hpk.cells (i := 0) (by decide)
 obtain rfl : (lv2.begin 37).pk = pB := by simpa using hpB
 clear hpk hpB
 have i4 := (Snd.In.ack hr.out i3 hU4 [(0, 1)]).1
 replace i3 := Lib.hid i3
 replace i4 := Lib.hid i4
 obtain ⟨s4, hs4⟩ : ∃ s4, s4 = ((lv3 eb2).ack 40000 [(0, 1)]).2 := ⟨_, rfl⟩
 have i4' := i4.out
 have a2' := a2.out
 have a3' := a3.out
 have a4' := a4.out
 rw [← hs4] at i4' a2' a3' a4'
 replace i4 := Lib.hid i4'
 replace a2 := Lib.hid a2'
 replace a3 := Lib.hid a3'
 replace a4 := Lib.hid a4'
 clear i4' a2' a3' a4'
 replace hs4 := Lib.hid hs4
 obtain ⟨pk, hpk⟩ : ∃ pk, pk = (lv2.begin 37).pk := ⟨_, rfl⟩
 have t7' := t7.out
 rw [← hpk] at HH t7'
 replace t7 := Lib.hid t7'
 clear t7'
 replace hpk := Lib.hid hpk
 go_wp2_with (with_reducible refine stop_bs ?_)
 refine Stop.go ?_
 refine wpList_bsv_own HH.out [.int .u64 0, .int .u64 1] 2 16 [.int .u64 0, .int .u64 0] Tryz.underlying35 (by kernel_rfl) (by kernel_rfl) (by decide) (by decide) (by kernel_rfl) ?_
 intro g2 w7_ H9_
 replace HH := Lib.hid H9_
 clear H9_
 replace HH := Lib.hid (HH.out.slc_all (sz := 2) (n := 1) (by decide) rfl)
 go_wp2_with fail
 refine (sndAck_c ε _ _ b kb lb tb sb eb pb (lv3 eb2) liveC _ _ hr.out i3.out (by omega) (by omega) 40000 hU4 [(0, 1)] (by intro x hx; rw [List.mem_singleton.1 hx]; decide) (some ⟨g2, 0, none⟩) 1 1 (fun wx Hx => slc_rdS (l := [(0, 1)]) encRg_len (by decide) Hx) (by decide) ((Own.pm ((show Own ε _ (slc 55 2 (.slice (some ⟨g2, 0, none⟩) 1 1) (encs encRg [(0, 1)]) :: slcP (.slice (some ⟨gB, oB, none⟩) 1 c2) [pk] :: sAll b kb lb tb sb eb pb (lv3 eb2) R) from HH.out)) (by with_reducible repeat (first | exact .refl _ | exact .nil _ | refine .here ?_ | refine .at2 ?_ | refine .at3 ?_ | refine .at4 ?_ | refine .at5 ?_ | refine .at6 ?_ | refine .at7 ?_ | refine .at8 ?_ | refine .skip ?_))) : Own ε _ (sAll b kb lb tb sb eb pb (lv3 eb2) (slc 55 2 (.slice (some ⟨g2, 0, none⟩) 1 1) (encs encRg [(0, 1)]) :: slcP (.slice (some ⟨gB, oB, none⟩) 1 c2) [pk] :: R)))).mono ?_
 rw [a1.out]
 rintro e w8_ ⟨rfl, H9_⟩
 replace HH := Lib.hid H9_
 clear H9_
 rw [← hs4.out] at HH
 replace HH := Lib.hid ((Own.pm ((show Own ε _ (sAll b kb lb tb sb eb pb s4 (slc 55 2 (.slice (some ⟨g2, 0, none⟩) 1 1) (encs encRg [(0, 1)]) :: slcP (.slice (some ⟨gB, oB, none⟩) 1 c2) [pk] :: R)) from HH.out)) (by with_reducible repeat (first | exact .refl _ | exact .nil _ | refine .here ?_ | refine .at2 ?_ | refine .at3 ?_ | refine .at4 ?_ | refine .at5 ?_ | refine .at6 ?_ | refine .at7 ?_ | refine .at8 ?_ | refine .skip ?_))) : Own ε _ (sAll b kb lb tb sb eb pb s4 (slcP (.slice (some ⟨gB, oB, none⟩) 1 c2) [pk] :: R)))
 have y1 := pk_size (i := 0) (HH.out.pn : Own ε _ (slcP (.slice (some ⟨gB, oB, none⟩) 1 c2) [pk] :: R)) rfl
 rw [t7.out] at y1
 simp only [Nat.zero_mul, Nat.add_zero] at y1
 go_wp2_with fail
 refine (sndInFlight_c ε _ _ b kb lb tb sb eb pb s4 liveC _ _ i4.out (by omega) HH.out).mono ?_
 rw [a2.out]
 rintro e w9_ ⟨rfl, H9_⟩
 replace HH := Lib.hid H9_
 clear H9_
 clear y1
 go_wp2_with fail
 refine (sndWaiting_c ε _ _ b kb lb tb sb eb pb s4 HH.out).mono ?_
 rw [a3.out]
 rintro e w10_ ⟨rfl, hbel⟩
 replace HH := Lib.hid ((by first | exact .same hbel | exact .drew hbel | exact .below hbel : Kp _ w10_) _ _ (by first | exact HH.out | exact HH.out.drewN _ | exact (HH.out.alloc _).tail | exact ((HH.out.alloc _).drewN _).tail | exact ((HH.out.alloc _).alloc _).tail.tail))
 clear hbel
 go_wp2_with fail
 refine (sndEngine_c ε _ _ b kb lb tb sb eb pb s4 HH.out).mono ?_
 rintro e w11_ ⟨rfl, hbel⟩
 replace HH := Lib.hid ((by first | exact .same hbel | exact .drew hbel | exact .below hbel : Kp _ w11_) _ _ (by first | exact HH.out | exact HH.out.drewN _ | exact (HH.out.alloc _).tail | exact ((HH.out.alloc _).drewN _).tail | exact ((HH.out.alloc _).alloc _).tail.tail))
 clear hbel
 go_wp2_with fail
 refine (engLeastA_c ε _ _ eb s4.e (HH.out.pn : Own ε _ (eng eb s4.e :: pts b (sOb kb lb tb sb eb pb s4) :: clk kb s4.k :: led lb s4.l :: rtt tb s4.t :: smp sb s4.s :: pac pb s4.p :: R))).mono ?_
 rw [a4.out]
 rintro e w12_ ⟨rfl, H9_⟩
 replace HH := Lib.hid H9_
 clear H9_
 go_wp2_with fail
 go_ret
 exact ⟨rfl, HH.out.pn⟩
end
end Go.Proofs.YtmkcpnlbicijoaaGreat
namespace Go.Proofs.YtmkcpnlbicijoaaGreat
open Go.RowKit
def Evt.cells (x : Evt) : List Value := [.int .u64 x.now, .int .u64 x.sd, .int .u64 x.si, .int .u64 x.sr, .int .u64 x.rtt, .bool x.slim, .bool x.some, .int .u64 x.deliv, .int .u64 x.acked, .int .u64 x.lost, .int .u64 x.fl]
abbrev ConfT := Int × Int × Int × Int × Int × Int × Unit
def rdConf : Rd ConfT := rdPair (rdInt .u64) (rdPair (rdInt .u64) (rdPair (rdInt .u64) (rdPair (rdInt .u64) (rdPair (rdInt .u64) (rdPair (rdInt .u64) rdUnit)))))
def ConfT.c (x : ConfT) : Cnf := ⟨x.1, x.2.1, x.2.2.1, x.2.2.2.1, x.2.2.2.2.1, x.2.2.2.2.2.1⟩
theorem rdConf_open {w : World} {c : List Value} {x : ConfT} (h : rdConf w c x) : c = [.int .u64 x.c.mss, .int .u64 x.c.init, .int .u64 x.c.reorder, .int .u64 x.c.window, .int .u64 x.c.probe, .int .u64 x.c.loss] ∧ x.c.Ok := by
 obtain ⟨c1, d1, rfl, ⟨rfl, h1⟩, c2, d2, rfl, ⟨rfl, h2⟩, c3, d3, rfl, ⟨rfl, h3⟩, c4, d4, rfl, ⟨rfl, h4⟩, c5, d5, rfl, ⟨rfl, h5⟩, c6, d6, rfl, ⟨rfl, h6⟩, rfl⟩ := h
 exact ⟨rfl, U_of_wf h1, U_of_wf h2, U_of_wf h3, U_of_wf h4, U_of_wf h5, U_of_wf h6⟩
abbrev SmplT := Int × Int × Int × Int × Bool × Unit
abbrev EvtT := Int × SmplT × Bool × Int × Int × Int × Int × Unit
def rdSmpl : Rd SmplT := rdPair (rdInt .u64) (rdPair (rdInt .u64) (rdPair (rdInt .u64) (rdPair (rdInt .u64) (rdPair rdBool rdUnit))))
def rdEvt : Rd EvtT := rdPair (rdInt .u64) (rdPair rdSmpl (rdPair rdBool (rdPair (rdInt .u64) (rdPair (rdInt .u64) (rdPair (rdInt .u64) (rdPair (rdInt .u64) rdUnit))))))
def EvtT.x (t : EvtT) : Evt := ⟨t.1, t.2.1.1, t.2.1.2.1, t.2.1.2.2.1, t.2.1.2.2.2.1, t.2.1.2.2.2.2.1, t.2.2.1, t.2.2.2.1, t.2.2.2.2.1, t.2.2.2.2.2.1, t.2.2.2.2.2.2.1⟩
theorem nums_rd {w : World} {A : Option Addr} {n cap : Nat} {l : List Int} (h : rdSlice (rdInt .u64) 1 w [.slice A n cap] l) : itAt (fun x : Int => [Value.int .u64 x]) 1 w A n l ∧ n ≤ 9223372036854775807 ∧ ∀ x ∈ l, U x := by
 obtain ⟨h1, h2⟩ := itAt_rd (enc := fun x : Int => [Value.int .u64 x]) (sz := 1) (fun x : Int => x) (fun c x hc => hc.1) h
 rw [List.map_id'] at h1
 obtain ⟨_, _, _, e, hl, hc, _, hx⟩ := h
 cases e
 refine ⟨h1, h2, fun x hm => ?_⟩
 obtain ⟨i, hi, rfl⟩ := List.getElem_of_mem hm
 obtain ⟨_, _, _, c, _, _, hR⟩ := hx i hi
 exact U_of_wf hR.2
end Go.Proofs.YtmkcpnlbicijoaaGreat
namespace Go.Proofs.YtmkcpnlbicijoaaGreat
open Go.RowKit
abbrev RgT := Int × Int × Unit
def rdRg : Rd RgT := rdPair (rdInt .u64) (rdPair (rdInt .u64) rdUnit)
def RgT.r (x : RgT) : Rg := (x.1, x.2.1)
theorem rdRg_open {w : World} {c : List Value} {x : RgT} (h : rdRg w c x) : c = encRg x.r ∧ U x.r.1 ∧ U x.r.2 := by
 obtain ⟨c1, d1, rfl, ⟨rfl, h1⟩, c2, d2, rfl, ⟨rfl, h2⟩, rfl⟩ := h
 exact ⟨rfl, U_of_wf h1, U_of_wf h2⟩
theorem rgs_rd {w : World} {A : Option Addr} {n cap : Nat} {xs : List RgT} (h : rdSlice rdRg 2 w [.slice A n cap] xs) : itAt encRg 2 w A n (xs.map RgT.r) ∧ n ≤ 9223372036854775807 ∧ ∀ x ∈ xs.map RgT.r, U x.1 ∧ U x.2 := by
 obtain ⟨h1, h2⟩ := itAt_rd (enc := encRg) (sz := 2) RgT.r (fun _ _ hc => (rdRg_open hc).1) h
 refine ⟨h1, h2, fun x hm => ?_⟩
 obtain ⟨t, ht, rfl⟩ := List.mem_map.1 hm
 obtain ⟨i, hi, rfl⟩ := List.getElem_of_mem ht
 obtain ⟨_, _, hx⟩ := rdSlice_cases h
 rcases hx with hz | ⟨ab, off, rfl, hx⟩
 ·omega
 ·obtain ⟨c, _, _, hR⟩ := hx i hi
  exact (rdRg_open hR).2
abbrev ActS := Int × Int × List RgT × Unit
def rdActS : Rd ActS := rdPair (rdInt .u8) (rdPair (rdInt .u64) (rdPair (rdSlice rdRg 2) rdUnit))
theorem rdActS_open {w : World} {c : List Value} {x : ActS} (h : rdActS w c x) : ∃ A n cap, c = [.int .u8 x.1, .int .u64 x.2.1, .slice A n cap] ∧ 0 ≤ x.1 ∧ x.1 < 256 ∧ U x.2.1 ∧ n = x.2.2.1.length ∧ rdSlice rdRg 2 w [.slice A n cap] x.2.2.1 := by
 obtain ⟨c1, d1, rfl, ⟨rfl, h1⟩, c2, d2, rfl, ⟨rfl, h2⟩, c3, d3, rfl, h4, rfl⟩ := h
 obtain ⟨A, n, cap, rfl, hl, _⟩ := id h4
 have h7 := h1
 simp [Lit.wf, IntKind.min, IntKind.max, IntKind.signed, IntKind.bits] at h7
 exact ⟨A, n, cap, rfl, by omega, by omega, U_of_wf h2, hl.symm, h4⟩
structure SAct where
 kd : Int
 n : Int
 r : List Rg
def ActS.act (x : ActS) : SAct := ⟨x.1, x.2.1, x.2.2.1.map RgT.r⟩
structure SActIn (w : World) (A : Option Addr) (k : Nat) (a : SAct) : Prop where
 kd : 0 ≤ a.kd ∧ a.kd < 256
 u : U a.n
 ru : ∀ x ∈ a.r, U x.1 ∧ U x.2
 big : a.r.length ≤ 9223372036854775807
 cells : ∃ ab off A' cp, A = some ⟨ab, off, none⟩ ∧ itAt encRg 2 w A' a.r.length a.r ∧ w.cell? ⟨ab, off + k * 3, none⟩ = some (.int .u8 a.kd) ∧ w.cell? ⟨ab, off + k * 3 + 1, none⟩ = some (.int .u64 a.n) ∧ w.cell? ⟨ab, off + k * 3 + 2, none⟩ = some (.slice A' a.r.length cp)
theorem sacts_rd {w : World} {A : Option Addr} {len cap : Nat} {xs : List ActS} (h : rdSlice rdActS 3 w [.slice A len cap] xs) : (xs.map ActS.act).length = len ∧ len ≤ 9223372036854775807 ∧ ∀ k a, (xs.map ActS.act)[k]? = some a → SActIn w A k a := by
 obtain ⟨hlen, hm, hx⟩ := rdSlice_cases h
 refine ⟨by simpa using hlen, hm, fun k a ha => ?_⟩
 rw [List.getElem?_map] at ha
 obtain ⟨x, hxk, rfl⟩ := Option.map_eq_some_iff.1 ha
 obtain ⟨hk, rfl⟩ := List.getElem?_eq_some_iff.1 hxk
 rcases hx with hz | ⟨ab, off, rfl, hx⟩
 ·omega
 ·obtain ⟨c, _, hcell, hR⟩ := hx k hk
  obtain ⟨A', n', cp, rfl, h1, h2, h3, h7, h8⟩ := rdActS_open hR
  obtain ⟨h9, h10, h11⟩ := rgs_rd h8
  have e : n' = (ActS.act xs[k]).r.length := by rw [h7]; simp [ActS.act]
  subst e
  exact ⟨⟨h1, h2⟩, h3, h11, h10, ab, off, A', cp, rfl, h9, hcell 0 _ rfl, hcell 1 _ rfl, hcell 2 _ rfl⟩
theorem fits17_acts {w : World} {A : Option Addr} {len cap : Nat} {acts : List SAct} (hlen : acts.length = len) (hm : len ≤ 9223372036854775807) (hacts : ∀ k a, acts[k]? = some a → SActIn w A k a) :
  Calls Tryz.prog 7 #[.slice A len cap] w (Fits17 len (fun k => (acts.getD k ⟨0, 0, []⟩).r.length) w) :=
 fits17_c w A len cap (fun k => (acts.getD k ⟨0, 0, []⟩).r.length) hm (fun k hk => by
  have hk2 : k < acts.length := by omega
  have e : acts.getD k ⟨0, 0, []⟩ = acts[k] := by simp [List.getD, hk2]
  have ha := hacts k acts[k] (List.getElem?_eq_getElem hk2)
  obtain ⟨ab, off, A', cp, h1, _, _, _, h2⟩ := ha.cells
  exact ⟨ab, off, A', cp, h1, by simp only [e]; exact ha.big, by simp only [e]; exact h2⟩)
theorem sact_get {w : World} {A : Option Addr} {len : Nat} {acts : List SAct} (hlen : acts.length = len) (hacts : ∀ k a, acts[k]? = some a → SActIn w A k a) (hf : ∀ k, k < len → (acts.getD k ⟨0, 0, []⟩).r.length ≤ 80) {k : Nat} (hk : k < len) : ∃ a, SActIn w A k a ∧ a.r.length ≤ 80 := by
 have hk2 : k < acts.length := by omega
 refine ⟨acts[k], hacts k _ (List.getElem?_eq_getElem hk2), ?_⟩
 have := hf k hk
 simpa [List.getD, hk2] using this
section
variable {c : Cnf} {N M : Nat} {s s' : Snd} {kd n : Int} {xs : List Rg} {out : List Pk}
theorem count_past {k : Clk} (h : k.past = true) (n : Int) : k.count n = (3, k) := by unfold Clk.count; rw [if_pos h]
theorem to_past {k : Clk} (h : k.past = true) (t : Int) : k.to t = (3, k) := by unfold Clk.to; rw [if_pos h]
theorem to_n (k : Clk) (t : Int) : (k.to t).2.n = k.n := by
 unfold Clk.to
 split
 ·rfl
 ·split
  ·rfl
  ·split <;> rfl
theorem done_k (s : Snd) : s.done.k = s.k := rfl
structure Kept (s : Snd) (kd n : Int) (out : List Pk) (s' : Snd) : Prop where
 wr : kd % 5 = 0 → s'.all = s.all ∨ (s'.all = s.all + n ∧ s'.k.n = s.k.n + n)
 ak : kd % 5 = 2 → s'.all ≤ s.all
 tk : kd % 5 ≠ 0 → kd % 5 ≠ 2 → s'.all = s.all
 n : s.k.n ≤ s'.k.n
 past : s.k.past = true → out = [] ∧ s'.all = s.all ∧ s'.k.past = true
theorem DoEnd.kept (hr : c.right = true) (hN : N ≤ 1000000) (h : s.In c N M) (hn : U n) (hD : DoEnd s kd n xs out s') : s'.In c (N + 65) (M + 1) ∧ Kept s kd n out s' := by
 cases hD with
 | write h5 =>
  obtain ⟨h1, h2⟩ := h.write hn
  refine ⟨h1.more (by omega) (by omega), ?_, fun q => by omega, fun q => absurd h5 q, ?_, ?_⟩
  ·intro _
   by_cases h0 : (s.k.count n).1 = 0
   ·rcases h2 with h2 | h2
    ·exact .inl h2
    ·refine .inr ⟨h2, ?_⟩
     show (s.k.count n).2.n = _
     unfold Clk.count at h0 ⊢
     split at h0
     ·simp at h0
     ·split at h0
      ·simp at h0
      ·rename_i q1 q2
       rw [if_neg q1, if_neg q2]
   ·left
    unfold Snd.write Snd.all
    simp only
    rw [if_neg h0]
  ·show s.k.n ≤ (s.k.count n).2.n
   unfold Clk.count
   split
   ·exact Int.le_refl _
   ·split
    ·exact Int.le_refl _
    ·show s.k.n ≤ s.k.n + n; have := hn.1; omega
  ·intro hp
   have e := count_past hp n
   refine ⟨rfl, ?_, ?_⟩
   ·unfold Snd.write Snd.all
    simp only
    rw [e, if_neg (show ¬ (3 : Int) = 0 by decide)]
   ·show (s.k.count n).2.past = true
    rw [e]; exact hp
 | ack now h5 hU =>
  obtain ⟨h1, h2, h3⟩ := h.ack hr hU xs
  refine ⟨h1.more (by omega) (by omega), fun q => by omega, fun _ => h2, fun _ q => absurd h5 q, ?_, fun hp => by rw [h3 hp]; exact ⟨rfl, rfl, hp⟩⟩
  have key : (s.ack now xs).2.k = s.k ∨ (s.ack now xs).2.k = (s.k.to now).2 := by
   unfold Snd.ack
   repeat' split
   all_goals first | exact .inl rfl | exact .inr rfl | skip
   right
   show (Snd.gain _ _ _).k = _
   cases (s.l.ack xs).1 <;> rfl
  have hto : (s.k.to now).2.n = s.k.n := to_n s.k now
  rcases key with e | e
  ·rw [e]; exact Int.le_refl _
  ·rw [e, hto]; exact Int.le_refl _
 | tick now e h0 h2 hT =>
  obtain ⟨h3, h4, _⟩ := hT.inn hr hN h
  have hto : (s.k.to now).2.n = s.k.n := to_n s.k now
  refine ⟨h3, fun q => absurd q h0, fun q => absurd q h2, fun _ _ => h4, ?_, ?_⟩
  ·rcases hT with ⟨_, _, _, rfl⟩ | ⟨hz, _, s2, hs, _, rfl⟩
   ·show s.k.n ≤ (s.k.to now).2.n
    rw [hto]; exact Int.le_refl _
   ·obtain ⟨b1, _, b3, _⟩ := h.begin hr hz
    have b4 := (hs.inn hr hN b1).k
    show s.k.n ≤ s2.k.n
    rw [b4, b3, hto]; exact Int.le_refl _
  ·intro hp
   rcases hT with ⟨_, rfl, _, rfl⟩ | ⟨hz, _⟩
   ·refine ⟨rfl, clock_all s now, ?_⟩
    show (s.k.to now).2.past = true
    rw [to_past hp]; exact hp
   ·rw [to_past hp] at hz; simp at hz
theorem Snd.In.sum (h : s.In c N M) : 0 ≤ s.all ∧ s.all ≤ 72057594037927936 ∧ s.infl + s.wait = s.all := by
 have h1 := h.tot
 have h2 := h.all
 have h3 := h.k.2.2.2
 have h4 := h.w
 unfold Snd.all at *
 omega
end
end Go.Proofs.YtmkcpnlbicijoaaGreat
