/- sender: acknowledgements keep what holds of a sender, in plain words. -/
import Derived.Test.YtmkcpnlbicijoaaGreatSnd3
import Derived.Test.YtmkcpnlbicijoaaGreatSndS
namespace Go.Proofs.YtmkcpnlbicijoaaGreat
open Go.RowKit
section
variable (ε w : World) (R : List Asn) (b kb lb tb sb eb pb : Nat)
set_option maxRecDepth 100000 in
set_option maxHeartbeats 12800000 in
theorem sndTick_c (s : Snd) (c : Cnf) (N M : Nat) (hr : c.right = true) (h : s.In c N M) (hN : N ≤ 900000) (hM : M ≤ 900000) (now : Int) (H : Own ε w (sAll b kb lb tb sb eb pb s R)) :
  Calls Tryz.prog 16 #[.pointer (some ⟨b, 0, none⟩), .int .u64 now] w fun e w' => ∃ v out e0 s2, ∃ _ : TickEnd s now out e0 s2, e = .returned (.tuple #[v, .int .i64 e0]) ∧ Own ε w' (slcP v out :: sAll b kb lb tb sb eb pb s2 R) := by
 have HH := Lib.hid H; clear H
 have h1 := h.clock now
 obtain ⟨s1, hs1⟩ : ∃ s1, s1 = s.clock now := ⟨_, rfl⟩
 rw [← hs1] at h1
 have hk1 : (s.k.to now).2 = s1.k := by rw [hs1]; rfl
 have hs1v : s1 = { s with k := s1.k } := by rw [hs1]; rfl
 by_cases h0 : (s.k.to now).1 = 0
 ·obtain ⟨z1, _, z3, z4, _, _⟩ := to_zero h0
  have hk := h.k
  have hU : U now := by unfold Clk.Ok at hk; unfold U; omega
  obtain ⟨h2, _⟩ := h1.lose
  obtain ⟨_, _, _, g4, _⟩ := h1.goneOk
  obtain ⟨s2, hs2⟩ : ∃ s2, s2 = s1.lose := ⟨_, rfl⟩
  have h3 := (h1.hurt hr hU).1
  have h3k : (s1.hurt now).k.t = now := by rw [(h1.hurt hr hU).2.2, hs1]; exact z1
  obtain ⟨s3, hs3⟩ : ∃ s3, s3 = s1.hurt now := ⟨_, rfl⟩
  have h3b : s3 = if s1.gone.isEmpty = true then s2 else s2.told (s2.evT now (bytesP s1.gone)) := by rw [hs3, hs2]; rfl
  rw [← hs2] at h2
  rw [← hs3] at h3 h3k
  obtain ⟨h4, _⟩ := h3.pace hr hU h3k
  obtain ⟨s4, hs4⟩ : ∃ s4, s4 = s3.pace now := ⟨_, rfl⟩
  rw [← hs4] at h4
  have hbeg : s.begin now = s4 := by rw [hs4, hs3, hs1]; rfl
  have hx := evT_ok h2 hU g4
  have hpr : s3.e.c.right = true := by rw [h3.e.2.1]; exact hr
  have hp3 := Eng.pace_in hpr
  have hq3 := Eng.quantum_in hpr
  have hm := Cnf.right_in hr
  rw [h3.e.2.1] at hp3 hq3
  have hUp : U s3.e.pace := by unfold U; omega
  have hUq : U s3.e.quantum := by unfold U; omega
  have hs4v : s4 = { s3 with p := (s3.p.tick now s3.e.pace s3.e.quantum).2 } := by rw [hs4]; rfl
  have hEl : s2.e.f.l.length ≤ 999999 := Nat.le_trans h2.e.2.2 (by omega)
  have hrow9 : s2.l.row.length ≤ 1000000 := by have := h2.few; omega
  have hrw := h2.row
  obtain ⟨bg, hbg⟩ : ∃ bg, bg = bytesP s1.gone := ⟨_, rfl⟩
  rw [← hbg] at hx h3b
  have hfl : bytesP (outs s2.l.row) = s2.infl := rfl
  have h2e := h2.e.1
  have h3e := h3.e.1
  have h3p := h3.p
  replace hbeg := Lib.hid hbeg
  replace hx := Lib.hid hx
  replace hs4v := Lib.hid hs4v
  replace h4 := Lib.hid h4
  replace h3b := Lib.hid h3b
  replace hUp := Lib.hid hUp
  replace hUq := Lib.hid hUq
  replace hEl := Lib.hid hEl
  replace hrow9 := Lib.hid hrow9
  replace hrw := Lib.hid hrw
  replace hbg := Lib.hid hbg
  replace hfl := Lib.hid hfl
  replace h2e := Lib.hid h2e
  replace h3e := Lib.hid h3e
  replace h3p := Lib.hid h3p
  replace hs2 := Lib.hid hs2
  replace h1 := Lib.hid h1
  replace hs1v := Lib.hid hs1v
  have h0' := Lib.hid h0
  replace hr := Lib.hid hr
  replace hU := Lib.hid hU
  replace hk1 := Lib.hid hk1
  clear h h2 h3 h3k hpr hp3 hq3 hm hs4 hs3 hs1 z1 z3 z4 hk g4
  cases hge : s1.gone.isEmpty with
  | true =>
   have h3c : s3 = s2 := by rw [h3b.out, hge]; rfl
   replace h3c := Lib.hid h3c
   go_enter Tryz.func16, Tryz.ntmps16
   (try clear cc1_)
   have cc1_ := HH.out.cells
   go_wp2_with fail
   refine (clkTo_c ε _ _ kb s.k now (HH.out.pn : Own ε _ (clk kb s.k :: pts b (sOb kb lb tb sb eb pb s) :: led lb s.l :: rtt tb s.t :: smp sb s.s :: eng eb s.e :: pac pb s.p :: R))).mono ?_
   rw [h0'.out]
   rintro e w1_ ⟨rfl, H9_⟩
   replace HH := Lib.hid H9_
   clear H9_
   rw [hk1.out] at HH
   replace HH := Lib.hid (Own.as (L' := sAll b kb lb tb sb eb pb s1 R) (HH.out.pn : Own ε _ (pts b (sOb kb lb tb sb eb pb s) :: clk kb (s1.k) :: led lb (s.l) :: rtt tb (s.t) :: smp sb (s.s) :: eng eb (s.e) :: pac pb (s.p) :: R)) (by rw [hs1v.out]))
   go_wp2_with fail
   refine (sndLosses_c ε _ _ b kb lb tb sb eb pb s1 c N M h1.out (by omega) HH.out).mono ?_
   rw [hge]
   rw [← hbg.out]
   rintro e w2_ ⟨rfl, H9_⟩
   replace HH := Lib.hid H9_
   clear H9_
   rw [← hs2.out, ← h3c.out] at HH
   replace HH := Lib.hid (show Own ε _ (sAll b kb lb tb sb eb pb s3 R) from HH.out)
   (try clear cc1_)
   have cc1_ := HH.out.cells
   go_wp2_with fail
   refine wp_region_reg (some 15) HH.out (by kernel_rfl) ?_
   intro wm H9_
   replace HH := Lib.hid H9_
   clear H9_
   refine reg_s 0 HH.out ?_
   refine reg_s 1 HH.out ?_
   refine reg_s 2 HH.out ?_
   refine mixk_s 3 HH.out (fun _ hx => hx.cells) ?_
   refine reg_s 4 HH.out ?_
   refine reg_s 5 HH.out ?_
   refine reg_s 6 HH.out ?_
   refine reg_s 7 HH.out ?_
   refine mixk_s 8 HH.out (fun _ hx => hx.cells) ?_
   refine reg_s 10 HH.out ?_
   refine reg_s 11 HH.out ?_
   refine reg_s 12 HH.out ?_
   refine mixk_s 13 HH.out (fun _ hx => hx.cells) ?_
   refine reg_l (some 15) (i := 9) rfl (by kernel_rfl) (fun wn hk K hK => ?_)
   replace HH := Lib.hid (hk _ _ HH.out)
   clear hk
   go_simp
   refine (engPaceA_c ε wn _ eb s3.e h3e.out HH.out.r6).mono ?_
   rintro e wm ⟨rfl, H9_⟩
   replace HH := Lib.hid H9_
   clear H9_
   refine hK _ _ _ HH.out (.inr ⟨rfl, fun _ h => h.pn⟩) ?_
   clear hK K
   refine reg_l (some 15) (i := 14) rfl (by kernel_rfl) (fun wn hk K hK => ?_)
   replace HH := Lib.hid (hk _ _ HH.out)
   clear hk
   go_simp
   refine (engQuantumA_c ε wn _ eb s3.e h3e.out hUp.out HH.out).mono ?_
   rintro e wm ⟨rfl, H9_⟩
   replace HH := Lib.hid H9_
   clear H9_
   refine hK _ _ _ HH.out (.inr ⟨rfl, fun _ h => h.pn⟩) ?_
   clear hK K
   refine reg_l none (i := 15) rfl (by kernel_rfl) (fun wn hk K hK => ?_)
   replace HH := Lib.hid (hk _ _ HH.out)
   clear hk
   go_simp
   refine (pacTick_c ε wn _ pb s3.p now s3.e.pace s3.e.quantum h3p.out hU.out hUp.out hUq.out HH.out.r7).mono ?_
   rintro e wm ⟨rfl, H9_⟩
   replace HH := Lib.hid H9_
   clear H9_
   refine hK _ _ _ HH.out (.inl (by kernel_rfl)) ?_
   clear hK K
   refine mixk_done (by kernel_rfl) (fun w3_ hk => ?_) _
   replace HH := Lib.hid (hk _ _ HH.out)
   clear hk
   replace HH := Lib.hid (Own.as (L' := sAll b kb lb tb sb eb pb s4 R) (HH.out.pn : Own ε _ (pts b (sOb kb lb tb sb eb pb s3) :: clk kb (s3.k) :: led lb (s3.l) :: rtt tb (s3.t) :: smp sb (s3.s) :: eng eb (s3.e) :: pac pb ((s3.p.tick now s3.e.pace s3.e.quantum).2) :: R)) (by rw [hs4v.out]))
   go_wp2_with fail
   refine (sndRelease_c ε _ _ b kb lb tb sb eb pb s4 c N (M + 1) hr.out h4.out hN HH.out).mono ?_
   rintro e w4_ ⟨v, out, s5, hse, rfl, H9_⟩
   replace HH := Lib.hid H9_
   clear H9_
   replace hse := Lib.hid hse
   go_wp2_with fail
   go_ret2
   exact ⟨v, out, 0, s5.done, .inr ⟨h0'.out, rfl, s5, by rw [hbeg.out]; exact hse.out.1, hse.out.2, rfl⟩, rfl, HH.out⟩
  | false =>
   have h3c : s3 = s2.told (s2.evT now bg) := by rw [h3b.out, hge]; rfl
   replace h3c := Lib.hid h3c
   go_enter Tryz.func16, Tryz.ntmps16
   (try clear cc1_)
   have cc1_ := HH.out.cells
   go_wp2_with fail
   refine (clkTo_c ε _ _ kb s.k now (HH.out.pn : Own ε _ (clk kb s.k :: pts b (sOb kb lb tb sb eb pb s) :: led lb s.l :: rtt tb s.t :: smp sb s.s :: eng eb s.e :: pac pb s.p :: R))).mono ?_
   rw [h0'.out]
   rintro e w5_ ⟨rfl, H9_⟩
   replace HH := Lib.hid H9_
   clear H9_
   rw [hk1.out] at HH
   replace HH := Lib.hid (Own.as (L' := sAll b kb lb tb sb eb pb s1 R) (HH.out.pn : Own ε _ (pts b (sOb kb lb tb sb eb pb s) :: clk kb (s1.k) :: led lb (s.l) :: rtt tb (s.t) :: smp sb (s.s) :: eng eb (s.e) :: pac pb (s.p) :: R)) (by rw [hs1v.out]))
   go_wp2_with fail
   refine (sndLosses_c ε _ _ b kb lb tb sb eb pb s1 c N M h1.out (by omega) HH.out).mono ?_
   rw [hge]
   rw [← hbg.out]
   rintro e w6_ ⟨rfl, H9_⟩
   replace HH := Lib.hid H9_
   clear H9_
   rw [← hs2.out] at HH
   replace HH := Lib.hid (show Own ε _ (sAll b kb lb tb sb eb pb s2 R) from HH.out)
   (try clear cc1_)
   have cc1_ := HH.out.cells
   go_wp2_with fail
   refine wp_region_reg (some 17) HH.out (by kernel_rfl) ?_
   intro wm H9_
   replace HH := Lib.hid H9_
   clear H9_
   refine reg_s 0 HH.out ?_
   refine reg_s 1 HH.out ?_
   refine reg_s 2 HH.out ?_
   refine mixk_s 3 HH.out (fun _ hx => hx.cells) ?_
   refine reg_s 4 HH.out ?_
   refine reg_s 5 HH.out ?_
   refine reg_s 6 HH.out ?_
   refine reg_s 7 HH.out ?_
   refine mixk_s 8 HH.out (fun _ hx => hx.cells) ?_
   refine mixk_q (i := 9) rfl (by kernel_rfl) (fun _ _ _ _ h => h) HH.out (fun K hK => ?_)
   go_simp
   (first | refine hK _ ?_ | (apply Exists.intro; refine ⟨?_, hK _ ?_⟩; focus intro wx hx; first | (first | (go_at_call 39; refine (rateDelivered_c ε wx _ sb s2.s (hx.pn : Own ε wx (smp sb s2.s :: R))).mono ?_; rintro e wy ⟨rfl, hbel⟩; exact ⟨rfl, (by first | exact .same hbel | exact .drew hbel | exact .below hbel : Kp wx wy)⟩)) | (go_simp; first | rfl | exact ⟨rfl, rfl⟩) | rfl | exact ⟨rfl, rfl⟩)); clear hK K
   refine reg_s 10 HH.out ?_
   refine reg_s 11 HH.out ?_
   refine reg_s 12 HH.out ?_
   refine reg_s 13 HH.out ?_
   refine mixk_s 14 HH.out (fun _ hx => hx.cells) ?_
   refine reg_l (some 17) (i := 15) rfl (by kernel_rfl) (fun wn hk K hK => ?_)
   replace HH := Lib.hid (hk _ _ HH.out)
   clear hk
   go_simp
   refine (ledInFlight_c ε wn _ lb s2.l hrow9.out hrw.out HH.out.r3).mono ?_
   rw [hfl.out]
   rintro e wm ⟨rfl, H9_⟩
   replace HH := Lib.hid H9_
   clear H9_
   refine hK _ _ _ HH.out (.inr ⟨rfl, fun _ h => h.pn⟩) ?_
   clear hK K
   refine reg_s 16 HH.out ?_
   refine reg_l none (i := 17) rfl (by kernel_rfl) (fun wn hk K hK => ?_)
   replace HH := Lib.hid (hk _ _ HH.out)
   clear hk
   go_simp
   refine (engOnA_c ε wn _ eb s2.e h2e.out (s2.evT now bg) hx.out hEl.out HH.out.r6).mono ?_
   rintro e wm ⟨rfl, H9_⟩
   replace HH := Lib.hid H9_
   clear H9_
   refine hK _ _ _ HH.out (.inl (by kernel_rfl)) ?_
   clear hK K
   refine mixk_done (by kernel_rfl) (fun w7_ hk => ?_) _
   replace HH := Lib.hid (hk _ _ HH.out)
   clear hk
   replace HH := Lib.hid (Own.as (L' := sAll b kb lb tb sb eb pb s3 R) (HH.out.pn : Own ε _ (pts b (sOb kb lb tb sb eb pb s2) :: clk kb (s2.k) :: led lb (s2.l) :: rtt tb (s2.t) :: smp sb (s2.s) :: eng eb ((s2.e.on (s2.evT now bg))) :: pac pb (s2.p) :: R)) (by rw [h3c.out]; rfl))
   (try clear cc1_)
   have cc1_ := HH.out.cells
   go_wp2_with fail
   refine wp_region_reg (some 15) HH.out (by kernel_rfl) ?_
   intro wm H9_
   replace HH := Lib.hid H9_
   clear H9_
   refine reg_s 0 HH.out ?_
   refine reg_s 1 HH.out ?_
   refine reg_s 2 HH.out ?_
   refine mixk_s 3 HH.out (fun _ hx => hx.cells) ?_
   refine reg_s 4 HH.out ?_
   refine reg_s 5 HH.out ?_
   refine reg_s 6 HH.out ?_
   refine reg_s 7 HH.out ?_
   refine mixk_s 8 HH.out (fun _ hx => hx.cells) ?_
   refine reg_s 10 HH.out ?_
   refine reg_s 11 HH.out ?_
   refine reg_s 12 HH.out ?_
   refine mixk_s 13 HH.out (fun _ hx => hx.cells) ?_
   refine reg_l (some 15) (i := 9) rfl (by kernel_rfl) (fun wn hk K hK => ?_)
   replace HH := Lib.hid (hk _ _ HH.out)
   clear hk
   go_simp
   refine (engPaceA_c ε wn _ eb s3.e h3e.out HH.out.r6).mono ?_
   rintro e wm ⟨rfl, H9_⟩
   replace HH := Lib.hid H9_
   clear H9_
   refine hK _ _ _ HH.out (.inr ⟨rfl, fun _ h => h.pn⟩) ?_
   clear hK K
   refine reg_l (some 15) (i := 14) rfl (by kernel_rfl) (fun wn hk K hK => ?_)
   replace HH := Lib.hid (hk _ _ HH.out)
   clear hk
   go_simp
   refine (engQuantumA_c ε wn _ eb s3.e h3e.out hUp.out HH.out).mono ?_
   rintro e wm ⟨rfl, H9_⟩
   replace HH := Lib.hid H9_
   clear H9_
   refine hK _ _ _ HH.out (.inr ⟨rfl, fun _ h => h.pn⟩) ?_
   clear hK K
   refine reg_l none (i := 15) rfl (by kernel_rfl) (fun wn hk K hK => ?_)
   replace HH := Lib.hid (hk _ _ HH.out)
   clear hk
   go_simp
   refine (pacTick_c ε wn _ pb s3.p now s3.e.pace s3.e.quantum h3p.out hU.out hUp.out hUq.out HH.out.r7).mono ?_
   rintro e wm ⟨rfl, H9_⟩
   replace HH := Lib.hid H9_
   clear H9_
   refine hK _ _ _ HH.out (.inl (by kernel_rfl)) ?_
   clear hK K
   refine mixk_done (by kernel_rfl) (fun w8_ hk => ?_) _
   replace HH := Lib.hid (hk _ _ HH.out)
   clear hk
   replace HH := Lib.hid (Own.as (L' := sAll b kb lb tb sb eb pb s4 R) (HH.out.pn : Own ε _ (pts b (sOb kb lb tb sb eb pb s3) :: clk kb (s3.k) :: led lb (s3.l) :: rtt tb (s3.t) :: smp sb (s3.s) :: eng eb (s3.e) :: pac pb ((s3.p.tick now s3.e.pace s3.e.quantum).2) :: R)) (by rw [hs4v.out]))
   go_wp2_with fail
   refine (sndRelease_c ε _ _ b kb lb tb sb eb pb s4 c N (M + 1) hr.out h4.out hN HH.out).mono ?_
   rintro e w9_ ⟨v, out, s5, hse, rfl, H9_⟩
   replace HH := Lib.hid H9_
   clear H9_
   replace hse := Lib.hid hse
   go_wp2_with fail
   go_ret2
   exact ⟨v, out, 0, s5.done, .inr ⟨h0'.out, rfl, s5, by rw [hbeg.out]; exact hse.out.1, hse.out.2, rfl⟩, rfl, HH.out⟩
 ·obtain ⟨e0, he0⟩ : ∃ e0, e0 = (s.k.to now).1 := ⟨_, rfl⟩
  have hb : (e0 == 0) = false := by rw [he0]; simpa using h0
  have hb2 : (e0 != 0) = true := by simp only [bne, hb, Bool.not_false]
  replace he0 := Lib.hid he0
  have h0' := Lib.hid h0
  replace hs1v := Lib.hid hs1v
  replace hk1 := Lib.hid hk1
  replace hs1 := Lib.hid hs1
  clear h h1 h0
  go_enter Tryz.func16, Tryz.ntmps16
  (try clear cc1_)
  have cc1_ := HH.out.cells
  go_wp2_with fail
  refine (clkTo_c ε _ _ kb s.k now (HH.out.pn : Own ε _ (clk kb s.k :: pts b (sOb kb lb tb sb eb pb s) :: led lb s.l :: rtt tb s.t :: smp sb s.s :: eng eb s.e :: pac pb s.p :: R))).mono ?_
  rw [← he0.out]
  rintro e w10_ ⟨rfl, H9_⟩
  replace HH := Lib.hid H9_
  clear H9_
  rw [hk1.out] at HH
  replace HH := Lib.hid (Own.as (L' := sAll b kb lb tb sb eb pb s1 R) (HH.out.pn : Own ε _ (pts b (sOb kb lb tb sb eb pb s) :: clk kb (s1.k) :: led lb (s.l) :: rtt tb (s.t) :: smp sb (s.s) :: eng eb (s.e) :: pac pb (s.p) :: R)) (by rw [hs1v.out]))
  go_wp2_with fail
  go_ret2
  exact ⟨_, [], e0, s1, .inl ⟨h0'.out, rfl, he0.out, hs1.out⟩, rfl, HH.out.slc_none⟩
end
end Go.Proofs.YtmkcpnlbicijoaaGreat
namespace Go.Proofs.YtmkcpnlbicijoaaGreat
theorem spl_ok {d now : Int} {x : Pk} (hd : U d) (hn : U now) (hx : x.Ok) : U (Spl.of d now x).d ∧ U (Spl.of d now x).iv ∧ U (Spl.of d now x).rate ∧ U (Spl.of d now x).rtt := by
 obtain ⟨_, _, u3, u4, u5, u6⟩ := hx
 have a1 := U_ssub u3 u4
 have a2 := U_ssub hn u6
 have a3 := U_ssub hd u5
 refine ⟨a3, U_max2 a1 a2, ?_, U_ssub hn u3⟩
 unfold Spl.of
 simp only
 split
 ·exact U_sshare a3 (by decide)
 ·exact U_zero
theorem ack_good (s : Led) {xs : List Rg} (hb : xs.any badR = false) : (s.ack xs).1 = taken (ackB (putsL [] xs)) s.row ∧ (s.ack xs).2.1 = 0 ∧ (s.ack xs).2.2.row = (s.take (ackB (putsL [] xs))).row ∧ (s.ack xs).2.2.next = s.next ∧ (s.ack xs).2.2.re = s.re := by
 unfold Led.ack
 rw [hb]
 simp only [Bool.false_eq_true, if_false, true_and]
 unfold Led.ackTop
 split
 ·exact ⟨rfl, rfl, rfl⟩
 ·exact ⟨rfl, rfl, rfl⟩
section
variable {c : Cnf} {N M : Nat} {s : Snd}
theorem Snd.In.acked (h : s.In c N M) {now : Int} {xs : List Rg} (hb : xs.any badR = false) :
  ((s.clock now).withL (s.l.ack xs).2.2).In c N M ∧ ((s.clock now).withL (s.l.ack xs).2.2).all + total (s.l.ack xs).1 = s.all ∧ (∀ p ∈ (s.l.ack xs).1, p.Ok) ∧ 0 ≤ total (s.l.ack xs).1 ∧ bytesP (s.l.ack xs).1 = total (s.l.ack xs).1 ∧ U (bytesP (s.l.ack xs).1) := by
 obtain ⟨e1, _, e3, e4, e5⟩ := ack_good s.l hb
 have hc := h.clock now
 have h1 : ∀ p ∈ (s.l.ack xs).1, p.Ok := by rw [e1]; exact taken_ok h.row _
 have h2 : total (outs (s.l.ack xs).2.2.row) + total (s.l.ack xs).1 = total (outs s.l.row) := by rw [e1, e3]; exact total_take s.l _
 have h3 := total_pos (fun p hp => (h1 p hp).2.1.1)
 have hrow : ∀ e ∈ (s.l.ack xs).2.2.row, e.p.Ok := by rw [e3]; exact marked_ok h.row
 have h6 : 0 ≤ total (outs (s.l.ack xs).2.2.row) := total_pos fun p hp => (outs_ok hrow p hp).2.1.1
 have h4 := h.tot
 have h5 : bytesP (s.l.ack xs).1 = total (s.l.ack xs).1 := bytesP_total (fun p hp => (h1 p hp).2.1.1) (by omega)
 have hall : ((s.clock now).withL (s.l.ack xs).2.2).all + total (s.l.ack xs).1 = s.all := by
  unfold Snd.all
  show s.wait + total (outs (s.l.ack xs).2.2.row) + total (s.l.ack xs).1 = s.wait + total (outs s.l.row)
  omega
 refine ⟨{ hc with re := show U (s.l.ack xs).2.2.re by rw [e5]; exact h.re, row := hrow, few := show (s.l.ack xs).2.2.row.length ≤ N by rw [e3]; exact Nat.le_trans (take_len _ _) h.few, n0 := show 0 ≤ (s.l.ack xs).2.2.next by rw [e4]; exact h.n0, nN := show (s.l.ack xs).2.2.next ≤ (N : Int) by rw [e4]; exact h.nN, all := ?_ }, hall, h1, h3, h5, by rw [h5]; unfold U; omega⟩
 have h8 := hc.all
 rw [clock_all] at h8
 show Snd.all _ ≤ (s.clock now).k.n
 exact Int.le_trans (by rw [← hall]; omega) h8
theorem Snd.In.heard (h : s.In c N M) {now : Int} (hn : U now) {p0 : Pk} {tk : List Pk} (h0 : p0.Ok) (hl : ∀ p ∈ tk, p.Ok) : (s.heard now p0 tk).In c N M ∧ (s.heard now p0 tk).all = s.all := by
 obtain ⟨h1, h2⟩ := newestL_ok h0 hl
 exact ⟨{ h with s := Smp.ok_ack h.s hn h1 h2, t := Rtt.ok_put h.t (U_ssub hn h1.2.2.1) }, rfl⟩
theorem evA_ok (h : s.In c N M) {now d lost : Int} {p0 : Pk} {tk : List Pk} (h1 : U now) (hd : U d) (h2 : U lost) (h0 : p0.Ok) (hl : ∀ p ∈ tk, p.Ok) (ht : U (bytesP tk)) : (s.evA now p0 tk d lost).Ok := by
 obtain ⟨a, b, c, d'⟩ := spl_ok hd h1 (newestL_ok h0 hl).1
 exact ⟨h1, a, b, c, d', h.s.d, ht, h2, h.tot.2.2.2.2.1⟩
theorem Snd.In.gain (hr : c.right = true) (h : s.In c N M) {now : Int} (hn : U now) {tk : List Pk} (hl : ∀ p ∈ tk, p.Ok) (ht : U (bytesP tk)) : (s.gain now tk).In c N (M + 1) ∧ (s.gain now tk).all = s.all ∧ (s.gain now tk).k = s.k := by
 cases tk with
 | nil => exact ⟨h.more (Nat.le_refl _) (Nat.le_succ _), rfl, rfl⟩
 | cons p0 tk =>
  have h0 := hl p0 (List.mem_cons_self ..)
  obtain ⟨h1, h2⟩ := h.heard hn h0 hl
  obtain ⟨_, _, _, g4, _⟩ := h1.goneOk
  obtain ⟨h3, h4⟩ := h1.lose
  obtain ⟨h5, h6⟩ := h3.told hr (evA_ok h3 hn (U_sadd h.s.d (newestL_ok h0 hl).2) g4 h0 hl ht)
  exact ⟨h5, h6.trans (h4.trans h2), rfl⟩
theorem Snd.In.ack (hr : c.right = true) (h : s.In c N M) {now : Int} (hn : U now) (xs : List Rg) : (s.ack now xs).2.In c N (M + 1) ∧ (s.ack now xs).2.all ≤ s.all ∧ (s.k.past = true → (s.ack now xs).2 = s) := by
 have hm := h.more (Nat.le_refl N) (Nat.le_succ M)
 unfold Snd.ack
 split
 ·exact ⟨hm, Int.le_refl _, fun _ => rfl⟩
 ·rename_i q1
  split
  ·exact ⟨hm, Int.le_refl _, fun q => absurd q q1⟩
  ·split
   ·exact ⟨hm, Int.le_refl _, fun q => absurd q q1⟩
   ·rename_i q3
    split
    ·exact ⟨(h.clock now).more (Nat.le_refl _) (Nat.le_succ _), Int.le_of_eq (clock_all s now), fun q => absurd q q1⟩
    ·have hb : xs.any badR = false := by simpa using q3
     obtain ⟨h1, h2, h3, h4, _, h6⟩ := h.acked (now := now) hb
     obtain ⟨h7, h8, _⟩ := h1.gain hr hn h3 h6
     refine ⟨h7, ?_, fun q => absurd q q1⟩
     show Snd.all (Snd.gain _ _ _) ≤ _
     rw [h8]
     omega
end
end Go.Proofs.YtmkcpnlbicijoaaGreat
