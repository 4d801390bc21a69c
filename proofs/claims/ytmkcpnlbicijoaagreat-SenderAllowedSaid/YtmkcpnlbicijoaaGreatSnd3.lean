/- sender: packets that go: by mksnd.py. -/
import Derived.Test.YtmkcpnlbicijoaaGreatSndS
namespace Go.Proofs.YtmkcpnlbicijoaaGreat
open Go.RowKit
theorem take_no {p : Pac} {n : Int} (h : (p.take n).1 = false) : (p.take n).2 = p := by
 unfold Pac.take at h ⊢
 split at h
 ·rename_i q
  rw [if_pos q]
 ·cases h
section
variable (ε w : World) (R : List Asn) (b kb lb tb sb eb pb : Nat)
set_option maxRecDepth 100000 in
set_option maxHeartbeats 12800000 in
theorem sndRelease_c (s : Snd) (c : Cnf) (N M : Nat) (hr : c.right = true) (h : s.In c N M) (hN : N ≤ 900000) (H : Own ε w (sAll b kb lb tb sb eb pb s R)) :
  Calls Tryz.prog 41 #[.pointer (some ⟨b, 0, none⟩)] w fun e w' => ∃ v out s2, ∃ _ : Sent s out s2 ∧ s2.can = false, e = .returned v ∧ Own ε w' (slcP v out :: pts b (.cells #[.int .u64 s2.done.c.mss, .int .u64 s2.done.c.init, .int .u64 s2.done.c.reorder, .int .u64 s2.done.c.window, .int .u64 s2.done.c.probe, .int .u64 s2.done.c.loss, .pointer (some ⟨kb, 0, none⟩), .pointer (some ⟨lb, 0, none⟩), .pointer (some ⟨tb, 0, none⟩), .pointer (some ⟨sb, 0, none⟩), .pointer (some ⟨eb, 0, none⟩), .pointer (some ⟨pb, 0, none⟩), .int .u64 s2.done.wait] 69 (0, 0)) :: clk kb (s2.done.k) :: led lb (s2.done.l) :: rtt tb (s2.done.t) :: smp sb (s2.done.s) :: eng eb (s2.done.e) :: pac pb (s2.done.p) :: R) := by
 have HH := Lib.hid H; clear H
 replace hr := Lib.hid hr
 have h9 := Lib.hid h
 go_enter Tryz.func41, Tryz.ntmps41
 (try clear cc1_); (try clear cc2_)
 have cc1_ := HH.out.cells
 go_wp2_with fail
 refine (clkTime_c ε _ _ kb s.k HH.out.r2).mono ?_
 rintro e w' ⟨rfl, rfl⟩
 go_wp2_with fail
 refine (sndSize_c ε _ _ b kb lb tb sb eb pb s c N M h9.out (by omega) HH.out).mono ?_
 rintro e w1_ ⟨rfl, H9_⟩
 replace HH := Lib.hid H9_
 clear H9_
 replace HH := Lib.hid (show Own ε _ (slcP (.slice none 0 0) [] :: _) from HH.out.slc_none)
 clear h
 go_wp2_with fail
 go_loopg [3, 5, 6] s.wait.toNat (fun k v nv ov wr => ∃ (vv : Value) (out : List Pk) (s1 : Snd), vv = v ∧ Sent s out s1 ∧ s1.wait.toNat = k ∧ nv = .int .u64 s1.n ∧ ov = .bool s1.fits ∧ Own ε wr (slcP vv out :: sAll b kb lb tb sb eb pb s1 R))
 case atStart => exact ⟨_, [], s, rfl, Sent.zero, rfl, rfl, rfl, HH.out⟩
 case round =>
  clear HH
  obtain ⟨vv, out, s1, rfl, hs, hk, rfl, rfl, HR⟩ := hrel
  have HH := Lib.hid HR
  clear HR
  have hS := hs.inn hr.out (by omega) h9.out
  have hb9 := hS.bound hr.out h9.out
  have hIn := hS.inn
  have hkt : s.k.t = s1.k.t := by rw [hS.k]
  cases hf : s1.fits with
  | false =>
   have hcan : s1.can = false := by unfold Snd.can; rw [hf]; rfl
   by_cases hw : s1.wait = 0
   ·have hb : (s1.wait == 0) = true := by simpa using hw
    have hd : s1.done = { s1 with s := s1.s.limit s1.infl } := by unfold Snd.done; rw [if_pos hw]
    obtain ⟨fi, hfi⟩ : ∃ fi, fi = s1.infl := ⟨_, rfl⟩
    have hf0 : bytesP (outs s1.l.row) = fi := by rw [hfi]; rfl
    have hU1 := hIn.tot.2.2.2.2.1
    rw [← hfi] at hd hU1
    clear hfi hk hkt hS
    have hr9 : s1.l.row.length ≤ 1000000 := by have := hIn.few; omega
    replace hd := Lib.hid hd
    replace hf0 := Lib.hid hf0
    replace hU1 := Lib.hid hU1
    replace hr9 := Lib.hid hr9
    replace hIn := Lib.hid hIn
    replace hs := Lib.hid hs
    replace hcan := Lib.hid hcan
    clear hb9
    (try clear cc1_); (try clear cc2_)
    have cc2_ := HH.out.r2.cells
    go_wp2_with fail
    refine wp_region_reg (some 9) HH.out (by kernel_rfl) ?_
    intro wm H9_
    replace HH := Lib.hid H9_
    clear H9_
    refine reg_s 0 HH.out ?_
    refine reg_s 1 HH.out ?_
    refine reg_s 2 HH.out ?_
    refine mixk_s 3 HH.out (fun _ hx => hx.r2.cells) ?_
    refine reg_s 4 HH.out ?_
    refine reg_s 5 HH.out ?_
    refine reg_s 6 HH.out ?_
    refine mixk_s 7 HH.out (fun _ hx => hx.r2.cells) ?_
    refine reg_l (some 9) (i := 8) rfl (by kernel_rfl) (fun wn hk K hK => ?_)
    replace HH := Lib.hid (hk _ _ HH.out)
    clear hk
    go_simp
    refine (ledInFlight_c ε wn _ lb s1.l hr9.out hIn.out.row HH.out.r4).mono ?_
    rw [hf0.out]
    rintro e wm ⟨rfl, H9_⟩
    replace HH := Lib.hid H9_
    clear H9_
    refine hK _ _ _ HH.out (.inr ⟨rfl, fun _ h => h.pn⟩) ?_
    clear hK K
    refine reg_l none (i := 9) rfl (by kernel_rfl) (fun wn hk K hK => ?_)
    replace HH := Lib.hid (hk _ _ HH.out)
    clear hk
    go_simp
    refine (rateLimit_c ε wn _ sb s1.s hIn.out.s fi hU1.out HH.out.r6).mono ?_
    rintro e wm ⟨rfl, H9_⟩
    replace HH := Lib.hid H9_
    clear H9_
    refine hK _ _ _ HH.out (.inl (by kernel_rfl)) ?_
    clear hK K
    refine mixk_done (by kernel_rfl) (fun w2_ hk => ?_) _
    replace HH := Lib.hid (hk _ _ HH.out)
    clear hk
    go_wp2_with fail
    go_ret
    have HZ := HH.out
    refine ⟨vv, out, s1, ⟨hs.out, hcan.out⟩, rfl, ?_⟩
    rw [hd.out]
    exact HZ.pn
   ·have hb : (s1.wait == 0) = false := by simpa using hw
    have hd : s1.done = s1 := by unfold Snd.done; rw [if_neg hw]
    clear hk hkt hS hb9
    replace hd := Lib.hid hd
    replace hs := Lib.hid hs
    replace hcan := Lib.hid hcan
    replace hIn := Lib.hid hIn
    (try clear cc1_); (try clear cc2_)
    have cc2_ := HH.out.r2.cells
    go_wp2_with fail
    go_ret
    have HZ := HH.out
    refine ⟨vv, out, s1, ⟨hs.out, hcan.out⟩, rfl, ?_⟩
    rw [hd.out]
    exact HZ.pn
  | true =>
   have hf2 := hf
   unfold Snd.fits at hf2
   simp only [Bool.and_eq_true, decide_eq_true_eq] at hf2
   have hUn : U s1.n := by
    have h1 := hIn.tot.2.2.2.2.2
    have h2 := hf2.1
    unfold Snd.n at h2 ⊢
    unfold U at *
    omega
   have hIp := hIn.p
   (try clear cc1_); (try clear cc2_)
   have cc2_ := HH.out.r2.cells
   cases htk : (s1.p.take s1.n).1 with
   | false =>
    have hcan : s1.can = false := by unfold Snd.can; rw [hf, htk]; rfl
    have htk2 := take_no htk
    go_wp2_with fail
    refine (pacTake_c ε _ _ pb s1.p s1.n hUn hIp (HH.out.pn : Own ε _ (pac pb s1.p :: slcP vv out :: pts b (sOb kb lb tb sb eb pb s1) :: clk kb s1.k :: led lb s1.l :: rtt tb s1.t :: smp sb s1.s :: eng eb s1.e :: R))).mono ?_
    rw [htk]
    rintro e w3_ ⟨rfl, H9_⟩
    replace HH := Lib.hid H9_
    clear H9_
    rw [htk2] at HH
    replace HH := Lib.hid (HH.out.pn : Own ε _ (slcP vv out :: sAll b kb lb tb sb eb pb s1 R))
    clear htk htk2 hf hf2 hUn hIp
    by_cases hw : s1.wait = 0
    ·have hb : (s1.wait == 0) = true := by simpa using hw
     have hd : s1.done = { s1 with s := s1.s.limit s1.infl } := by unfold Snd.done; rw [if_pos hw]
     obtain ⟨fi, hfi⟩ : ∃ fi, fi = s1.infl := ⟨_, rfl⟩
     have hf0 : bytesP (outs s1.l.row) = fi := by rw [hfi]; rfl
     have hU1 := hIn.tot.2.2.2.2.1
     rw [← hfi] at hd hU1
     clear hfi hk hkt hS
     have hr9 : s1.l.row.length ≤ 1000000 := by have := hIn.few; omega
     replace hd := Lib.hid hd
     replace hf0 := Lib.hid hf0
     replace hU1 := Lib.hid hU1
     replace hr9 := Lib.hid hr9
     replace hIn := Lib.hid hIn
     replace hs := Lib.hid hs
     replace hcan := Lib.hid hcan
     clear hb9
     (try clear cc1_); (try clear cc2_)
     have cc2_ := HH.out.r2.cells
     go_wp2_with fail
     refine wp_region_reg (some 9) HH.out (by kernel_rfl) ?_
     intro wm H9_
     replace HH := Lib.hid H9_
     clear H9_
     refine reg_s 0 HH.out ?_
     refine reg_s 1 HH.out ?_
     refine reg_s 2 HH.out ?_
     refine mixk_s 3 HH.out (fun _ hx => hx.r2.cells) ?_
     refine reg_s 4 HH.out ?_
     refine reg_s 5 HH.out ?_
     refine reg_s 6 HH.out ?_
     refine mixk_s 7 HH.out (fun _ hx => hx.r2.cells) ?_
     refine reg_l (some 9) (i := 8) rfl (by kernel_rfl) (fun wn hk K hK => ?_)
     replace HH := Lib.hid (hk _ _ HH.out)
     clear hk
     go_simp
     refine (ledInFlight_c ε wn _ lb s1.l hr9.out hIn.out.row HH.out.r4).mono ?_
     rw [hf0.out]
     rintro e wm ⟨rfl, H9_⟩
     replace HH := Lib.hid H9_
     clear H9_
     refine hK _ _ _ HH.out (.inr ⟨rfl, fun _ h => h.pn⟩) ?_
     clear hK K
     refine reg_l none (i := 9) rfl (by kernel_rfl) (fun wn hk K hK => ?_)
     replace HH := Lib.hid (hk _ _ HH.out)
     clear hk
     go_simp
     refine (rateLimit_c ε wn _ sb s1.s hIn.out.s fi hU1.out HH.out.r6).mono ?_
     rintro e wm ⟨rfl, H9_⟩
     replace HH := Lib.hid H9_
     clear H9_
     refine hK _ _ _ HH.out (.inl (by kernel_rfl)) ?_
     clear hK K
     refine mixk_done (by kernel_rfl) (fun w4_ hk => ?_) _
     replace HH := Lib.hid (hk _ _ HH.out)
     clear hk
     go_wp2_with fail
     go_ret
     have HZ := HH.out
     refine ⟨vv, out, s1, ⟨hs.out, hcan.out⟩, rfl, ?_⟩
     rw [hd.out]
     exact HZ.pn
    ·have hb : (s1.wait == 0) = false := by simpa using hw
     have hd : s1.done = s1 := by unfold Snd.done; rw [if_neg hw]
     clear hk hkt hS hb9
     replace hd := Lib.hid hd
     replace hs := Lib.hid hs
     replace hcan := Lib.hid hcan
     replace hIn := Lib.hid hIn
     (try clear cc1_); (try clear cc2_)
     have cc2_ := HH.out.r2.cells
     go_wp2_with fail
     go_ret
     have HZ := HH.out
     refine ⟨vv, out, s1, ⟨hs.out, hcan.out⟩, rfl, ?_⟩
     rw [hd.out]
     exact HZ.pn
   | true =>
    have hcan : s1.can = true := by unfold Snd.can; rw [hf, htk]; rfl
    have htk2 := (take_yes htk).1
    obtain ⟨hpk, hp1, hp2, hp3⟩ := hIn.pk (by omega) hcan hr.out
    have hw9 := hIn.tot.2.2.1
    have hw1 : IntKind.u64.wrap (s1.wait - s1.n) = s1.wait - s1.n := by rw [IntKind.wrap_u64]; omega
    have hrow9 : s1.l.row.length ≤ 1000000 := by have := hIn.few; omega
    have hnx0 := hIn.n0
    have hnx1 : s1.l.next < 9223372036854775807 := by have := hIn.nN; omega
    have hol : out.length ≤ 1000000 := by omega
    obtain ⟨fi, hfi⟩ : ∃ fi, fi = s1.infl := ⟨_, rfl⟩
    have hf0 : bytesP (outs s1.l.row) = fi := by rw [hfi]; rfl
    have hwl : (s1.wait - s1.n).toNat < s1.wait.toNat := by omega
    have hgo : ∀ eb2, SentIn c N M s (out ++ [s1.pk]) (s1.go eb2) := fun eb2 => hS.more hr.out (by omega) hcan eb2
    replace hgo := Lib.hid hgo
    obtain ⟨P2, hP2⟩ : ∃ P2, P2 = (s1.p.take s1.n).2 := ⟨_, rfl⟩
    go_wp2_with fail
    refine (pacTake_c ε _ _ pb s1.p s1.n hUn hIp (HH.out.pn : Own ε _ (pac pb s1.p :: slcP vv out :: pts b (sOb kb lb tb sb eb pb s1) :: clk kb s1.k :: led lb s1.l :: rtt tb s1.t :: smp sb s1.s :: eng eb s1.e :: R))).mono ?_
    rw [htk]
    rintro e w5_ ⟨rfl, H9_⟩
    replace HH := Lib.hid H9_
    clear H9_
    rw [← hP2] at HH
    replace HH := Lib.hid (HH.out.pn : Own ε _ (pts b (sOb kb lb tb sb eb pb s1) :: slcP vv out :: clk kb s1.k :: led lb s1.l :: rtt tb s1.t :: smp sb s1.s :: eng eb s1.e :: pac pb P2 :: R))
    obtain ⟨st, hst⟩ : ∃ st, st = s1.s.stamp s.k.t fi := ⟨_, rfl⟩
    have hpkv : s1.pk = ⟨s1.l.next, s1.n, s.k.t, st.first, s1.s.d, st.at', decide (0 < s1.s.mark)⟩ := by rw [hst, hfi, hkt]; rfl
    have hgov : ∀ eb2, s1.go eb2 = { s1 with wait := s1.wait - s1.n, s := st, l := { s1.l with next := s1.l.next + 1, row := s1.l.row ++ [⟨eb2, s1.pk, true⟩] }, p := P2 } := fun eb2 => by rw [hst, hfi, hkt, hP2]; rfl
    have hrw := hIn.row
    replace hpkv := Lib.hid hpkv
    replace hgov := Lib.hid hgov
    replace hst := Lib.hid hst
    replace hf0 := Lib.hid hf0
    replace hrow9 := Lib.hid hrow9
    replace hrw := Lib.hid hrw
    replace hk := Lib.hid hk
    replace hs := Lib.hid hs
    replace hcan := Lib.hid hcan
    replace hwl := Lib.hid hwl
    replace hnx0 := Lib.hid hnx0
    replace hnx1 := Lib.hid hnx1
    clear hfi htk htk2 hf hf2 hUn hIp hS hIn hb9 hP2 hpk hp1 hp2 hp3 hw9 hkt
    (try clear cc1_); (try clear cc2_)
    have cc1_ := HH.out.cells
    go_wp2_with (with_reducible refine stop_st ?_)
    refine Stop.go ?_
    refine wpList_store1_own (v := .int .u64 (s1.wait - s1.n)) (k := 12) rfl rfl HH.out (by kernel_rfl) (by simp) (by first | rfl | assumption) ?_
    intro w6_ H9_
    replace HH := Lib.hid H9_
    clear H9_
    simp only [List.setIfInBounds_toArray, List.set_cons_succ, List.set_cons_zero] at HH
    replace HH := Lib.hid (show Own ε _ (pts b (.cells #[.int .u64 s1.c.mss, .int .u64 s1.c.init, .int .u64 s1.c.reorder, .int .u64 s1.c.window, .int .u64 s1.c.probe, .int .u64 s1.c.loss, .pointer (some ⟨kb, 0, none⟩), .pointer (some ⟨lb, 0, none⟩), .pointer (some ⟨tb, 0, none⟩), .pointer (some ⟨sb, 0, none⟩), .pointer (some ⟨eb, 0, none⟩), .pointer (some ⟨pb, 0, none⟩), .int .u64 (s1.wait - s1.n)] 69 (0, 0)) :: slcP vv out :: clk kb s1.k :: led lb s1.l :: rtt tb s1.t :: smp sb s1.s :: eng eb s1.e :: pac pb P2 :: R) from HH.out)
    go_wp2_with fail
    refine wp_region_reg (some 10) HH.out (by kernel_rfl) ?_
    intro wm H9_
    replace HH := Lib.hid H9_
    clear H9_
    refine reg_s 0 HH.out ?_
    refine reg_s 1 HH.out ?_
    refine reg_s 2 HH.out ?_
    refine mixk_s 3 HH.out (fun _ hx => hx.cells) ?_
    refine reg_s 4 HH.out ?_
    refine reg_s 5 HH.out ?_
    refine reg_s 6 HH.out ?_
    refine reg_s 7 HH.out ?_
    refine mixk_s 8 HH.out (fun _ hx => hx.cells) ?_
    refine reg_two (some 10) (some 10) (i := 9) (j := 11) rfl rfl (by kernel_rfl) (fun wn hk K hK => ?g1_) (fun wn hk K hK => ?g2_)
    case' g1_ =>
     replace HH := Lib.hid (hk _ _ HH.out)
     clear hk
     go_simp
     refine (ledInFlight_c ε wn _ lb s1.l hrow9.out hrw.out HH.out.r4).mono ?_
     rw [hf0.out]
     rintro e wm ⟨rfl, H9_⟩
     replace HH := Lib.hid H9_
     clear H9_
     refine hK _ _ _ HH.out (.inr ⟨rfl, fun _ h => h.pn⟩) ?_
     clear hK K
     refine reg_two (some 12) (some 10) (i := 10) (j := 11) rfl rfl (by kernel_rfl) (fun wn hk K hK => ?g3_) (fun wn hk K hK => ?g4_)
     case' g3_ =>
      replace HH := Lib.hid (hk _ _ HH.out)
      clear hk
      go_simp
      refine (rateStamp_c ε wn _ sb s1.s s.k.t fi HH.out.r6).mono ?_
      rw [← hst.out]
      rintro e wm ⟨rfl, H9_⟩
      replace HH := Lib.hid H9_
      clear H9_
      refine hK _ _ _ HH.out (.inl (by kernel_rfl)) ?_
      clear hK K
      refine reg_l (some 12) (i := 11) rfl (by kernel_rfl) (fun wn hk K hK => ?_)
      replace HH := Lib.hid (hk _ _ HH.out)
      clear hk
      go_simp
      replace HH := Lib.hid (HH.out.alloc (.cells #[.int .u64 0, .int .u64 0, .int .u64 0, .int .u64 0, .bool false] 39))
      generalize wn.alloc (.cells #[.int .u64 0, .int .u64 0, .int .u64 0, .int .u64 0, .bool false] 39) = wm at *
      generalize wn.heap.size = xb at *
      refine hK _ _ _ HH.out (.inr ⟨rfl, fun _ h => h.tail⟩) ?_
      clear hK K
      refine reg_l none (i := 12) rfl (by kernel_rfl) (fun wn hk K hK => ?_)
      replace HH := Lib.hid (hk _ _ HH.out)
      clear hk
      refine want rfl (wp_store_own _ #[_, _, _, _, _] rfl rfl rfl HH.out (by kernel_rfl) rfl (by repeat (first | (refine List.forall_mem_cons.2 ⟨(by first | with_reducible assumption | rfl), ?_⟩) | exact fun _ h => absurd h List.not_mem_nil)) ?_)
      intro wm H9_
      replace HH := Lib.hid H9_
      clear H9_
      refine hK _ _ _ HH.out (.inl (by kernel_rfl)) ?_
      clear hK K
      refine mixk_done (by kernel_rfl) (fun w7_ hk => ?_) _
      replace HH := Lib.hid (hk _ _ HH.out)
      clear hk
     case' g4_ =>
      replace HH := Lib.hid (hk _ _ HH.out)
      clear hk
      go_simp
      replace HH := Lib.hid (HH.out.alloc (.cells #[.int .u64 0, .int .u64 0, .int .u64 0, .int .u64 0, .bool false] 39))
      generalize wn.alloc (.cells #[.int .u64 0, .int .u64 0, .int .u64 0, .int .u64 0, .bool false] 39) = wm at *
      generalize wn.heap.size = xb at *
      refine hK _ _ _ HH.out (.inr ⟨rfl, fun _ h => h.tail⟩) ?_
      clear hK K
      refine reg_l (some 12) (i := 10) rfl (by kernel_rfl) (fun wn hk K hK => ?_)
      replace HH := Lib.hid (hk _ _ HH.out)
      clear hk
      go_simp
      refine (rateStamp_c ε wn _ sb s1.s s.k.t fi HH.out.r7).mono ?_
      rw [← hst.out]
      rintro e wm ⟨rfl, H9_⟩
      replace HH := Lib.hid H9_
      clear H9_
      refine hK _ _ _ HH.out (.inl (by kernel_rfl)) ?_
      clear hK K
      refine reg_l none (i := 12) rfl (by kernel_rfl) (fun wn hk K hK => ?_)
      replace HH := Lib.hid (hk _ _ HH.out)
      clear hk
      refine want rfl (wp_store_own _ #[_, _, _, _, _] rfl rfl rfl HH.out.r2 (by kernel_rfl) rfl (by repeat (first | (refine List.forall_mem_cons.2 ⟨(by first | with_reducible assumption | rfl), ?_⟩) | exact fun _ h => absurd h List.not_mem_nil)) ?_)
      intro wm H9_
      replace HH := Lib.hid H9_
      clear H9_
      refine hK _ _ _ HH.out (.inl (by kernel_rfl)) ?_
      clear hK K
      refine mixk_done (by kernel_rfl) (fun w7_ hk => ?_) _
      replace HH := Lib.hid (hk _ _ HH.out)
      clear hk
    case' g2_ =>
     replace HH := Lib.hid (hk _ _ HH.out)
     clear hk
     go_simp
     replace HH := Lib.hid (HH.out.alloc (.cells #[.int .u64 0, .int .u64 0, .int .u64 0, .int .u64 0, .bool false] 39))
     generalize wn.alloc (.cells #[.int .u64 0, .int .u64 0, .int .u64 0, .int .u64 0, .bool false] 39) = wm at *
     generalize wn.heap.size = xb at *
     refine hK _ _ _ HH.out (.inr ⟨rfl, fun _ h => h.tail⟩) ?_
     clear hK K
     refine reg_l (some 10) (i := 9) rfl (by kernel_rfl) (fun wn hk K hK => ?_)
     replace HH := Lib.hid (hk _ _ HH.out)
     clear hk
     go_simp
     refine (ledInFlight_c ε wn _ lb s1.l hrow9.out hrw.out HH.out.r5).mono ?_
     rw [hf0.out]
     rintro e wm ⟨rfl, H9_⟩
     replace HH := Lib.hid H9_
     clear H9_
     refine hK _ _ _ HH.out (.inr ⟨rfl, fun _ h => h.pn⟩) ?_
     clear hK K
     refine reg_l (some 12) (i := 10) rfl (by kernel_rfl) (fun wn hk K hK => ?_)
     replace HH := Lib.hid (hk _ _ HH.out)
     clear hk
     go_simp
     refine (rateStamp_c ε wn _ sb s1.s s.k.t fi HH.out.r7).mono ?_
     rw [← hst.out]
     rintro e wm ⟨rfl, H9_⟩
     replace HH := Lib.hid H9_
     clear H9_
     refine hK _ _ _ HH.out (.inl (by kernel_rfl)) ?_
     clear hK K
     refine reg_l none (i := 12) rfl (by kernel_rfl) (fun wn hk K hK => ?_)
     replace HH := Lib.hid (hk _ _ HH.out)
     clear hk
     refine want rfl (wp_store_own _ #[_, _, _, _, _] rfl rfl rfl HH.out.r3 (by kernel_rfl) rfl (by repeat (first | (refine List.forall_mem_cons.2 ⟨(by first | with_reducible assumption | rfl), ?_⟩) | exact fun _ h => absurd h List.not_mem_nil)) ?_)
     intro wm H9_
     replace HH := Lib.hid H9_
     clear H9_
     refine hK _ _ _ HH.out (.inl (by kernel_rfl)) ?_
     clear hK K
     refine mixk_done (by kernel_rfl) (fun w7_ hk => ?_) _
     replace HH := Lib.hid (hk _ _ HH.out)
     clear hk
    all_goals
     replace HH := Lib.hid (HH.out.pn : Own ε _ (pts xb _ :: pts b (.cells #[.int .u64 s1.c.mss, .int .u64 s1.c.init, .int .u64 s1.c.reorder, .int .u64 s1.c.window, .int .u64 s1.c.probe, .int .u64 s1.c.loss, .pointer (some ⟨kb, 0, none⟩), .pointer (some ⟨lb, 0, none⟩), .pointer (some ⟨tb, 0, none⟩), .pointer (some ⟨sb, 0, none⟩), .pointer (some ⟨eb, 0, none⟩), .pointer (some ⟨pb, 0, none⟩), .int .u64 (s1.wait - s1.n)] 69 (0, 0)) :: slcP vv out :: clk kb s1.k :: led lb s1.l :: rtt tb s1.t :: smp sb st :: eng eb s1.e :: pac pb P2 :: R))
     replace HH := Lib.hid (show Own ε _ (pts xb (.cells #[.int .u64 s.k.t, .int .u64 st.first, .int .u64 s1.s.d, .int .u64 st.at', .bool (decide (0 < s1.s.mark))] 39 (0, 0)) :: _) from HH.out)
     go_wp2_with fail
     refine wp_region_regK (some 12) [pts xb (.cells #[.int .u64 s.k.t, .int .u64 st.first, .int .u64 s1.s.d, .int .u64 st.at', .bool (decide (0 < s1.s.mark))] 39 (0, 0)), pts b (.cells #[.int .u64 s1.c.mss, .int .u64 s1.c.init, .int .u64 s1.c.reorder, .int .u64 s1.c.window, .int .u64 s1.c.probe, .int .u64 s1.c.loss, .pointer (some ⟨kb, 0, none⟩), .pointer (some ⟨lb, 0, none⟩), .pointer (some ⟨tb, 0, none⟩), .pointer (some ⟨sb, 0, none⟩), .pointer (some ⟨eb, 0, none⟩), .pointer (some ⟨pb, 0, none⟩), .int .u64 (s1.wait - s1.n)] 69 (0, 0))] HH.out (by kernel_rfl) ?_
     intro wm H9_
     replace HH := Lib.hid H9_
     clear H9_
     have HS : Own _ wm [pts xb (.cells #[.int .u64 s.k.t, .int .u64 st.first, .int .u64 s1.s.d, .int .u64 st.at', .bool (decide (0 < s1.s.mark))] 39 (0, 0)), pts b (.cells #[.int .u64 s1.c.mss, .int .u64 s1.c.init, .int .u64 s1.c.reorder, .int .u64 s1.c.window, .int .u64 s1.c.probe, .int .u64 s1.c.loss, .pointer (some ⟨kb, 0, none⟩), .pointer (some ⟨lb, 0, none⟩), .pointer (some ⟨tb, 0, none⟩), .pointer (some ⟨sb, 0, none⟩), .pointer (some ⟨eb, 0, none⟩), .pointer (some ⟨pb, 0, none⟩), .int .u64 (s1.wait - s1.n)] 69 (0, 0))] := HH.out.pn
     refine reg_s 0 HS ?_
     refine reg_s 1 HS ?_
     refine reg_s 2 HS ?_
     refine reg_s 3 HS ?_
     refine mixk_s 4 HS (fun _ hx => And.intro hx.cells hx.r2.cells) ?_
     refine reg_s 5 HS ?_
     refine mixk_s 6 HS (fun _ hx => And.intro hx.cells hx.r2.cells) ?_
     refine reg_s 8 HS ?_
     refine mixk_s 9 HS (fun _ hx => And.intro hx.cells hx.r2.cells) ?_
     refine reg_l (some 12) (i := 7) rfl (by kernel_rfl) (fun wn hk K hK => ?_)
     replace HH := Lib.hid (hk _ _ HH.out)
     clear hk HS
     go_simp
     refine (ledSend_c ε wn _ lb s1.l s1.n s.k.t st.first s1.s.d st.at' (decide (0 < s1.s.mark)) hrow9.out hnx0.out hnx1.out HH.out.r5).mono ?_
     rintro e wm ⟨eb2, rfl, H9_⟩
     replace HH := Lib.hid H9_
     clear H9_
     have HS : Own _ wm [pts xb (.cells #[.int .u64 s.k.t, .int .u64 st.first, .int .u64 s1.s.d, .int .u64 st.at', .bool (decide (0 < s1.s.mark))] 39 (0, 0)), pts b (.cells #[.int .u64 s1.c.mss, .int .u64 s1.c.init, .int .u64 s1.c.reorder, .int .u64 s1.c.window, .int .u64 s1.c.probe, .int .u64 s1.c.loss, .pointer (some ⟨kb, 0, none⟩), .pointer (some ⟨lb, 0, none⟩), .pointer (some ⟨tb, 0, none⟩), .pointer (some ⟨sb, 0, none⟩), .pointer (some ⟨eb, 0, none⟩), .pointer (some ⟨pb, 0, none⟩), .int .u64 (s1.wait - s1.n)] 69 (0, 0))] := HH.out.pn
     refine hK _ _ [pts xb (.cells #[.int .u64 s.k.t, .int .u64 st.first, .int .u64 s1.s.d, .int .u64 st.at', .bool (decide (0 < s1.s.mark))] 39 (0, 0)), pts b (.cells #[.int .u64 s1.c.mss, .int .u64 s1.c.init, .int .u64 s1.c.reorder, .int .u64 s1.c.window, .int .u64 s1.c.probe, .int .u64 s1.c.loss, .pointer (some ⟨kb, 0, none⟩), .pointer (some ⟨lb, 0, none⟩), .pointer (some ⟨tb, 0, none⟩), .pointer (some ⟨sb, 0, none⟩), .pointer (some ⟨eb, 0, none⟩), .pointer (some ⟨pb, 0, none⟩), .int .u64 (s1.wait - s1.n)] 69 (0, 0))] HS (.inr ⟨rfl, fun _ h => h⟩) ?_
     clear hK K
     refine reg_s 10 HS ?_
     refine reg_l (some 12) (i := 11) rfl (by kernel_rfl) (fun wn hk K hK => ?_)
     replace HH := Lib.hid (hk _ _ HH.out)
     clear hk HS
     go_simp
     replace HH := Lib.hid (HH.out.alloc (.cells #[.int .u64 s1.l.next, .int .u64 s1.n, .int .u64 s.k.t, .int .u64 st.first, .int .u64 s1.s.d, .int .u64 st.at', .bool (decide (0 < s1.s.mark))] 41))
     generalize wn.alloc (.cells #[.int .u64 s1.l.next, .int .u64 s1.n, .int .u64 s.k.t, .int .u64 st.first, .int .u64 s1.s.d, .int .u64 st.at', .bool (decide (0 < s1.s.mark))] 41) = wm at *
     generalize wn.heap.size = yb at *
     have HS : Own _ wm [pts xb (.cells #[.int .u64 s.k.t, .int .u64 st.first, .int .u64 s1.s.d, .int .u64 st.at', .bool (decide (0 < s1.s.mark))] 39 (0, 0)), pts b (.cells #[.int .u64 s1.c.mss, .int .u64 s1.c.init, .int .u64 s1.c.reorder, .int .u64 s1.c.window, .int .u64 s1.c.probe, .int .u64 s1.c.loss, .pointer (some ⟨kb, 0, none⟩), .pointer (some ⟨lb, 0, none⟩), .pointer (some ⟨tb, 0, none⟩), .pointer (some ⟨sb, 0, none⟩), .pointer (some ⟨eb, 0, none⟩), .pointer (some ⟨pb, 0, none⟩), .int .u64 (s1.wait - s1.n)] 69 (0, 0))] := HH.out.pn
     refine hK _ _ [pts xb (.cells #[.int .u64 s.k.t, .int .u64 st.first, .int .u64 s1.s.d, .int .u64 st.at', .bool (decide (0 < s1.s.mark))] 39 (0, 0)), pts b (.cells #[.int .u64 s1.c.mss, .int .u64 s1.c.init, .int .u64 s1.c.reorder, .int .u64 s1.c.window, .int .u64 s1.c.probe, .int .u64 s1.c.loss, .pointer (some ⟨kb, 0, none⟩), .pointer (some ⟨lb, 0, none⟩), .pointer (some ⟨tb, 0, none⟩), .pointer (some ⟨sb, 0, none⟩), .pointer (some ⟨eb, 0, none⟩), .pointer (some ⟨pb, 0, none⟩), .int .u64 (s1.wait - s1.n)] 69 (0, 0))] HS (.inr ⟨rfl, fun _ h => h⟩) ?_
     clear hK K
     refine reg_l none (i := 12) rfl (by kernel_rfl) (fun wn hk K hK => ?_)
     replace HH := Lib.hid (hk _ _ HH.out)
     clear hk HS
     refine want rfl (wp_append_slc _ _ 33 rfl 41 7 56 Tryz.underlying33 (by kernel_rfl) (by decide) rfl (HH.out.r5) rfl (flat_pks_len out) ((show srcAt wn (some ⟨yb, 0, none⟩) 1 7 [.int .u64 s1.l.next, .int .u64 s1.n, .int .u64 s.k.t, .int .u64 st.first, .int .u64 s1.s.d, .int .u64 st.at', .bool (decide (0 < s1.s.mark))] from ⟨rfl, .inr ⟨yb, 0, rfl, fun j u hj => by rw [Nat.zero_add, HH.out.cells.1 j]; simpa using hj⟩⟩)) ((by repeat (first | (refine List.forall_mem_cons.2 ⟨(by first | with_reducible assumption | rfl), ?_⟩) | exact fun _ h => absurd h List.not_mem_nil))) (by simp only [maxLen]; omega) (by omega) ?_)
     intro v1 wm H9_
     obtain ⟨A_v1, n_v1, c_v1, rfl⟩ := H9_.slc_isv
     replace HH := Lib.hid H9_
     clear H9_
     refine hK _ _ _ HH.out (.inl (by kernel_rfl)) ?_
     clear hK K
     refine reg_s 13 HH.out ?_
     refine mixk_done (by kernel_rfl) (fun w8_ hk => ?_) _
     replace HH := Lib.hid (hk _ _ HH.out)
     clear hk
     have hg2 := hgo.out eb2
     replace HH := Lib.hid (HH.out.pn : Own ε _ (slc 41 7 (.slice A_v1 n_v1 c_v1) _ :: pts b (.cells #[.int .u64 s1.c.mss, .int .u64 s1.c.init, .int .u64 s1.c.reorder, .int .u64 s1.c.window, .int .u64 s1.c.probe, .int .u64 s1.c.loss, .pointer (some ⟨kb, 0, none⟩), .pointer (some ⟨lb, 0, none⟩), .pointer (some ⟨tb, 0, none⟩), .pointer (some ⟨sb, 0, none⟩), .pointer (some ⟨eb, 0, none⟩), .pointer (some ⟨pb, 0, none⟩), .int .u64 (s1.wait - s1.n)] 69 (0, 0)) :: clk kb s1.k :: led lb _ :: rtt tb s1.t :: smp sb st :: eng eb s1.e :: pac pb P2 :: R))
     have HZ := HH.out
     rw [show (pks out).flatten ++ [.int .u64 s1.l.next, .int .u64 s1.n, .int .u64 s.k.t, .int .u64 st.first, .int .u64 s1.s.d, .int .u64 st.at', .bool (decide (0 < s1.s.mark))] = (pks (out ++ [⟨s1.l.next, s1.n, s.k.t, st.first, s1.s.d, st.at', decide (0 < s1.s.mark)⟩])).flatten from (flat_pks_snoc out (⟨s1.l.next, s1.n, s.k.t, st.first, s1.s.d, st.at', decide (0 < s1.s.mark)⟩ : Pk)).symm, ← hpkv.out] at HZ
     obtain ⟨s3, hs3⟩ : ∃ s3, s3 = s1.go eb2 := ⟨_, rfl⟩
     have hgv := hgov.out eb2
     rw [← hs3] at hgv hg2
     have HY := Own.as (L' := slcP (.slice A_v1 n_v1 c_v1) (out ++ [s1.pk]) :: sAll b kb lb tb sb eb pb s3 R) HZ (by rw [hgv])
     replace HH := Lib.hid HY
     clear HZ HY
     have hwt : s3.wait = s1.wait - s1.n := by rw [hgv]
     have hgi := hg2.inn
     have hgb := (hg2.bound hr.out h9.out).1
     replace hgv := Lib.hid hgv
     replace hs3 := Lib.hid hs3
     replace hwt := Lib.hid hwt
     replace hgi := Lib.hid hgi
     clear hg2
     (try clear cc1_); (try clear cc2_)
     have cc2_ := HH.out.r2.cells
     go_wp2_with fail
     refine (sndSize_c ε _ _ b kb lb tb sb eb pb s3 c (N + (out ++ [s1.pk]).length) M hgi.out (by omega) (HH.out.pn : Own ε _ (sAll b kb lb tb sb eb pb s3 (slcP (.slice A_v1 n_v1 c_v1) (out ++ [s1.pk]) :: R)))).mono ?_
     rintro e w9_ ⟨rfl, H9_⟩
     replace HH := Lib.hid H9_
     clear H9_
     replace HH := Lib.hid (HH.out.pn : Own ε _ (slcP (.slice A_v1 n_v1 c_v1) (out ++ [s1.pk]) :: sAll b kb lb tb sb eb pb s3 R))
     go_wp2_with fail
     go_roundg s3.wait.toNat
     case measure => rw [hwt.out]; have := hwl.out; have := hk.out; omega
     case rel => exact ⟨_, out ++ [s1.pk], s3, rfl, by rw [hs3.out]; exact Sent.more eb2 hs.out hcan.out, rfl, rfl, rfl, HH.out⟩
end
end Go.Proofs.YtmkcpnlbicijoaaGreat
