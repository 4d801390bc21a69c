/- sender: acknowledgements: by mksnd.py. -/
import Derived.Test.YtmkcpnlbicijoaaGreatSndA
namespace Go.Proofs.YtmkcpnlbicijoaaGreat
open Go.RowKit
section
variable (ε w : World) (R : List Asn) (b kb lb tb sb eb pb : Nat)
set_option maxRecDepth 100000 in
set_option maxHeartbeats 12800000 in
theorem sndAck_c (s : Snd) (c : Cnf) (N M : Nat) (hr : c.right = true) (h : s.In c N M) (hN : N ≤ 900000) (hM : M ≤ 900000) (now : Int) (hn : U now) (xs : List Rg) (hU : ∀ x ∈ xs, U x.1 ∧ U x.2) (A : Option Addr) (len cap : Nat) (hA : ∀ wx, Own ε wx R → itAt encRg 2 wx A len xs) (hm : len ≤ 1000) (H : Own ε w (sAll b kb lb tb sb eb pb s R)) :
  Calls Tryz.prog 21 #[.pointer (some ⟨b, 0, none⟩), .int .u64 now, .slice A len cap] w fun e w' => e = .returned (.int .i64 (s.ack now xs).1) ∧ Own ε w' (pts b (.cells #[.int .u64 (s.ack now xs).2.c.mss, .int .u64 (s.ack now xs).2.c.init, .int .u64 (s.ack now xs).2.c.reorder, .int .u64 (s.ack now xs).2.c.window, .int .u64 (s.ack now xs).2.c.probe, .int .u64 (s.ack now xs).2.c.loss, .pointer (some ⟨kb, 0, none⟩), .pointer (some ⟨lb, 0, none⟩), .pointer (some ⟨tb, 0, none⟩), .pointer (some ⟨sb, 0, none⟩), .pointer (some ⟨eb, 0, none⟩), .pointer (some ⟨pb, 0, none⟩), .int .u64 (s.ack now xs).2.wait] 69 (0, 0)) :: clk kb ((s.ack now xs).2.k) :: led lb ((s.ack now xs).2.l) :: rtt tb ((s.ack now xs).2.t) :: smp sb ((s.ack now xs).2.s) :: eng eb ((s.ack now xs).2.e) :: pac pb ((s.ack now xs).2.p) :: R) := by
 have HH := Lib.hid H; clear H
 replace hA := Lib.hid hA
 replace hU := Lib.hid hU
 obtain ⟨⟨e0, s9⟩, hq⟩ : ∃ q, q = s.ack now xs := ⟨_, rfl⟩
 rw [← hq]
 simp only
 unfold Snd.ack at hq
 cases hpa : s.k.past with
 | true =>
  rw [hpa, if_pos rfl] at hq
  cases hq
  clear h
  go_enter Tryz.func21, Tryz.ntmps21
  (try clear cc1_); (try clear cc2_); (try clear cc3_)
  have cc1_ := HH.out.cells
  go_wp2_with fail
  refine (clkPast_c ε _ _ kb s.k (HH.out.pn : Own ε _ (clk kb s.k :: pts b (sOb kb lb tb sb eb pb s) :: led lb s.l :: rtt tb s.t :: smp sb s.s :: eng eb s.e :: pac pb s.p :: R))).mono ?_
  rw [hpa]
  rintro e w1_ ⟨rfl, hbel⟩
  replace HH := Lib.hid ((by first | exact .same hbel | exact .drew hbel | exact .below hbel : Kp _ w1_) _ _ (by first | exact HH.out | exact HH.out.drewN _ | exact (HH.out.alloc _).tail | exact ((HH.out.alloc _).drewN _).tail | exact ((HH.out.alloc _).alloc _).tail.tail))
  clear hbel
  go_wp2_with fail
  go_ret
  exact ⟨rfl, HH.out⟩
 | false =>
  rw [hpa, if_neg (by decide)] at hq
  by_cases hlt : now < s.k.t
  ·rw [if_pos hlt] at hq
   cases hq
   clear h
   go_enter Tryz.func21, Tryz.ntmps21
   (try clear cc1_); (try clear cc2_); (try clear cc3_)
   have cc1_ := HH.out.cells
   go_wp2_with fail
   refine (clkPast_c ε _ _ kb s.k (HH.out.pn : Own ε _ (clk kb s.k :: pts b (sOb kb lb tb sb eb pb s) :: led lb s.l :: rtt tb s.t :: smp sb s.s :: eng eb s.e :: pac pb s.p :: R))).mono ?_
   rw [hpa]
   rintro e w2_ ⟨rfl, hbel⟩
   replace HH := Lib.hid ((by first | exact .same hbel | exact .drew hbel | exact .below hbel : Kp _ w2_) _ _ (by first | exact HH.out | exact HH.out.drewN _ | exact (HH.out.alloc _).tail | exact ((HH.out.alloc _).drewN _).tail | exact ((HH.out.alloc _).alloc _).tail.tail))
   clear hbel
   (try clear cc1_); (try clear cc2_); (try clear cc3_)
   have cc1_ := HH.out.cells
   go_wp2_with fail
   refine (clkTime_c ε _ _ kb s.k (HH.out.pn : Own ε _ (clk kb s.k :: pts b (sOb kb lb tb sb eb pb s) :: led lb s.l :: rtt tb s.t :: smp sb s.s :: eng eb s.e :: pac pb s.p :: R))).mono ?_
   rintro e w3_ ⟨rfl, hbel⟩
   replace HH := Lib.hid ((by first | exact .same hbel | exact .drew hbel | exact .below hbel : Kp _ w3_) _ _ (by first | exact HH.out | exact HH.out.drewN _ | exact (HH.out.alloc _).tail | exact ((HH.out.alloc _).drewN _).tail | exact ((HH.out.alloc _).alloc _).tail.tail))
   clear hbel
   go_wp2_with fail
   go_ret
   exact ⟨rfl, HH.out⟩
  ·rw [if_neg hlt] at hq
   cases hb : xs.any badR with
   | true =>
    rw [hb, if_pos rfl] at hq
    cases hq
    clear h
    replace hb := Lib.hid hb
    go_enter Tryz.func21, Tryz.ntmps21
    (try clear cc1_); (try clear cc2_); (try clear cc3_)
    have cc1_ := HH.out.cells
    go_wp2_with fail
    refine (clkPast_c ε _ _ kb s.k (HH.out.pn : Own ε _ (clk kb s.k :: pts b (sOb kb lb tb sb eb pb s) :: led lb s.l :: rtt tb s.t :: smp sb s.s :: eng eb s.e :: pac pb s.p :: R))).mono ?_
    rw [hpa]
    rintro e w4_ ⟨rfl, hbel⟩
    replace HH := Lib.hid ((by first | exact .same hbel | exact .drew hbel | exact .below hbel : Kp _ w4_) _ _ (by first | exact HH.out | exact HH.out.drewN _ | exact (HH.out.alloc _).tail | exact ((HH.out.alloc _).drewN _).tail | exact ((HH.out.alloc _).alloc _).tail.tail))
    clear hbel
    (try clear cc1_); (try clear cc2_); (try clear cc3_)
    have cc1_ := HH.out.cells
    go_wp2_with fail
    refine (clkTime_c ε _ _ kb s.k (HH.out.pn : Own ε _ (clk kb s.k :: pts b (sOb kb lb tb sb eb pb s) :: led lb s.l :: rtt tb s.t :: smp sb s.s :: eng eb s.e :: pac pb s.p :: R))).mono ?_
    rintro e w5_ ⟨rfl, hbel⟩
    replace HH := Lib.hid ((by first | exact .same hbel | exact .drew hbel | exact .below hbel : Kp _ w5_) _ _ (by first | exact HH.out | exact HH.out.drewN _ | exact (HH.out.alloc _).tail | exact ((HH.out.alloc _).drewN _).tail | exact ((HH.out.alloc _).alloc _).tail.tail))
    clear hbel
    go_wp2_with fail
    refine (seqNew_c ε _ _ HH.out).mono ?_
    rintro e w6_ ⟨qb, rfl, H9_⟩
    replace HH := Lib.hid H9_
    clear H9_
    go_wp2_with fail
    refine (seqPut_bad ε _ _ qb [] xs (fun x hx => (hU.out x hx).2) A len cap (fun wx Hx => hA.out wx (Hx.pn : Own ε wx R)) (by omega) hb.out HH.out).mono ?_
    rintro e w7_ ⟨rfl, H9_⟩
    replace HH := Lib.hid H9_
    clear H9_
    go_wp2_with fail
    go_ret
    exact ⟨rfl, HH.out.tail⟩
   | false =>
    rw [hb, if_neg (by decide)] at hq
    have hb' := Lib.hid hb
    clear hb
    obtain ⟨s1, hs1⟩ : ∃ s1, s1 = s.clock now := ⟨_, rfl⟩
    have hk1 : (s.k.to now).2 = s1.k := by rw [hs1]; rfl
    have hs1v : s1 = { s with k := s1.k } := by rw [hs1]; rfl
    replace hk1 := Lib.hid hk1
    replace hs1v := Lib.hid hs1v
    by_cases h0 : (s.k.to now).1 = 0
    ·rw [if_neg (by rw [h0]; decide)] at hq
     obtain ⟨⟨tk, ec, l2⟩, hla⟩ : ∃ y, y = s.l.ack xs := ⟨_, rfl⟩
     have hec := (ack_good s.l hb'.out).2.1
     have hac := h.acked (now := now) hb'.out
     rw [← hs1, ← hla] at hq
     rw [← hs1, ← hla] at hac
     rw [← hla] at hec
     obtain rfl : ec = 0 := hec
     simp only at hq hac
     obtain ⟨h2, _, htk, _, hbt, hbU⟩ := hac
     obtain ⟨rfl, rfl⟩ := Prod.mk.inj hq
     have hrow9 : s.l.row.length ≤ 1000000 := by have := h.few; omega
     have hrw := h.row
     have htl : tk.length ≤ 1000000 := by
      have h3 := (ack_good s.l hb'.out).1
      rw [← hla] at h3
      have h4 := taken_len (ackB (putsL [] xs)) s.l.row
      simp only at h3
      rw [← h3] at h4
      omega
     have hss := h.s
     have h0' := Lib.hid h0
     replace hrow9 := Lib.hid hrow9
     replace hrw := Lib.hid hrw
     replace htl := Lib.hid htl
     replace hss := Lib.hid hss
     replace hla := Lib.hid hla
     replace htk := Lib.hid htk
     replace h2 := Lib.hid h2
     replace hbU := Lib.hid hbU
     replace hs1 := Lib.hid hs1
     replace hr := Lib.hid hr
     clear h hq hbt h0
     cases tk with
     | nil =>
      go_enter Tryz.func21, Tryz.ntmps21
      (try clear cc1_); (try clear cc2_); (try clear cc3_)
      have cc1_ := HH.out.cells
      go_wp2_with fail
      refine (clkPast_c ε _ _ kb s.k (HH.out.pn : Own ε _ (clk kb s.k :: pts b (sOb kb lb tb sb eb pb s) :: led lb s.l :: rtt tb s.t :: smp sb s.s :: eng eb s.e :: pac pb s.p :: R))).mono ?_
      rw [hpa]
      rintro e w8_ ⟨rfl, hbel⟩
      replace HH := Lib.hid ((by first | exact .same hbel | exact .drew hbel | exact .below hbel : Kp _ w8_) _ _ (by first | exact HH.out | exact HH.out.drewN _ | exact (HH.out.alloc _).tail | exact ((HH.out.alloc _).drewN _).tail | exact ((HH.out.alloc _).alloc _).tail.tail))
      clear hbel
      (try clear cc1_); (try clear cc2_); (try clear cc3_)
      have cc1_ := HH.out.cells
      go_wp2_with fail
      refine (clkTime_c ε _ _ kb s.k (HH.out.pn : Own ε _ (clk kb s.k :: pts b (sOb kb lb tb sb eb pb s) :: led lb s.l :: rtt tb s.t :: smp sb s.s :: eng eb s.e :: pac pb s.p :: R))).mono ?_
      rintro e w9_ ⟨rfl, hbel⟩
      replace HH := Lib.hid ((by first | exact .same hbel | exact .drew hbel | exact .below hbel : Kp _ w9_) _ _ (by first | exact HH.out | exact HH.out.drewN _ | exact (HH.out.alloc _).tail | exact ((HH.out.alloc _).drewN _).tail | exact ((HH.out.alloc _).alloc _).tail.tail))
      clear hbel
      go_wp2_with fail
      refine (seqNew_c ε _ _ HH.out).mono ?_
      rintro e w10_ ⟨qb, rfl, H9_⟩
      replace HH := Lib.hid H9_
      clear H9_
      go_wp2_with fail
      refine (seqPut_c ε _ _ qb [] xs 0 (sqIn_nil 0) hU.out A len cap (fun _ wx Hx => hA.out wx (Hx.pn : Own ε wx R)) (by omega) hb'.out HH.out).mono ?_
      rintro e w11_ ⟨rfl, H9_⟩
      replace HH := Lib.hid H9_
      clear H9_
      replace HH := Lib.hid HH.out.tail
      (try clear cc1_); (try clear cc2_); (try clear cc3_)
      have cc1_ := HH.out.cells
      go_wp2_with fail
      refine (clkTo_c ε _ _ kb s.k now (HH.out.pn : Own ε _ (clk kb s.k :: pts b (sOb kb lb tb sb eb pb s) :: led lb s.l :: rtt tb s.t :: smp sb s.s :: eng eb s.e :: pac pb s.p :: R))).mono ?_
      rw [h0'.out]
      rintro e w12_ ⟨rfl, H9_⟩
      replace HH := Lib.hid H9_
      clear H9_
      rw [hk1.out] at HH
      replace HH := Lib.hid (HH.out.pn : Own ε _ (led lb s.l :: pts b (sOb kb lb tb sb eb pb s) :: clk kb s1.k :: rtt tb s.t :: smp sb s.s :: eng eb s.e :: pac pb s.p :: R))
      (try clear cc1_); (try clear cc2_); (try clear cc3_)
      have cc2_ := HH.out.r2.cells
      go_wp2_with fail
      refine (ledAck_c ε _ _ lb s.l hrow9.out hrw.out xs hU.out A len cap (fun wx Hx => hA.out wx (Hx.pn : Own ε wx R)) (by omega) HH.out).mono ?_
      rw [← hla.out]
      rintro e w13_ ⟨v, rfl, H9_⟩
      replace HH := Lib.hid H9_
      clear H9_
      replace HH := Lib.hid (show Own ε _ (slcP v [] :: led lb l2 :: _) from HH.out)
      obtain ⟨A1, n1, c1, rfl, _, _, hpk⟩ := HH.out.slcP_val
      obtain rfl : n1 = 0 := hpk.1.symm
      clear hpk
      replace HH := Lib.hid (HH.out.pn : Own ε _ (smp sb s.s :: pts b (sOb kb lb tb sb eb pb s) :: led lb l2 :: clk kb s1.k :: rtt tb s.t :: eng eb s.e :: pac pb s.p :: R))
      (try clear cc1_); (try clear cc2_); (try clear cc3_)
      have cc2_ := HH.out.r2.cells
      go_wp2_with fail
      refine (rateAck_none ε _ _ sb s.s now A1 c1 HH.out).mono ?_
      rintro e w14_ ⟨rfl, H9_⟩
      replace HH := Lib.hid H9_
      clear H9_
      go_wp2_with (with_reducible refine stop_al ?_)
      refine Stop.go ?_
      refine wpList_alloc_own HH.out [.int .u64 0, .int .u64 0, .int .u64 0, .int .u64 0, .bool false] (by kernel_rfl) ?_
      intro xb w15_ H9_
      replace HH := Lib.hid H9_
      clear H9_
      go_wp2_with (with_reducible refine stop_st ?_)
      refine Stop.go ?_
      refine wpList_store_own _ #[_, _, _, _, _] rfl rfl HH.out (by kernel_rfl) rfl (by repeat (first | (refine List.forall_mem_cons.2 ⟨(by first | with_reducible assumption | rfl), ?_⟩) | exact fun _ h => absurd h List.not_mem_nil)) ?_
      intro w16_ H9_
      replace HH := Lib.hid H9_
      clear H9_
      go_wp2_with fail
      go_ret
      have HZ := (HH.out.pn : Own ε _ (pts b (sOb kb lb tb sb eb pb s) :: clk kb (s1.k) :: led lb (l2) :: rtt tb (s.t) :: smp sb (s.s) :: eng eb (s.e) :: pac pb (s.p) :: R))
      refine ⟨rfl, ?_⟩
      rw [hs1v.out]
      exact HZ
     | cons p0 tk =>
      have h0p := htk.out p0 (List.mem_cons_self ..)
      obtain ⟨n1U, n2U⟩ := newestL_ok h0p htk.out
      obtain ⟨h3, _⟩ := h2.out.heard hn h0p htk.out
      obtain ⟨_, _, _, g4, _⟩ := h3.goneOk
      obtain ⟨h4, _⟩ := h3.lose
      have hsd : (s1.withL l2).s = s.s := by rw [hs1.out]; rfl
      have hst : (s1.withL l2).t = s.t := by rw [hs1.out]; rfl
      obtain ⟨nw, hnw⟩ : ∃ nw, nw = newestL p0 (p0 :: tk) := ⟨_, rfl⟩
      obtain ⟨⟨xd, xiv, xr, xrtt, xl⟩, hsp⟩ : ∃ sp, sp = Spl.of (sadd s.s.d nw.2) now nw.1 := ⟨_, rfl⟩
      obtain ⟨S2, hS2⟩ : ∃ S2, S2 = s.s.ack now nw.1 nw.2 := ⟨_, rfl⟩
      have hxr : ssub now nw.1.sent = xrtt := (congrArg Spl.rtt hsp).symm
      have hUr : U xrtt := by
       have := (spl_ok (U_sadd hss.out.d n2U) hn n1U).2.2.2
       rw [← hnw, ← hsp] at this
       exact this
      have hack : ∀ (W : World) (X : List Asn) (A1 : Option Addr) (n1 c1 : Nat), (p0 :: tk).length = n1 → (∀ wx, Own ε wx X → pkAt wx A1 n1 (p0 :: tk)) → Own ε W (smp sb s.s :: X) →
        Calls Tryz.prog 50 #[.pointer (some ⟨sb, 0, none⟩), .int .u64 now, .slice A1 n1 c1] W fun e w' => e = .returned (.tuple #[.agg #[.int .u64 xd, .int .u64 xiv, .int .u64 xr, .int .u64 xrtt, .bool xl], .bool true]) ∧ Own ε w' (smp sb S2 :: X) := by
       intro W X A1 n1 c1 hl1 hp HX
       refine (rateAck_c ε W X sb s.s hss.out now hn A1 n1 c1 (p0 :: tk) htk.out hp (by rw [← hl1]; simp) (by have := htl.out; omega) HX).mono ?_
       rintro e w' ⟨q, hq, rfl, HO⟩
       have hq : some p0 = some q := hq
       cases hq
       rw [← hnw, ← hsp]
       rw [← hnw, ← hS2] at HO
       exact ⟨rfl, HO⟩
      obtain ⟨s3, hs3⟩ : ∃ s3, s3 = (s1.withL l2).heard now p0 (p0 :: tk) := ⟨_, rfl⟩
      have hs3v : s3 = { s with k := s1.k, l := l2, s := S2, t := s.t.put xrtt } := by
       rw [hs3]
       unfold Snd.heard
       rw [hsd, hst, ← hnw, hxr, ← hS2, hs1.out]
       rfl
      rw [← hs3] at h3 h4 g4
      obtain ⟨s4, hs4⟩ : ∃ s4, s4 = s3.lose := ⟨_, rfl⟩
      rw [← hs4] at h4
      obtain ⟨bg, hbg⟩ : ∃ bg, bg = bytesP s3.gone := ⟨_, rfl⟩
      have hx0 := evA_ok h4 hn (d := sadd s.s.d nw.2) (lost := bg) (U_sadd hss.out.d (by rw [hnw]; exact n2U)) (by rw [hbg]; exact g4) h0p htk.out hbU.out
      obtain ⟨x, hx⟩ : ∃ x, x = s4.evA now p0 (p0 :: tk) (sadd s.s.d nw.2) bg := ⟨_, rfl⟩
      rw [← hx] at hx0
      obtain ⟨by', hby⟩ : ∃ y, y = bytesP (p0 :: tk) := ⟨_, rfl⟩
      have hxv : x = ⟨now, xd, xiv, xr, xrtt, xl, true, s4.s.d, by', bg, s4.infl⟩ := by
       rw [hx, hby]
       unfold Snd.evA
       rw [← hnw, ← hsp]
      have hs9 : (s1.withL l2).gain now (p0 :: tk) = { s4 with e := s4.e.on x } := by
       rw [hx, hs4, hbg, hs3, hnw, ← hsd]
       rfl
      have hEl : s4.e.f.l.length ≤ 999999 := Nat.le_trans h4.e.2.2 (by omega)
      have hrow4 : s4.l.row.length ≤ 1000000 := by have := h4.few; omega
      have hrw4 := h4.row
      have h4e := h4.e.1
      have hfl : bytesP (outs s4.l.row) = s4.infl := rfl
      have hOn : ∀ (W : World) (X : List Asn), Own ε W (eng eb s4.e :: X) → Calls Tryz.prog 38 #[.pointer (some ⟨eb, 0, none⟩), .agg #[.int .u64 now, .int .u64 xd, .int .u64 xiv, .int .u64 xr, .int .u64 xrtt, .bool xl, .bool true, .int .u64 s4.s.d, .int .u64 by', .int .u64 bg, .int .u64 s4.infl]] W fun e w' => e = .returned (.tuple #[]) ∧ Own ε w' (eng eb (s4.e.on x) :: X) := by
       intro W X HX
       have q := engOnA_c ε W X eb s4.e h4e x hx0 hEl HX
       have hv : x.v = .agg #[.int .u64 now, .int .u64 xd, .int .u64 xiv, .int .u64 xr, .int .u64 xrtt, .bool xl, .bool true, .int .u64 s4.s.d, .int .u64 by', .int .u64 bg, .int .u64 s4.infl] := by rw [hxv]; rfl
       rw [hv] at q
       exact q
      replace hOn := Lib.hid hOn
      have ht2 := h2.out.t
      rw [hst] at ht2
      replace hack := Lib.hid hack
      replace hs3v := Lib.hid hs3v
      replace hs4 := Lib.hid hs4
      replace hbg := Lib.hid hbg
      replace hx0 := Lib.hid hx0
      replace hxv := Lib.hid hxv
      replace hby := Lib.hid hby
      replace hs9 := Lib.hid hs9
      replace hEl := Lib.hid hEl
      replace hrow4 := Lib.hid hrow4
      replace hrw4 := Lib.hid hrw4
      replace h4e := Lib.hid h4e
      replace hfl := Lib.hid hfl
      replace ht2 := Lib.hid ht2
      replace hUr := Lib.hid hUr
      replace h3 := Lib.hid h3
      clear h4 g4 n1U n2U hsd hst hnw hsp hS2 hxr hs3 hx h0p
      go_enter Tryz.func21, Tryz.ntmps21
      (try clear cc1_); (try clear cc2_); (try clear cc3_)
      have cc1_ := HH.out.cells
      go_wp2_with fail
      refine (clkPast_c ε _ _ kb s.k (HH.out.pn : Own ε _ (clk kb s.k :: pts b (sOb kb lb tb sb eb pb s) :: led lb s.l :: rtt tb s.t :: smp sb s.s :: eng eb s.e :: pac pb s.p :: R))).mono ?_
      rw [hpa]
      rintro e w17_ ⟨rfl, hbel⟩
      replace HH := Lib.hid ((by first | exact .same hbel | exact .drew hbel | exact .below hbel : Kp _ w17_) _ _ (by first | exact HH.out | exact HH.out.drewN _ | exact (HH.out.alloc _).tail | exact ((HH.out.alloc _).drewN _).tail | exact ((HH.out.alloc _).alloc _).tail.tail))
      clear hbel
      (try clear cc1_); (try clear cc2_); (try clear cc3_)
      have cc1_ := HH.out.cells
      go_wp2_with fail
      refine (clkTime_c ε _ _ kb s.k (HH.out.pn : Own ε _ (clk kb s.k :: pts b (sOb kb lb tb sb eb pb s) :: led lb s.l :: rtt tb s.t :: smp sb s.s :: eng eb s.e :: pac pb s.p :: R))).mono ?_
      rintro e w18_ ⟨rfl, hbel⟩
      replace HH := Lib.hid ((by first | exact .same hbel | exact .drew hbel | exact .below hbel : Kp _ w18_) _ _ (by first | exact HH.out | exact HH.out.drewN _ | exact (HH.out.alloc _).tail | exact ((HH.out.alloc _).drewN _).tail | exact ((HH.out.alloc _).alloc _).tail.tail))
      clear hbel
      go_wp2_with fail
      refine (seqNew_c ε _ _ HH.out).mono ?_
      rintro e w19_ ⟨qb, rfl, H9_⟩
      replace HH := Lib.hid H9_
      clear H9_
      go_wp2_with fail
      refine (seqPut_c ε _ _ qb [] xs 0 (sqIn_nil 0) hU.out A len cap (fun _ wx Hx => hA.out wx (Hx.pn : Own ε wx R)) (by omega) hb'.out HH.out).mono ?_
      rintro e w20_ ⟨rfl, H9_⟩
      replace HH := Lib.hid H9_
      clear H9_
      replace HH := Lib.hid HH.out.tail
      (try clear cc1_); (try clear cc2_); (try clear cc3_)
      have cc1_ := HH.out.cells
      go_wp2_with fail
      refine (clkTo_c ε _ _ kb s.k now (HH.out.pn : Own ε _ (clk kb s.k :: pts b (sOb kb lb tb sb eb pb s) :: led lb s.l :: rtt tb s.t :: smp sb s.s :: eng eb s.e :: pac pb s.p :: R))).mono ?_
      rw [h0'.out]
      rintro e w21_ ⟨rfl, H9_⟩
      replace HH := Lib.hid H9_
      clear H9_
      rw [hk1.out] at HH
      replace HH := Lib.hid (HH.out.pn : Own ε _ (led lb s.l :: pts b (sOb kb lb tb sb eb pb s) :: clk kb s1.k :: rtt tb s.t :: smp sb s.s :: eng eb s.e :: pac pb s.p :: R))
      (try clear cc1_); (try clear cc2_); (try clear cc3_)
      have cc2_ := HH.out.r2.cells
      go_wp2_with fail
      refine (ledAck_c ε _ _ lb s.l hrow9.out hrw.out xs hU.out A len cap (fun wx Hx => hA.out wx (Hx.pn : Own ε wx R)) (by omega) HH.out).mono ?_
      rw [← hla.out]
      rintro e w22_ ⟨v, rfl, H9_⟩
      replace HH := Lib.hid H9_
      clear H9_
      replace HH := Lib.hid (show Own ε _ (slcP v (p0 :: tk) :: led lb l2 :: _) from HH.out)
      obtain ⟨A1, n1, c1, rfl, _, _, hpk⟩ := HH.out.slcP_val
      have hn1 : (p0 :: tk).length = n1 := hpk.1
      clear hpk
      replace hn1 := Lib.hid hn1
      replace HH := Lib.hid (HH.out.pn : Own ε _ (smp sb s.s :: slcP (.slice A1 n1 c1) (p0 :: tk) :: pts b (sOb kb lb tb sb eb pb s) :: led lb l2 :: clk kb s1.k :: rtt tb s.t :: eng eb s.e :: pac pb s.p :: R))
      (try clear cc1_); (try clear cc2_); (try clear cc3_)
      have cc3_ := HH.out.r3.cells
      go_wp2_with fail
      refine (hack.out _ _ A1 n1 c1 hn1.out (fun wx Hx => pk_at Hx) HH.out).mono ?_
      rintro e w23_ ⟨rfl, H9_⟩
      replace HH := Lib.hid H9_
      clear H9_
      go_wp2_with (with_reducible refine stop_al ?_)
      refine Stop.go ?_
      refine wpList_alloc_own HH.out [.int .u64 0, .int .u64 0, .int .u64 0, .int .u64 0, .bool false] (by kernel_rfl) ?_
      intro xb w24_ H9_
      replace HH := Lib.hid H9_
      clear H9_
      go_wp2_with (with_reducible refine stop_st ?_)
      refine Stop.go ?_
      refine wpList_store_own _ #[_, _, _, _, _] rfl rfl HH.out (by kernel_rfl) rfl (by repeat (first | (refine List.forall_mem_cons.2 ⟨(by first | with_reducible assumption | rfl), ?_⟩) | exact fun _ h => absurd h List.not_mem_nil)) ?_
      intro w25_ H9_
      replace HH := Lib.hid H9_
      clear H9_
      replace HH := Lib.hid (show Own ε _ (pts xb (.cells #[.int .u64 xd, .int .u64 xiv, .int .u64 xr, .int .u64 xrtt, .bool xl] 85 (0, 0)) :: smp sb S2 :: slcP (.slice A1 n1 c1) (p0 :: tk) :: pts b (sOb kb lb tb sb eb pb s) :: led lb l2 :: clk kb s1.k :: rtt tb s.t :: eng eb s.e :: pac pb s.p :: R) from HH.out)
      replace HH := Lib.hid (HH.out.pn : Own ε _ (pts xb (.cells #[.int .u64 xd, .int .u64 xiv, .int .u64 xr, .int .u64 xrtt, .bool xl] 85 (0, 0)) :: pts b (sOb kb lb tb sb eb pb s) :: rtt tb s.t :: smp sb S2 :: slcP (.slice A1 n1 c1) (p0 :: tk) :: led lb l2 :: clk kb s1.k :: eng eb s.e :: pac pb s.p :: R))
      (try clear cc1_); (try clear cc2_); (try clear cc3_)
      have cc1_ := HH.out.cells
      have cc2_ := HH.out.r2.cells
      go_wp2_with fail
      refine wp_region_reg (some 6) HH.out (by kernel_rfl) ?_
      intro wm H9_
      replace HH := Lib.hid H9_
      clear H9_
      refine reg_s 0 HH.out ?_
      refine reg_s 1 HH.out ?_
      refine reg_s 2 HH.out ?_
      refine mixk_s 3 HH.out (fun _ hx => And.intro hx.cells hx.r2.cells) ?_
      refine reg_s 4 HH.out ?_
      refine mixk_s 5 HH.out (fun _ hx => And.intro hx.cells hx.r2.cells) ?_
      refine reg_l none (i := 6) rfl (by kernel_rfl) (fun wn hk K hK => ?_)
      replace HH := Lib.hid (hk _ _ HH.out)
      clear hk
      go_simp
      refine (rttPut_c ε wn _ tb s.t ht2.out xrtt hUr.out HH.out.r3).mono ?_
      rintro e wm ⟨rfl, H9_⟩
      replace HH := Lib.hid H9_
      clear H9_
      refine hK _ _ _ HH.out (.inl (by kernel_rfl)) ?_
      clear hK K
      refine mixk_done (by kernel_rfl) (fun w26_ hk => ?_) _
      replace HH := Lib.hid (hk _ _ HH.out)
      clear hk
      replace HH := Lib.hid (Own.as (L' := sAll b kb lb tb sb eb pb s3 (pts xb (.cells #[.int .u64 xd, .int .u64 xiv, .int .u64 xr, .int .u64 xrtt, .bool xl] 85 (0, 0)) :: slcP (.slice A1 n1 c1) (p0 :: tk) :: R)) (HH.out.pn : Own ε _ (pts b (sOb kb lb tb sb eb pb s) :: clk kb (s1.k) :: led lb (l2) :: rtt tb ((s.t.put xrtt)) :: smp sb (S2) :: eng eb (s.e) :: pac pb (s.p) :: pts xb (.cells #[.int .u64 xd, .int .u64 xiv, .int .u64 xr, .int .u64 xrtt, .bool xl] 85 (0, 0)) :: slcP (.slice A1 n1 c1) (p0 :: tk) :: R)) (by rw [hs3v.out]))
      go_wp2_with fail
      refine (sndLosses_c ε _ _ b kb lb tb sb eb pb s3 c N M h3.out (by omega) HH.out).mono ?_
      rw [← hbg.out]
      rintro e w27_ ⟨rfl, H9_⟩
      replace HH := Lib.hid H9_
      clear H9_
      rw [← hs4.out] at HH
      replace HH := Lib.hid ((Own.pm ((show Own ε _ (sAll b kb lb tb sb eb pb s4 (pts xb (.cells #[.int .u64 xd, .int .u64 xiv, .int .u64 xr, .int .u64 xrtt, .bool xl] 85 (0, 0)) :: slcP (.slice A1 n1 c1) (p0 :: tk) :: R)) from HH.out)) (by with_reducible repeat (first | exact .refl _ | exact .nil _ | refine .here ?_ | refine .at2 ?_ | refine .at3 ?_ | refine .at4 ?_ | refine .at5 ?_ | refine .at6 ?_ | refine .at7 ?_ | refine .at8 ?_ | refine .skip ?_))) : Own ε _ (pts b (sOb kb lb tb sb eb pb s4) :: clk kb s4.k :: pts xb (.cells #[.int .u64 xd, .int .u64 xiv, .int .u64 xr, .int .u64 xrtt, .bool xl] 85 (0, 0)) :: led lb s4.l :: rtt tb s4.t :: smp sb s4.s :: eng eb s4.e :: slcP (.slice A1 n1 c1) (p0 :: tk) :: pac pb s4.p :: R))
      (try clear cc1_); (try clear cc2_); (try clear cc3_)
      have cc1_ := HH.out.cells
      have cc3_ := HH.out.r3.cells
      go_wp2_with fail
      refine wp_region_reg (some 20) HH.out (by kernel_rfl) ?_
      intro wm H9_
      replace HH := Lib.hid H9_
      clear H9_
      refine reg_s 0 HH.out ?_
      refine reg_s 1 HH.out ?_
      refine reg_s 2 HH.out ?_
      refine mixk_s 3 HH.out (fun _ hx => And.intro hx.cells hx.r3.cells) ?_
      refine reg_s 4 HH.out ?_
      refine mixk_s 5 HH.out (fun _ hx => And.intro hx.cells hx.r3.cells) ?_
      refine reg_s 6 HH.out ?_
      refine reg_s 7 HH.out ?_
      refine reg_s 8 HH.out ?_
      refine mixk_s 9 HH.out (fun _ hx => And.intro hx.cells hx.r3.cells) ?_
      refine mixk_q (i := 10) rfl (by kernel_rfl) (fun _ _ _ _ h => h) HH.out (fun K hK => ?_)
      go_simp
      (first | refine hK _ ?_ | (apply Exists.intro; refine ⟨?_, hK _ ?_⟩; focus intro wx hx; first | (first | (go_at_call 39; refine (rateDelivered_c ε wx _ sb s4.s (hx.pn : Own ε wx (smp sb s4.s :: R))).mono ?_; rintro e wy ⟨rfl, hbel⟩; exact ⟨rfl, (by first | exact .same hbel | exact .drew hbel | exact .below hbel : Kp wx wy)⟩)) | (go_simp; first | rfl | exact ⟨rfl, rfl⟩) | rfl | exact ⟨rfl, rfl⟩)); clear hK K
      refine reg_s 11 HH.out ?_
      refine reg_s 13 HH.out ?_
      refine reg_s 14 HH.out ?_
      refine reg_s 15 HH.out ?_
      refine reg_s 16 HH.out ?_
      refine mixk_s 17 HH.out (fun _ hx => And.intro hx.cells hx.r3.cells) ?_
      refine reg_l (some 20) (i := 12) rfl (by kernel_rfl) (fun wn hk K hK => ?_)
      replace HH := Lib.hid (hk _ _ HH.out)
      clear hk
      go_simp
      refine (sndBytes_c ε wn _ A1 n1 c1 (p0 :: tk) htk.out (fun wx Hx => pk_at (Hx.pn : Own ε wx (slcP (.slice A1 n1 c1) (p0 :: tk) :: R))) (by have := hn1.out; have := htl.out; omega) HH.out).mono ?_
      rw [← hby.out]
      rintro e wm ⟨rfl, H9_⟩
      replace HH := Lib.hid H9_
      clear H9_
      refine hK _ _ _ HH.out (.inr ⟨rfl, fun _ h => h.pn⟩) ?_
      clear hK K
      refine reg_l (some 20) (i := 18) rfl (by kernel_rfl) (fun wn hk K hK => ?_)
      replace HH := Lib.hid (hk _ _ HH.out)
      clear hk
      go_simp
      refine (ledInFlight_c ε wn _ lb s4.l hrow4.out hrw4.out HH.out.r4).mono ?_
      rw [hfl.out]
      rintro e wm ⟨rfl, H9_⟩
      replace HH := Lib.hid H9_
      clear H9_
      refine hK _ _ _ HH.out (.inr ⟨rfl, fun _ h => h.pn⟩) ?_
      clear hK K
      refine reg_s 19 HH.out ?_
      refine reg_l none (i := 20) rfl (by kernel_rfl) (fun wn hk K hK => ?_)
      replace HH := Lib.hid (hk _ _ HH.out)
      clear hk
      go_simp
      refine (hOn.out wn _ HH.out.r7).mono ?_
      rintro e wm ⟨rfl, H9_⟩
      replace HH := Lib.hid H9_
      clear H9_
      refine hK _ _ _ HH.out (.inl (by kernel_rfl)) ?_
      clear hK K
      refine mixk_done (by kernel_rfl) (fun w28_ hk => ?_) _
      replace HH := Lib.hid (hk _ _ HH.out)
      clear hk
      go_wp2_with fail
      go_ret
      refine ⟨rfl, ?_⟩
      rw [hs9.out]
      exact HH.out.pn
    ·rw [if_pos h0, ← hs1] at hq
     obtain ⟨rfl, rfl⟩ := Prod.mk.inj hq
     have hb2 : ((s.k.to now).1 == 0) = false := by simpa using h0
     clear h hq h0
     replace hs1 := Lib.hid hs1
     go_enter Tryz.func21, Tryz.ntmps21
     (try clear cc1_); (try clear cc2_); (try clear cc3_)
     have cc1_ := HH.out.cells
     go_wp2_with fail
     refine (clkPast_c ε _ _ kb s.k (HH.out.pn : Own ε _ (clk kb s.k :: pts b (sOb kb lb tb sb eb pb s) :: led lb s.l :: rtt tb s.t :: smp sb s.s :: eng eb s.e :: pac pb s.p :: R))).mono ?_
     rw [hpa]
     rintro e w29_ ⟨rfl, hbel⟩
     replace HH := Lib.hid ((by first | exact .same hbel | exact .drew hbel | exact .below hbel : Kp _ w29_) _ _ (by first | exact HH.out | exact HH.out.drewN _ | exact (HH.out.alloc _).tail | exact ((HH.out.alloc _).drewN _).tail | exact ((HH.out.alloc _).alloc _).tail.tail))
     clear hbel
     (try clear cc1_); (try clear cc2_); (try clear cc3_)
     have cc1_ := HH.out.cells
     go_wp2_with fail
     refine (clkTime_c ε _ _ kb s.k (HH.out.pn : Own ε _ (clk kb s.k :: pts b (sOb kb lb tb sb eb pb s) :: led lb s.l :: rtt tb s.t :: smp sb s.s :: eng eb s.e :: pac pb s.p :: R))).mono ?_
     rintro e w30_ ⟨rfl, hbel⟩
     replace HH := Lib.hid ((by first | exact .same hbel | exact .drew hbel | exact .below hbel : Kp _ w30_) _ _ (by first | exact HH.out | exact HH.out.drewN _ | exact (HH.out.alloc _).tail | exact ((HH.out.alloc _).drewN _).tail | exact ((HH.out.alloc _).alloc _).tail.tail))
     clear hbel
     go_wp2_with fail
     refine (seqNew_c ε _ _ HH.out).mono ?_
     rintro e w31_ ⟨qb, rfl, H9_⟩
     replace HH := Lib.hid H9_
     clear H9_
     go_wp2_with fail
     refine (seqPut_c ε _ _ qb [] xs 0 (sqIn_nil 0) hU.out A len cap (fun _ wx Hx => hA.out wx (Hx.pn : Own ε wx R)) (by omega) hb'.out HH.out).mono ?_
     rintro e w32_ ⟨rfl, H9_⟩
     replace HH := Lib.hid H9_
     clear H9_
     replace HH := Lib.hid HH.out.tail
     (try clear cc1_); (try clear cc2_); (try clear cc3_)
     have cc1_ := HH.out.cells
     go_wp2_with fail
     refine (clkTo_c ε _ _ kb s.k now (HH.out.pn : Own ε _ (clk kb s.k :: pts b (sOb kb lb tb sb eb pb s) :: led lb s.l :: rtt tb s.t :: smp sb s.s :: eng eb s.e :: pac pb s.p :: R))).mono ?_
     rintro e w33_ ⟨rfl, H9_⟩
     replace HH := Lib.hid H9_
     clear H9_
     rw [hk1.out] at HH
     replace HH := Lib.hid (Own.as (L' := sAll b kb lb tb sb eb pb s9 R) (HH.out.pn : Own ε _ (pts b (sOb kb lb tb sb eb pb s) :: clk kb (s9.k) :: led lb (s.l) :: rtt tb (s.t) :: smp sb (s.s) :: eng eb (s.e) :: pac pb (s.p) :: R)) (by rw [hs1v.out]))
     go_wp2_with fail
     go_ret
     exact ⟨rfl, HH.out⟩
end
end Go.Proofs.YtmkcpnlbicijoaaGreat
