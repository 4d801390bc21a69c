/- link: the document's own answer. -/
import Derived.Test.YtklohjjkpobneaaLinkR
import Derived.Test.YtklohjjkpobneaaLink3
import Derived.Test.YtklohjjkpobneaaLinkE
namespace Go.Proofs.Ytklohjjkpobneaa
open Go.RowKit
/-- goitref18's link: its bucket, queue, and box. -/
def rlk (b : Nat) (s : Lnk) : Asn := exA fun p : Value × Value => sep (pts b (.cells #[.int .u64 s.b.rate, .int .u64 s.b.now, .int .u64 s.b.tok, .int .u64 s.b.was, .int .u64 s.q.room, p.1, .int .u64 s.q.dropped, .int .u64 s.q.gone, .int .u64 s.x.delay, .int .u64 s.x.jit, p.2, .int .u64 s.x.last] 108 (0, 0))) (sep (slcP p.1 s.q.l) (slcE p.2 s.x.l))
def XL (s : Lnk) (v1 v2 : Value) (i : Nat) : Value := ([.int .u64 s.b.rate, .int .u64 s.b.now, .int .u64 s.b.tok, .int .u64 s.b.was, .int .u64 s.q.room, v1, .int .u64 s.q.dropped, .int .u64 s.q.gone, .int .u64 s.x.delay, .int .u64 s.x.jit, v2, .int .u64 s.x.last] : List Value).getD i (.bool false)
theorem pk_head {ε wx : World} {R : List Asn} {g off n cap : Nat} {p : Pk} {l : List Pk} (H : Own ε wx (slcP (.slice (some ⟨g, off, none⟩) n cap) (p :: l) :: R)) : wx.cell? ⟨g, off + 1, none⟩ = some (.int .u64 p.size) := by
  obtain ⟨_, _, _, e, _, _, h⟩ := H.slcP_val
  cases e
  obtain ⟨g', off', q, e, hq, _, h1, _⟩ := h.cells (i := 0) (by rw [← h.1]; exact Nat.zero_lt_succ _)
  cases e
  cases hq
  simpa using h1
section
variable (ε w : World) (R : List Asn) (b : Nat)
theorem Own.rlk_open {s : Lnk} (H : Own ε w (rlk b s :: R)) : ∃ v1 v2, Own ε w (pts b (.cells #[.int .u64 s.b.rate, .int .u64 s.b.now, .int .u64 s.b.tok, .int .u64 s.b.was, .int .u64 s.q.room, v1, .int .u64 s.q.dropped, .int .u64 s.q.gone, .int .u64 s.x.delay, .int .u64 s.x.jit, v2, .int .u64 s.x.last] 108 (0, 0)) :: slcP v1 s.q.l :: slcE v2 s.x.l :: R) := by
  obtain ⟨⟨v1, v2⟩, H⟩ := H.ex
  exact ⟨v1, v2, (Own.pm (H.split.r2.split) (by repeat (first | with_reducible exact Pm.refl _ | with_reducible exact Pm.nil _ | with_reducible refine Pm.here ?_ | with_reducible refine Pm.at2 ?_ | with_reducible refine Pm.at3 ?_ | with_reducible refine Pm.at4 ?_ | with_reducible refine Pm.at5 ?_ | with_reducible refine Pm.at6 ?_ | with_reducible refine Pm.at7 ?_ | with_reducible refine Pm.at8 ?_ | with_reducible refine Pm.skip ?_)))⟩
theorem Own.rlk_mk {s : Lnk} {v1 v2 : Value} (H : Own ε w (pts b (.cells #[.int .u64 s.b.rate, .int .u64 s.b.now, .int .u64 s.b.tok, .int .u64 s.b.was, .int .u64 s.q.room, v1, .int .u64 s.q.dropped, .int .u64 s.q.gone, .int .u64 s.x.delay, .int .u64 s.x.jit, v2, .int .u64 s.x.last] 108 (0, 0)) :: slcP v1 s.q.l :: slcE v2 s.x.l :: R)) : Own ε w (rlk b s :: R) := by
  refine Own.ex_mk (v1, v2) ?_
  have H1 := ((Own.pm (H) (by repeat (first | with_reducible exact Pm.refl _ | with_reducible exact Pm.nil _ | with_reducible refine Pm.here ?_ | with_reducible refine Pm.at2 ?_ | with_reducible refine Pm.at3 ?_ | with_reducible refine Pm.at4 ?_ | with_reducible refine Pm.at5 ?_ | with_reducible refine Pm.at6 ?_ | with_reducible refine Pm.at7 ?_ | with_reducible refine Pm.at8 ?_ | with_reducible refine Pm.skip ?_))) : Own ε w (slcP v1 s.q.l :: slcE v2 s.x.l :: pts b _ :: R)).join
  exact H1.r2.join
theorem rlkTo_c (s : Lnk) (t : Int) (hs : s.Ok) (ht : U t) (H : Own ε w (rlk b s :: R)) :
    Calls Try.prog 170 #[.pointer (some ⟨b, 0, none⟩), .int .u64 t] w fun e w' => e = .returned (.tuple #[]) ∧ Own ε w' (rlk b { s with b := s.b.to t } :: R) := by
  obtain ⟨v1, v2, H⟩ := H.rlk_open
  refine (rbktLTo_c (XL s v1 v2) ε w _ b s.b t hs.b ht H).mono ?_
  rintro e w' ⟨rfl, H⟩
  exact ⟨rfl, Own.rlk_mk ε w' R b (s := { s with b := s.b.to t }) (v1 := v1) (v2 := v2) H⟩
theorem rlkTake_c (s : Lnk) (n : Int) (hs : s.Ok) (hn : U n) (H : Own ε w (rlk b s :: R)) :
    Calls Try.prog 171 #[.pointer (some ⟨b, 0, none⟩), .int .u64 n] w fun e w' => e = .returned (.bool (s.b.take n).1) ∧ Own ε w' (rlk b { s with b := (s.b.take n).2 } :: R) := by
  obtain ⟨v1, v2, H⟩ := H.rlk_open
  refine (rbktLTake_c (XL s v1 v2) ε w _ b s.b n hs.b hn H).mono ?_
  rintro e w' ⟨rfl, H⟩
  exact ⟨rfl, Own.rlk_mk ε w' R b (s := { s with b := (s.b.take n).2 }) (v1 := v1) (v2 := v2) H⟩
theorem rlkWaste_c (s : Lnk) (n : Int) (hs : s.Ok) (hn : U n) (H : Own ε w (rlk b s :: R)) :
    Calls Try.prog 174 #[.pointer (some ⟨b, 0, none⟩), .int .u64 n] w fun e w' => e = .returned (.int .u64 (s.b.waste n).1) ∧ Own ε w' (rlk b { s with b := (s.b.waste n).2 } :: R) := by
  obtain ⟨v1, v2, H⟩ := H.rlk_open
  refine (rbktLWaste_c (XL s v1 v2) ε w _ b s.b n hs.b hn H).mono ?_
  rintro e w' ⟨rfl, H⟩
  exact ⟨rfl, Own.rlk_mk ε w' R b (s := { s with b := (s.b.waste n).2 }) (v1 := v1) (v2 := v2) H⟩
theorem rlk_q {s : Lnk} {v1 v2 : Value} (H : Own ε w (pts b (.cells #[.int .u64 s.b.rate, .int .u64 s.b.now, .int .u64 s.b.tok, .int .u64 s.b.was, .int .u64 s.q.room, v1, .int .u64 s.q.dropped, .int .u64 s.q.gone, .int .u64 s.x.delay, .int .u64 s.x.jit, v2, .int .u64 s.x.last] 108 (0, 0)) :: slcP v1 s.q.l :: slcE v2 s.x.l :: R)) : Own ε w (rqueL (XL s v1 v2) b s.q :: slcE v2 s.x.l :: R) := Own.rqueL_mk (X := XL s v1 v2) (v := v1) H
theorem rlkBytes_c (s : Lnk) (hs : s.Ok) (H : Own ε w (rlk b s :: R)) :
    Calls Try.prog 114 #[.pointer (some ⟨b, 4, none⟩)] w fun e w' => e = .returned (.int .u64 s.q.bytes) ∧ w = w' := by
  obtain ⟨v1, v2, H⟩ := H.rlk_open
  exact rqueLBytes_c (XL s v1 v2) ε w _ b s.q hs.q (rlk_q ε w R b H)
theorem rlkPut_c (s : Lnk) (p : Pk) (hs : s.Ok) (hp : p.Ok) (hl : s.q.l.length ≤ 1000000) (H : Own ε w (rlk b s :: R)) :
    Calls Try.prog 113 #[.pointer (some ⟨b, 4, none⟩), .agg p.cells.toArray] w fun e w' => e = .returned (.bool (s.q.put p).1) ∧ Own ε w' (rlk b { s with q := (s.q.put p).2 } :: R) := by
  obtain ⟨v1, v2, H⟩ := H.rlk_open
  refine (rqueLPut_c (XL s v1 v2) ε w _ b s.q p hs.q hp hl (rlk_q ε w R b H)).mono ?_
  rintro e w' ⟨rfl, H⟩
  obtain ⟨v, H⟩ := H.rqueL_open
  exact ⟨rfl, Own.rlk_mk ε w' R b (s := { s with q := (s.q.put p).2 }) (v1 := v) (v2 := v2) H⟩
theorem rlkShift_c (s : Lnk) (hl : s.q.l.length ≤ 1000000) (H : Own ε w (rlk b s :: R)) :
    Calls Try.prog 172 #[.pointer (some ⟨b, 4, none⟩)] w fun e w' => e = .returned (.tuple #[.agg s.q.shift.1.1.cells.toArray, .bool s.q.shift.1.2]) ∧ Own ε w' (rlk b { s with q := s.q.shift.2 } :: R) := by
  obtain ⟨v1, v2, H⟩ := H.rlk_open
  refine (rqueLShift_c (XL s v1 v2) ε w _ b s.q hl (rlk_q ε w R b H)).mono ?_
  rintro e w' ⟨rfl, H⟩
  obtain ⟨v, H⟩ := H.rqueL_open
  exact ⟨rfl, Own.rlk_mk ε w' R b (s := { s with q := s.q.shift.2 }) (v1 := v) (v2 := v2) H⟩
theorem rlk_x {s : Lnk} {v1 v2 : Value} (H : Own ε w (pts b (.cells #[.int .u64 s.b.rate, .int .u64 s.b.now, .int .u64 s.b.tok, .int .u64 s.b.was, .int .u64 s.q.room, v1, .int .u64 s.q.dropped, .int .u64 s.q.gone, .int .u64 s.x.delay, .int .u64 s.x.jit, v2, .int .u64 s.x.last] 108 (0, 0)) :: slcP v1 s.q.l :: slcE v2 s.x.l :: R)) : Own ε w (rboxL (XL s v1 v2) b s.x :: slcP v1 s.q.l :: R) := by
  have H1 := ((Own.pm (H) (by repeat (first | with_reducible exact Pm.refl _ | with_reducible exact Pm.nil _ | with_reducible refine Pm.here ?_ | with_reducible refine Pm.at2 ?_ | with_reducible refine Pm.at3 ?_ | with_reducible refine Pm.at4 ?_ | with_reducible refine Pm.at5 ?_ | with_reducible refine Pm.at6 ?_ | with_reducible refine Pm.at7 ?_ | with_reducible refine Pm.at8 ?_ | with_reducible refine Pm.skip ?_))) : Own ε w (pts b _ :: slcE v2 s.x.l :: slcP v1 s.q.l :: R))
  exact Own.rboxL_mk (X := XL s v1 v2) (v := v2) H1
theorem rlkBoxPut_c (s : Lnk) (p : Pk) (now c : Int) (hs : s.Ok) (h1 : U now) (h2 : U c) (hl : s.x.l.length ≤ 1000000) (H : Own ε w (rlk b s :: R)) :
    Calls Try.prog 173 #[.pointer (some ⟨b, 8, none⟩), .agg p.cells.toArray, .int .u64 now, .int .u64 c] w fun e w' => e = .returned (.int .u64 (s.x.due now c)) ∧ Own ε w' (rlk b { s with x := s.x.put p now c } :: R) := by
  obtain ⟨v1, v2, H⟩ := H.rlk_open
  refine (rboxLPut_c (XL s v1 v2) ε w _ b s.x p now c hs.x h1 h2 hl (rlk_x ε w R b H)).mono ?_
  rintro e w' ⟨rfl, H⟩
  obtain ⟨v, H⟩ := H.rboxL_open
  have H1 := ((Own.pm (H) (by repeat (first | with_reducible exact Pm.refl _ | with_reducible exact Pm.nil _ | with_reducible refine Pm.here ?_ | with_reducible refine Pm.at2 ?_ | with_reducible refine Pm.at3 ?_ | with_reducible refine Pm.at4 ?_ | with_reducible refine Pm.at5 ?_ | with_reducible refine Pm.at6 ?_ | with_reducible refine Pm.at7 ?_ | with_reducible refine Pm.at8 ?_ | with_reducible refine Pm.skip ?_))) : Own ε w' (pts b _ :: slcP v1 s.q.l :: slcE v (s.x.put p now c).l :: R))
  exact ⟨rfl, Own.rlk_mk ε w' R b (s := { s with x := s.x.put p now c }) (v1 := v1) (v2 := v) H1⟩
theorem rlkBoxOut_c (s : Lnk) (now : Int) (hl : s.x.l.length ≤ 1000000) (H : Own ε w (rlk b s :: R)) :
    Calls Try.prog 175 #[.pointer (some ⟨b, 8, none⟩), .int .u64 now] w fun e w' => ∃ v, e = .returned v ∧ Own ε w' (slcP v (s.x.out now).1 :: rlk b { s with x := (s.x.out now).2 } :: R) := by
  obtain ⟨v1, v2, H⟩ := H.rlk_open
  refine (rboxLOut_c (XL s v1 v2) ε w _ b s.x now hl (rlk_x ε w R b H)).mono ?_
  rintro e w' ⟨v, rfl, H⟩
  obtain ⟨v', H⟩ := H.r2.rboxL_open
  have H1 := ((Own.pm (H) (by repeat (first | with_reducible exact Pm.refl _ | with_reducible exact Pm.nil _ | with_reducible refine Pm.here ?_ | with_reducible refine Pm.at2 ?_ | with_reducible refine Pm.at3 ?_ | with_reducible refine Pm.at4 ?_ | with_reducible refine Pm.at5 ?_ | with_reducible refine Pm.at6 ?_ | with_reducible refine Pm.at7 ?_ | with_reducible refine Pm.at8 ?_ | with_reducible refine Pm.skip ?_))) : Own ε w' (pts b _ :: slcP v1 s.q.l :: slcE v' (s.x.out now).2.l :: slcP v (s.x.out now).1 :: R))
  exact ⟨v, rfl, (Own.rlk_mk ε w' _ b (s := { s with x := (s.x.out now).2 }) (v1 := v1) (v2 := v') H1).r2⟩
set_option maxRecDepth 100000 in
set_option maxHeartbeats 12800000 in
theorem rlkTick_c (s : Lnk) (hs : s.Ok) (hbn : s.b.now = s.now) (t wst : Int) (ht : U t) (hw : U wst) (hlt : s.now ≤ t) (A : Option Addr) (n cap : Nat) (ch : List Int) (hch : ∀ c ∈ ch, U c) (hn2 : n ≤ 9223372036854775807) (hA : ∀ wx, Own ε wx R → nsAt wx A n ch) (hl : s.len ≤ 1000000) (H : Own ε w (rlk b s :: R)) :
    Calls Try.prog 112 #[.pointer (some ⟨b, 0, none⟩), .int .u64 t, .int .u64 wst, .slice A n cap] w fun e w' => ∃ v, e = .returned (.tuple #[v, .int .i64 0]) ∧ Own ε w' (slcP v (s.outs t wst ch) :: rlk b (s.tick t wst ch) :: R) := by
  obtain rfl : ch.length = n := (hA w H.tail).1
  obtain ⟨v1, v2, H⟩ := H.rlk_open
  have HH := Lib.hid H; clear H
  have hlt2 : ¬ t < s.b.now := by omega
  have hSm : s.mid t wst ch = ((s.begin t).serve ch).spill wst := rfl
  have htk : s.tick t wst ch = (s.mid t wst ch).out t := rfl
  have hou : s.outs t wst ch = ((s.mid t wst ch).x.out t).1 := rfl
  rw [htk, hou, hSm]
  have hsv : (s.begin t).serve ch = Lnk.serveN (s.begin t).q.l.length ch (s.begin t) := rfl
  have hokb := Lnk.ok_begin hs ht
  have hlb : (s.begin t).len = s.len := rfl
  have hnb : (s.begin t).now = t := rfl
  obtain ⟨S, hS⟩ : ∃ S, (s.begin t).serve ch = S := ⟨_, rfl⟩
  rw [hS] at hsv ⊢
  have hokS : S.Ok := by rw [← hS]; exact Lnk.ok_serveN hokb hch
  have hlS : S.len ≤ 1000000 := by rw [← hS]; unfold Lnk.serve; rw [Lnk.len_serveN]; exact hl
  obtain ⟨T, hT⟩ : ∃ T, S.spill wst = T := ⟨_, rfl⟩
  rw [hT]
  have hTx : T.x = S.x := by rw [← hT]; unfold Lnk.spill; split <;> rfl
  have hxT : T.x.l.length ≤ 1000000 := by rw [hTx]; unfold Lnk.len at hlS; omega
  clear htk hou hSm hbn hlt hS hTx
  replace hT := Lib.hid hT
  replace hxT := Lib.hid hxT
  replace hs := Lib.hid hs
  replace hsv := Lib.hid hsv
  replace hokb := Lib.hid hokb
  replace hlb := Lib.hid hlb
  replace hnb := Lib.hid hnb
  replace hokS := Lib.hid hokS
  replace hlS := Lib.hid hlS
  replace hch := Lib.hid hch
  replace hA := Lib.hid hA
  replace ht := Lib.hid ht
  replace hw := Lib.hid hw
  replace hl := Lib.hid hl
  go_enter Try.func112, Try.ntmps112
  (try clear cc1_); (try clear cc2_); (try clear cc3_); (try clear cc4_); (try clear cc5_); (try clear cc6_); (try clear cc7_)
  have cc1_ := HH.out.cells
  go_wp2_with fail
  refine (rlkTo_c ε _ _ b s t hs.out ht.out (Own.rlk_mk ε _ R b HH.out)).mono ?_
  rintro e w1_ ⟨rfl, H9_⟩
  replace HH := Lib.hid H9_
  clear H9_
  (try clear cc1_); (try clear cc2_); (try clear cc3_); (try clear cc4_); (try clear cc5_); (try clear cc6_); (try clear cc7_)
  replace HH := Lib.hid (show Own ε _ (rlk b (s.begin t) :: R) from HH.out)
  go_wp2_with fail
  go_loopg [10] (s.begin t).q.l.length (fun k v wr => ∃ (j : Nat) (s' : Lnk), v = .int .i64 j ∧ j + k ≤ 1000000 ∧ s'.q.l.length = k ∧ S = Lnk.serveN k (ch.drop j) s' ∧ s'.Ok ∧ s'.len = s.len ∧ s'.now = t ∧ Own ε wr (rlk b s' :: R))
  case atStart => exact ⟨0, s.begin t, rfl, by have := hl.out; rw [← hlb.out] at this; unfold Lnk.len at this; omega, rfl, by rw [List.drop_zero]; exact hsv.out, hokb.out, hlb.out, hnb.out, HH.out⟩
  case round =>
    clear HH
    obtain ⟨j, s', rfl, hj, hk, hres, hok, hlen, hnow, HR⟩ := hrel
    obtain ⟨v1, v2, HR⟩ := HR.rlk_open
    obtain ⟨A1, n1, c1, rfl, hnc1, hcm1, hpk⟩ := HR.r2.slcP_val
    have hn1 := hpk.1
    have HH := Lib.hid HR
    clear HR hnc1 hcm1 hokb hlb hnb hsv hs
    replace hres := Lib.hid hres
    replace hok := Lib.hid hok
    replace hlen := Lib.hid hlen
    replace hk := Lib.hid hk
    replace hnow := Lib.hid hnow
    have hxl : s'.x.l.length ≤ 1000000 := by have h1 := hl.out; have h2 := hlen.out; unfold Lnk.len at h1 h2; omega
    have hql : s'.q.l.length ≤ 1000000 := by have h1 := hl.out; have h2 := hlen.out; unfold Lnk.len at h1 h2; omega
    replace hxl := Lib.hid hxl
    replace hql := Lib.hid hql
    have hxS : S.x.l.length ≤ 1000000 := by have h1 := hlS.out; unfold Lnk.len at h1; omega
    replace hxS := Lib.hid hxS
    replace hj := Lib.hid hj
    cases hq : s'.q.l with
    | nil =>
      obtain rfl : n1 = 0 := by rw [← hn1, hq]; rfl
      have e1 : S = s' := by rw [hres.out]; exact serveN_none hq
      have eT : ({ S with b := (S.b.waste wst).2 } : Lnk) = T := by rw [← hT.out]; unfold Lnk.spill; rw [if_pos (show S.q.l = [] by rw [e1]; exact hq)]
      replace e1 := Lib.hid e1
      replace eT := Lib.hid eT
      clear hpk hn1 hq
      (try clear cc1_); (try clear cc2_); (try clear cc3_); (try clear cc4_); (try clear cc5_); (try clear cc6_); (try clear cc7_)
      have cc1_ := HH.out.cells
      go_wp2_with fail
      refine (rlkWaste_c ε _ _ b s' wst hok.out hw.out (Own.rlk_mk ε _ R b HH.out)).mono ?_
      rintro e w2_ ⟨rfl, H9_⟩
      replace HH := Lib.hid H9_
      clear H9_
      rw [← e1.out, eT.out] at HH
      (try clear cc1_); (try clear cc2_); (try clear cc3_); (try clear cc4_); (try clear cc5_); (try clear cc6_); (try clear cc7_)
      go_wp2_with fail
      refine (rlkBoxOut_c ε _ _ b T t hxT.out HH.out).mono ?_
      rintro e w3_ ⟨v, rfl, H9_⟩
      replace HH := Lib.hid H9_
      clear H9_
      go_wp2_with fail
      go_ret2
      exact ⟨_, rfl, HH.out⟩
    | cons p l =>
      obtain rfl : n1 = l.length + 1 := by rw [← hn1, hq]; rfl
      obtain ⟨g, off, q0, rfl, hq0, _⟩ := hpk.cells (i := 0) (Nat.zero_lt_succ _)
      clear hq0 hpk hn1
      have hpo : p.Ok := hok.out.q.all p (by rw [hq]; exact List.mem_cons_self ..)
      have hst := serveN_step (n := l.length) (ch := ch.drop j) (s := s') hq
      have hk1 : gk = l.length + 1 := by rw [← hk.out, hq]; rfl
      have hres2 := hres.out
      rw [hk1, hst] at hres2
      have hdc : U ((ch.drop j).headD 0) := U_headD fun c hc => hch.out c (List.mem_of_mem_drop hc)
      have hok2 := Lnk.ok_serve1 (c := (ch.drop j).headD 0) hok.out hpo hdc
      have hl2 := Lnk.len_serve1 (c := (ch.drop j).headD 0) hq
      have hql2 : (s'.serve1 p ((ch.drop j).headD 0)).q.l.length = l.length := by show (s'.q.l.drop 1).length = _; rw [hq]; rfl
      have htl : (ch.drop j).tail = ch.drop (j + 1) := by rw [List.tail_drop]
      have hsh1 : s'.q.shift = ((p, true), s'.q.shift.2) := by unfold Que.shift; rw [hq]; rfl
      have hne : ¬ s'.q.l = [] := by rw [hq]; exact List.cons_ne_nil _ _
      rw [htl] at hres2
      obtain ⟨⟨tk, b2⟩, htk⟩ : ∃ r, s'.b.take p.size = r := ⟨_, rfl⟩
      rw [htk] at hres2
      have hb2 : tk = false → b2 = s'.b := fun h => by subst h; unfold Bkt.take at htk; split at htk <;> cases htk; rfl
      have hokt : ({ s' with b := b2 } : Lnk).Ok := ⟨hok.out.rate, hok.out.delay, hok.out.jit, hok.out.buf, hok.out.now, hok.out.came, hok.out.served, hok.out.deliv, by have := Bkt.ok_take hpo.2.1 hok.out.b; rw [htk] at this; exact this, hok.out.q, hok.out.x, hok.out.ps⟩
      have hqk : ({ s' with b := b2, q := s'.q.shift.2 } : Lnk).Ok := ⟨hok.out.rate, hok.out.delay, hok.out.jit, hok.out.buf, hok.out.now, hok.out.came, hok.out.served, hok.out.deliv, hokt.b, Que.ok_shift hok.out.q, hok.out.x, hok.out.ps⟩
      have hsz := Lib.hid hpo.2.1
      have hhead : ∀ wx R', Own ε wx (slcP (.slice (some ⟨g, off, none⟩) (l.length + 1) c1) s'.q.l :: R') → wx.cell? ⟨g, off + 1, none⟩ = some (.int .u64 p.size) := fun wx R' Hx => by rw [hq] at Hx; exact pk_head Hx
      replace hhead := Lib.hid hhead
      replace hres2 := Lib.hid hres2
      replace hk1 := Lib.hid hk1
      replace hdc := Lib.hid hdc
      replace hok2 := Lib.hid hok2
      replace hl2 := Lib.hid hl2
      replace hql2 := Lib.hid hql2
      replace hsh1 := Lib.hid hsh1
      replace hne := Lib.hid hne
      replace htk := Lib.hid htk
      replace hb2 := Lib.hid hb2
      replace hokt := Lib.hid hokt
      replace hqk := Lib.hid hqk
      replace hpo := Lib.hid hpo
      clear hst htl hq
      (try clear cc1_); (try clear cc2_); (try clear cc3_); (try clear cc4_); (try clear cc5_); (try clear cc6_); (try clear cc7_)
      have cc1_ := HH.out.cells
      go_wp2_with fail
      (try clear cc1_); (try clear cc2_); (try clear cc3_); (try clear cc4_); (try clear cc5_); (try clear cc6_); (try clear cc7_)
      go_wp2_with fail
      refine wp_region_reg (some 11) HH.out (by kernel_rfl) ?_
      intro wm H9_
      replace HH := Lib.hid H9_
      clear H9_
      refine reg_p (i := 0) rfl (by kernel_rfl) (fun _ _ _ _ h => h) HH.out (fun K hK => ?_)
      go_simp
      first | (refine hK _ ?_; clear hK K) | (apply Exists.intro; refine ⟨?_, hK _ ?_⟩; (focus (intro wx; first | (go_simp; first | rfl) | rfl)); clear hK K)
      refine reg_p (i := 1) rfl (by kernel_rfl) (fun _ _ _ _ h => h) HH.out (fun K hK => ?_)
      go_simp
      first | (refine hK _ ?_; clear hK K) | (apply Exists.intro; refine ⟨?_, hK _ ?_⟩; (focus (intro wx; first | (go_simp; first | rfl) | rfl)); clear hK K)
      refine reg_p (i := 2) rfl (by kernel_rfl) (fun _ _ _ _ h => h) HH.out (fun K hK => ?_)
      go_simp
      first | (refine hK _ ?_; clear hK K) | (apply Exists.intro; refine ⟨?_, hK _ ?_⟩; (focus (intro wx; first | (go_simp; first | rfl) | rfl)); clear hK K)
      refine reg_p (i := 3) rfl (by kernel_rfl) (fun _ _ _ _ h => h) HH.out (fun K hK => ?_)
      go_simp
      first | (refine hK _ ?_; clear hK K) | (apply Exists.intro; refine ⟨?_, hK _ ?_⟩; (focus (intro wx; first | (go_simp; first | rfl) | rfl)); clear hK K)
      refine reg_p (i := 4) rfl (by kernel_rfl) (fun _ _ _ _ h => h) HH.out (fun K hK => ?_)
      go_simp
      first | (refine hK _ ?_; clear hK K) | (apply Exists.intro; refine ⟨?_, hK _ ?_⟩; (focus (intro wx; first | (go_simp; first | rfl) | rfl)); clear hK K)
      refine reg_p (i := 5) rfl (by kernel_rfl) (fun _ _ _ _ h => h) HH.out (fun K hK => ?_)
      go_simp
      first | (refine hK _ ?_; clear hK K) | (apply Exists.intro; refine ⟨?_, hK _ ?_⟩; (focus (intro wx; first | (go_simp; first | rfl) | rfl)); clear hK K)
      refine reg_p (i := 6) rfl (by kernel_rfl) (fun _ _ _ _ h => h) HH.out (fun K hK => ?_)
      go_simp
      first | (refine hK _ ?_; clear hK K) | (apply Exists.intro; refine ⟨?_, hK _ ?_⟩; (focus (intro wx; first | (go_simp; first | rfl) | rfl)); clear hK K)
      refine mixk_q (i := 7) rfl (by kernel_rfl) (fun _ _ _ _ h => h) HH.out (fun K hK => ?_)
      go_simp
      first | (refine hK _ ?_; clear hK K) | (apply Exists.intro; refine ⟨?_, hK _ ?_⟩; (focus (intro wx hx; have x1_ := hx.cells; have y1_ := hhead.out wx _ hx.r2; first | (go_simp; first | rfl | exact ⟨rfl, rfl⟩) | rfl | exact ⟨rfl, rfl⟩)); clear hK K)
      refine reg_p (i := 8) rfl (by kernel_rfl) (fun _ _ _ _ h => h) HH.out (fun K hK => ?_)
      go_simp
      first | (refine hK _ ?_; clear hK K) | (apply Exists.intro; refine ⟨?_, hK _ ?_⟩; (focus (intro wx; first | (go_simp; first | rfl) | rfl)); clear hK K)
      refine reg_p (i := 9) rfl (by kernel_rfl) (fun _ _ _ _ h => h) HH.out (fun K hK => ?_)
      go_simp
      first | (refine hK _ ?_; clear hK K) | (apply Exists.intro; refine ⟨?_, hK _ ?_⟩; (focus (intro wx; first | (go_simp; first | rfl) | rfl)); clear hK K)
      refine mixk_q (i := 10) rfl (by kernel_rfl) (fun _ _ _ _ h => h) HH.out (fun K hK => ?_)
      go_simp
      first | (refine hK _ ?_; clear hK K) | (apply Exists.intro; refine ⟨?_, hK _ ?_⟩; (focus (intro wx hx; have x1_ := hx.cells; have y1_ := hhead.out wx _ hx.r2; first | (go_simp; first | rfl | exact ⟨rfl, rfl⟩) | rfl | exact ⟨rfl, rfl⟩)); clear hK K)
      refine reg_l none (i := 11) rfl (by kernel_rfl) (fun wn hk K hK => ?_)
      replace HH := Lib.hid (hk _ _ HH.out)
      clear hk
      go_simp
      refine (rlkTake_c ε wn _ b s' p.size hok.out hsz.out (Own.rlk_mk ε wn R b HH.out)).mono ?_
      rw [htk.out]
      rintro e wm ⟨rfl, H9_⟩
      replace HH := Lib.hid H9_
      clear H9_
      refine hK _ _ _ HH.out (.inl (by kernel_rfl)) ?_
      clear hK K
      refine reg_p (i := 12) rfl (by kernel_rfl) (fun _ _ _ _ h => h) HH.out (fun K hK => ?_)
      go_simp
      first | (refine hK _ ?_; clear hK K) | (apply Exists.intro; refine ⟨?_, hK _ ?_⟩; (focus (intro wx; first | (go_simp; first | rfl) | rfl)); clear hK K)
      refine mixk_done (by kernel_rfl) (fun w4_ hk => ?_) _
      replace HH := Lib.hid (hk _ _ HH.out)
      clear hk
      replace HH := Lib.hid ((Own.pm (HH.out) (by repeat (first | with_reducible exact Pm.refl _ | with_reducible exact Pm.nil _ | with_reducible refine Pm.here ?_ | with_reducible refine Pm.at2 ?_ | with_reducible refine Pm.at3 ?_ | with_reducible refine Pm.at4 ?_ | with_reducible refine Pm.at5 ?_ | with_reducible refine Pm.at6 ?_ | with_reducible refine Pm.at7 ?_ | with_reducible refine Pm.at8 ?_ | with_reducible refine Pm.skip ?_))) : Own _ _ (rlk b { s' with b := b2 } :: R))
      cases tk with
      | false =>
        have e1 : S = s' := by have := hres2.out; simpa using this
        have e0 : b2 = s'.b := hb2.out rfl
        have e2 : T = S := by rw [← hT.out]; exact if_neg (by rw [e1]; exact hne.out)
        have e5 : ({ s' with b := b2 } : Lnk) = T := by rw [e0, e2, e1]
        rw [e5] at HH
        obtain ⟨v1, v2, H9⟩ := HH.out.rlk_open
        obtain ⟨A2, n2, c2, rfl, _, _, hpk2⟩ := H9.r2.slcP_val
        have hz : n2 ≠ 0 := by
          intro h0
          have := hpk2.1
          rw [h0, e2, e1] at this
          exact hne.out (List.eq_nil_of_length_eq_zero this)
        have hz2 : ((n2 : Int) == 0) = false := by simp; omega
        clear hpk2 hz
        replace HH := Lib.hid H9
        clear H9 e0 e5
        replace e1 := Lib.hid e1
        replace e2 := Lib.hid e2
        (try clear cc1_); (try clear cc2_); (try clear cc3_); (try clear cc4_); (try clear cc5_); (try clear cc6_); (try clear cc7_)
        have cc1_ := HH.out.cells
        go_wp2_with fail
        refine (rlkBoxOut_c ε _ _ b T t hxT.out (Own.rlk_mk ε _ R b HH.out)).mono ?_
        rintro e w5_ ⟨v, rfl, H9_⟩
        replace HH := Lib.hid H9_
        clear H9_
        go_wp2_with fail
        go_ret2
        exact ⟨_, rfl, HH.out⟩
      | true =>
        clear hne hb2
        go_wp2_with fail
        refine (rlkShift_c ε _ _ b { s' with b := b2 } hql.out HH.out).mono ?_
        rw [hsh1.out]
        rintro e w6_ ⟨rfl, H9_⟩
        replace HH := Lib.hid H9_
        clear H9_
        obtain ⟨pn, ps, p3, p4, p5, p6, p7⟩ := p
        go_wp2_with (with_reducible refine stop_al ?_)
        refine Stop.go ?_
        refine wpList_alloc_own HH.out [.int .u64 0, .int .u64 0, .int .u64 0, .int .u64 0, .int .u64 0, .int .u64 0, .bool false] (by kernel_rfl) ?_
        intro px w7_ H9_
        replace HH := Lib.hid H9_
        clear H9_
        go_wp2_with (with_reducible refine stop_st ?_)
        refine Stop.go ?_
        refine wpList_store_own _ #[_, _, _, _, _, _, _] rfl rfl HH.out (by kernel_rfl) rfl (by repeat (first | (refine List.forall_mem_cons.2 ⟨(by first | with_reducible assumption | rfl), ?_⟩) | exact fun _ h => absurd h List.not_mem_nil)) ?_
        intro w8_ H9_
        replace HH := Lib.hid H9_
        clear H9_
        have hw9 : IntKind.i64.wrap ((j : Int) + 1) = ((j : Int) + 1) := by have := hj.out; rw [IntKind.wrap_i64]; omega
        by_cases hjn : j < ch.length
        case' pos =>
          obtain ⟨g3, off3, c0, rfl, hc0, k0⟩ := ns_get (hA.out _ (Own.pm (HH.out) (by repeat (first | with_reducible exact Pm.refl _ | with_reducible exact Pm.nil _ | with_reducible refine Pm.here ?_ | with_reducible refine Pm.at2 ?_ | with_reducible refine Pm.at3 ?_ | with_reducible refine Pm.at4 ?_ | with_reducible refine Pm.at5 ?_ | with_reducible refine Pm.at6 ?_ | with_reducible refine Pm.at7 ?_ | with_reducible refine Pm.at8 ?_ | with_reducible refine Pm.skip ?_)))) hjn
          have hd0 : (ch.drop j).headD 0 = c0 := by rw [List.drop_eq_getElem_cons hjn]; rw [List.getElem?_eq_getElem hjn] at hc0; exact Option.some.inj hc0
          clear hc0
        case' neg =>
          obtain ⟨c0, hc00⟩ : ∃ c0 : Int, c0 = 0 := ⟨0, rfl⟩
          have hd0 : (ch.drop j).headD 0 = c0 := by rw [hc00, List.drop_of_length_le (by omega)]; rfl
          subst hc00
        all_goals
          rw [hd0] at hdc hres2 hok2 hl2 hql2
          replace hd0 := Lib.hid hd0
          go_wp2_with fail
          try clear k0
          go_wp2_with fail
          refine wp_region_reg (some 6) HH.out (by kernel_rfl) ?_
          intro wm H9_
          replace HH := Lib.hid H9_
          clear H9_
          refine reg_p (i := 0) rfl (by kernel_rfl) (fun _ _ _ _ h => h) HH.out (fun K hK => ?_)
          go_simp
          first | (refine hK _ ?_; clear hK K) | (apply Exists.intro; refine ⟨?_, hK _ ?_⟩; (focus (intro wx; first | (go_simp; first | rfl) | rfl)); clear hK K)
          refine reg_p (i := 1) rfl (by kernel_rfl) (fun _ _ _ _ h => h) HH.out (fun K hK => ?_)
          go_simp
          first | (refine hK _ ?_; clear hK K) | (apply Exists.intro; refine ⟨?_, hK _ ?_⟩; (focus (intro wx; first | (go_simp; first | rfl) | rfl)); clear hK K)
          refine reg_p (i := 2) rfl (by kernel_rfl) (fun _ _ _ _ h => h) HH.out (fun K hK => ?_)
          go_simp
          first | (refine hK _ ?_; clear hK K) | (apply Exists.intro; refine ⟨?_, hK _ ?_⟩; (focus (intro wx; first | (go_simp; first | rfl) | rfl)); clear hK K)
          refine mixk_q (i := 3) rfl (by kernel_rfl) (fun _ _ _ _ h => h) HH.out (fun K hK => ?_)
          go_simp
          first | (refine hK _ ?_; clear hK K) | (apply Exists.intro; refine ⟨?_, hK _ ?_⟩; (focus (intro wx hx; have x1_ := hx.cells; first | (go_simp; first | rfl | exact ⟨rfl, rfl⟩) | rfl | exact ⟨rfl, rfl⟩)); clear hK K)
          refine reg_p (i := 4) rfl (by kernel_rfl) (fun _ _ _ _ h => h) HH.out (fun K hK => ?_)
          go_simp
          first | (refine hK _ ?_; clear hK K) | (apply Exists.intro; refine ⟨?_, hK _ ?_⟩; (focus (intro wx; first | (go_simp; first | rfl) | rfl)); clear hK K)
          refine reg_p (i := 5) rfl (by kernel_rfl) (fun _ _ _ _ h => h) HH.out (fun K hK => ?_)
          go_simp
          first | (refine hK _ ?_; clear hK K) | (apply Exists.intro; refine ⟨?_, hK _ ?_⟩; (focus (intro wx; first | (go_simp; first | rfl) | rfl)); clear hK K)
          refine reg_l none (i := 6) rfl (by kernel_rfl) (fun wn hk K hK => ?_)
          replace HH := Lib.hid (hk _ _ HH.out)
          clear hk
          go_simp
          refine (rlkBoxPut_c ε wn _ b { s' with b := b2, q := s'.q.shift.2 } ⟨pn, ps, p3, p4, p5, p6, p7⟩ t _ hqk.out ht.out hdc.out hxl.out HH.out.r2).mono ?_
          rintro e wm ⟨rfl, H9_⟩
          replace HH := Lib.hid H9_
          clear H9_
          refine hK _ _ _ HH.out (.inl (by kernel_rfl)) ?_
          clear hK K
          refine mixk_done (by kernel_rfl) (fun w9_ hk => ?_) _
          replace HH := Lib.hid (hk _ _ HH.out)
          clear hk
          have H8 := ((Own.pm (HH.out) (by repeat (first | with_reducible exact Pm.refl _ | with_reducible exact Pm.nil _ | with_reducible refine Pm.here ?_ | with_reducible refine Pm.at2 ?_ | with_reducible refine Pm.at3 ?_ | with_reducible refine Pm.at4 ?_ | with_reducible refine Pm.at5 ?_ | with_reducible refine Pm.at6 ?_ | with_reducible refine Pm.at7 ?_ | with_reducible refine Pm.at8 ?_ | with_reducible refine Pm.skip ?_))) : Own ε _ (rlk b { s' with b := b2, q := s'.q.shift.2, x := s'.x.put ⟨pn, ps, p3, p4, p5, p6, p7⟩ t _ } :: R))
          have H9 := Lib.hid (show Own ε _ (rlk b (s'.serve1 ⟨pn, ps, p3, p4, p5, p6, p7⟩ _) :: R) by unfold Lnk.serve1; rw [htk.out, hnow.out]; exact H8)
          clear H8
          go_wp2_with fail
          go_roundg l.length
          case measure => have := hk1.out; omega
          case rel => exact ⟨j + 1, _, by go_num, by have := hj.out; have := hk1.out; omega, hql2.out, by have h1 := hres2.out; rw [if_pos trivial] at h1; exact h1, hok2.out, by rw [hl2.out]; exact hlen.out, hnow.out, H9.out⟩
end
end Go.Proofs.Ytklohjjkpobneaa
