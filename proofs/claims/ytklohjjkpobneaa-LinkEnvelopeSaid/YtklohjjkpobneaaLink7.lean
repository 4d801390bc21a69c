/- link: LinkEnvelope. -/
import Derived.Test.YtklohjjkpobneaaLink5
import Derived.Deep.Cut
namespace Go.Proofs.Ytklohjjkpobneaa
open Go.RowKit
theorem run_eql_cnt0 (w : World) : (binOp .eql 93 (.agg #[.int .u64 0, .int .u64 0, .int .u64 0, .int .u64 0, .int .u64 0, .int .u64 0]) (.agg #[.int .u64 0, .int .u64 0, .int .u64 0, .int .u64 0, .int .u64 0, .int .u64 0])).run Try.prog w = .ok (.bool true) w := by kernel_rfl
theorem sendNs (l : List Int) (frm : Nat) (s : Lnk) (m : Nat) : ∀ n ∈ (((mkPks frm l).foldl sendF (s, m)).1).ns, n ∈ s.ns ∨ (frm : Int) ≤ n := by
  induction l generalizing frm s m with
  | nil => intro n hn; exact .inl hn
  | cons x l ih =>
    intro n hn
    have h1 := ih (frm + 1) (s.send1 (Pk.bare frm x)) (if (s.q.put (Pk.bare frm x)).1 then m + 1 else m) n hn
    rcases h1 with h1 | h1
    · unfold Lnk.send1 Que.put Lnk.ns at h1
      split at h1
      · simp only [List.map_append, List.map_cons, List.map_nil] at h1
        rw [← List.append_assoc] at h1
        rcases List.mem_append.1 h1 with h1 | h1
        · exact .inl h1
        · right
          have : n = (Pk.bare frm x).n := by simpa using h1
          rw [this]; exact Int.le_refl _
      · exact .inl h1
    · exact .inr (by omega)
theorem env_was {rate buf t c : Int} {frm : Nat} {s : Lnk} {a : LAct} (h : LInv rate buf t c frm s) (ha : a.Ok) (hb : c ≤ 8796093022208 ∧ t + a.after ≤ 68719476736) : s.b.was ≤ (s.act frm a).b.was ∧ (s.b.was < (s.act frm a).b.was → (s.act frm a).q.bytes = 0) := by
  obtain ⟨u1, u2, u3, u4⟩ := ha
  unfold Lnk.act
  split
  · have := h.tick hb.1 u1.1 hb.2 u2 u4
    exact ⟨this.2.1, this.2.2.1⟩
  · have e : (s.send (mkPks frm a.sizes)).1.b = s.b := (sendF_keep (s, 0) (mkPks frm a.sizes)).choose_spec.2.1
    rw [e]
    exact ⟨Int.le_refl _, fun h => by omega⟩
theorem env_tick {rate buf t c : Int} {frm : Nat} {s : Lnk} {a : LAct} (h : LInv rate buf t c frm s) (ha : a.Ok) (hb : c ≤ 8796093022208 ∧ t + a.after ≤ 68719476736) (htk : a.tick = true) : s.tick (s.now + a.after) a.waste a.ch = s.act frm a ∧ s.ns = (s.outs (s.now + a.after) a.waste a.ch).map Pk.n ++ (s.act frm a).ns ∧ True := by
  obtain ⟨u1, u2, u3, u4⟩ := ha
  have e : s.act frm a = s.tick (s.now + a.after) a.waste a.ch := by unfold Lnk.act; rw [htk]; rfl
  rw [e]
  exact ⟨rfl, (h.tick hb.1 u1.1 hb.2 u2 u4).2.2.2, trivial⟩
theorem env_checks {rate delay jit buf : Int} {k frm : Nat} {s : Lnk} (h : LRel rate delay jit buf k frm s) (hk : k ≤ 60) (hr : rate ≤ 1048576) :
    (s.came != s.q.gone + s.q.bytes + s.served) = false ∧ (s.served != s.under + s.deliv) = false ∧ ¬ buf < s.q.bytes ∧ (s.served * 1000000 + s.b.was + s.b.tok != rate * s.now) = false ∧
    IntKind.u64.wrap (s.q.gone + s.q.bytes) = s.q.gone + s.q.bytes ∧ IntKind.u64.wrap (s.q.gone + s.q.bytes + s.served) = s.q.gone + s.q.bytes + s.served ∧ IntKind.u64.wrap (s.under + s.deliv) = s.under + s.deliv ∧
    IntKind.u64.wrap (s.served * 1000000) = s.served * 1000000 ∧ IntKind.u64.wrap (s.served * 1000000 + s.b.was) = s.served * 1000000 + s.b.was ∧ IntKind.u64.wrap (s.served * 1000000 + s.b.was + s.b.tok) = s.served * 1000000 + s.b.was + s.b.tok ∧ IntKind.u64.wrap (rate * s.now) = rate * s.now := by
  have hI := (h.inv hr).mono (t' := 64424509440) (c' := 3865470566400) (by omega) (by omega)
  obtain ⟨b1, b2, b3, b4, b5, b6, b7, b8⟩ := hI.bounds
  have hce := hI.came
  have hcl := hI.cle
  have hsv := hI.serv
  have htk := hI.tok
  have hn := hI.now
  have hu := hI.under (by omega)
  have hf := h.ok.q.fits
  rw [hI.room] at hf
  have hr2 := rate_now hI.rate1 hI.rate2 b1 (by omega)
  rw [hu]
  generalize psum (s.x.l.map Du.p) = ps at *
  generalize rate * s.now = rn at *
  simp only [IntKind.wrap_u64]
  refine ⟨by simp; omega, by simp; omega, by omega, by simp; omega, by omega, by omega, by omega, by omega, by omega, by omega, by omega⟩
section
variable (w : World)
set_option maxRecDepth 100000 in
set_option maxHeartbeats 12800000 in
theorem linkEnvelope_c (cs : Array Value) (_hz : cs.size = 4) (pt : PathT) (hp : rdPath w cs.toList pt) (A : Option Addr) (len cap : Nat) (xs : List LActT) (hr : rdSlice rdLAct 5 w [.slice A len cap] xs) :
    Calls Try.prog 9 #[.agg cs, .slice A len cap] w fun e w' => e = .returned (.bool true) ∧ Own w w' [old w] := by
  have HH := Lib.hid (Own.init w)
  obtain ⟨p1, p2, p3, p4, _⟩ := pt
  obtain ⟨hcs, u1, u2, u3, u4⟩ := rdPath_open hp
  simp only at hcs u1 u2 u3 u4
  have hcs := arr_of_list hcs
  subst hcs
  clear hp _hz
  obtain ⟨hA, hm, hok⟩ := lacts_rd hr
  clear hr
  generalize xs.map LActT.a = acts at hA hok
  have hln := hA.1
  replace hA := Lib.hid hA
  replace hok := Lib.hid hok
  replace u1 := Lib.hid u1
  replace u2 := Lib.hid u2
  replace u3 := Lib.hid u3
  replace u4 := Lib.hid u4
  obtain ⟨rt, hrt⟩ : ∃ rt, rightB p1 p2 p3 p4 = rt := ⟨_, rfl⟩
  replace hrt := Lib.hid hrt
  go_enter Try.func9, Try.ntmps9
  go_wp2_with (with_reducible refine stop_bx ?_)
  refine Stop.go ?_
  refine wpList_box_own HH.out [_, _, _, _] rfl ?_
  intro pb w1_ H9_
  replace HH := Lib.hid H9_
  clear H9_
  go_wp2_with fail
  refine (fits21_c _ A len cap acts hm (hA.out.old (Own.pm (HH.out) (by repeat (first | with_reducible exact Pm.refl _ | with_reducible exact Pm.nil _ | with_reducible refine Pm.here ?_ | with_reducible refine Pm.at2 ?_ | with_reducible refine Pm.at3 ?_ | with_reducible refine Pm.at4 ?_ | with_reducible refine Pm.at5 ?_ | with_reducible refine Pm.at6 ?_ | with_reducible refine Pm.at7 ?_ | with_reducible refine Pm.at8 ?_ | with_reducible refine Pm.skip ?_))))).mono ?_
  rintro e w9 ⟨bl, rfl, rfl, hfit⟩
  replace hfit := Lib.hid hfit
  (try clear cc1_); (try clear cc2_); (try clear cc3_); (try clear cc4_); (try clear cc5_); (try clear cc6_); (try clear cc7_)
  have cc1_ := HH.out.cells
  go_wp2_with fail
  refine (right18_c w _ _ p1 p2 p3 p4 HH.out).mono ?_
  rw [hrt.out]
  rintro e w2_ ⟨rfl, H9_⟩
  replace HH := Lib.hid H9_
  clear H9_
  (try clear cc1_); (try clear cc2_); (try clear cc3_); (try clear cc4_); (try clear cc5_); (try clear cc6_); (try clear cc7_)
  have cc1_ := HH.out.cells
  go_wp2_with fail
  refine (small21_c w _ _ p1 p2 p3 p4 A len cap acts hm (fun wx Hx => hA.out.old (Own.pm (Hx) (by repeat (first | with_reducible exact Pm.refl _ | with_reducible exact Pm.nil _ | with_reducible refine Pm.here ?_ | with_reducible refine Pm.at2 ?_ | with_reducible refine Pm.at3 ?_ | with_reducible refine Pm.at4 ?_ | with_reducible refine Pm.at5 ?_ | with_reducible refine Pm.at6 ?_ | with_reducible refine Pm.at7 ?_ | with_reducible refine Pm.at8 ?_ | with_reducible refine Pm.skip ?_)))) HH.out).mono ?_
  rintro e w8 ⟨sm, rfl, H9, hsm⟩
  replace HH := Lib.hid H9
  clear H9
  replace hsm := Lib.hid hsm
  (try clear cc1_); (try clear cc2_); (try clear cc3_); (try clear cc4_); (try clear cc5_); (try clear cc6_); (try clear cc7_)
  by_cases hgo : bl = true ∧ rt = true ∧ sm = true
  case' neg =>
    cases bl
    case' true =>
      cases rt
      case' true =>
        cases sm
        case' true => exact absurd ⟨rfl, rfl, rfl⟩ hgo
    all_goals
      replace hgo := Lib.hid hgo
      go_wp2_with fail
      refine (alive21_k _).mono ?_
      rintro e w3_ ⟨rfl, hbel⟩
      replace HH := Lib.hid ((by first | exact Kp.same hbel | exact Kp.drew hbel | exact Kp.below hbel : Kp _ w3_) _ _ (by first | exact HH.out | exact HH.out.drewN _ | exact (HH.out.alloc _).tail | exact ((HH.out.alloc _).drewN _).tail | exact ((HH.out.alloc _).alloc _).tail.tail))
      clear hbel
      go_wp2_with fail
      go_ret
      exact ⟨rfl, (Own.pm (HH.out) (by repeat (first | with_reducible exact Pm.refl _ | with_reducible exact Pm.nil _ | with_reducible refine Pm.here ?_ | with_reducible refine Pm.at2 ?_ | with_reducible refine Pm.at3 ?_ | with_reducible refine Pm.at4 ?_ | with_reducible refine Pm.at5 ?_ | with_reducible refine Pm.at6 ?_ | with_reducible refine Pm.at7 ?_ | with_reducible refine Pm.at8 ?_ | with_reducible refine Pm.skip ?_)))⟩
  obtain ⟨rfl, rfl, rfl⟩ := hgo
  obtain ⟨hlen60, hfew⟩ := hfit.out rfl
  have hsml := hsm.out rfl
  have hrs := rate_small hsml
  clear hfit hsm
  rw [hln] at hlen60 hrs
  have h1r : 1 ≤ p1 := by have := hrt.out; unfold rightB at this; simp only [Bool.and_eq_true, decide_eq_true_eq] at this; exact this.1.1.1.1
  have hr40 : p1 ≤ 1099511627776 := by have := hrt.out; unfold rightB at this; simp only [Bool.and_eq_true, decide_eq_true_eq] at this; exact this.1.1.1.2
  replace hfew := Lib.hid hfew
  replace hsml := Lib.hid hsml
  replace hrs := Lib.hid hrs
  (try clear cc1_); (try clear cc2_); (try clear cc3_); (try clear cc4_); (try clear cc5_); (try clear cc6_); (try clear cc7_)
  have cc1_ := HH.out.cells
  go_wp2_with fail
  refine (linkNew_c w _ _ p1 p2 p3 p4 hrt.out HH.out).mono ?_
  rintro e w4_ ⟨b, rfl, H9_⟩
  replace HH := Lib.hid H9_
  clear H9_
  clear hrt
  (try clear cc1_); (try clear cc2_); (try clear cc3_); (try clear cc4_); (try clear cc5_); (try clear cc6_); (try clear cc7_)
  go_wp2_with fail
  go_loopw [10, 11, 12] (fun fr nx i wr => ∃ (k frm : Nat) (nxt : Int) (s : Lnk), k ≤ len ∧ i = .int .i64 k ∧ fr = .int .i64 frm ∧ nx = .int .u64 nxt ∧ LRel p1 p2 p3 p4 k frm s ∧ (∀ n ∈ s.ns, nxt ≤ n) ∧ 0 ≤ nxt ∧ nxt ≤ (frm : Int) ∧ Own w wr (lnk b s :: pts pb (.cells #[.int .u64 p1, .int .u64 p2, .int .u64 p3, .int .u64 p4] 78 (0, 0)) :: [old w])) (fun _ _ i _ => len - (intOf i).toNat)
  case atStart => exact ⟨0, 0, 0, Lnk.new p1 p2 p3 p4, Nat.zero_le _, rfl, rfl, rfl, LRel.new h1r u1.out u2.out u3.out u4.out, by simp [Lnk.ns, Lnk.new, Bo.new, Que.new], by omega, by omega, HH.out⟩
  case round =>
    clear HH
    obtain ⟨k, frm, nxt, s, hk, rfl, rfl, rfl, hL, hnx, hnx0, hnf, HR⟩ := hrel
    have HH := Lib.hid HR
    clear HR
    have hfw := hL.few
    have hso := Lib.hid hL.ok
    have hsl : s.len ≤ 3600 := by have := hL.len; omega
    by_cases hlt : k < len
    · have hrr : p1 ≤ 1048576 := by rcases hrs.out with h | h <;> omega
      obtain ⟨a, hka, hmem, ab, off, As, ns, cs, Ac, nc, cc, rfl, c0, c1, c2, c3, c4, g1, g2, g3, g4, g5⟩ := hA.out.get hlt
      have hao := hok.out a hmem
      have hL2 := hL.act (by omega) hao (hfew.out a hmem) (hsml.out a hmem).1 hrr
      have hafew := (hfew.out a hmem).1
      obtain rfl : ns = a.sizes.length := g1.1.symm
      have hasm := (hsml.out a hmem).1.1
      have hI := (hL.inv hrr).mono (t' := 64424509440) (c' := 3865470566400) (by omega) (by omega)
      have hnn := hI.now
      have hwn : IntKind.u64.wrap (s.now + a.after) = s.now + a.after := by have h3 := hao.1; have h4 := hso.out.now; unfold U at h3 h4; rw [IntKind.wrap_u64]; omega
      have htU : U (s.now + a.after) := by have h3 := hao.1; have h4 := hso.out.now; unfold U at *; omega
      have hle : s.now ≤ s.now + a.after := by have h3 := hao.1.1; omega
      have hend := env_checks hL2 (by omega) hrr
      have hwas := env_was (frm := frm) hI hao ⟨by omega, by omega⟩
      have hlts := hI.lt
      have hor0 := hI.ord
      have htk9 := fun (htk : a.tick = true) => env_tick (frm := frm) hI hao ⟨by omega, by omega⟩ htk
      obtain ⟨_, v2, v3, v4⟩ := hao
      clear hka hmem hasm hnn hL hI
      obtain ⟨tk, sz, af, ws, ch⟩ := a
      simp only at c0 c1 c2 c3 c4 g1 g2 g3 hafew hwn htU hle v2 v3 v4
      obtain ⟨s9, hs9⟩ : ∃ s9, s.act frm ⟨tk, sz, af, ws, ch⟩ = s9 := ⟨_, rfl⟩
      obtain ⟨F, hF⟩ : ∃ F, actFrm frm ⟨tk, sz, af, ws, ch⟩ = F := ⟨_, rfl⟩
      rw [hs9] at hwas htk9
      rw [hs9, hF] at hL2
      rw [hs9] at hend
      have hnn2 : nxt ≤ (frm : Int) := hnf
      have hF0 : (frm : Int) ≤ F := by rw [← hF]; unfold actFrm; split <;> omega
      have hF1 : F ≤ 3600 := by have := hL2.few; omega
      replace g1 := Lib.hid g1
      replace g2 := Lib.hid g2
      replace htU := Lib.hid htU
      replace hle := Lib.hid hle
      replace v2 := Lib.hid v2
      replace v3 := Lib.hid v3
      replace v4 := Lib.hid v4
      replace hL2 := Lib.hid hL2
      replace hnx := Lib.hid hnx
      replace hend := Lib.hid hend
      replace hwas := Lib.hid hwas
      replace hlts := Lib.hid hlts
      replace hor0 := Lib.hid hor0
      replace htk9 := Lib.hid htk9
      replace hs9 := Lib.hid hs9
      replace hF := Lib.hid hF
      replace hF0 := Lib.hid hF0
      replace hnf := Lib.hid hnf
      replace hnx0 := Lib.hid hnx0
      clear hnn2
      go_wp2_with fail
      refine (linkTokens_c w _ _ b s HH.out).mono ?_
      rintro e w5_ ⟨rfl, H9_⟩
      replace HH := Lib.hid H9_
      clear H9_
      have o0 := ((Own.pm (HH.out) (by repeat (first | with_reducible exact Pm.refl _ | with_reducible exact Pm.nil _ | with_reducible refine Pm.here ?_ | with_reducible refine Pm.at2 ?_ | with_reducible refine Pm.at3 ?_ | with_reducible refine Pm.at4 ?_ | with_reducible refine Pm.at5 ?_ | with_reducible refine Pm.at6 ?_ | with_reducible refine Pm.at7 ?_ | with_reducible refine Pm.at8 ?_ | with_reducible refine Pm.skip ?_))) : Own w _ [old w]).old_cell c0
      go_upto_if 73 with (fail)
      clear o0
      go_cut [10, 11] from 241 (fun fr nx wc => ∃ nxt2 : Int, fr = .int .i64 F ∧ nx = .int .u64 nxt2 ∧ (∀ n ∈ s9.ns, nxt2 ≤ n) ∧ 0 ≤ nxt2 ∧ nxt2 ≤ (F : Int) ∧ Own w wc (lnk b s9 :: pts pb (.cells #[.int .u64 p1, .int .u64 p2, .int .u64 p3, .int .u64 p4] 78 (0, 0)) :: [old w]))
      case first =>
        cases tk with
        | true =>
          obtain ⟨hs8, hns, hFt⟩ := htk9.out rfl
          have hFe : F = frm := by rw [← hF.out]; rfl
          subst hFe
          obtain ⟨ol, hol⟩ : ∃ ol, s.outs (s.now + af) ws ch = ol := ⟨_, rfl⟩
          rw [hol] at hns
          have hord := hor0.out
          have hnx2 := hnx.out
          have hlt2 := hlts.out
          rw [hns] at hord hnx2 hlt2
          clear hFt htk9 hns
          replace hs8 := Lib.hid hs8
          replace hord := Lib.hid hord
          replace hnx2 := Lib.hid hnx2
          replace hlt2 := Lib.hid hlt2
          replace hol := Lib.hid hol
          go_wp2_with fail
          go_wp2_with fail
          refine wp_region_reg (some 19) HH.out (by kernel_rfl) ?_
          intro wm H9_
          replace HH := Lib.hid H9_
          clear H9_
          refine reg_p (i := 0) rfl (by kernel_rfl) (fun _ _ _ _ h => h) HH.out (fun K hK => ?_)
          go_simp
          first | (refine hK _ ?_; clear hK K) | (apply Exists.intro; refine ⟨?_, hK _ ?_⟩; (focus (intro wx; first | (go_simp; first | rfl) | rfl)); clear hK K)
          refine reg_p (i := 1) rfl (by kernel_rfl) (fun _ _ _ _ h => h) HH.out (fun K hK => ?_)
          go_simp
          first | (refine hK _ ?_; clear hK K) | (apply Exists.intro; refine ⟨?_, hK _ ?_⟩; (focus (intro wx; first | (go_simp; first | rfl) | rfl)); clear hK K)
          refine mixk_q (i := 2) rfl (by kernel_rfl) (fun _ _ _ _ h => h) HH.out (fun K hK => ?_)
          go_simp
          first | (refine hK _ ?_; clear hK K) | (apply Exists.intro; refine ⟨?_, hK _ ?_⟩; (focus (intro wx hx; have y2_ := hx.r3.old_cell c2; have y3_ := hx.r3.old_cell c3; have y4_ := hx.r3.old_cell c4; first | (first | (go_at_call 47; refine (linkTime_c w wx _ b s hx).mono ?_; rintro e wy ⟨rfl, hbel⟩; exact ⟨rfl, (by first | exact Kp.same hbel | exact Kp.drew hbel | exact Kp.below hbel : Kp wx wy)⟩)) | (go_simp; first | rfl | exact ⟨rfl, rfl⟩) | rfl | exact ⟨rfl, rfl⟩)); clear hK K)
          refine reg_p (i := 3) rfl (by kernel_rfl) (fun _ _ _ _ h => h) HH.out (fun K hK => ?_)
          go_simp
          first | (refine hK _ ?_; clear hK K) | (apply Exists.intro; refine ⟨?_, hK _ ?_⟩; (focus (intro wx; first | (go_simp; first | rfl) | rfl)); clear hK K)
          refine reg_p (i := 4) rfl (by kernel_rfl) (fun _ _ _ _ h => h) HH.out (fun K hK => ?_)
          go_simp
          first | (refine hK _ ?_; clear hK K) | (apply Exists.intro; refine ⟨?_, hK _ ?_⟩; (focus (intro wx; first | (go_simp; first | rfl) | rfl)); clear hK K)
          refine reg_p (i := 5) rfl (by kernel_rfl) (fun _ _ _ _ h => h) HH.out (fun K hK => ?_)
          go_simp
          first | (refine hK _ ?_; clear hK K) | (apply Exists.intro; refine ⟨?_, hK _ ?_⟩; (focus (intro wx; first | (go_simp; first | rfl) | rfl)); clear hK K)
          refine reg_p (i := 6) rfl (by kernel_rfl) (fun _ _ _ _ h => h) HH.out (fun K hK => ?_)
          go_simp
          first | (refine hK _ ?_; clear hK K) | (apply Exists.intro; refine ⟨?_, hK _ ?_⟩; (focus (intro wx; first | (go_simp; first | rfl) | rfl)); clear hK K)
          refine mixk_q (i := 7) rfl (by kernel_rfl) (fun _ _ _ _ h => h) HH.out (fun K hK => ?_)
          go_simp
          first | (refine hK _ ?_; clear hK K) | (apply Exists.intro; refine ⟨?_, hK _ ?_⟩; (focus (intro wx hx; have y2_ := hx.r3.old_cell c2; have y3_ := hx.r3.old_cell c3; have y4_ := hx.r3.old_cell c4; first | (first | (go_at_call 47; refine (linkTime_c w wx _ b s hx).mono ?_; rintro e wy ⟨rfl, hbel⟩; exact ⟨rfl, (by first | exact Kp.same hbel | exact Kp.drew hbel | exact Kp.below hbel : Kp wx wy)⟩)) | (go_simp; first | rfl | exact ⟨rfl, rfl⟩) | rfl | exact ⟨rfl, rfl⟩)); clear hK K)
          refine reg_p (i := 8) rfl (by kernel_rfl) (fun _ _ _ _ h => h) HH.out (fun K hK => ?_)
          go_simp
          first | (refine hK _ ?_; clear hK K) | (apply Exists.intro; refine ⟨?_, hK _ ?_⟩; (focus (intro wx; first | (go_simp; first | rfl) | rfl)); clear hK K)
          refine reg_p (i := 9) rfl (by kernel_rfl) (fun _ _ _ _ h => h) HH.out (fun K hK => ?_)
          go_simp
          first | (refine hK _ ?_; clear hK K) | (apply Exists.intro; refine ⟨?_, hK _ ?_⟩; (focus (intro wx; first | (go_simp; first | rfl) | rfl)); clear hK K)
          refine reg_p (i := 10) rfl (by kernel_rfl) (fun _ _ _ _ h => h) HH.out (fun K hK => ?_)
          go_simp
          first | (refine hK _ ?_; clear hK K) | (apply Exists.intro; refine ⟨?_, hK _ ?_⟩; (focus (intro wx; first | (go_simp; first | rfl) | rfl)); clear hK K)
          refine reg_p (i := 11) rfl (by kernel_rfl) (fun _ _ _ _ h => h) HH.out (fun K hK => ?_)
          go_simp
          first | (refine hK _ ?_; clear hK K) | (apply Exists.intro; refine ⟨?_, hK _ ?_⟩; (focus (intro wx; first | (go_simp; first | rfl) | rfl)); clear hK K)
          refine reg_p (i := 12) rfl (by kernel_rfl) (fun _ _ _ _ h => h) HH.out (fun K hK => ?_)
          go_simp
          first | (refine hK _ ?_; clear hK K) | (apply Exists.intro; refine ⟨?_, hK _ ?_⟩; (focus (intro wx; first | (go_simp; first | rfl) | rfl)); clear hK K)
          refine mixk_q (i := 13) rfl (by kernel_rfl) (fun _ _ _ _ h => h) HH.out (fun K hK => ?_)
          go_simp
          first | (refine hK _ ?_; clear hK K) | (apply Exists.intro; refine ⟨?_, hK _ ?_⟩; (focus (intro wx hx; have y2_ := hx.r3.old_cell c2; have y3_ := hx.r3.old_cell c3; have y4_ := hx.r3.old_cell c4; first | (first | (go_at_call 47; refine (linkTime_c w wx _ b s hx).mono ?_; rintro e wy ⟨rfl, hbel⟩; exact ⟨rfl, (by first | exact Kp.same hbel | exact Kp.drew hbel | exact Kp.below hbel : Kp wx wy)⟩)) | (go_simp; first | rfl | exact ⟨rfl, rfl⟩) | rfl | exact ⟨rfl, rfl⟩)); clear hK K)
          refine reg_p (i := 14) rfl (by kernel_rfl) (fun _ _ _ _ h => h) HH.out (fun K hK => ?_)
          go_simp
          first | (refine hK _ ?_; clear hK K) | (apply Exists.intro; refine ⟨?_, hK _ ?_⟩; (focus (intro wx; first | (go_simp; first | rfl) | rfl)); clear hK K)
          refine reg_p (i := 15) rfl (by kernel_rfl) (fun _ _ _ _ h => h) HH.out (fun K hK => ?_)
          go_simp
          first | (refine hK _ ?_; clear hK K) | (apply Exists.intro; refine ⟨?_, hK _ ?_⟩; (focus (intro wx; first | (go_simp; first | rfl) | rfl)); clear hK K)
          refine reg_p (i := 16) rfl (by kernel_rfl) (fun _ _ _ _ h => h) HH.out (fun K hK => ?_)
          go_simp
          first | (refine hK _ ?_; clear hK K) | (apply Exists.intro; refine ⟨?_, hK _ ?_⟩; (focus (intro wx; first | (go_simp; first | rfl) | rfl)); clear hK K)
          refine reg_p (i := 17) rfl (by kernel_rfl) (fun _ _ _ _ h => h) HH.out (fun K hK => ?_)
          go_simp
          first | (refine hK _ ?_; clear hK K) | (apply Exists.intro; refine ⟨?_, hK _ ?_⟩; (focus (intro wx; first | (go_simp; first | rfl) | rfl)); clear hK K)
          refine mixk_q (i := 18) rfl (by kernel_rfl) (fun _ _ _ _ h => h) HH.out (fun K hK => ?_)
          go_simp
          first | (refine hK _ ?_; clear hK K) | (apply Exists.intro; refine ⟨?_, hK _ ?_⟩; (focus (intro wx hx; have y2_ := hx.r3.old_cell c2; have y3_ := hx.r3.old_cell c3; have y4_ := hx.r3.old_cell c4; first | (first | (go_at_call 47; refine (linkTime_c w wx _ b s hx).mono ?_; rintro e wy ⟨rfl, hbel⟩; exact ⟨rfl, (by first | exact Kp.same hbel | exact Kp.drew hbel | exact Kp.below hbel : Kp wx wy)⟩)) | (go_simp; first | rfl | exact ⟨rfl, rfl⟩) | rfl | exact ⟨rfl, rfl⟩)); clear hK K)
          refine reg_l none (i := 19) rfl (by kernel_rfl) (fun wn hk K hK => ?_)
          replace HH := Lib.hid (hk _ _ HH.out)
          clear hk
          go_simp
          refine (linkTick_c w wn _ b 0 s hso.out (s.now + af) ws htU.out v2.out hle.out Ac nc cc ch v4.out g4 g5 (fun wx Hx => g2.out.old (Own.pm (Hx) (by repeat (first | with_reducible exact Pm.refl _ | with_reducible exact Pm.nil _ | with_reducible refine Pm.here ?_ | with_reducible refine Pm.at2 ?_ | with_reducible refine Pm.at3 ?_ | with_reducible refine Pm.at4 ?_ | with_reducible refine Pm.at5 ?_ | with_reducible refine Pm.at6 ?_ | with_reducible refine Pm.at7 ?_ | with_reducible refine Pm.at8 ?_ | with_reducible refine Pm.skip ?_)))) (by omega) HH.out).mono ?_
          rintro e wm ⟨v, rfl, H9_⟩
          replace HH := Lib.hid H9_
          clear H9_
          refine hK _ _ _ HH.out (.inl (by kernel_rfl)) ?_
          clear hK K
          refine reg_p (i := 20) rfl (by kernel_rfl) (fun _ _ _ _ h => h) HH.out (fun K hK => ?_)
          go_simp
          first | (refine hK _ ?_; clear hK K) | (apply Exists.intro; refine ⟨?_, hK _ ?_⟩; (focus (intro wx; first | (go_simp; first | rfl) | rfl)); clear hK K)
          refine reg_p (i := 21) rfl (by kernel_rfl) (fun _ _ _ _ h => h) HH.out (fun K hK => ?_)
          go_simp
          first | (refine hK _ ?_; clear hK K) | (apply Exists.intro; refine ⟨?_, hK _ ?_⟩; (focus (intro wx; first | (go_simp; first | rfl) | rfl)); clear hK K)
          refine reg_p (i := 22) rfl (by kernel_rfl) (fun _ _ _ _ h => h) HH.out (fun K hK => ?_)
          go_simp
          first | (refine hK _ ?_; clear hK K) | (apply Exists.intro; refine ⟨?_, hK _ ?_⟩; (focus (intro wx; first | (go_simp; first | rfl) | rfl)); clear hK K)
          refine reg_p (i := 23) rfl (by kernel_rfl) (fun _ _ _ _ h => h) HH.out (fun K hK => ?_)
          go_simp
          first | (refine hK _ ?_; clear hK K) | (apply Exists.intro; refine ⟨?_, hK _ ?_⟩; (focus (intro wx; first | (go_simp; first | rfl) | rfl)); clear hK K)
          refine reg_p (i := 24) rfl (by kernel_rfl) (fun _ _ _ _ h => h) HH.out (fun K hK => ?_)
          go_simp
          first | (refine hK _ ?_; clear hK K) | (apply Exists.intro; refine ⟨?_, hK _ ?_⟩; (focus (intro wx; first | (go_simp; first | rfl) | rfl)); clear hK K)
          refine mixk_done (by kernel_rfl) (fun w6_ hk => ?_) _
          replace HH := Lib.hid (hk _ _ HH.out)
          clear hk
          rw [hol.out, hs8.out] at HH
          obtain ⟨A1, n1, d1, rfl, _, hcm1, hpk⟩ := HH.out.slcP_val
          obtain rfl : ol.length = n1 := hpk.1
          have hn1 : ol.length ≤ 9223372036854775807 := by unfold maxLen at hcm1; omega
          clear hpk hcm1
          have hw1 : ∀ x ∈ ol, IntKind.u64.wrap (x.n + 1) = x.n + 1 ∧ x.n + 1 ≤ (F : Int) := by
            intro x hx
            have h1 := hlt2.out x.n (List.mem_append_left _ (List.mem_map_of_mem hx))
            have h2 := hnx2.out x.n (List.mem_append_left _ (List.mem_map_of_mem hx))
            have h3 := hnx0.out
            rw [IntKind.wrap_u64]; omega
          replace hw1 := Lib.hid hw1
          go_wp2_with fail
          go_loopw [11, 17] (fun nx i wr => ∃ (j : Nat) (nxt : Int), j ≤ ol.length ∧ i = .int .i64 j ∧ nx = .int .u64 nxt ∧ (∀ n ∈ (ol.drop j).map Pk.n ++ s9.ns, nxt ≤ n) ∧ 0 ≤ nxt ∧ nxt ≤ (F : Int) ∧ Own w wr (slcP (.slice A1 ol.length d1) ol :: lnk b s9 :: pts pb (.cells #[.int .u64 p1, .int .u64 p2, .int .u64 p3, .int .u64 p4] 78 (0, 0)) :: [old w])) (fun _ i _ => ol.length - (intOf i).toNat)
          case atStart => exact ⟨0, nxt, Nat.zero_le _, rfl, rfl, hnx2.out, hnx0.out, hnf.out, HH.out⟩
          case round =>
            clear HH
            obtain ⟨j, nxt2, hj, rfl, rfl, hge, hnp2, hnf2, HR⟩ := hrel
            have HH := Lib.hid HR
            clear HR
            by_cases hlt3 : j < ol.length
            · obtain ⟨_, _, _, ee, _, _, hpk⟩ := HH.out.slcP_val
              cases ee
              obtain ⟨g, of2, p, rfl, hp, k0, _⟩ := hpk.cells hlt3
              have hd := List.drop_eq_getElem_cons hlt3
              have hpe : ol[j] = p := by rw [List.getElem?_eq_getElem hlt3] at hp; exact Option.some.inj hp
              rw [hpe] at hd
              have hpn : ¬ p.n < nxt2 := by
                have := hge p.n (by rw [hd]; simp)
                omega
              obtain ⟨hwp, hwf⟩ := hw1.out p (List.mem_of_getElem? hp)
              have hor : ∀ n ∈ (ol.drop (j + 1)).map Pk.n ++ s9.ns, p.n + 1 ≤ n := by
                have h1 := hord.out
                have h2 : (ol.drop j).map Pk.n ++ s9.ns = (ol.map Pk.n ++ s9.ns).drop j := by rw [List.drop_append_of_le_length (by rw [List.length_map]; omega), List.map_drop]
                have h3 := h1.drop (i := j)
                rw [← h2, hd] at h3
                have h4 := (List.pairwise_cons.1 h3).1
                intro n hn
                have := h4 n hn
                omega
              replace hor := Lib.hid hor
              replace hwf := Lib.hid hwf
              clear hpk hp hd hpe hge
              go_wp2_with fail
              go_roundw
              case rel => exact ⟨j + 1, p.n + 1, by omega, by go_num, rfl, hor.out, by omega, hwf.out, HH.out⟩
              case measure => simp [intOf]; omega
            · have hge2 : ∀ n ∈ s9.ns, nxt2 ≤ n := fun n hn => hge n (List.mem_append_right _ hn)
              clear hge
              replace hge2 := Lib.hid hge2
              have H9 := Lib.hid ((Own.pm (HH.out) (by repeat (first | with_reducible exact Pm.refl _ | with_reducible exact Pm.nil _ | with_reducible refine Pm.here ?_ | with_reducible refine Pm.at2 ?_ | with_reducible refine Pm.at3 ?_ | with_reducible refine Pm.at4 ?_ | with_reducible refine Pm.at5 ?_ | with_reducible refine Pm.at6 ?_ | with_reducible refine Pm.at7 ?_ | with_reducible refine Pm.at8 ?_ | with_reducible refine Pm.skip ?_))) : Own w _ (lnk b s9 :: pts pb _ :: [old w]))
              go_wp2_with fail
              go_meet
              case rel => exact ⟨nxt2, rfl, rfl, hge2.out, hnp2, hnf2, H9.out⟩
        | false =>
          have hs8 : (s.send (mkPks frm sz)).1 = s9 := hs9.out
          have hFe : F = frm + sz.length := by rw [← hF.out]; rfl
          subst hFe
          have hge2 : ∀ n ∈ s9.ns, nxt ≤ n := by
            intro n hn
            rw [← hs8] at hn
            rcases sendNs sz frm s 0 n hn with h | h
            · exact hnx.out n h
            · have := hnf.out; omega
          replace hge2 := Lib.hid hge2
          replace hs8 := Lib.hid hs8
          have o1 := ((Own.pm (HH.out) (by repeat (first | with_reducible exact Pm.refl _ | with_reducible exact Pm.nil _ | with_reducible refine Pm.here ?_ | with_reducible refine Pm.at2 ?_ | with_reducible refine Pm.at3 ?_ | with_reducible refine Pm.at4 ?_ | with_reducible refine Pm.at5 ?_ | with_reducible refine Pm.at6 ?_ | with_reducible refine Pm.at7 ?_ | with_reducible refine Pm.at8 ?_ | with_reducible refine Pm.skip ?_))) : Own w _ [old w]).old_cell c1
          go_wp2_with fail
          refine (packets21_c w _ _ frm As sz.length cs sz (fun wx Hx => g1.out.old (Own.pm (Hx) (by repeat (first | with_reducible exact Pm.refl _ | with_reducible exact Pm.nil _ | with_reducible refine Pm.here ?_ | with_reducible refine Pm.at2 ?_ | with_reducible refine Pm.at3 ?_ | with_reducible refine Pm.at4 ?_ | with_reducible refine Pm.at5 ?_ | with_reducible refine Pm.at6 ?_ | with_reducible refine Pm.at7 ?_ | with_reducible refine Pm.at8 ?_ | with_reducible refine Pm.skip ?_)))) (by omega) HH.out).mono ?_
          rintro e w7_ ⟨v, rfl, H9_⟩
          replace HH := Lib.hid H9_
          clear H9_
          obtain ⟨A1, n1, d1, rfl, _, _, hpk⟩ := HH.out.slcP_val
          obtain rfl : n1 = sz.length := by rw [← hpk.1, mkPks_len]
          clear hpk o1
          have hwf : IntKind.i64.wrap ((frm : Int) + (sz.length : Int)) = (frm : Int) + (sz.length : Int) := by rw [IntKind.wrap_i64]; omega
          have hpo := Lib.hid (mkPks_ok (f := frm) (l := sz) (by omega) v3.out)
          replace HH := Lib.hid ((Own.pm (HH.out) (by repeat (first | with_reducible exact Pm.refl _ | with_reducible exact Pm.nil _ | with_reducible refine Pm.here ?_ | with_reducible refine Pm.at2 ?_ | with_reducible refine Pm.at3 ?_ | with_reducible refine Pm.at4 ?_ | with_reducible refine Pm.at5 ?_ | with_reducible refine Pm.at6 ?_ | with_reducible refine Pm.at7 ?_ | with_reducible refine Pm.at8 ?_ | with_reducible refine Pm.skip ?_))) : Own w _ (lnk b s :: slcP (.slice A1 sz.length d1) (mkPks frm sz) :: pts pb _ :: [old w]))
          go_wp2_with fail
          refine (linkSend_c w _ _ b s hso.out A1 sz.length d1 (mkPks frm sz) hpo.out (fun wx Hx => by obtain ⟨_, _, _, e, _, _, h⟩ := Hx.slcP_val; cases e; exact h) (by omega) HH.out).mono ?_
          rintro e w8_ ⟨rfl, H9_⟩
          replace HH := Lib.hid H9_
          clear H9_
          rw [hs8.out] at HH
          have H9 := Lib.hid ((Own.pm (HH.out) (by repeat (first | with_reducible exact Pm.refl _ | with_reducible exact Pm.nil _ | with_reducible refine Pm.here ?_ | with_reducible refine Pm.at2 ?_ | with_reducible refine Pm.at3 ?_ | with_reducible refine Pm.at4 ?_ | with_reducible refine Pm.at5 ?_ | with_reducible refine Pm.at6 ?_ | with_reducible refine Pm.at7 ?_ | with_reducible refine Pm.at8 ?_ | with_reducible refine Pm.skip ?_))) : Own w _ (lnk b s9 :: pts pb _ :: [old w]))
          go_wp2_with fail
          go_meet
          case rel => exact ⟨nxt, by go_num, rfl, hge2.out, hnx0.out, by have := hnf.out; omega, H9.out⟩
      case rest =>
        clear HH hs9 htk9 hor0 hlts hnx hnf
        obtain ⟨nxt2, rfl, rfl, hge2, hnp2, hnf2, HR⟩ := hcut
        have HH := Lib.hid HR
        clear HR
        replace hge2 := Lib.hid hge2
        replace hnf2 := Lib.hid hnf2
        obtain ⟨z1, z2, z3, z4, z5, z6, z7, z8, z9, z10, z11⟩ := hend.out
        obtain ⟨x1, x2⟩ := hwas.out
        have hok9 := Lib.hid hL2.out.ok
        have hln9 : s9.len ≤ 1000000 := by have := hL2.out.len; omega
        replace hln9 := Lib.hid hln9
        have x3 : ¬ s9.b.was < s.b.was := by omega
        clear hend hwas x1
        by_cases hb : s.b.was < s9.b.was
        case' pos =>
          have hq0 : ¬ 0 < s9.q.bytes := by have := x2 hb; omega
        all_goals
          clear x2
          go_wp2_with fail
          refine (linkCount_c w _ _ b s9 hok9.out hln9.out HH.out).mono ?_
          rintro e w9_ ⟨rfl, H9_⟩
          replace HH := Lib.hid H9_
          clear H9_
          go_wp2_with (with_reducible refine stop_al ?_)
          refine Stop.go ?_
          refine wpList_alloc_own HH.out [.int .u64 0, .int .u64 0, .int .u64 0, .int .u64 0, .int .u64 0, .int .u64 0] (by kernel_rfl) ?_
          intro cb w10_ H9_
          replace HH := Lib.hid H9_
          clear H9_
          go_wp2_with (with_reducible refine stop_st ?_)
          refine Stop.go ?_
          refine wpList_store_own _ #[_, _, _, _, _, _] rfl rfl HH.out (by kernel_rfl) rfl (by repeat (first | (refine List.forall_mem_cons.2 ⟨(by first | with_reducible assumption | rfl), ?_⟩) | exact fun _ h => absurd h List.not_mem_nil)) ?_
          intro w11_ H9_
          replace HH := Lib.hid H9_
          clear H9_
          go_wp2_with fail
          refine (linkTokens_c w _ _ b s9 HH.out.r2).mono ?_
          rintro e w12_ ⟨rfl, H9_⟩
          replace HH := Lib.hid H9_
          clear H9_
          replace HH := Lib.hid ((Own.pm (HH.out) (by repeat (first | with_reducible exact Pm.refl _ | with_reducible exact Pm.nil _ | with_reducible refine Pm.here ?_ | with_reducible refine Pm.at2 ?_ | with_reducible refine Pm.at3 ?_ | with_reducible refine Pm.at4 ?_ | with_reducible refine Pm.at5 ?_ | with_reducible refine Pm.at6 ?_ | with_reducible refine Pm.at7 ?_ | with_reducible refine Pm.at8 ?_ | with_reducible refine Pm.skip ?_))) : Own w _ (pts cb _ :: pts pb _ :: lnk b s9 :: [old w]))
          (try clear cc1_); (try clear cc2_); (try clear cc3_); (try clear cc4_); (try clear cc5_); (try clear cc6_); (try clear cc7_)
          have cc1_ := HH.out.cells
          have cc2_ := HH.out.r2.cells
          go_wp2_with fail
          (try clear cc1_); (try clear cc2_); (try clear cc3_); (try clear cc4_); (try clear cc5_); (try clear cc6_); (try clear cc7_)
          go_wp2_with fail
          refine wp_region_reg none HH.out (by kernel_rfl) ?_
          intro wm H9_
          replace HH := Lib.hid H9_
          clear H9_
          refine reg_p (i := 0) rfl (by kernel_rfl) (fun _ _ _ _ h => h) HH.out (fun K hK => ?_)
          go_simp
          first | (refine hK _ ?_; clear hK K) | (apply Exists.intro; refine ⟨?_, hK _ ?_⟩; (focus (intro wx; first | (go_simp; first | rfl) | rfl)); clear hK K)
          refine mixk_q (i := 1) rfl (by kernel_rfl) (fun _ _ _ _ h => h) HH.out (fun K hK => ?_)
          go_simp
          first | (refine hK _ ?_; clear hK K) | (apply Exists.intro; refine ⟨?_, hK _ ?_⟩; (focus (intro wx hx; have x1_ := hx.cells; have x2_ := hx.r2.cells; first | (first | (go_at_call 47; refine (linkTime_c w wx _ b s9 hx.r3).mono ?_; rintro e wy ⟨rfl, hbel⟩; exact ⟨rfl, (by first | exact Kp.same hbel | exact Kp.drew hbel | exact Kp.below hbel : Kp wx wy)⟩)) | (go_simp; first | rfl | exact ⟨rfl, rfl⟩) | rfl | exact ⟨rfl, rfl⟩)); clear hK K)
          refine reg_p (i := 2) rfl (by kernel_rfl) (fun _ _ _ _ h => h) HH.out (fun K hK => ?_)
          go_simp
          first | (refine hK _ ?_; clear hK K) | (apply Exists.intro; refine ⟨?_, hK _ ?_⟩; (focus (intro wx; first | (go_simp; first | rfl) | rfl)); clear hK K)
          refine reg_p (i := 3) rfl (by kernel_rfl) (fun _ _ _ _ h => h) HH.out (fun K hK => ?_)
          go_simp
          first | (refine hK _ ?_; clear hK K) | (apply Exists.intro; refine ⟨?_, hK _ ?_⟩; (focus (intro wx; first | (go_simp; first | rfl) | rfl)); clear hK K)
          refine reg_p (i := 4) rfl (by kernel_rfl) (fun _ _ _ _ h => h) HH.out (fun K hK => ?_)
          go_simp
          first | (refine hK _ ?_; clear hK K) | (apply Exists.intro; refine ⟨?_, hK _ ?_⟩; (focus (intro wx; first | (go_simp; first | rfl) | rfl)); clear hK K)
          refine reg_p (i := 5) rfl (by kernel_rfl) (fun _ _ _ _ h => h) HH.out (fun K hK => ?_)
          go_simp
          first | (refine hK _ ?_; clear hK K) | (apply Exists.intro; refine ⟨?_, hK _ ?_⟩; (focus (intro wx; first | (go_simp; first | rfl) | rfl)); clear hK K)
          refine reg_p (i := 6) rfl (by kernel_rfl) (fun _ _ _ _ h => h) HH.out (fun K hK => ?_)
          go_simp
          first | (refine hK _ ?_; clear hK K) | (apply Exists.intro; refine ⟨?_, hK _ ?_⟩; (focus (intro wx; first | (go_simp; first | rfl) | rfl)); clear hK K)
          refine reg_p (i := 7) rfl (by kernel_rfl) (fun _ _ _ _ h => h) HH.out (fun K hK => ?_)
          go_simp
          first | (refine hK _ ?_; clear hK K) | (apply Exists.intro; refine ⟨?_, hK _ ?_⟩; (focus (intro wx; first | (go_simp; first | rfl) | rfl)); clear hK K)
          refine mixk_q (i := 8) rfl (by kernel_rfl) (fun _ _ _ _ h => h) HH.out (fun K hK => ?_)
          go_simp
          first | (refine hK _ ?_; clear hK K) | (apply Exists.intro; refine ⟨?_, hK _ ?_⟩; (focus (intro wx hx; have x1_ := hx.cells; have x2_ := hx.r2.cells; first | (first | (go_at_call 47; refine (linkTime_c w wx _ b s9 hx.r3).mono ?_; rintro e wy ⟨rfl, hbel⟩; exact ⟨rfl, (by first | exact Kp.same hbel | exact Kp.drew hbel | exact Kp.below hbel : Kp wx wy)⟩)) | (go_simp; first | rfl | exact ⟨rfl, rfl⟩) | rfl | exact ⟨rfl, rfl⟩)); clear hK K)
          refine reg_p (i := 9) rfl (by kernel_rfl) (fun _ _ _ _ h => h) HH.out (fun K hK => ?_)
          go_simp
          first | (refine hK _ ?_; clear hK K) | (apply Exists.intro; refine ⟨?_, hK _ ?_⟩; (focus (intro wx; first | (go_simp; first | rfl) | rfl)); clear hK K)
          refine mixk_q (i := 10) rfl (by kernel_rfl) (fun _ _ _ _ h => h) HH.out (fun K hK => ?_)
          go_simp
          first | (refine hK _ ?_; clear hK K) | (apply Exists.intro; refine ⟨?_, hK _ ?_⟩; (focus (intro wx hx; have x1_ := hx.cells; have x2_ := hx.r2.cells; first | (first | (go_at_call 47; refine (linkTime_c w wx _ b s9 hx.r3).mono ?_; rintro e wy ⟨rfl, hbel⟩; exact ⟨rfl, (by first | exact Kp.same hbel | exact Kp.drew hbel | exact Kp.below hbel : Kp wx wy)⟩)) | (go_simp; first | rfl | exact ⟨rfl, rfl⟩) | rfl | exact ⟨rfl, rfl⟩)); clear hK K)
          refine reg_p (i := 11) rfl (by kernel_rfl) (fun _ _ _ _ h => h) HH.out (fun K hK => ?_)
          go_simp
          first | (refine hK _ ?_; clear hK K) | (apply Exists.intro; refine ⟨?_, hK _ ?_⟩; (focus (intro wx; first | (go_simp; first | rfl) | rfl)); clear hK K)
          refine reg_p (i := 12) rfl (by kernel_rfl) (fun _ _ _ _ h => h) HH.out (fun K hK => ?_)
          go_simp
          first | (refine hK _ ?_; clear hK K) | (apply Exists.intro; refine ⟨?_, hK _ ?_⟩; (focus (intro wx; first | (go_simp; first | rfl) | rfl)); clear hK K)
          refine mixk_done (by kernel_rfl) (fun w13_ hk => ?_) _
          replace HH := Lib.hid (hk _ _ HH.out)
          clear hk
          have H9 := Lib.hid ((Own.pm (HH.out) (by repeat (first | with_reducible exact Pm.refl _ | with_reducible exact Pm.nil _ | with_reducible refine Pm.here ?_ | with_reducible refine Pm.at2 ?_ | with_reducible refine Pm.at3 ?_ | with_reducible refine Pm.at4 ?_ | with_reducible refine Pm.at5 ?_ | with_reducible refine Pm.at6 ?_ | with_reducible refine Pm.at7 ?_ | with_reducible refine Pm.at8 ?_ | with_reducible refine Pm.skip ?_))) : Own w _ (lnk b s9 :: pts pb _ :: [old w]))
          go_wp2_with fail
          go_roundw
          case rel => exact ⟨k + 1, F, nxt2, s9, by omega, by go_num, rfl, rfl, hL2.out, hge2.out, hnp2, hnf2.out, H9.out⟩
          case measure => simp [intOf]; omega
    · have hkl : k = len := by omega
      clear hA hok hfew hsml hrs hL
      replace HH := Lib.hid ((Own.pm (HH.out) (by repeat (first | with_reducible exact Pm.refl _ | with_reducible exact Pm.nil _ | with_reducible refine Pm.here ?_ | with_reducible refine Pm.at2 ?_ | with_reducible refine Pm.at3 ?_ | with_reducible refine Pm.at4 ?_ | with_reducible refine Pm.at5 ?_ | with_reducible refine Pm.at6 ?_ | with_reducible refine Pm.at7 ?_ | with_reducible refine Pm.at8 ?_ | with_reducible refine Pm.skip ?_))) : Own w _ [old w])
      have q9 := run_eql_cnt0
      go_wp2_with fail
      refine (linkTick_nil _ 0 0 _).mono ?_
      rintro e w14_ ⟨rfl, hbel⟩
      replace HH := Lib.hid ((by first | exact Kp.same hbel | exact Kp.drew hbel | exact Kp.below hbel : Kp _ w14_) _ _ (by first | exact HH.out | exact HH.out.drewN _ | exact (HH.out.alloc _).tail | exact ((HH.out.alloc _).drewN _).tail | exact ((HH.out.alloc _).alloc _).tail.tail))
      clear hbel
      go_wp2_with fail
      refine (linkTokens_nil _).mono ?_
      rintro e w15_ ⟨rfl, hbel⟩
      replace HH := Lib.hid ((by first | exact Kp.same hbel | exact Kp.drew hbel | exact Kp.below hbel : Kp _ w15_) _ _ (by first | exact HH.out | exact HH.out.drewN _ | exact (HH.out.alloc _).tail | exact ((HH.out.alloc _).drewN _).tail | exact ((HH.out.alloc _).alloc _).tail.tail))
      clear hbel
      go_wp2_with fail
      refine (linkNext_nil _).mono ?_
      rintro e w16_ ⟨rfl, hbel⟩
      replace HH := Lib.hid ((by first | exact Kp.same hbel | exact Kp.drew hbel | exact Kp.below hbel : Kp _ w16_) _ _ (by first | exact HH.out | exact HH.out.drewN _ | exact (HH.out.alloc _).tail | exact ((HH.out.alloc _).drewN _).tail | exact ((HH.out.alloc _).alloc _).tail.tail))
      clear hbel
      go_wp2_with fail
      refine (alive21_k _).mono ?_
      rintro e w17_ ⟨rfl, hbel⟩
      replace HH := Lib.hid ((by first | exact Kp.same hbel | exact Kp.drew hbel | exact Kp.below hbel : Kp _ w17_) _ _ (by first | exact HH.out | exact HH.out.drewN _ | exact (HH.out.alloc _).tail | exact ((HH.out.alloc _).drewN _).tail | exact ((HH.out.alloc _).alloc _).tail.tail))
      clear hbel
      replace HH := Lib.hid (HH.out.alloc (.cells #[.int .u64 0, .int .u64 1, .int .u64 0, .int .u64 0, .int .u64 0, .int .u64 0, .bool false] 42))
      go_wp2_with fail
      refine (linkSend_nil _ _).mono ?_
      rintro e w18_ ⟨rfl, hbel⟩
      replace HH := Lib.hid ((by first | exact Kp.same hbel | exact Kp.drew hbel | exact Kp.below hbel : Kp _ w18_) _ _ (by first | exact HH.out | exact HH.out.drewN _ | exact (HH.out.alloc _).tail | exact ((HH.out.alloc _).drewN _).tail | exact ((HH.out.alloc _).alloc _).tail.tail))
      clear hbel
      go_wp2_with fail
      refine (linkTime_nil _).mono ?_
      rintro e w19_ ⟨rfl, hbel⟩
      replace HH := Lib.hid ((by first | exact Kp.same hbel | exact Kp.drew hbel | exact Kp.below hbel : Kp _ w19_) _ _ (by first | exact HH.out | exact HH.out.drewN _ | exact (HH.out.alloc _).tail | exact ((HH.out.alloc _).drewN _).tail | exact ((HH.out.alloc _).alloc _).tail.tail))
      clear hbel
      go_wp2_with fail
      refine (linkCount_nil w _ _ HH.out).mono ?_
      rintro e w20_ ⟨rfl, H9_⟩
      replace HH := Lib.hid H9_
      clear H9_
      go_wp2_with fail
      go_ret
      exact ⟨rfl, (Own.pm (HH.out) (by repeat (first | with_reducible exact Pm.refl _ | with_reducible exact Pm.nil _ | with_reducible refine Pm.here ?_ | with_reducible refine Pm.at2 ?_ | with_reducible refine Pm.at3 ?_ | with_reducible refine Pm.at4 ?_ | with_reducible refine Pm.at5 ?_ | with_reducible refine Pm.at6 ?_ | with_reducible refine Pm.at7 ?_ | with_reducible refine Pm.at8 ?_ | with_reducible refine Pm.skip ?_)))⟩
end
end Go.Proofs.Ytklohjjkpobneaa
