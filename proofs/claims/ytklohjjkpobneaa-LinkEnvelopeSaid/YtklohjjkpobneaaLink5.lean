/- link: LinkWait. -/
import Derived.Test.YtklohjjkpobneaaLink4
namespace Go.Proofs.Ytklohjjkpobneaa
open Go.RowKit
/-- What the end of the acts leaves. -/
theorem LRel.final {rate delay jit buf : Int} {k frm : Nat} {s : Lnk} (h : LRel rate delay jit buf k frm s) (hk : k ≤ 60) (hr : k = 0 ∨ rate ≤ 1048576) (h1 : 1 ≤ rate) (h5 : U buf) :
    0 ≤ s.q.bytes ∧ s.q.bytes ≤ 8796093022208 ∧ s.q.bytes ≤ buf ∧ 0 ≤ s.now ∧ s.now ≤ 68719476736 ∧ waitOf rate s.q.bytes ≤ 9223372036854775807 ∧ s.served + s.q.bytes ≤ 9223372036854775807 ∧
    ∀ l : List Pk, (∀ p ∈ l, p.Ok) → s.served + s.q.bytes ≤ ((s.send l).1.tick ((s.send l).1.now + waitOf rate s.q.bytes) 0 []).served := by
  have hq0 : 0 ≤ s.q.bytes := by rw [h.ok.q.sum]; exact psum_nonneg h.ok.q.all
  have hn0 := h.ok.now.1
  rcases hr with h0 | hr
  · have e := h.zero h0
    subst e
    have hq : (Lnk.new rate delay jit buf).q.bytes = 0 := rfl
    have hs : (Lnk.new rate delay jit buf).served = 0 := rfl
    have hn : (Lnk.new rate delay jit buf).now = 0 := rfl
    have hw : waitOf rate 0 = 0 := by unfold waitOf; rw [Int.zero_mul, Int.zero_add]; exact Int.ediv_eq_zero_of_lt (by omega) (by omega)
    rw [hq, hs, hn, hw]
    refine ⟨by omega, by omega, h5.1, by omega, by omega, by omega, by omega, fun l hl => ?_⟩
    have hok := Lnk.ok_send h.ok hl
    exact (Lnk.ok_tick (t := ((Lnk.new rate delay jit buf).send l).1.now + 0) (w := 0) (ch := []) hok (by rw [Int.add_zero]; exact hok.now) U_zero (by simp)).served.1
  · have hI := (h.inv hr).mono (t' := 64424509440) (c' := 3865470566400) (by omega) (by omega)
    obtain ⟨b1, b2, b3, b4, b5, b6, b7, b8⟩ := hI.bounds
    have hce := hI.came
    have hcl := hI.cle
    have hn := hI.now
    have hf := h.ok.q.fits
    rw [hI.room] at hf
    obtain ⟨w1, w2⟩ := wait_le h1 hq0
    have w0 := wait_nonneg h1 hq0
    have hw : waitOf rate s.q.bytes ≤ rate * waitOf rate s.q.bytes := by
      have := Int.mul_le_mul_of_nonneg_right h1 w0
      rw [Int.one_mul] at this; exact this
    exact ⟨hq0, by omega, hf, hn0, by omega, by omega, by omega, fun l hl => hI.wait (by omega) (by omega) hl⟩
theorem rate_small {acts : List LAct} {rate : Int} (h : ∀ a ∈ acts, a.small ∧ rate ≤ 1048576) : acts.length = 0 ∨ rate ≤ 1048576 := by
  cases acts with
  | nil => exact .inl rfl
  | cons a l => exact .inr (h a (List.mem_cons_self ..)).2
section
variable (w : World)
set_option maxRecDepth 100000 in
set_option maxHeartbeats 12800000 in
theorem linkWait_c (cs : Array Value) (_hz : cs.size = 4) (pt : PathT) (hp : rdPath w cs.toList pt) (A : Option Addr) (len cap : Nat) (xs : List LActT) (hr : rdSlice rdLAct 5 w [.slice A len cap] xs) (A' : Option Addr) (len' cap' : Nat) (more : List Int) (hr' : rdSlice (rdInt .u64) 1 w [.slice A' len' cap'] more) :
    Calls Try.prog 7 #[.agg cs, .slice A len cap, .slice A' len' cap'] w fun e w' => e = .returned (.bool true) ∧ Own w w' [old w] := by
  have HH := Lib.hid (Own.init w)
  obtain ⟨p1, p2, p3, p4, _⟩ := pt
  obtain ⟨hcs, u1, u2, u3, u4⟩ := rdPath_open hp
  simp only at hcs u1 u2 u3 u4
  have hcs := arr_of_list hcs
  subst hcs
  clear hp _hz
  obtain ⟨hA, hm, hok⟩ := lacts_rd hr
  obtain ⟨hB, hm', hcap', hmU⟩ := rdNs hr'
  clear hr hr'
  generalize xs.map LActT.a = acts at hA hok
  have hln := hA.1
  obtain rfl : len' = more.length := hB.1.symm
  replace hA := Lib.hid hA
  replace hok := Lib.hid hok
  replace hB := Lib.hid hB
  replace hmU := Lib.hid hmU
  replace u1 := Lib.hid u1
  replace u2 := Lib.hid u2
  replace u3 := Lib.hid u3
  replace u4 := Lib.hid u4
  obtain ⟨rt, hrt⟩ : ∃ rt, rightB p1 p2 p3 p4 = rt := ⟨_, rfl⟩
  replace hrt := Lib.hid hrt
  go_enter Try.func7, Try.ntmps7
  go_wp2_with (with_reducible refine stop_bx ?_)
  refine Stop.go ?_
  refine wpList_box_own HH.out [_, _, _, _] rfl ?_
  intro pb w1_ H9_
  replace HH := Lib.hid H9_
  clear H9_
  go_wp2_with fail
  refine (fits21_c _ A len cap acts hm (hA.out.old (Own.pm (HH.out) (by repeat (first | with_reducible exact Pm.refl _ | with_reducible exact Pm.nil _ | with_reducible refine Pm.here ?_ | with_reducible refine Pm.at2 ?_ | with_reducible refine Pm.at3 ?_ | with_reducible refine Pm.at4 ?_ | with_reducible refine Pm.at5 ?_ | with_reducible refine Pm.at6 ?_ | with_reducible refine Pm.at7 ?_ | with_reducible refine Pm.at8 ?_ | with_reducible refine Pm.skip ?_))))).mono ?_
  rintro e w9 ⟨bl, rfl, rfl, hfit⟩
  replace hfit := Lib.hid hfit
  (try clear cc1_); (try clear cc2_); (try clear cc3_); (try clear cc4_); (try clear cc5_); (try clear cc6_); (try clear cc7_)
  have cc1_ := HH.out.cells
  go_wp2_with fail
  refine (right18_c w _ _ p1 p2 p3 p4 HH.out).mono ?_
  rw [hrt.out]
  rintro e w2_ ⟨rfl, H9_⟩
  replace HH := Lib.hid H9_
  clear H9_
  (try clear cc1_); (try clear cc2_); (try clear cc3_); (try clear cc4_); (try clear cc5_); (try clear cc6_); (try clear cc7_)
  have cc1_ := HH.out.cells
  go_wp2_with fail
  refine (small21_c w _ _ p1 p2 p3 p4 A len cap acts hm (fun wx Hx => hA.out.old (Own.pm (Hx) (by repeat (first | with_reducible exact Pm.refl _ | with_reducible exact Pm.nil _ | with_reducible refine Pm.here ?_ | with_reducible refine Pm.at2 ?_ | with_reducible refine Pm.at3 ?_ | with_reducible refine Pm.at4 ?_ | with_reducible refine Pm.at5 ?_ | with_reducible refine Pm.at6 ?_ | with_reducible refine Pm.at7 ?_ | with_reducible refine Pm.at8 ?_ | with_reducible refine Pm.skip ?_)))) HH.out).mono ?_
  rintro e w8 ⟨sm, rfl, H9, hsm⟩
  replace HH := Lib.hid H9
  clear H9
  replace hsm := Lib.hid hsm
  (try clear cc1_); (try clear cc2_); (try clear cc3_); (try clear cc4_); (try clear cc5_); (try clear cc6_); (try clear cc7_)
  by_cases hgo : bl = true ∧ rt = true ∧ sm = true ∧ more.length ≤ 60
  case' neg =>
    cases bl
    case' true =>
      cases rt
      case' true =>
        cases sm
        case' true =>
          have hgo2 : ¬ (more.length : Int) ≤ 60 := by intro h; exact hgo ⟨rfl, rfl, rfl, by omega⟩
    all_goals
      replace hgo := Lib.hid hgo
      go_wp2_with fail
      refine (alive21_k _).mono ?_
      rintro e w3_ ⟨rfl, hbel⟩
      replace HH := Lib.hid ((by first | exact Kp.same hbel | exact Kp.drew hbel | exact Kp.below hbel : Kp _ w3_) _ _ (by first | exact HH.out | exact HH.out.drewN _ | exact (HH.out.alloc _).tail | exact ((HH.out.alloc _).drewN _).tail | exact ((HH.out.alloc _).alloc _).tail.tail))
      clear hbel
      go_wp2_with fail
      go_ret
      exact ⟨rfl, (Own.pm (HH.out) (by repeat (first | with_reducible exact Pm.refl _ | with_reducible exact Pm.nil _ | with_reducible refine Pm.here ?_ | with_reducible refine Pm.at2 ?_ | with_reducible refine Pm.at3 ?_ | with_reducible refine Pm.at4 ?_ | with_reducible refine Pm.at5 ?_ | with_reducible refine Pm.at6 ?_ | with_reducible refine Pm.at7 ?_ | with_reducible refine Pm.at8 ?_ | with_reducible refine Pm.skip ?_)))⟩
  obtain ⟨rfl, rfl, rfl, hl60⟩ := hgo
  obtain ⟨hlen60, hfew⟩ := hfit.out rfl
  have hsml := hsm.out rfl
  have hrs := rate_small hsml
  clear hfit hsm
  rw [hln] at hlen60 hrs
  have h1r : 1 ≤ p1 := by have := hrt.out; unfold rightB at this; simp only [Bool.and_eq_true, decide_eq_true_eq] at this; exact this.1.1.1.1
  have hr40 : p1 ≤ 1099511627776 := by have := hrt.out; unfold rightB at this; simp only [Bool.and_eq_true, decide_eq_true_eq] at this; exact this.1.1.1.2
  replace hfew := Lib.hid hfew
  replace hsml := Lib.hid hsml
  replace hrs := Lib.hid hrs
  have hl60' : ¬ (60 : Int) < (more.length : Int) := by omega
  (try clear cc1_); (try clear cc2_); (try clear cc3_); (try clear cc4_); (try clear cc5_); (try clear cc6_); (try clear cc7_)
  have cc1_ := HH.out.cells
  go_wp2_with fail
  refine (linkNew_c w _ _ p1 p2 p3 p4 hrt.out HH.out).mono ?_
  rintro e w4_ ⟨b, rfl, H9_⟩
  replace HH := Lib.hid H9_
  clear H9_
  clear hrt
  (try clear cc1_); (try clear cc2_); (try clear cc3_); (try clear cc4_); (try clear cc5_); (try clear cc6_); (try clear cc7_)
  go_wp2_with fail
  go_loopw [12, 13] (fun fr i wr => ∃ (k frm : Nat) (s : Lnk), k ≤ len ∧ i = .int .i64 k ∧ fr = .int .i64 frm ∧ LRel p1 p2 p3 p4 k frm s ∧ Own w wr (lnk b s :: pts pb (.cells #[.int .u64 p1, .int .u64 p2, .int .u64 p3, .int .u64 p4] 78 (0, 0)) :: [old w])) (fun _ i _ => len - (intOf i).toNat)
  case atStart => exact ⟨0, 0, Lnk.new p1 p2 p3 p4, Nat.zero_le _, rfl, rfl, LRel.new h1r u1.out u2.out u3.out u4.out, HH.out⟩
  case round =>
    clear HH
    obtain ⟨k, frm, s, hk, rfl, rfl, hL, HR⟩ := hrel
    have HH := Lib.hid HR
    clear HR
    have hfw := hL.few
    have hso := Lib.hid hL.ok
    have hsl : s.len ≤ 3600 := by have := hL.len; omega
    by_cases hlt : k < len
    · have hrr : p1 ≤ 1048576 := by rcases hrs.out with h | h <;> omega
      obtain ⟨a, hka, hmem, ab, off, As, ns, cs, Ac, nc, cc, rfl, c0, c1, c2, c3, c4, g1, g2, g3, g4, g5⟩ := hA.out.get hlt
      have hao := hok.out a hmem
      have hL2 := hL.act (by omega) hao (hfew.out a hmem) (hsml.out a hmem).1 hrr
      have hafew := (hfew.out a hmem).1
      obtain rfl : ns = a.sizes.length := g1.1.symm
      have hasm := (hsml.out a hmem).1.1
      have hnn := (hL.inv hrr).now
      have hwn : IntKind.u64.wrap (s.now + a.after) = s.now + a.after := by have h3 := hao.1; have h4 := hso.out.now; unfold U at h3 h4; rw [IntKind.wrap_u64]; omega
      have htU : U (s.now + a.after) := by have h3 := hao.1; have h4 := hso.out.now; unfold U at *; omega
      have hle : s.now ≤ s.now + a.after := by have h3 := hao.1.1; omega
      obtain ⟨_, v2, v3, v4⟩ := hao
      clear hka hmem hasm hnn hL
      obtain ⟨tk, sz, af, ws, ch⟩ := a
      simp only at c0 c1 c2 c3 c4 g1 g2 g3 hafew hwn htU hle v2 v3 v4
      replace g1 := Lib.hid g1
      replace g2 := Lib.hid g2
      replace htU := Lib.hid htU
      replace hle := Lib.hid hle
      replace v2 := Lib.hid v2
      replace v3 := Lib.hid v3
      replace v4 := Lib.hid v4
      replace hL2 := Lib.hid hL2
      have o0 := ((Own.pm (HH.out) (by repeat (first | with_reducible exact Pm.refl _ | with_reducible exact Pm.nil _ | with_reducible refine Pm.here ?_ | with_reducible refine Pm.at2 ?_ | with_reducible refine Pm.at3 ?_ | with_reducible refine Pm.at4 ?_ | with_reducible refine Pm.at5 ?_ | with_reducible refine Pm.at6 ?_ | with_reducible refine Pm.at7 ?_ | with_reducible refine Pm.at8 ?_ | with_reducible refine Pm.skip ?_))) : Own w _ [old w]).old_cell c0
      cases tk with
      | true =>
        go_wp2_with fail
        clear o0
        go_wp2_with fail
        refine wp_region_reg (some 19) HH.out (by kernel_rfl) ?_
        intro wm H9_
        replace HH := Lib.hid H9_
        clear H9_
        refine reg_p (i := 0) rfl (by kernel_rfl) (fun _ _ _ _ h => h) HH.out (fun K hK => ?_)
        go_simp
        first | (refine hK _ ?_; clear hK K) | (apply Exists.intro; refine ⟨?_, hK _ ?_⟩; (focus (intro wx; first | (go_simp; first | rfl) | rfl)); clear hK K)
        refine reg_p (i := 1) rfl (by kernel_rfl) (fun _ _ _ _ h => h) HH.out (fun K hK => ?_)
        go_simp
        first | (refine hK _ ?_; clear hK K) | (apply Exists.intro; refine ⟨?_, hK _ ?_⟩; (focus (intro wx; first | (go_simp; first | rfl) | rfl)); clear hK K)
        refine mixk_q (i := 2) rfl (by kernel_rfl) (fun _ _ _ _ h => h) HH.out (fun K hK => ?_)
        go_simp
        first | (refine hK _ ?_; clear hK K) | (apply Exists.intro; refine ⟨?_, hK _ ?_⟩; (focus (intro wx hx; have y2_ := hx.r3.old_cell c2; have y3_ := hx.r3.old_cell c3; have y4_ := hx.r3.old_cell c4; first | (first | (go_at_call 47; refine (linkTime_c w wx _ b s hx).mono ?_; rintro e wy ⟨rfl, hbel⟩; exact ⟨rfl, (by first | exact Kp.same hbel | exact Kp.drew hbel | exact Kp.below hbel : Kp wx wy)⟩)) | (go_simp; first | rfl | exact ⟨rfl, rfl⟩) | rfl | exact ⟨rfl, rfl⟩)); clear hK K)
        refine reg_p (i := 3) rfl (by kernel_rfl) (fun _ _ _ _ h => h) HH.out (fun K hK => ?_)
        go_simp
        first | (refine hK _ ?_; clear hK K) | (apply Exists.intro; refine ⟨?_, hK _ ?_⟩; (focus (intro wx; first | (go_simp; first | rfl) | rfl)); clear hK K)
        refine reg_p (i := 4) rfl (by kernel_rfl) (fun _ _ _ _ h => h) HH.out (fun K hK => ?_)
        go_simp
        first | (refine hK _ ?_; clear hK K) | (apply Exists.intro; refine ⟨?_, hK _ ?_⟩; (focus (intro wx; first | (go_simp; first | rfl) | rfl)); clear hK K)
        refine reg_p (i := 5) rfl (by kernel_rfl) (fun _ _ _ _ h => h) HH.out (fun K hK => ?_)
        go_simp
        first | (refine hK _ ?_; clear hK K) | (apply Exists.intro; refine ⟨?_, hK _ ?_⟩; (focus (intro wx; first | (go_simp; first | rfl) | rfl)); clear hK K)
        refine reg_p (i := 6) rfl (by kernel_rfl) (fun _ _ _ _ h => h) HH.out (fun K hK => ?_)
        go_simp
        first | (refine hK _ ?_; clear hK K) | (apply Exists.intro; refine ⟨?_, hK _ ?_⟩; (focus (intro wx; first | (go_simp; first | rfl) | rfl)); clear hK K)
        refine mixk_q (i := 7) rfl (by kernel_rfl) (fun _ _ _ _ h => h) HH.out (fun K hK => ?_)
        go_simp
        first | (refine hK _ ?_; clear hK K) | (apply Exists.intro; refine ⟨?_, hK _ ?_⟩; (focus (intro wx hx; have y2_ := hx.r3.old_cell c2; have y3_ := hx.r3.old_cell c3; have y4_ := hx.r3.old_cell c4; first | (first | (go_at_call 47; refine (linkTime_c w wx _ b s hx).mono ?_; rintro e wy ⟨rfl, hbel⟩; exact ⟨rfl, (by first | exact Kp.same hbel | exact Kp.drew hbel | exact Kp.below hbel : Kp wx wy)⟩)) | (go_simp; first | rfl | exact ⟨rfl, rfl⟩) | rfl | exact ⟨rfl, rfl⟩)); clear hK K)
        refine reg_p (i := 8) rfl (by kernel_rfl) (fun _ _ _ _ h => h) HH.out (fun K hK => ?_)
        go_simp
        first | (refine hK _ ?_; clear hK K) | (apply Exists.intro; refine ⟨?_, hK _ ?_⟩; (focus (intro wx; first | (go_simp; first | rfl) | rfl)); clear hK K)
        refine reg_p (i := 9) rfl (by kernel_rfl) (fun _ _ _ _ h => h) HH.out (fun K hK => ?_)
        go_simp
        first | (refine hK _ ?_; clear hK K) | (apply Exists.intro; refine ⟨?_, hK _ ?_⟩; (focus (intro wx; first | (go_simp; first | rfl) | rfl)); clear hK K)
        refine reg_p (i := 10) rfl (by kernel_rfl) (fun _ _ _ _ h => h) HH.out (fun K hK => ?_)
        go_simp
        first | (refine hK _ ?_; clear hK K) | (apply Exists.intro; refine ⟨?_, hK _ ?_⟩; (focus (intro wx; first | (go_simp; first | rfl) | rfl)); clear hK K)
        refine reg_p (i := 11) rfl (by kernel_rfl) (fun _ _ _ _ h => h) HH.out (fun K hK => ?_)
        go_simp
        first | (refine hK _ ?_; clear hK K) | (apply Exists.intro; refine ⟨?_, hK _ ?_⟩; (focus (intro wx; first | (go_simp; first | rfl) | rfl)); clear hK K)
        refine reg_p (i := 12) rfl (by kernel_rfl) (fun _ _ _ _ h => h) HH.out (fun K hK => ?_)
        go_simp
        first | (refine hK _ ?_; clear hK K) | (apply Exists.intro; refine ⟨?_, hK _ ?_⟩; (focus (intro wx; first | (go_simp; first | rfl) | rfl)); clear hK K)
        refine mixk_q (i := 13) rfl (by kernel_rfl) (fun _ _ _ _ h => h) HH.out (fun K hK => ?_)
        go_simp
        first | (refine hK _ ?_; clear hK K) | (apply Exists.intro; refine ⟨?_, hK _ ?_⟩; (focus (intro wx hx; have y2_ := hx.r3.old_cell c2; have y3_ := hx.r3.old_cell c3; have y4_ := hx.r3.old_cell c4; first | (first | (go_at_call 47; refine (linkTime_c w wx _ b s hx).mono ?_; rintro e wy ⟨rfl, hbel⟩; exact ⟨rfl, (by first | exact Kp.same hbel | exact Kp.drew hbel | exact Kp.below hbel : Kp wx wy)⟩)) | (go_simp; first | rfl | exact ⟨rfl, rfl⟩) | rfl | exact ⟨rfl, rfl⟩)); clear hK K)
        refine reg_p (i := 14) rfl (by kernel_rfl) (fun _ _ _ _ h => h) HH.out (fun K hK => ?_)
        go_simp
        first | (refine hK _ ?_; clear hK K) | (apply Exists.intro; refine ⟨?_, hK _ ?_⟩; (focus (intro wx; first | (go_simp; first | rfl) | rfl)); clear hK K)
        refine reg_p (i := 15) rfl (by kernel_rfl) (fun _ _ _ _ h => h) HH.out (fun K hK => ?_)
        go_simp
        first | (refine hK _ ?_; clear hK K) | (apply Exists.intro; refine ⟨?_, hK _ ?_⟩; (focus (intro wx; first | (go_simp; first | rfl) | rfl)); clear hK K)
        refine reg_p (i := 16) rfl (by kernel_rfl) (fun _ _ _ _ h => h) HH.out (fun K hK => ?_)
        go_simp
        first | (refine hK _ ?_; clear hK K) | (apply Exists.intro; refine ⟨?_, hK _ ?_⟩; (focus (intro wx; first | (go_simp; first | rfl) | rfl)); clear hK K)
        refine reg_p (i := 17) rfl (by kernel_rfl) (fun _ _ _ _ h => h) HH.out (fun K hK => ?_)
        go_simp
        first | (refine hK _ ?_; clear hK K) | (apply Exists.intro; refine ⟨?_, hK _ ?_⟩; (focus (intro wx; first | (go_simp; first | rfl) | rfl)); clear hK K)
        refine mixk_q (i := 18) rfl (by kernel_rfl) (fun _ _ _ _ h => h) HH.out (fun K hK => ?_)
        go_simp
        first | (refine hK _ ?_; clear hK K) | (apply Exists.intro; refine ⟨?_, hK _ ?_⟩; (focus (intro wx hx; have y2_ := hx.r3.old_cell c2; have y3_ := hx.r3.old_cell c3; have y4_ := hx.r3.old_cell c4; first | (first | (go_at_call 47; refine (linkTime_c w wx _ b s hx).mono ?_; rintro e wy ⟨rfl, hbel⟩; exact ⟨rfl, (by first | exact Kp.same hbel | exact Kp.drew hbel | exact Kp.below hbel : Kp wx wy)⟩)) | (go_simp; first | rfl | exact ⟨rfl, rfl⟩) | rfl | exact ⟨rfl, rfl⟩)); clear hK K)
        refine reg_l none (i := 19) rfl (by kernel_rfl) (fun wn hk K hK => ?_)
        replace HH := Lib.hid (hk _ _ HH.out)
        clear hk
        go_simp
        refine (linkTick_c w wn _ b 0 s hso.out (s.now + af) ws htU.out v2.out hle.out Ac nc cc ch v4.out g4 g5 (fun wx Hx => g2.out.old (Own.pm (Hx) (by repeat (first | with_reducible exact Pm.refl _ | with_reducible exact Pm.nil _ | with_reducible refine Pm.here ?_ | with_reducible refine Pm.at2 ?_ | with_reducible refine Pm.at3 ?_ | with_reducible refine Pm.at4 ?_ | with_reducible refine Pm.at5 ?_ | with_reducible refine Pm.at6 ?_ | with_reducible refine Pm.at7 ?_ | with_reducible refine Pm.at8 ?_ | with_reducible refine Pm.skip ?_)))) (by omega) HH.out).mono ?_
        rintro e wm ⟨v, rfl, H9_⟩
        replace HH := Lib.hid H9_
        clear H9_
        refine hK _ _ _ HH.out (.inl (by kernel_rfl)) ?_
        clear hK K
        refine mixk_done (by kernel_rfl) (fun w5_ hk => ?_) _
        replace HH := Lib.hid (hk _ _ HH.out)
        clear hk
        go_wp2_with fail
        have H9 := Lib.hid ((Own.pm (HH.out) (by repeat (first | with_reducible exact Pm.refl _ | with_reducible exact Pm.nil _ | with_reducible refine Pm.here ?_ | with_reducible refine Pm.at2 ?_ | with_reducible refine Pm.at3 ?_ | with_reducible refine Pm.at4 ?_ | with_reducible refine Pm.at5 ?_ | with_reducible refine Pm.at6 ?_ | with_reducible refine Pm.at7 ?_ | with_reducible refine Pm.at8 ?_ | with_reducible refine Pm.skip ?_))) : Own w _ (lnk b (s.tick (s.now + af) ws ch) :: pts pb _ :: [old w]))
        go_roundw
        case rel => exact ⟨k + 1, _, _, by omega, by go_num, rfl, hL2.out, H9.out⟩
        case measure => simp [intOf]; omega
      | false =>
        have o1 := ((Own.pm (HH.out) (by repeat (first | with_reducible exact Pm.refl _ | with_reducible exact Pm.nil _ | with_reducible refine Pm.here ?_ | with_reducible refine Pm.at2 ?_ | with_reducible refine Pm.at3 ?_ | with_reducible refine Pm.at4 ?_ | with_reducible refine Pm.at5 ?_ | with_reducible refine Pm.at6 ?_ | with_reducible refine Pm.at7 ?_ | with_reducible refine Pm.at8 ?_ | with_reducible refine Pm.skip ?_))) : Own w _ [old w]).old_cell c1
        go_wp2_with fail
        refine (packets21_c w _ _ frm As sz.length cs sz (fun wx Hx => g1.out.old (Own.pm (Hx) (by repeat (first | with_reducible exact Pm.refl _ | with_reducible exact Pm.nil _ | with_reducible refine Pm.here ?_ | with_reducible refine Pm.at2 ?_ | with_reducible refine Pm.at3 ?_ | with_reducible refine Pm.at4 ?_ | with_reducible refine Pm.at5 ?_ | with_reducible refine Pm.at6 ?_ | with_reducible refine Pm.at7 ?_ | with_reducible refine Pm.at8 ?_ | with_reducible refine Pm.skip ?_)))) (by omega) HH.out).mono ?_
        rintro e w6_ ⟨v, rfl, H9_⟩
        replace HH := Lib.hid H9_
        clear H9_
        obtain ⟨A1, n1, d1, rfl, _, _, hpk⟩ := HH.out.slcP_val
        obtain rfl : n1 = sz.length := by rw [← hpk.1, mkPks_len]
        clear hpk o0 o1
        have hwf : IntKind.i64.wrap ((frm : Int) + (sz.length : Int)) = (frm : Int) + (sz.length : Int) := by rw [IntKind.wrap_i64]; omega
        have hpo := Lib.hid (mkPks_ok (f := frm) (l := sz) (by omega) v3.out)
        replace HH := Lib.hid ((Own.pm (HH.out) (by repeat (first | with_reducible exact Pm.refl _ | with_reducible exact Pm.nil _ | with_reducible refine Pm.here ?_ | with_reducible refine Pm.at2 ?_ | with_reducible refine Pm.at3 ?_ | with_reducible refine Pm.at4 ?_ | with_reducible refine Pm.at5 ?_ | with_reducible refine Pm.at6 ?_ | with_reducible refine Pm.at7 ?_ | with_reducible refine Pm.at8 ?_ | with_reducible refine Pm.skip ?_))) : Own w _ (lnk b s :: slcP (.slice A1 sz.length d1) (mkPks frm sz) :: pts pb _ :: [old w]))
        go_wp2_with fail
        refine (linkSend_c w _ _ b s hso.out A1 sz.length d1 (mkPks frm sz) hpo.out (fun wx Hx => by obtain ⟨_, _, _, e, _, _, h⟩ := Hx.slcP_val; cases e; exact h) (by omega) HH.out).mono ?_
        rintro e w7_ ⟨rfl, H9_⟩
        replace HH := Lib.hid H9_
        clear H9_
        go_wp2_with fail
        have H9 := Lib.hid ((Own.pm (HH.out) (by repeat (first | with_reducible exact Pm.refl _ | with_reducible exact Pm.nil _ | with_reducible refine Pm.here ?_ | with_reducible refine Pm.at2 ?_ | with_reducible refine Pm.at3 ?_ | with_reducible refine Pm.at4 ?_ | with_reducible refine Pm.at5 ?_ | with_reducible refine Pm.at6 ?_ | with_reducible refine Pm.at7 ?_ | with_reducible refine Pm.at8 ?_ | with_reducible refine Pm.skip ?_))) : Own w _ (lnk b (s.send (mkPks frm sz)).1 :: pts pb _ :: [old w]))
        go_roundw
        case rel => exact ⟨k + 1, frm + sz.length, _, by omega, by go_num, by go_num, hL2.out, H9.out⟩
        case measure => simp [intOf]; omega
    · have hkl : k = len := by omega
      subst hkl
      obtain ⟨f1, f2, f3, f4, f5, f6, f7, f8⟩ := hL.final hlen60 hrs.out h1r u4.out
      have hfl := wait_full h1r u1.out f1 f3 f2 u4.out
      have f0 := wait_nonneg h1r f1
      have hp1r : p1 ≤ 1099511627776 := hr40
      have hfr : frm + more.length ≤ 1000000 := by omega
      have hsl2 : s.len + more.length ≤ 1000000 := by omega
      clear hA hok hfew hsml hrs hL
      have hdv : (s.q.bytes * 1000000 + p1 - 1).tdiv p1 = waitOf p1 s.q.bytes := by unfold waitOf; exact Int.tdiv_eq_ediv_of_nonneg (by omega)
      obtain ⟨wt, hwt⟩ : ∃ wt, waitOf p1 s.q.bytes = wt := ⟨_, rfl⟩
      rw [hwt] at f0 f6 f8 hfl hdv
      have hp1U := u1.out
      have hso' := hso.out
      obtain ⟨qb, hqb⟩ : ∃ qb, s.q.bytes = qb := ⟨_, rfl⟩
      obtain ⟨sv, hsv⟩ : ∃ sv, s.served = sv := ⟨_, rfl⟩
      have hsv0 := hso'.served.1
      rw [hqb] at f1 f2 f7 f8 hdv
      rw [hsv] at f7 f8 hsv0
      have q0 : ¬ p1 = 0 := by omega
      have q1 : IntKind.u64.wrap (qb * 1000000) = qb * 1000000 := by rw [IntKind.wrap_u64]; omega
      have q2 : IntKind.u64.wrap (qb * 1000000 + p1) = qb * 1000000 + p1 := by have hp2 := hp1r; rw [IntKind.wrap_u64]; omega
      have q3 : IntKind.u64.wrap (qb * 1000000 + p1 - 1) = qb * 1000000 + p1 - 1 := by have hp2 := hp1r; rw [IntKind.wrap_u64]; omega
      have q4 : IntKind.u64.wrap wt = wt := by rw [IntKind.wrap_u64]; omega
      have q5 : IntKind.u64.wrap (sv + qb) = sv + qb := by rw [IntKind.wrap_u64]; omega
      have hmo := mkPks_ok (f := frm) (l := more) (by omega) hmU.out
      have hkp : (s.send (mkPks frm more)).1.now = s.now := (sendF_keep (s, 0) (mkPks frm more)).choose_spec.2.2.2
      have hok1 := Lnk.ok_send hso' hmo
      have hln1 := sendF_len (s, 0) (mkPks frm more)
      rw [mkPks_len] at hln1
      have hln2 : (s.send (mkPks frm more)).1.len ≤ 1000000 := by unfold Lnk.send; simp only at hln1; omega
      have hsrv := f8 _ hmo
      have hsd : ∃ s1 m1, s.send (mkPks frm more) = (s1, m1) := ⟨_, _, rfl⟩
      obtain ⟨s1, m1, hs1⟩ := hsd
      rw [hs1] at hkp hok1 hln2 hsrv
      simp only at hkp hok1 hln2 hsrv
      have hwU : U (s1.now + wt) := ⟨by omega, by omega⟩
      have q6 : IntKind.u64.wrap (s1.now + wt) = s1.now + wt := by rw [IntKind.wrap_u64]; omega
      have hle1 : s1.now ≤ s1.now + wt := by omega
      have hok2 := Lnk.ok_tick (t := s1.now + wt) (w := 0) (ch := []) hok1 hwU U_zero (by simp)
      have hln3 := Nat.le_trans (Lnk.len_tick s1 (s1.now + wt) 0 []) hln2
      obtain ⟨s2, hs2⟩ : ∃ s2, s1.tick (s1.now + wt) 0 [] = s2 := ⟨_, rfl⟩
      rw [hs2] at hsrv hok2 hln3
      clear f0 f1 f2 f3 f4 f5 f6 f7 f8 hsv0 hp1U hln1 hkp hwt hfw hlt hk
      replace hso' := Lib.hid hso'
      replace hqb := Lib.hid hqb
      replace hsv := Lib.hid hsv
      replace hmo := Lib.hid hmo
      replace hok1 := Lib.hid hok1
      replace hln2 := Lib.hid hln2
      replace hs1 := Lib.hid hs1
      replace hwU := Lib.hid hwU
      replace hle1 := Lib.hid hle1
      replace hok2 := Lib.hid hok2
      replace hln3 := Lib.hid hln3
      replace hs2 := Lib.hid hs2
      go_wp2_with fail
      refine (linkCount_c w _ _ b s hso'.out (by omega) HH.out).mono ?_
      rw [hqb.out]
      rw [hsv.out]
      rintro e w8_ ⟨rfl, H9_⟩
      replace HH := Lib.hid H9_
      clear H9_
      go_wp2_with (with_reducible refine stop_al ?_)
      refine Stop.go ?_
      refine wpList_alloc_own HH.out [.int .u64 0, .int .u64 0, .int .u64 0, .int .u64 0, .int .u64 0, .int .u64 0] (by kernel_rfl) ?_
      intro cb w9_ H9_
      replace HH := Lib.hid H9_
      clear H9_
      go_wp2_with (with_reducible refine stop_st ?_)
      refine Stop.go ?_
      refine wpList_store_own _ #[_, _, _, _, _, _] rfl rfl HH.out (by kernel_rfl) rfl (by repeat (first | (refine List.forall_mem_cons.2 ⟨(by first | with_reducible assumption | rfl), ?_⟩) | exact fun _ h => absurd h List.not_mem_nil)) ?_
      intro w10_ H9_
      replace HH := Lib.hid H9_
      clear H9_
      replace HH := Lib.hid ((Own.pm (HH.out) (by repeat (first | with_reducible exact Pm.refl _ | with_reducible exact Pm.nil _ | with_reducible refine Pm.here ?_ | with_reducible refine Pm.at2 ?_ | with_reducible refine Pm.at3 ?_ | with_reducible refine Pm.at4 ?_ | with_reducible refine Pm.at5 ?_ | with_reducible refine Pm.at6 ?_ | with_reducible refine Pm.at7 ?_ | with_reducible refine Pm.at8 ?_ | with_reducible refine Pm.skip ?_))) : Own w _ (pts cb _ :: lnk b s :: pts pb _ :: [old w]))
      (try clear cc1_); (try clear cc2_); (try clear cc3_); (try clear cc4_); (try clear cc5_); (try clear cc6_); (try clear cc7_)
      have cc1_ := HH.out.cells
      have cc3_ := HH.out.r3.cells
      go_wp2_with fail
      refine (refOver_c _ _ _ _ u4.out (by decide) u1.out).mono ?_
      rintro e w11_ ⟨rfl, hbel⟩
      replace HH := Lib.hid ((by first | exact Kp.same hbel | exact Kp.drew hbel | exact Kp.below hbel : Kp _ w11_) _ _ (by first | exact HH.out | exact HH.out.drewN _ | exact (HH.out.alloc _).tail | exact ((HH.out.alloc _).drewN _).tail | exact ((HH.out.alloc _).alloc _).tail.tail))
      clear hbel
      clear q0 q1 q2 q3
      (try clear cc1_); (try clear cc2_); (try clear cc3_); (try clear cc4_); (try clear cc5_); (try clear cc6_); (try clear cc7_)
      go_wp2_with fail
      refine (packets21_c w _ _ frm A' more.length cap' more (fun wx Hx => hB.out.old (Own.pm (Hx) (by repeat (first | with_reducible exact Pm.refl _ | with_reducible exact Pm.nil _ | with_reducible refine Pm.here ?_ | with_reducible refine Pm.at2 ?_ | with_reducible refine Pm.at3 ?_ | with_reducible refine Pm.at4 ?_ | with_reducible refine Pm.at5 ?_ | with_reducible refine Pm.at6 ?_ | with_reducible refine Pm.at7 ?_ | with_reducible refine Pm.at8 ?_ | with_reducible refine Pm.skip ?_)))) hfr HH.out).mono ?_
      rintro e w12_ ⟨v, rfl, H9_⟩
      replace HH := Lib.hid H9_
      clear H9_
      obtain ⟨A1, n1, d1, rfl, _, _, hpk⟩ := HH.out.slcP_val
      obtain rfl : n1 = more.length := by rw [← hpk.1, mkPks_len]
      clear hpk
      replace HH := Lib.hid ((Own.pm (HH.out) (by repeat (first | with_reducible exact Pm.refl _ | with_reducible exact Pm.nil _ | with_reducible refine Pm.here ?_ | with_reducible refine Pm.at2 ?_ | with_reducible refine Pm.at3 ?_ | with_reducible refine Pm.at4 ?_ | with_reducible refine Pm.at5 ?_ | with_reducible refine Pm.at6 ?_ | with_reducible refine Pm.at7 ?_ | with_reducible refine Pm.at8 ?_ | with_reducible refine Pm.skip ?_))) : Own w _ (lnk b s :: slcP (.slice A1 more.length d1) (mkPks frm more) :: pts cb _ :: pts pb _ :: [old w]))
      go_wp2_with fail
      refine (linkSend_c w _ _ b s hso'.out A1 more.length d1 (mkPks frm more) hmo.out (fun wx Hx => by obtain ⟨_, _, _, e, _, _, h⟩ := Hx.slcP_val; cases e; exact h) hsl2 HH.out).mono ?_
      rw [hs1.out]
      rintro e w13_ ⟨rfl, H9_⟩
      replace HH := Lib.hid H9_
      clear H9_
      replace HH := Lib.hid ((Own.pm (HH.out) (by repeat (first | with_reducible exact Pm.refl _ | with_reducible exact Pm.nil _ | with_reducible refine Pm.here ?_ | with_reducible refine Pm.at2 ?_ | with_reducible refine Pm.at3 ?_ | with_reducible refine Pm.at4 ?_ | with_reducible refine Pm.at5 ?_ | with_reducible refine Pm.at6 ?_ | with_reducible refine Pm.at7 ?_ | with_reducible refine Pm.at8 ?_ | with_reducible refine Pm.skip ?_))) : Own w _ (lnk b s1 :: pts cb _ :: pts pb _ :: [old w]))
      go_wp2_with fail
      refine (linkTime_c w _ _ b s1 HH.out).mono ?_
      rintro e w14_ ⟨rfl, hbel⟩
      replace HH := Lib.hid ((by first | exact Kp.same hbel | exact Kp.drew hbel | exact Kp.below hbel : Kp _ w14_) _ _ (by first | exact HH.out | exact HH.out.drewN _ | exact (HH.out.alloc _).tail | exact ((HH.out.alloc _).drewN _).tail | exact ((HH.out.alloc _).alloc _).tail.tail))
      clear hbel
      go_wp2_with fail
      refine (linkTick_c w _ _ b 0 s1 hok1.out (s1.now + wt) 0 hwU.out (by decide) hle1.out none 0 0 [] (by simp) (by decide) (Nat.le_refl _) (fun wx _ => nsAt.zero wx _) hln2.out HH.out).mono ?_
      rintro e w15_ ⟨v2, rfl, H9_⟩
      replace HH := Lib.hid H9_
      clear H9_
      rw [hs2.out] at HH
      replace HH := Lib.hid ((Own.pm (HH.out) (by repeat (first | with_reducible exact Pm.refl _ | with_reducible exact Pm.nil _ | with_reducible refine Pm.here ?_ | with_reducible refine Pm.at2 ?_ | with_reducible refine Pm.at3 ?_ | with_reducible refine Pm.at4 ?_ | with_reducible refine Pm.at5 ?_ | with_reducible refine Pm.at6 ?_ | with_reducible refine Pm.at7 ?_ | with_reducible refine Pm.at8 ?_ | with_reducible refine Pm.skip ?_))) : Own w _ (lnk b s2 :: pts cb _ :: pts pb _ :: [old w]))
      go_wp2_with fail
      refine (linkCount_c w _ _ b s2 hok2.out hln3.out HH.out).mono ?_
      rintro e w16_ ⟨rfl, H9_⟩
      replace HH := Lib.hid H9_
      clear H9_
      go_wp2_with (with_reducible refine stop_al ?_)
      refine Stop.go ?_
      refine wpList_alloc_own HH.out [.int .u64 0, .int .u64 0, .int .u64 0, .int .u64 0, .int .u64 0, .int .u64 0] (by kernel_rfl) ?_
      intro cd w17_ H9_
      replace HH := Lib.hid H9_
      clear H9_
      go_wp2_with (with_reducible refine stop_st ?_)
      refine Stop.go ?_
      refine wpList_store_own _ #[_, _, _, _, _, _] rfl rfl HH.out (by kernel_rfl) rfl (by repeat (first | (refine List.forall_mem_cons.2 ⟨(by first | with_reducible assumption | rfl), ?_⟩) | exact fun _ h => absurd h List.not_mem_nil)) ?_
      intro w18_ H9_
      replace HH := Lib.hid H9_
      clear H9_
      replace HH := Lib.hid ((Own.pm (HH.out) (by repeat (first | with_reducible exact Pm.refl _ | with_reducible exact Pm.nil _ | with_reducible refine Pm.here ?_ | with_reducible refine Pm.at2 ?_ | with_reducible refine Pm.at3 ?_ | with_reducible refine Pm.at4 ?_ | with_reducible refine Pm.at5 ?_ | with_reducible refine Pm.at6 ?_ | with_reducible refine Pm.at7 ?_ | with_reducible refine Pm.at8 ?_ | with_reducible refine Pm.skip ?_))) : Own w _ (pts cd _ :: pts cb _ :: [old w]))
      go_wp2_with fail
      refine (alive21_k _).mono ?_
      rintro e w19_ ⟨rfl, hbel⟩
      replace HH := Lib.hid ((by first | exact Kp.same hbel | exact Kp.drew hbel | exact Kp.below hbel : Kp _ w19_) _ _ (by first | exact HH.out | exact HH.out.drewN _ | exact (HH.out.alloc _).tail | exact ((HH.out.alloc _).drewN _).tail | exact ((HH.out.alloc _).alloc _).tail.tail))
      clear hbel
      (try clear cc1_); (try clear cc2_); (try clear cc3_); (try clear cc4_); (try clear cc5_); (try clear cc6_); (try clear cc7_)
      have cc1_ := HH.out.cells
      have cc2_ := HH.out.r2.cells
      go_wp2_with fail
      go_ret
      exact ⟨rfl, (Own.pm (HH.out) (by repeat (first | with_reducible exact Pm.refl _ | with_reducible exact Pm.nil _ | with_reducible refine Pm.here ?_ | with_reducible refine Pm.at2 ?_ | with_reducible refine Pm.at3 ?_ | with_reducible refine Pm.at4 ?_ | with_reducible refine Pm.at5 ?_ | with_reducible refine Pm.at6 ?_ | with_reducible refine Pm.at7 ?_ | with_reducible refine Pm.at8 ?_ | with_reducible refine Pm.skip ?_)))⟩
end
end Go.Proofs.Ytklohjjkpobneaa
