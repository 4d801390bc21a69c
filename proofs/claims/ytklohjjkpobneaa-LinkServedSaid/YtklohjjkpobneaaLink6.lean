/- link: LinkServed. -/
import Derived.Test.YtklohjjkpobneaaLink5
namespace Go.Proofs.Ytklohjjkpobneaa
open Go.RowKit
abbrev OnT := Int × Int × Unit
def rdOn : Rd OnT := rdPair (rdInt .u32) (rdPair (rdInt .u32) rdUnit)
theorem u32_wf {x : Int} (h : (Lit.int .u32 x).wf = true) : 0 ≤ x ∧ x ≤ 4294967295 := by
  simp [Lit.wf, IntKind.min, IntKind.max, IntKind.signed, IntKind.bits] at h
  omega
theorem rdOn_open {w : World} {c : List Value} {x : OnT} (h : rdOn w c x) : c = [.int .u32 x.1, .int .u32 x.2.1] ∧ 0 ≤ x.1 ∧ x.1 ≤ 4294967295 ∧ 0 ≤ x.2.1 ∧ x.2.1 ≤ 4294967295 := by
  obtain ⟨c1, d1, rfl, ⟨rfl, h1⟩, c2, d2, rfl, ⟨rfl, h2⟩, rfl⟩ := h
  exact ⟨rfl, (u32_wf h1).1, (u32_wf h1).2, (u32_wf h2).1, (u32_wf h2).2⟩
section
variable (w : World)
set_option maxRecDepth 100000 in
set_option maxHeartbeats 12800000 in
theorem linkServed_c (cs : Array Value) (_hz : cs.size = 4) (pt : PathT) (hp : rdPath w cs.toList pt) (A : Option Addr) (len cap : Nat) (xs : List LActT) (hr : rdSlice rdLAct 5 w [.slice A len cap] xs) (on : Array Value) (_hz2 : on.size = 2) (oo : OnT) (ho : rdOn w on.toList oo) :
    Calls Try.prog 10 #[.agg cs, .slice A len cap, .agg on] w fun e w' => e = .returned (.bool true) ∧ Own w w' [old w] := by
  have HH := Lib.hid (Own.init w)
  obtain ⟨p1, p2, p3, p4, _⟩ := pt
  obtain ⟨hcs, u1, u2, u3, u4⟩ := rdPath_open hp
  simp only at hcs u1 u2 u3 u4
  have hcs := arr_of_list hcs
  subst hcs
  clear hp _hz
  obtain ⟨hA, hm, hok⟩ := lacts_rd hr
  clear hr
  obtain ⟨o1, o2, _⟩ := oo
  obtain ⟨hon, ho1, ho2, ho3, ho4⟩ := rdOn_open ho
  simp only at hon ho1 ho2 ho3 ho4
  have hon := arr_of_list hon
  subst hon
  clear ho _hz2
  generalize xs.map LActT.a = acts at hA hok
  have hln := hA.1
  replace hA := Lib.hid hA
  replace hok := Lib.hid hok
  replace u1 := Lib.hid u1
  replace u2 := Lib.hid u2
  replace u3 := Lib.hid u3
  replace u4 := Lib.hid u4
  obtain ⟨rt, hrt⟩ : ∃ rt, rightB p1 p2 p3 p4 = rt := ⟨_, rfl⟩
  replace hrt := Lib.hid hrt
  go_enter Try.func10, Try.ntmps10
  go_wp2_with (with_reducible refine stop_bx ?_)
  refine Stop.go ?_
  refine wpList_box_own HH.out [_, _, _, _] rfl ?_
  intro pb w1_ H9_
  replace HH := Lib.hid H9_
  clear H9_
  go_wp2_with (with_reducible refine stop_bx ?_)
  refine Stop.go ?_
  refine wpList_box_own HH.out [_, _] rfl ?_
  intro ob w2_ H9_
  replace HH := Lib.hid H9_
  clear H9_
  replace HH := Lib.hid ((Own.pm (HH.out) (by repeat (first | with_reducible exact Pm.refl _ | with_reducible exact Pm.nil _ | with_reducible refine Pm.here ?_ | with_reducible refine Pm.at2 ?_ | with_reducible refine Pm.at3 ?_ | with_reducible refine Pm.at4 ?_ | with_reducible refine Pm.at5 ?_ | with_reducible refine Pm.at6 ?_ | with_reducible refine Pm.at7 ?_ | with_reducible refine Pm.at8 ?_ | with_reducible refine Pm.skip ?_))) : Own w _ (pts pb _ :: pts ob _ :: [old w]))
  go_wp2_with fail
  refine (fits21_c _ A len cap acts hm (hA.out.old (Own.pm (HH.out) (by repeat (first | with_reducible exact Pm.refl _ | with_reducible exact Pm.nil _ | with_reducible refine Pm.here ?_ | with_reducible refine Pm.at2 ?_ | with_reducible refine Pm.at3 ?_ | with_reducible refine Pm.at4 ?_ | with_reducible refine Pm.at5 ?_ | with_reducible refine Pm.at6 ?_ | with_reducible refine Pm.at7 ?_ | with_reducible refine Pm.at8 ?_ | with_reducible refine Pm.skip ?_))))).mono ?_
  rintro e w9 ⟨bl, rfl, rfl, hfit⟩
  replace hfit := Lib.hid hfit
  (try clear cc1_); (try clear cc2_); (try clear cc3_); (try clear cc4_); (try clear cc5_); (try clear cc6_); (try clear cc7_)
  have cc1_ := HH.out.cells
  go_wp2_with fail
  refine (right18_c w _ _ p1 p2 p3 p4 HH.out).mono ?_
  rw [hrt.out]
  rintro e w3_ ⟨rfl, H9_⟩
  replace HH := Lib.hid H9_
  clear H9_
  (try clear cc1_); (try clear cc2_); (try clear cc3_); (try clear cc4_); (try clear cc5_); (try clear cc6_); (try clear cc7_)
  have cc1_ := HH.out.cells
  go_wp2_with fail
  refine (small21_c w _ _ p1 p2 p3 p4 A len cap acts hm (fun wx Hx => hA.out.old (Own.pm (Hx) (by repeat (first | with_reducible exact Pm.refl _ | with_reducible exact Pm.nil _ | with_reducible refine Pm.here ?_ | with_reducible refine Pm.at2 ?_ | with_reducible refine Pm.at3 ?_ | with_reducible refine Pm.at4 ?_ | with_reducible refine Pm.at5 ?_ | with_reducible refine Pm.at6 ?_ | with_reducible refine Pm.at7 ?_ | with_reducible refine Pm.at8 ?_ | with_reducible refine Pm.skip ?_)))) HH.out).mono ?_
  rintro e w8 ⟨sm, rfl, H9, hsm⟩
  replace HH := Lib.hid H9
  clear H9
  replace hsm := Lib.hid hsm
  (try clear cc1_); (try clear cc2_); (try clear cc3_); (try clear cc4_); (try clear cc5_); (try clear cc6_); (try clear cc7_)
  (try clear cc1_); (try clear cc2_); (try clear cc3_); (try clear cc4_); (try clear cc5_); (try clear cc6_); (try clear cc7_)
  have cc2_ := HH.out.r2.cells
  by_cases hgo : bl = true ∧ rt = true ∧ sm = true ∧ o1 ≤ 1073741824 ∧ o2 ≤ 1073741824
  case' neg =>
    cases bl
    case' true =>
      cases rt
      case' true =>
        cases sm
        case' true =>
          by_cases hgo1 : o1 ≤ 1073741824
          case' pos =>
            have hgo2 : ¬ o2 ≤ 1073741824 := fun h => hgo ⟨rfl, rfl, rfl, hgo1, h⟩
    all_goals
      replace hgo := Lib.hid hgo
      go_wp2_with fail
      refine (alive21_k _).mono ?_
      rintro e w4_ ⟨rfl, hbel⟩
      replace HH := Lib.hid ((by first | exact Kp.same hbel | exact Kp.drew hbel | exact Kp.below hbel : Kp _ w4_) _ _ (by first | exact HH.out | exact HH.out.drewN _ | exact (HH.out.alloc _).tail | exact ((HH.out.alloc _).drewN _).tail | exact ((HH.out.alloc _).alloc _).tail.tail))
      clear hbel
      go_wp2_with fail
      go_ret
      exact ⟨rfl, (Own.pm (HH.out) (by repeat (first | with_reducible exact Pm.refl _ | with_reducible exact Pm.nil _ | with_reducible refine Pm.here ?_ | with_reducible refine Pm.at2 ?_ | with_reducible refine Pm.at3 ?_ | with_reducible refine Pm.at4 ?_ | with_reducible refine Pm.at5 ?_ | with_reducible refine Pm.at6 ?_ | with_reducible refine Pm.at7 ?_ | with_reducible refine Pm.at8 ?_ | with_reducible refine Pm.skip ?_)))⟩
  obtain ⟨rfl, rfl, rfl, hs1, hs2⟩ := hgo
  obtain ⟨hlen60, hfew⟩ := hfit.out rfl
  have hsml := hsm.out rfl
  have hrs := rate_small hsml
  clear hfit hsm
  rw [hln] at hlen60 hrs
  have h1r : 1 ≤ p1 := by have := hrt.out; unfold rightB at this; simp only [Bool.and_eq_true, decide_eq_true_eq] at this; exact this.1.1.1.1
  have hr40 : p1 ≤ 1099511627776 := by have := hrt.out; unfold rightB at this; simp only [Bool.and_eq_true, decide_eq_true_eq] at this; exact this.1.1.1.2
  replace hfew := Lib.hid hfew
  replace hsml := Lib.hid hsml
  replace hrs := Lib.hid hrs
  (try clear cc1_); (try clear cc2_); (try clear cc3_); (try clear cc4_); (try clear cc5_); (try clear cc6_); (try clear cc7_)
  have cc1_ := HH.out.cells
  have cc2_ := HH.out.r2.cells
  go_wp2_with fail
  refine (linkNew_c w _ _ p1 p2 p3 p4 hrt.out HH.out).mono ?_
  rintro e w5_ ⟨b, rfl, H9_⟩
  replace HH := Lib.hid H9_
  clear H9_
  replace HH := Lib.hid ((Own.pm (HH.out) (by repeat (first | with_reducible exact Pm.refl _ | with_reducible exact Pm.nil _ | with_reducible refine Pm.here ?_ | with_reducible refine Pm.at2 ?_ | with_reducible refine Pm.at3 ?_ | with_reducible refine Pm.at4 ?_ | with_reducible refine Pm.at5 ?_ | with_reducible refine Pm.at6 ?_ | with_reducible refine Pm.at7 ?_ | with_reducible refine Pm.at8 ?_ | with_reducible refine Pm.skip ?_))) : Own w _ (pts pb _ :: pts ob _ :: lnk b _ :: [old w]))
  (try clear cc1_); (try clear cc2_); (try clear cc3_); (try clear cc4_); (try clear cc5_); (try clear cc6_); (try clear cc7_)
  have cc1_ := HH.out.cells
  have cc2_ := HH.out.r2.cells
  go_wp2_with fail
  refine (linkNew_c w _ _ p1 p2 p3 p4 hrt.out HH.out).mono ?_
  rintro e w6_ ⟨d, rfl, H9_⟩
  replace HH := Lib.hid H9_
  clear H9_
  clear hrt
  (try clear cc1_); (try clear cc2_); (try clear cc3_); (try clear cc4_); (try clear cc5_); (try clear cc6_); (try clear cc7_)
  replace HH := Lib.hid ((Own.pm (HH.out) (by repeat (first | with_reducible exact Pm.refl _ | with_reducible exact Pm.nil _ | with_reducible refine Pm.here ?_ | with_reducible refine Pm.at2 ?_ | with_reducible refine Pm.at3 ?_ | with_reducible refine Pm.at4 ?_ | with_reducible refine Pm.at5 ?_ | with_reducible refine Pm.at6 ?_ | with_reducible refine Pm.at7 ?_ | with_reducible refine Pm.at8 ?_ | with_reducible refine Pm.skip ?_))) : Own w _ (lnk b _ :: lnk d _ :: pts pb _ :: pts ob _ :: [old w]))
  go_wp2_with fail
  go_loopw [14, 15] (fun fr i wr => ∃ (k frm : Nat) (s : Lnk), k ≤ len ∧ i = .int .i64 k ∧ fr = .int .i64 frm ∧ LRel p1 p2 p3 p4 k frm s ∧ Own w wr (lnk b s :: lnk d s :: pts pb (.cells #[.int .u64 p1, .int .u64 p2, .int .u64 p3, .int .u64 p4] 78 (0, 0)) :: pts ob (.cells #[.int .u32 o1, .int .u32 o2] 119 (0, 0)) :: [old w])) (fun _ i _ => len - (intOf i).toNat)
  case atStart => exact ⟨0, 0, Lnk.new p1 p2 p3 p4, Nat.zero_le _, rfl, rfl, LRel.new h1r u1.out u2.out u3.out u4.out, HH.out⟩
  case round =>
    clear HH
    obtain ⟨k, frm, s, hk, rfl, rfl, hL, HR⟩ := hrel
    have HH := Lib.hid HR
    clear HR
    have hfw := hL.few
    have hso := Lib.hid hL.ok
    have hsl : s.len ≤ 3600 := by have := hL.len; omega
    by_cases hlt : k < len
    · have hrr : p1 ≤ 1048576 := by rcases hrs.out with h | h <;> omega
      obtain ⟨a, hka, hmem, ab, off, As, ns, cs, Ac, nc, cc, rfl, c0, c1, c2, c3, c4, g1, g2, g3, g4, g5⟩ := hA.out.get hlt
      have hao := hok.out a hmem
      have hL2 := hL.act (by omega) hao (hfew.out a hmem) (hsml.out a hmem).1 hrr
      have hafew := (hfew.out a hmem).1
      obtain rfl : ns = a.sizes.length := g1.1.symm
      have hasm := (hsml.out a hmem).1.1
      have hnn := (hL.inv hrr).now
      have hwn : IntKind.u64.wrap (s.now + a.after) = s.now + a.after := by have h3 := hao.1; have h4 := hso.out.now; unfold U at h3 h4; rw [IntKind.wrap_u64]; omega
      have htU : U (s.now + a.after) := by have h3 := hao.1; have h4 := hso.out.now; unfold U at *; omega
      have hle : s.now ≤ s.now + a.after := by have h3 := hao.1.1; omega
      obtain ⟨_, v2, v3, v4⟩ := hao
      clear hka hmem hasm hnn hL
      obtain ⟨tk, sz, af, ws, ch⟩ := a
      simp only at c0 c1 c2 c3 c4 g1 g2 g3 hafew hwn htU hle v2 v3 v4
      replace g1 := Lib.hid g1
      replace g2 := Lib.hid g2
      replace htU := Lib.hid htU
      replace hle := Lib.hid hle
      replace v2 := Lib.hid v2
      replace v3 := Lib.hid v3
      replace v4 := Lib.hid v4
      replace hL2 := Lib.hid hL2
      have o0' := ((Own.pm (HH.out) (by repeat (first | with_reducible exact Pm.refl _ | with_reducible exact Pm.nil _ | with_reducible refine Pm.here ?_ | with_reducible refine Pm.at2 ?_ | with_reducible refine Pm.at3 ?_ | with_reducible refine Pm.at4 ?_ | with_reducible refine Pm.at5 ?_ | with_reducible refine Pm.at6 ?_ | with_reducible refine Pm.at7 ?_ | with_reducible refine Pm.at8 ?_ | with_reducible refine Pm.skip ?_))) : Own w _ [old w]).old_cell c0
      cases tk with
      | true =>
        go_wp2_with fail
        clear o0'
        go_wp2_with fail
        refine wp_region_reg (some 19) HH.out (by kernel_rfl) ?_
        intro wm H9_
        replace HH := Lib.hid H9_
        clear H9_
        refine reg_p (i := 0) rfl (by kernel_rfl) (fun _ _ _ _ h => h) HH.out (fun K hK => ?_)
        go_simp
        first | (refine hK _ ?_; clear hK K) | (apply Exists.intro; refine ⟨?_, hK _ ?_⟩; (focus (intro wx; first | (go_simp; first | rfl) | rfl)); clear hK K)
        refine reg_p (i := 1) rfl (by kernel_rfl) (fun _ _ _ _ h => h) HH.out (fun K hK => ?_)
        go_simp
        first | (refine hK _ ?_; clear hK K) | (apply Exists.intro; refine ⟨?_, hK _ ?_⟩; (focus (intro wx; first | (go_simp; first | rfl) | rfl)); clear hK K)
        refine mixk_q (i := 2) rfl (by kernel_rfl) (fun _ _ _ _ h => h) HH.out (fun K hK => ?_)
        go_simp
        first | (refine hK _ ?_; clear hK K) | (apply Exists.intro; refine ⟨?_, hK _ ?_⟩; (focus (intro wx hx; have y2_ := hx.r5.old_cell c2; have y3_ := hx.r5.old_cell c3; have y4_ := hx.r5.old_cell c4; first | (first | (go_at_call 47; refine (linkTime_c w wx _ b s hx).mono ?_; rintro e wy ⟨rfl, hbel⟩; exact ⟨rfl, (by first | exact Kp.same hbel | exact Kp.drew hbel | exact Kp.below hbel : Kp wx wy)⟩)) | (go_simp; first | rfl | exact ⟨rfl, rfl⟩) | rfl | exact ⟨rfl, rfl⟩)); clear hK K)
        refine reg_p (i := 3) rfl (by kernel_rfl) (fun _ _ _ _ h => h) HH.out (fun K hK => ?_)
        go_simp
        first | (refine hK _ ?_; clear hK K) | (apply Exists.intro; refine ⟨?_, hK _ ?_⟩; (focus (intro wx; first | (go_simp; first | rfl) | rfl)); clear hK K)
        refine reg_p (i := 4) rfl (by kernel_rfl) (fun _ _ _ _ h => h) HH.out (fun K hK => ?_)
        go_simp
        first | (refine hK _ ?_; clear hK K) | (apply Exists.intro; refine ⟨?_, hK _ ?_⟩; (focus (intro wx; first | (go_simp; first | rfl) | rfl)); clear hK K)
        refine reg_p (i := 5) rfl (by kernel_rfl) (fun _ _ _ _ h => h) HH.out (fun K hK => ?_)
        go_simp
        first | (refine hK _ ?_; clear hK K) | (apply Exists.intro; refine ⟨?_, hK _ ?_⟩; (focus (intro wx; first | (go_simp; first | rfl) | rfl)); clear hK K)
        refine reg_p (i := 6) rfl (by kernel_rfl) (fun _ _ _ _ h => h) HH.out (fun K hK => ?_)
        go_simp
        first | (refine hK _ ?_; clear hK K) | (apply Exists.intro; refine ⟨?_, hK _ ?_⟩; (focus (intro wx; first | (go_simp; first | rfl) | rfl)); clear hK K)
        refine mixk_q (i := 7) rfl (by kernel_rfl) (fun _ _ _ _ h => h) HH.out (fun K hK => ?_)
        go_simp
        first | (refine hK _ ?_; clear hK K) | (apply Exists.intro; refine ⟨?_, hK _ ?_⟩; (focus (intro wx hx; have y2_ := hx.r5.old_cell c2; have y3_ := hx.r5.old_cell c3; have y4_ := hx.r5.old_cell c4; first | (first | (go_at_call 47; refine (linkTime_c w wx _ b s hx).mono ?_; rintro e wy ⟨rfl, hbel⟩; exact ⟨rfl, (by first | exact Kp.same hbel | exact Kp.drew hbel | exact Kp.below hbel : Kp wx wy)⟩)) | (go_simp; first | rfl | exact ⟨rfl, rfl⟩) | rfl | exact ⟨rfl, rfl⟩)); clear hK K)
        refine reg_p (i := 8) rfl (by kernel_rfl) (fun _ _ _ _ h => h) HH.out (fun K hK => ?_)
        go_simp
        first | (refine hK _ ?_; clear hK K) | (apply Exists.intro; refine ⟨?_, hK _ ?_⟩; (focus (intro wx; first | (go_simp; first | rfl) | rfl)); clear hK K)
        refine reg_p (i := 9) rfl (by kernel_rfl) (fun _ _ _ _ h => h) HH.out (fun K hK => ?_)
        go_simp
        first | (refine hK _ ?_; clear hK K) | (apply Exists.intro; refine ⟨?_, hK _ ?_⟩; (focus (intro wx; first | (go_simp; first | rfl) | rfl)); clear hK K)
        refine reg_p (i := 10) rfl (by kernel_rfl) (fun _ _ _ _ h => h) HH.out (fun K hK => ?_)
        go_simp
        first | (refine hK _ ?_; clear hK K) | (apply Exists.intro; refine ⟨?_, hK _ ?_⟩; (focus (intro wx; first | (go_simp; first | rfl) | rfl)); clear hK K)
        refine reg_p (i := 11) rfl (by kernel_rfl) (fun _ _ _ _ h => h) HH.out (fun K hK => ?_)
        go_simp
        first | (refine hK _ ?_; clear hK K) | (apply Exists.intro; refine ⟨?_, hK _ ?_⟩; (focus (intro wx; first | (go_simp; first | rfl) | rfl)); clear hK K)
        refine reg_p (i := 12) rfl (by kernel_rfl) (fun _ _ _ _ h => h) HH.out (fun K hK => ?_)
        go_simp
        first | (refine hK _ ?_; clear hK K) | (apply Exists.intro; refine ⟨?_, hK _ ?_⟩; (focus (intro wx; first | (go_simp; first | rfl) | rfl)); clear hK K)
        refine mixk_q (i := 13) rfl (by kernel_rfl) (fun _ _ _ _ h => h) HH.out (fun K hK => ?_)
        go_simp
        first | (refine hK _ ?_; clear hK K) | (apply Exists.intro; refine ⟨?_, hK _ ?_⟩; (focus (intro wx hx; have y2_ := hx.r5.old_cell c2; have y3_ := hx.r5.old_cell c3; have y4_ := hx.r5.old_cell c4; first | (first | (go_at_call 47; refine (linkTime_c w wx _ b s hx).mono ?_; rintro e wy ⟨rfl, hbel⟩; exact ⟨rfl, (by first | exact Kp.same hbel | exact Kp.drew hbel | exact Kp.below hbel : Kp wx wy)⟩)) | (go_simp; first | rfl | exact ⟨rfl, rfl⟩) | rfl | exact ⟨rfl, rfl⟩)); clear hK K)
        refine reg_p (i := 14) rfl (by kernel_rfl) (fun _ _ _ _ h => h) HH.out (fun K hK => ?_)
        go_simp
        first | (refine hK _ ?_; clear hK K) | (apply Exists.intro; refine ⟨?_, hK _ ?_⟩; (focus (intro wx; first | (go_simp; first | rfl) | rfl)); clear hK K)
        refine reg_p (i := 15) rfl (by kernel_rfl) (fun _ _ _ _ h => h) HH.out (fun K hK => ?_)
        go_simp
        first | (refine hK _ ?_; clear hK K) | (apply Exists.intro; refine ⟨?_, hK _ ?_⟩; (focus (intro wx; first | (go_simp; first | rfl) | rfl)); clear hK K)
        refine reg_p (i := 16) rfl (by kernel_rfl) (fun _ _ _ _ h => h) HH.out (fun K hK => ?_)
        go_simp
        first | (refine hK _ ?_; clear hK K) | (apply Exists.intro; refine ⟨?_, hK _ ?_⟩; (focus (intro wx; first | (go_simp; first | rfl) | rfl)); clear hK K)
        refine reg_p (i := 17) rfl (by kernel_rfl) (fun _ _ _ _ h => h) HH.out (fun K hK => ?_)
        go_simp
        first | (refine hK _ ?_; clear hK K) | (apply Exists.intro; refine ⟨?_, hK _ ?_⟩; (focus (intro wx; first | (go_simp; first | rfl) | rfl)); clear hK K)
        refine mixk_q (i := 18) rfl (by kernel_rfl) (fun _ _ _ _ h => h) HH.out (fun K hK => ?_)
        go_simp
        first | (refine hK _ ?_; clear hK K) | (apply Exists.intro; refine ⟨?_, hK _ ?_⟩; (focus (intro wx hx; have y2_ := hx.r5.old_cell c2; have y3_ := hx.r5.old_cell c3; have y4_ := hx.r5.old_cell c4; first | (first | (go_at_call 47; refine (linkTime_c w wx _ b s hx).mono ?_; rintro e wy ⟨rfl, hbel⟩; exact ⟨rfl, (by first | exact Kp.same hbel | exact Kp.drew hbel | exact Kp.below hbel : Kp wx wy)⟩)) | (go_simp; first | rfl | exact ⟨rfl, rfl⟩) | rfl | exact ⟨rfl, rfl⟩)); clear hK K)
        refine reg_l none (i := 19) rfl (by kernel_rfl) (fun wn hk K hK => ?_)
        replace HH := Lib.hid (hk _ _ HH.out)
        clear hk
        go_simp
        refine (linkTick_c w wn _ b 0 s hso.out (s.now + af) ws htU.out v2.out hle.out Ac nc cc ch v4.out g4 g5 (fun wx Hx => g2.out.old (Own.pm (Hx) (by repeat (first | with_reducible exact Pm.refl _ | with_reducible exact Pm.nil _ | with_reducible refine Pm.here ?_ | with_reducible refine Pm.at2 ?_ | with_reducible refine Pm.at3 ?_ | with_reducible refine Pm.at4 ?_ | with_reducible refine Pm.at5 ?_ | with_reducible refine Pm.at6 ?_ | with_reducible refine Pm.at7 ?_ | with_reducible refine Pm.at8 ?_ | with_reducible refine Pm.skip ?_)))) (by omega) HH.out).mono ?_
        rintro e wm ⟨v, rfl, H9_⟩
        replace HH := Lib.hid H9_
        clear H9_
        refine hK _ _ _ HH.out (.inl (by kernel_rfl)) ?_
        clear hK K
        refine mixk_done (by kernel_rfl) (fun w7_ hk => ?_) _
        replace HH := Lib.hid (hk _ _ HH.out)
        clear hk
        replace HH := Lib.hid ((Own.pm (HH.out) (by repeat (first | with_reducible exact Pm.refl _ | with_reducible exact Pm.nil _ | with_reducible refine Pm.here ?_ | with_reducible refine Pm.at2 ?_ | with_reducible refine Pm.at3 ?_ | with_reducible refine Pm.at4 ?_ | with_reducible refine Pm.at5 ?_ | with_reducible refine Pm.at6 ?_ | with_reducible refine Pm.at7 ?_ | with_reducible refine Pm.at8 ?_ | with_reducible refine Pm.skip ?_))) : Own w _ (lnk d s :: lnk b (s.tick (s.now + af) ws ch) :: pts pb _ :: pts ob _ :: [old w]))
        go_wp2_with fail
        go_wp2_with fail
        refine wp_region_reg (some 19) HH.out (by kernel_rfl) ?_
        intro wm H9_
        replace HH := Lib.hid H9_
        clear H9_
        refine reg_p (i := 0) rfl (by kernel_rfl) (fun _ _ _ _ h => h) HH.out (fun K hK => ?_)
        go_simp
        first | (refine hK _ ?_; clear hK K) | (apply Exists.intro; refine ⟨?_, hK _ ?_⟩; (focus (intro wx; first | (go_simp; first | rfl) | rfl)); clear hK K)
        refine reg_p (i := 1) rfl (by kernel_rfl) (fun _ _ _ _ h => h) HH.out (fun K hK => ?_)
        go_simp
        first | (refine hK _ ?_; clear hK K) | (apply Exists.intro; refine ⟨?_, hK _ ?_⟩; (focus (intro wx; first | (go_simp; first | rfl) | rfl)); clear hK K)
        refine mixk_q (i := 2) rfl (by kernel_rfl) (fun _ _ _ _ h => h) HH.out (fun K hK => ?_)
        go_simp
        first | (refine hK _ ?_; clear hK K) | (apply Exists.intro; refine ⟨?_, hK _ ?_⟩; (focus (intro wx hx; have y2_ := hx.r5.old_cell c2; have y3_ := hx.r5.old_cell c3; have y4_ := hx.r5.old_cell c4; first | (first | (go_at_call 47; refine (linkTime_c w wx _ d s hx).mono ?_; rintro e wy ⟨rfl, hbel⟩; exact ⟨rfl, (by first | exact Kp.same hbel | exact Kp.drew hbel | exact Kp.below hbel : Kp wx wy)⟩)) | (go_simp; first | rfl | exact ⟨rfl, rfl⟩) | rfl | exact ⟨rfl, rfl⟩)); clear hK K)
        refine reg_p (i := 3) rfl (by kernel_rfl) (fun _ _ _ _ h => h) HH.out (fun K hK => ?_)
        go_simp
        first | (refine hK _ ?_; clear hK K) | (apply Exists.intro; refine ⟨?_, hK _ ?_⟩; (focus (intro wx; first | (go_simp; first | rfl) | rfl)); clear hK K)
        refine reg_p (i := 4) rfl (by kernel_rfl) (fun _ _ _ _ h => h) HH.out (fun K hK => ?_)
        go_simp
        first | (refine hK _ ?_; clear hK K) | (apply Exists.intro; refine ⟨?_, hK _ ?_⟩; (focus (intro wx; first | (go_simp; first | rfl) | rfl)); clear hK K)
        refine reg_p (i := 5) rfl (by kernel_rfl) (fun _ _ _ _ h => h) HH.out (fun K hK => ?_)
        go_simp
        first | (refine hK _ ?_; clear hK K) | (apply Exists.intro; refine ⟨?_, hK _ ?_⟩; (focus (intro wx; first | (go_simp; first | rfl) | rfl)); clear hK K)
        refine reg_p (i := 6) rfl (by kernel_rfl) (fun _ _ _ _ h => h) HH.out (fun K hK => ?_)
        go_simp
        first | (refine hK _ ?_; clear hK K) | (apply Exists.intro; refine ⟨?_, hK _ ?_⟩; (focus (intro wx; first | (go_simp; first | rfl) | rfl)); clear hK K)
        refine mixk_q (i := 7) rfl (by kernel_rfl) (fun _ _ _ _ h => h) HH.out (fun K hK => ?_)
        go_simp
        first | (refine hK _ ?_; clear hK K) | (apply Exists.intro; refine ⟨?_, hK _ ?_⟩; (focus (intro wx hx; have y2_ := hx.r5.old_cell c2; have y3_ := hx.r5.old_cell c3; have y4_ := hx.r5.old_cell c4; first | (first | (go_at_call 47; refine (linkTime_c w wx _ d s hx).mono ?_; rintro e wy ⟨rfl, hbel⟩; exact ⟨rfl, (by first | exact Kp.same hbel | exact Kp.drew hbel | exact Kp.below hbel : Kp wx wy)⟩)) | (go_simp; first | rfl | exact ⟨rfl, rfl⟩) | rfl | exact ⟨rfl, rfl⟩)); clear hK K)
        refine reg_p (i := 8) rfl (by kernel_rfl) (fun _ _ _ _ h => h) HH.out (fun K hK => ?_)
        go_simp
        first | (refine hK _ ?_; clear hK K) | (apply Exists.intro; refine ⟨?_, hK _ ?_⟩; (focus (intro wx; first | (go_simp; first | rfl) | rfl)); clear hK K)
        refine reg_p (i := 9) rfl (by kernel_rfl) (fun _ _ _ _ h => h) HH.out (fun K hK => ?_)
        go_simp
        first | (refine hK _ ?_; clear hK K) | (apply Exists.intro; refine ⟨?_, hK _ ?_⟩; (focus (intro wx; first | (go_simp; first | rfl) | rfl)); clear hK K)
        refine reg_p (i := 10) rfl (by kernel_rfl) (fun _ _ _ _ h => h) HH.out (fun K hK => ?_)
        go_simp
        first | (refine hK _ ?_; clear hK K) | (apply Exists.intro; refine ⟨?_, hK _ ?_⟩; (focus (intro wx; first | (go_simp; first | rfl) | rfl)); clear hK K)
        refine reg_p (i := 11) rfl (by kernel_rfl) (fun _ _ _ _ h => h) HH.out (fun K hK => ?_)
        go_simp
        first | (refine hK _ ?_; clear hK K) | (apply Exists.intro; refine ⟨?_, hK _ ?_⟩; (focus (intro wx; first | (go_simp; first | rfl) | rfl)); clear hK K)
        refine reg_p (i := 12) rfl (by kernel_rfl) (fun _ _ _ _ h => h) HH.out (fun K hK => ?_)
        go_simp
        first | (refine hK _ ?_; clear hK K) | (apply Exists.intro; refine ⟨?_, hK _ ?_⟩; (focus (intro wx; first | (go_simp; first | rfl) | rfl)); clear hK K)
        refine mixk_q (i := 13) rfl (by kernel_rfl) (fun _ _ _ _ h => h) HH.out (fun K hK => ?_)
        go_simp
        first | (refine hK _ ?_; clear hK K) | (apply Exists.intro; refine ⟨?_, hK _ ?_⟩; (focus (intro wx hx; have y2_ := hx.r5.old_cell c2; have y3_ := hx.r5.old_cell c3; have y4_ := hx.r5.old_cell c4; first | (first | (go_at_call 47; refine (linkTime_c w wx _ d s hx).mono ?_; rintro e wy ⟨rfl, hbel⟩; exact ⟨rfl, (by first | exact Kp.same hbel | exact Kp.drew hbel | exact Kp.below hbel : Kp wx wy)⟩)) | (go_simp; first | rfl | exact ⟨rfl, rfl⟩) | rfl | exact ⟨rfl, rfl⟩)); clear hK K)
        refine reg_p (i := 14) rfl (by kernel_rfl) (fun _ _ _ _ h => h) HH.out (fun K hK => ?_)
        go_simp
        first | (refine hK _ ?_; clear hK K) | (apply Exists.intro; refine ⟨?_, hK _ ?_⟩; (focus (intro wx; first | (go_simp; first | rfl) | rfl)); clear hK K)
        refine reg_p (i := 15) rfl (by kernel_rfl) (fun _ _ _ _ h => h) HH.out (fun K hK => ?_)
        go_simp
        first | (refine hK _ ?_; clear hK K) | (apply Exists.intro; refine ⟨?_, hK _ ?_⟩; (focus (intro wx; first | (go_simp; first | rfl) | rfl)); clear hK K)
        refine reg_p (i := 16) rfl (by kernel_rfl) (fun _ _ _ _ h => h) HH.out (fun K hK => ?_)
        go_simp
        first | (refine hK _ ?_; clear hK K) | (apply Exists.intro; refine ⟨?_, hK _ ?_⟩; (focus (intro wx; first | (go_simp; first | rfl) | rfl)); clear hK K)
        refine reg_p (i := 17) rfl (by kernel_rfl) (fun _ _ _ _ h => h) HH.out (fun K hK => ?_)
        go_simp
        first | (refine hK _ ?_; clear hK K) | (apply Exists.intro; refine ⟨?_, hK _ ?_⟩; (focus (intro wx; first | (go_simp; first | rfl) | rfl)); clear hK K)
        refine mixk_q (i := 18) rfl (by kernel_rfl) (fun _ _ _ _ h => h) HH.out (fun K hK => ?_)
        go_simp
        first | (refine hK _ ?_; clear hK K) | (apply Exists.intro; refine ⟨?_, hK _ ?_⟩; (focus (intro wx hx; have y2_ := hx.r5.old_cell c2; have y3_ := hx.r5.old_cell c3; have y4_ := hx.r5.old_cell c4; first | (first | (go_at_call 47; refine (linkTime_c w wx _ d s hx).mono ?_; rintro e wy ⟨rfl, hbel⟩; exact ⟨rfl, (by first | exact Kp.same hbel | exact Kp.drew hbel | exact Kp.below hbel : Kp wx wy)⟩)) | (go_simp; first | rfl | exact ⟨rfl, rfl⟩) | rfl | exact ⟨rfl, rfl⟩)); clear hK K)
        refine reg_l none (i := 19) rfl (by kernel_rfl) (fun wn hk K hK => ?_)
        replace HH := Lib.hid (hk _ _ HH.out)
        clear hk
        go_simp
        refine (linkTick_c w wn _ d 0 s hso.out (s.now + af) ws htU.out v2.out hle.out Ac nc cc ch v4.out g4 g5 (fun wx Hx => g2.out.old (Own.pm (Hx) (by repeat (first | with_reducible exact Pm.refl _ | with_reducible exact Pm.nil _ | with_reducible refine Pm.here ?_ | with_reducible refine Pm.at2 ?_ | with_reducible refine Pm.at3 ?_ | with_reducible refine Pm.at4 ?_ | with_reducible refine Pm.at5 ?_ | with_reducible refine Pm.at6 ?_ | with_reducible refine Pm.at7 ?_ | with_reducible refine Pm.at8 ?_ | with_reducible refine Pm.skip ?_)))) (by omega) HH.out).mono ?_
        rintro e wm ⟨v, rfl, H9_⟩
        replace HH := Lib.hid H9_
        clear H9_
        refine hK _ _ _ HH.out (.inl (by kernel_rfl)) ?_
        clear hK K
        refine mixk_done (by kernel_rfl) (fun w8_ hk => ?_) _
        replace HH := Lib.hid (hk _ _ HH.out)
        clear hk
        go_wp2_with fail
        have H9 := Lib.hid ((Own.pm (HH.out) (by repeat (first | with_reducible exact Pm.refl _ | with_reducible exact Pm.nil _ | with_reducible refine Pm.here ?_ | with_reducible refine Pm.at2 ?_ | with_reducible refine Pm.at3 ?_ | with_reducible refine Pm.at4 ?_ | with_reducible refine Pm.at5 ?_ | with_reducible refine Pm.at6 ?_ | with_reducible refine Pm.at7 ?_ | with_reducible refine Pm.at8 ?_ | with_reducible refine Pm.skip ?_))) : Own w _ (lnk b (s.tick (s.now + af) ws ch) :: lnk d (s.tick (s.now + af) ws ch) :: pts pb _ :: pts ob _ :: [old w]))
        go_roundw
        case rel => exact ⟨k + 1, _, _, by omega, by go_num, rfl, hL2.out, H9.out⟩
        case measure => simp [intOf]; omega
      | false =>
        have o1' := ((Own.pm (HH.out) (by repeat (first | with_reducible exact Pm.refl _ | with_reducible exact Pm.nil _ | with_reducible refine Pm.here ?_ | with_reducible refine Pm.at2 ?_ | with_reducible refine Pm.at3 ?_ | with_reducible refine Pm.at4 ?_ | with_reducible refine Pm.at5 ?_ | with_reducible refine Pm.at6 ?_ | with_reducible refine Pm.at7 ?_ | with_reducible refine Pm.at8 ?_ | with_reducible refine Pm.skip ?_))) : Own w _ [old w]).old_cell c1
        go_wp2_with fail
        refine (packets21_c w _ _ frm As sz.length cs sz (fun wx Hx => g1.out.old (Own.pm (Hx) (by repeat (first | with_reducible exact Pm.refl _ | with_reducible exact Pm.nil _ | with_reducible refine Pm.here ?_ | with_reducible refine Pm.at2 ?_ | with_reducible refine Pm.at3 ?_ | with_reducible refine Pm.at4 ?_ | with_reducible refine Pm.at5 ?_ | with_reducible refine Pm.at6 ?_ | with_reducible refine Pm.at7 ?_ | with_reducible refine Pm.at8 ?_ | with_reducible refine Pm.skip ?_)))) (by omega) HH.out).mono ?_
        rintro e w9_ ⟨v, rfl, H9_⟩
        replace HH := Lib.hid H9_
        clear H9_
        obtain ⟨A1, n1, d1, rfl, _, _, hpk⟩ := HH.out.slcP_val
        obtain rfl : n1 = sz.length := by rw [← hpk.1, mkPks_len]
        clear hpk o0' o1'
        have hwf : IntKind.i64.wrap ((frm : Int) + (sz.length : Int)) = (frm : Int) + (sz.length : Int) := by rw [IntKind.wrap_i64]; omega
        have hpo := Lib.hid (mkPks_ok (f := frm) (l := sz) (by omega) v3.out)
        replace HH := Lib.hid ((Own.pm (HH.out) (by repeat (first | with_reducible exact Pm.refl _ | with_reducible exact Pm.nil _ | with_reducible refine Pm.here ?_ | with_reducible refine Pm.at2 ?_ | with_reducible refine Pm.at3 ?_ | with_reducible refine Pm.at4 ?_ | with_reducible refine Pm.at5 ?_ | with_reducible refine Pm.at6 ?_ | with_reducible refine Pm.at7 ?_ | with_reducible refine Pm.at8 ?_ | with_reducible refine Pm.skip ?_))) : Own w _ (lnk b s :: slcP (.slice A1 sz.length d1) (mkPks frm sz) :: lnk d s :: pts pb _ :: pts ob _ :: [old w]))
        go_wp2_with fail
        refine (linkSend_c w _ _ b s hso.out A1 sz.length d1 (mkPks frm sz) hpo.out (fun wx Hx => by obtain ⟨_, _, _, e, _, _, h⟩ := Hx.slcP_val; cases e; exact h) (by omega) HH.out).mono ?_
        rintro e w10_ ⟨rfl, H9_⟩
        replace HH := Lib.hid H9_
        clear H9_
        replace HH := Lib.hid ((Own.pm (HH.out) (by repeat (first | with_reducible exact Pm.refl _ | with_reducible exact Pm.nil _ | with_reducible refine Pm.here ?_ | with_reducible refine Pm.at2 ?_ | with_reducible refine Pm.at3 ?_ | with_reducible refine Pm.at4 ?_ | with_reducible refine Pm.at5 ?_ | with_reducible refine Pm.at6 ?_ | with_reducible refine Pm.at7 ?_ | with_reducible refine Pm.at8 ?_ | with_reducible refine Pm.skip ?_))) : Own w _ (lnk d s :: slcP (.slice A1 sz.length d1) (mkPks frm sz) :: lnk b (s.send (mkPks frm sz)).1 :: pts pb _ :: pts ob _ :: [old w]))
        go_wp2_with fail
        refine (linkSend_c w _ _ d s hso.out A1 sz.length d1 (mkPks frm sz) hpo.out (fun wx Hx => by obtain ⟨_, _, _, e, _, _, h⟩ := Hx.slcP_val; cases e; exact h) (by omega) HH.out).mono ?_
        rintro e w11_ ⟨rfl, H9_⟩
        replace HH := Lib.hid H9_
        clear H9_
        go_wp2_with fail
        have H9 := Lib.hid ((Own.pm (HH.out) (by repeat (first | with_reducible exact Pm.refl _ | with_reducible exact Pm.nil _ | with_reducible refine Pm.here ?_ | with_reducible refine Pm.at2 ?_ | with_reducible refine Pm.at3 ?_ | with_reducible refine Pm.at4 ?_ | with_reducible refine Pm.at5 ?_ | with_reducible refine Pm.at6 ?_ | with_reducible refine Pm.at7 ?_ | with_reducible refine Pm.at8 ?_ | with_reducible refine Pm.skip ?_))) : Own w _ (lnk b (s.send (mkPks frm sz)).1 :: lnk d (s.send (mkPks frm sz)).1 :: pts pb _ :: pts ob _ :: [old w]))
        go_roundw
        case rel => exact ⟨k + 1, frm + sz.length, _, by omega, by go_num, by go_num, hL2.out, H9.out⟩
        case measure => simp [intOf]; omega
    · have hkl : k = len := by omega
      subst hkl
      have htwo : ∀ s1 s2, s.tick (s.now + o1 + o2) 0 [] = s1 → (s.tick (s.now + o1) 0 []).tick (s.now + o1 + o2) 0 [] = s2 → s1.served = s2.served ∧ s1.q.bytes = s2.q.bytes ∧ s1.q.gone = s2.q.gone ∧ s1.b.tok = s2.b.tok ∧ s1.b.was = s2.b.was := by
        rintro _ _ rfl rfl
        rcases hrs.out with h0 | hr
        · have e := hL.zero h0
          subst e
          exact new_two u1.out u2.out u3.out u4.out ho1 ho3 hs1 hs2
        · exact ((hL.inv hr).mono (t' := 64424509440) (c' := 3865470566400) (by omega) (by omega)).two (by omega) ho1 ho3 (by omega)
      have hn0 := hso.out.now.1
      have hnb : s.now ≤ 68719476736 := by
        rcases hrs.out with h0 | hr
        · rw [hL.zero h0]; show (0 : Int) ≤ _; omega
        · have := (hL.inv hr).now; omega
      clear hA hok hfew hsml hrs hL
      have hso' := hso.out
      have q1 : IntKind.u64.wrap (s.now + o1) = s.now + o1 := by rw [IntKind.wrap_u64]; omega
      have q2 : IntKind.u64.wrap (s.now + o1 + o2) = s.now + o1 + o2 := by rw [IntKind.wrap_u64]; omega
      have q3 : IntKind.u64.wrap o1 = o1 := by rw [IntKind.wrap_u64]; omega
      have q4 : IntKind.u64.wrap o2 = o2 := by rw [IntKind.wrap_u64]; omega
      have hU1 : U (s.now + o1) := ⟨by omega, by omega⟩
      have hU2 : U (s.now + o1 + o2) := ⟨by omega, by omega⟩
      have hle1 : s.now ≤ s.now + o1 := by omega
      have hle2 : s.now ≤ s.now + o1 + o2 := by omega
      have hsl3 : s.len ≤ 1000000 := by omega
      have hoa := Lnk.ok_tick (w := 0) (ch := []) hso' hU2 U_zero (by simp)
      have hob := Lnk.ok_tick (w := 0) (ch := []) hso' hU1 U_zero (by simp)
      have hoc := Lnk.ok_tick (w := 0) (ch := []) hob hU2 U_zero (by simp)
      have hla := Nat.le_trans (Lnk.len_tick s (s.now + o1 + o2) 0 []) hsl3
      have hlb := Nat.le_trans (Lnk.len_tick s (s.now + o1) 0 []) hsl3
      have hlc := Nat.le_trans (Lnk.len_tick (s.tick (s.now + o1) 0 []) (s.now + o1 + o2) 0 []) hlb
      have hnw : (s.tick (s.now + o1) 0 []).now ≤ s.now + o1 + o2 := by
        have e : (s.tick (s.now + o1) 0 []).now = s.now + o1 := by
          show ((((s.begin (s.now + o1)).serve []).spill 0)).now = _
          have : (((s.begin (s.now + o1)).serve []).spill 0).now = ((s.begin (s.now + o1)).serve []).now := by unfold Lnk.spill; split <;> rfl
          rw [this]; exact (serveN_was _ _ _).2
        rw [e]; omega
      obtain ⟨s1, hs1'⟩ : ∃ s1, s.tick (s.now + o1 + o2) 0 [] = s1 := ⟨_, rfl⟩
      obtain ⟨sm1, hsm1⟩ : ∃ sm1, s.tick (s.now + o1) 0 [] = sm1 := ⟨_, rfl⟩
      obtain ⟨s2, hs2'⟩ : ∃ s2, sm1.tick (s.now + o1 + o2) 0 [] = s2 := ⟨_, rfl⟩
      have htw := htwo s1 s2 hs1' (by rw [hsm1]; exact hs2')
      rw [hs1'] at hoa hla
      rw [hsm1] at hob hlb hnw hoc hlc
      rw [hs2'] at hoc hlc
      clear htwo
      obtain ⟨t1, t2, t3, t4, t5⟩ := htw
      have r1 : (s1.served == s2.served) = true := by rw [t1]; exact beq_self_eq_true _
      have r2 : (s1.q.bytes == s2.q.bytes) = true := by rw [t2]; exact beq_self_eq_true _
      have r3 : (s1.q.gone == s2.q.gone) = true := by rw [t3]; exact beq_self_eq_true _
      have r4 : (s1.b.tok == s2.b.tok) = true := by rw [t4]; exact beq_self_eq_true _
      have r5 : (s1.b.was == s2.b.was) = true := by rw [t5]; exact beq_self_eq_true _
      clear t1 t2 t3 t4 t5 hn0 hnb hfw hlt hk
      replace hso' := Lib.hid hso'
      replace hU1 := Lib.hid hU1
      replace hU2 := Lib.hid hU2
      replace hle1 := Lib.hid hle1
      replace hle2 := Lib.hid hle2
      replace hsl3 := Lib.hid hsl3
      replace hoa := Lib.hid hoa
      replace hob := Lib.hid hob
      replace hoc := Lib.hid hoc
      replace hla := Lib.hid hla
      replace hlb := Lib.hid hlb
      replace hlc := Lib.hid hlc
      replace hnw := Lib.hid hnw
      replace hs1' := Lib.hid hs1'
      replace hsm1 := Lib.hid hsm1
      replace hs2' := Lib.hid hs2'
      clear hs1 hs2 ho1 ho2 ho3 ho4
      replace HH := Lib.hid ((Own.pm (HH.out) (by repeat (first | with_reducible exact Pm.refl _ | with_reducible exact Pm.nil _ | with_reducible refine Pm.here ?_ | with_reducible refine Pm.at2 ?_ | with_reducible refine Pm.at3 ?_ | with_reducible refine Pm.at4 ?_ | with_reducible refine Pm.at5 ?_ | with_reducible refine Pm.at6 ?_ | with_reducible refine Pm.at7 ?_ | with_reducible refine Pm.at8 ?_ | with_reducible refine Pm.skip ?_))) : Own w _ (lnk b s :: lnk d s :: pts ob _ :: [old w]))
      go_wp2_with fail
      go_wp2_with fail
      refine wp_region_reg none HH.out (by kernel_rfl) ?_
      intro wm H9_
      replace HH := Lib.hid H9_
      clear H9_
      refine reg_p (i := 0) rfl (by kernel_rfl) (fun _ _ _ _ h => h) HH.out (fun K hK => ?_)
      go_simp
      first | (refine hK _ ?_; clear hK K) | (apply Exists.intro; refine ⟨?_, hK _ ?_⟩; (focus (intro wx; first | (go_simp; first | rfl) | rfl)); clear hK K)
      refine mixk_q (i := 1) rfl (by kernel_rfl) (fun _ _ _ _ h => h) HH.out (fun K hK => ?_)
      go_simp
      first | (refine hK _ ?_; clear hK K) | (apply Exists.intro; refine ⟨?_, hK _ ?_⟩; (focus (intro wx hx; have x3_ := hx.r3.cells; first | (first | (go_at_call 47; refine (linkTime_c w wx _ b s hx).mono ?_; rintro e wy ⟨rfl, hbel⟩; exact ⟨rfl, (by first | exact Kp.same hbel | exact Kp.drew hbel | exact Kp.below hbel : Kp wx wy)⟩)) | (go_simp; first | rfl | exact ⟨rfl, rfl⟩) | rfl | exact ⟨rfl, rfl⟩)); clear hK K)
      refine reg_p (i := 2) rfl (by kernel_rfl) (fun _ _ _ _ h => h) HH.out (fun K hK => ?_)
      go_simp
      first | (refine hK _ ?_; clear hK K) | (apply Exists.intro; refine ⟨?_, hK _ ?_⟩; (focus (intro wx; first | (go_simp; first | rfl) | rfl)); clear hK K)
      refine mixk_q (i := 3) rfl (by kernel_rfl) (fun _ _ _ _ h => h) HH.out (fun K hK => ?_)
      go_simp
      first | (refine hK _ ?_; clear hK K) | (apply Exists.intro; refine ⟨?_, hK _ ?_⟩; (focus (intro wx hx; have x3_ := hx.r3.cells; first | (first | (go_at_call 47; refine (linkTime_c w wx _ b s hx).mono ?_; rintro e wy ⟨rfl, hbel⟩; exact ⟨rfl, (by first | exact Kp.same hbel | exact Kp.drew hbel | exact Kp.below hbel : Kp wx wy)⟩)) | (go_simp; first | rfl | exact ⟨rfl, rfl⟩) | rfl | exact ⟨rfl, rfl⟩)); clear hK K)
      refine reg_p (i := 4) rfl (by kernel_rfl) (fun _ _ _ _ h => h) HH.out (fun K hK => ?_)
      go_simp
      first | (refine hK _ ?_; clear hK K) | (apply Exists.intro; refine ⟨?_, hK _ ?_⟩; (focus (intro wx; first | (go_simp; first | rfl) | rfl)); clear hK K)
      refine reg_p (i := 5) rfl (by kernel_rfl) (fun _ _ _ _ h => h) HH.out (fun K hK => ?_)
      go_simp
      first | (refine hK _ ?_; clear hK K) | (apply Exists.intro; refine ⟨?_, hK _ ?_⟩; (focus (intro wx; first | (go_simp; first | rfl) | rfl)); clear hK K)
      refine reg_p (i := 6) rfl (by kernel_rfl) (fun _ _ _ _ h => h) HH.out (fun K hK => ?_)
      go_simp
      first | (refine hK _ ?_; clear hK K) | (apply Exists.intro; refine ⟨?_, hK _ ?_⟩; (focus (intro wx; first | (go_simp; first | rfl) | rfl)); clear hK K)
      refine mixk_q (i := 7) rfl (by kernel_rfl) (fun _ _ _ _ h => h) HH.out (fun K hK => ?_)
      go_simp
      first | (refine hK _ ?_; clear hK K) | (apply Exists.intro; refine ⟨?_, hK _ ?_⟩; (focus (intro wx hx; have x3_ := hx.r3.cells; first | (first | (go_at_call 47; refine (linkTime_c w wx _ b s hx).mono ?_; rintro e wy ⟨rfl, hbel⟩; exact ⟨rfl, (by first | exact Kp.same hbel | exact Kp.drew hbel | exact Kp.below hbel : Kp wx wy)⟩)) | (go_simp; first | rfl | exact ⟨rfl, rfl⟩) | rfl | exact ⟨rfl, rfl⟩)); clear hK K)
      refine reg_p (i := 8) rfl (by kernel_rfl) (fun _ _ _ _ h => h) HH.out (fun K hK => ?_)
      go_simp
      first | (refine hK _ ?_; clear hK K) | (apply Exists.intro; refine ⟨?_, hK _ ?_⟩; (focus (intro wx; first | (go_simp; first | rfl) | rfl)); clear hK K)
      refine reg_p (i := 9) rfl (by kernel_rfl) (fun _ _ _ _ h => h) HH.out (fun K hK => ?_)
      go_simp
      first | (refine hK _ ?_; clear hK K) | (apply Exists.intro; refine ⟨?_, hK _ ?_⟩; (focus (intro wx; first | (go_simp; first | rfl) | rfl)); clear hK K)
      refine reg_p (i := 10) rfl (by kernel_rfl) (fun _ _ _ _ h => h) HH.out (fun K hK => ?_)
      go_simp
      first | (refine hK _ ?_; clear hK K) | (apply Exists.intro; refine ⟨?_, hK _ ?_⟩; (focus (intro wx; first | (go_simp; first | rfl) | rfl)); clear hK K)
      refine mixk_done (by kernel_rfl) (fun w12_ hk => ?_) _
      replace HH := Lib.hid (hk _ _ HH.out)
      clear hk
      go_wp2_with fail
      go_wp2_with fail
      refine wp_region_reg (some 7) HH.out (by kernel_rfl) ?_
      intro wm H9_
      replace HH := Lib.hid H9_
      clear H9_
      refine reg_p (i := 0) rfl (by kernel_rfl) (fun _ _ _ _ h => h) HH.out (fun K hK => ?_)
      go_simp
      first | (refine hK _ ?_; clear hK K) | (apply Exists.intro; refine ⟨?_, hK _ ?_⟩; (focus (intro wx; first | (go_simp; first | rfl) | rfl)); clear hK K)
      refine reg_p (i := 1) rfl (by kernel_rfl) (fun _ _ _ _ h => h) HH.out (fun K hK => ?_)
      go_simp
      first | (refine hK _ ?_; clear hK K) | (apply Exists.intro; refine ⟨?_, hK _ ?_⟩; (focus (intro wx; first | (go_simp; first | rfl) | rfl)); clear hK K)
      refine mixk_q (i := 2) rfl (by kernel_rfl) (fun _ _ _ _ h => h) HH.out (fun K hK => ?_)
      go_simp
      first | (refine hK _ ?_; clear hK K) | (apply Exists.intro; refine ⟨?_, hK _ ?_⟩; (focus (intro wx hx; have x3_ := hx.r3.cells; first | (first | (go_at_call 47; refine (linkTime_c w wx _ d s hx.r2).mono ?_; rintro e wy ⟨rfl, hbel⟩; exact ⟨rfl, (by first | exact Kp.same hbel | exact Kp.drew hbel | exact Kp.below hbel : Kp wx wy)⟩)) | (go_simp; first | rfl | exact ⟨rfl, rfl⟩) | rfl | exact ⟨rfl, rfl⟩)); clear hK K)
      refine reg_p (i := 3) rfl (by kernel_rfl) (fun _ _ _ _ h => h) HH.out (fun K hK => ?_)
      go_simp
      first | (refine hK _ ?_; clear hK K) | (apply Exists.intro; refine ⟨?_, hK _ ?_⟩; (focus (intro wx; first | (go_simp; first | rfl) | rfl)); clear hK K)
      refine mixk_q (i := 4) rfl (by kernel_rfl) (fun _ _ _ _ h => h) HH.out (fun K hK => ?_)
      go_simp
      first | (refine hK _ ?_; clear hK K) | (apply Exists.intro; refine ⟨?_, hK _ ?_⟩; (focus (intro wx hx; have x3_ := hx.r3.cells; first | (first | (go_at_call 47; refine (linkTime_c w wx _ d s hx.r2).mono ?_; rintro e wy ⟨rfl, hbel⟩; exact ⟨rfl, (by first | exact Kp.same hbel | exact Kp.drew hbel | exact Kp.below hbel : Kp wx wy)⟩)) | (go_simp; first | rfl | exact ⟨rfl, rfl⟩) | rfl | exact ⟨rfl, rfl⟩)); clear hK K)
      refine reg_p (i := 5) rfl (by kernel_rfl) (fun _ _ _ _ h => h) HH.out (fun K hK => ?_)
      go_simp
      first | (refine hK _ ?_; clear hK K) | (apply Exists.intro; refine ⟨?_, hK _ ?_⟩; (focus (intro wx; first | (go_simp; first | rfl) | rfl)); clear hK K)
      refine reg_p (i := 6) rfl (by kernel_rfl) (fun _ _ _ _ h => h) HH.out (fun K hK => ?_)
      go_simp
      first | (refine hK _ ?_; clear hK K) | (apply Exists.intro; refine ⟨?_, hK _ ?_⟩; (focus (intro wx; first | (go_simp; first | rfl) | rfl)); clear hK K)
      refine reg_l none (i := 7) rfl (by kernel_rfl) (fun wn hk K hK => ?_)
      replace HH := Lib.hid (hk _ _ HH.out)
      clear hk
      go_simp
      refine (linkTick_c w wn _ d 0 s hso'.out (s.now + o1) 0 hU1.out (by decide) hle1.out none 0 0 [] (by simp) (by decide) (Nat.le_refl _) (fun wx _ => nsAt.zero wx _) hsl3.out HH.out.r2).mono ?_
      rintro e wm ⟨v, rfl, H9_⟩
      replace HH := Lib.hid H9_
      clear H9_
      refine hK _ _ _ HH.out (.inl (by kernel_rfl)) ?_
      clear hK K
      refine mixk_done (by kernel_rfl) (fun w13_ hk => ?_) _
      replace HH := Lib.hid (hk _ _ HH.out)
      clear hk
      clear q1 q2 q3 q4
      rw [hsm1.out] at HH
      replace HH := Lib.hid ((Own.pm (HH.out) (by repeat (first | with_reducible exact Pm.refl _ | with_reducible exact Pm.nil _ | with_reducible refine Pm.here ?_ | with_reducible refine Pm.at2 ?_ | with_reducible refine Pm.at3 ?_ | with_reducible refine Pm.at4 ?_ | with_reducible refine Pm.at5 ?_ | with_reducible refine Pm.at6 ?_ | with_reducible refine Pm.at7 ?_ | with_reducible refine Pm.at8 ?_ | with_reducible refine Pm.skip ?_))) : Own w _ (lnk b s :: lnk d sm1 :: [old w]))
      go_wp2_with fail
      refine (linkTick_c w _ _ b 0 s hso'.out (s.now + o1 + o2) 0 hU2.out (by decide) hle2.out none 0 0 [] (by simp) (by decide) (Nat.le_refl _) (fun wx _ => nsAt.zero wx _) hsl3.out HH.out).mono ?_
      rintro e w14_ ⟨v3, rfl, H9_⟩
      replace HH := Lib.hid H9_
      clear H9_
      rw [hs1'.out] at HH
      replace HH := Lib.hid ((Own.pm (HH.out) (by repeat (first | with_reducible exact Pm.refl _ | with_reducible exact Pm.nil _ | with_reducible refine Pm.here ?_ | with_reducible refine Pm.at2 ?_ | with_reducible refine Pm.at3 ?_ | with_reducible refine Pm.at4 ?_ | with_reducible refine Pm.at5 ?_ | with_reducible refine Pm.at6 ?_ | with_reducible refine Pm.at7 ?_ | with_reducible refine Pm.at8 ?_ | with_reducible refine Pm.skip ?_))) : Own w _ (lnk d sm1 :: lnk b s1 :: [old w]))
      go_wp2_with fail
      refine (linkTick_c w _ _ d 0 sm1 hob.out (s.now + o1 + o2) 0 hU2.out (by decide) hnw.out none 0 0 [] (by simp) (by decide) (Nat.le_refl _) (fun wx _ => nsAt.zero wx _) hlb.out HH.out).mono ?_
      rintro e w15_ ⟨v4, rfl, H9_⟩
      replace HH := Lib.hid H9_
      clear H9_
      rw [hs2'.out] at HH
      replace HH := Lib.hid ((Own.pm (HH.out) (by repeat (first | with_reducible exact Pm.refl _ | with_reducible exact Pm.nil _ | with_reducible refine Pm.here ?_ | with_reducible refine Pm.at2 ?_ | with_reducible refine Pm.at3 ?_ | with_reducible refine Pm.at4 ?_ | with_reducible refine Pm.at5 ?_ | with_reducible refine Pm.at6 ?_ | with_reducible refine Pm.at7 ?_ | with_reducible refine Pm.at8 ?_ | with_reducible refine Pm.skip ?_))) : Own w _ (lnk b s1 :: lnk d s2 :: [old w]))
      go_wp2_with fail
      refine (linkCount_c w _ _ b s1 hoa.out hla.out HH.out).mono ?_
      rintro e w16_ ⟨rfl, H9_⟩
      replace HH := Lib.hid H9_
      clear H9_
      go_wp2_with (with_reducible refine stop_al ?_)
      refine Stop.go ?_
      refine wpList_alloc_own HH.out [.int .u64 0, .int .u64 0, .int .u64 0, .int .u64 0, .int .u64 0, .int .u64 0] (by kernel_rfl) ?_
      intro ca w17_ H9_
      replace HH := Lib.hid H9_
      clear H9_
      go_wp2_with (with_reducible refine stop_st ?_)
      refine Stop.go ?_
      refine wpList_store_own _ #[_, _, _, _, _, _] rfl rfl HH.out (by kernel_rfl) rfl (by repeat (first | (refine List.forall_mem_cons.2 ⟨(by first | with_reducible assumption | rfl), ?_⟩) | exact fun _ h => absurd h List.not_mem_nil)) ?_
      intro w18_ H9_
      replace HH := Lib.hid H9_
      clear H9_
      replace HH := Lib.hid ((Own.pm (HH.out) (by repeat (first | with_reducible exact Pm.refl _ | with_reducible exact Pm.nil _ | with_reducible refine Pm.here ?_ | with_reducible refine Pm.at2 ?_ | with_reducible refine Pm.at3 ?_ | with_reducible refine Pm.at4 ?_ | with_reducible refine Pm.at5 ?_ | with_reducible refine Pm.at6 ?_ | with_reducible refine Pm.at7 ?_ | with_reducible refine Pm.at8 ?_ | with_reducible refine Pm.skip ?_))) : Own w _ (lnk d s2 :: pts ca _ :: lnk b s1 :: [old w]))
      go_wp2_with fail
      refine (linkCount_c w _ _ d s2 hoc.out hlc.out HH.out).mono ?_
      rintro e w19_ ⟨rfl, H9_⟩
      replace HH := Lib.hid H9_
      clear H9_
      go_wp2_with (with_reducible refine stop_al ?_)
      refine Stop.go ?_
      refine wpList_alloc_own HH.out [.int .u64 0, .int .u64 0, .int .u64 0, .int .u64 0, .int .u64 0, .int .u64 0] (by kernel_rfl) ?_
      intro cb w20_ H9_
      replace HH := Lib.hid H9_
      clear H9_
      go_wp2_with (with_reducible refine stop_st ?_)
      refine Stop.go ?_
      refine wpList_store_own _ #[_, _, _, _, _, _] rfl rfl HH.out (by kernel_rfl) rfl (by repeat (first | (refine List.forall_mem_cons.2 ⟨(by first | with_reducible assumption | rfl), ?_⟩) | exact fun _ h => absurd h List.not_mem_nil)) ?_
      intro w21_ H9_
      replace HH := Lib.hid H9_
      clear H9_
      replace HH := Lib.hid ((Own.pm (HH.out) (by repeat (first | with_reducible exact Pm.refl _ | with_reducible exact Pm.nil _ | with_reducible refine Pm.here ?_ | with_reducible refine Pm.at2 ?_ | with_reducible refine Pm.at3 ?_ | with_reducible refine Pm.at4 ?_ | with_reducible refine Pm.at5 ?_ | with_reducible refine Pm.at6 ?_ | with_reducible refine Pm.at7 ?_ | with_reducible refine Pm.at8 ?_ | with_reducible refine Pm.skip ?_))) : Own w _ (lnk b s1 :: lnk d s2 :: pts ca _ :: pts cb _ :: [old w]))
      go_wp2_with fail
      refine (linkTokens_c w _ _ b s1 HH.out).mono ?_
      rintro e w22_ ⟨rfl, H9_⟩
      replace HH := Lib.hid H9_
      clear H9_
      go_wp2_with fail
      refine (linkTokens_c w _ _ d s2 HH.out.r2).mono ?_
      rintro e w23_ ⟨rfl, H9_⟩
      replace HH := Lib.hid H9_
      clear H9_
      replace HH := Lib.hid ((Own.pm (HH.out) (by repeat (first | with_reducible exact Pm.refl _ | with_reducible exact Pm.nil _ | with_reducible refine Pm.here ?_ | with_reducible refine Pm.at2 ?_ | with_reducible refine Pm.at3 ?_ | with_reducible refine Pm.at4 ?_ | with_reducible refine Pm.at5 ?_ | with_reducible refine Pm.at6 ?_ | with_reducible refine Pm.at7 ?_ | with_reducible refine Pm.at8 ?_ | with_reducible refine Pm.skip ?_))) : Own w _ (pts ca _ :: pts cb _ :: [old w]))
      go_wp2_with fail
      refine (alive21_k _).mono ?_
      rintro e w24_ ⟨rfl, hbel⟩
      replace HH := Lib.hid ((by first | exact Kp.same hbel | exact Kp.drew hbel | exact Kp.below hbel : Kp _ w24_) _ _ (by first | exact HH.out | exact HH.out.drewN _ | exact (HH.out.alloc _).tail | exact ((HH.out.alloc _).drewN _).tail | exact ((HH.out.alloc _).alloc _).tail.tail))
      clear hbel
      (try clear cc1_); (try clear cc2_); (try clear cc3_); (try clear cc4_); (try clear cc5_); (try clear cc6_); (try clear cc7_)
      have cc1_ := HH.out.cells
      have cc2_ := HH.out.r2.cells
      go_wp2_with fail
      go_ret
      exact ⟨rfl, (Own.pm (HH.out) (by repeat (first | with_reducible exact Pm.refl _ | with_reducible exact Pm.nil _ | with_reducible refine Pm.here ?_ | with_reducible refine Pm.at2 ?_ | with_reducible refine Pm.at3 ?_ | with_reducible refine Pm.at4 ?_ | with_reducible refine Pm.at5 ?_ | with_reducible refine Pm.at6 ?_ | with_reducible refine Pm.at7 ?_ | with_reducible refine Pm.at8 ?_ | with_reducible refine Pm.skip ?_)))⟩
end
end Go.Proofs.Ytklohjjkpobneaa
