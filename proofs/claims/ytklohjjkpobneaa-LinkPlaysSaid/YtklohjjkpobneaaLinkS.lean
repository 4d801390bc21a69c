/- link: the document's Tick with its counts. -/
import Derived.Test.YtklohjjkpobneaaLinkQ
namespace Go.Proofs.Ytklohjjkpobneaa
open Go.RowKit
theorem slc_srcP {ε w : World} {R : List Asn} {A : Option Addr} {n cap : Nat} {l : List Pk} (H : Own ε w (slcP (.slice A n cap) l :: R)) : srcAt w A n 7 (pks l).flatten := by
  obtain ⟨_, _, _, e, h⟩ := Own.slc_src H
  cases e
  exact h
section
variable (ε w : World) (R : List Asn) (b : Nat)
theorem Own.rl21_mk2 {s : Lnk} {rb : Nat} {v1 v2 : Value} (H : Own ε w (pts b (.cells #[.pointer (some ⟨rb, 0, none⟩), .int .u64 s.came, .int .u64 s.served, .int .u64 s.deliv] 111 (0, 0)) :: pts rb (.cells #[.int .u64 s.b.rate, .int .u64 s.b.now, .int .u64 s.b.tok, .int .u64 s.b.was, .int .u64 s.q.room, v1, .int .u64 s.q.dropped, .int .u64 s.q.gone, .int .u64 s.x.delay, .int .u64 s.x.jit, v2, .int .u64 s.x.last] 108 (0, 0)) :: slcP v1 s.q.l :: slcE v2 s.x.l :: R)) : Own ε w (rl21 b s :: R) := by
  have H1 := ((Own.pm (H) (by repeat (first | with_reducible exact Pm.refl _ | with_reducible exact Pm.nil _ | with_reducible refine Pm.here ?_ | with_reducible refine Pm.at2 ?_ | with_reducible refine Pm.at3 ?_ | with_reducible refine Pm.at4 ?_ | with_reducible refine Pm.at5 ?_ | with_reducible refine Pm.at6 ?_ | with_reducible refine Pm.at7 ?_ | with_reducible refine Pm.at8 ?_ | with_reducible refine Pm.skip ?_))) : Own ε w (pts rb _ :: slcP v1 s.q.l :: slcE v2 s.x.l :: pts b _ :: R))
  exact Own.rl21_mk ε w R b (Own.rlk_mk ε w _ rb H1).r2
set_option maxRecDepth 100000 in
set_option maxHeartbeats 12800000 in
theorem rl21Tick_c (s : Lnk) (hs : s.Ok) (hbn : s.b.now = s.now) (t wst : Int) (ht : U t) (hw : U wst) (hlt : s.now ≤ t) (A : Option Addr) (n cap : Nat) (ch : List Int) (hch : ∀ c ∈ ch, U c) (hn2 : n ≤ 9223372036854775807) (hA : ∀ wx, Own ε wx R → nsAt wx A n ch) (hl : s.len ≤ 1000000) (H : Own ε w (rl21 b s :: R)) :
    Calls Try.prog 55 #[.pointer (some ⟨b, 0, none⟩), .int .u64 t, .int .u64 wst, .slice A n cap] w fun e w' => ∃ v, e = .returned (.tuple #[v, .int .i64 0]) ∧ Own ε w' (slcP v (s.outs t wst ch) :: rl21 b (s.tick t wst ch) :: R) := by
  obtain ⟨rb, H⟩ := H.rl21_open
  obtain ⟨v1, v2, H⟩ := H.r2.rlk_open
  obtain ⟨A1, n1, c1, rfl, _, _, hpk1⟩ := H.r2.slcP_val
  obtain rfl : s.q.l.length = n1 := hpk1.1
  have HH := Lib.hid ((Own.pm (H) (by repeat (first | with_reducible exact Pm.refl _ | with_reducible exact Pm.nil _ | with_reducible refine Pm.here ?_ | with_reducible refine Pm.at2 ?_ | with_reducible refine Pm.at3 ?_ | with_reducible refine Pm.at4 ?_ | with_reducible refine Pm.at5 ?_ | with_reducible refine Pm.at6 ?_ | with_reducible refine Pm.at7 ?_ | with_reducible refine Pm.at8 ?_ | with_reducible refine Pm.skip ?_))) : Own ε w (pts b _ :: pts rb _ :: slcP (.slice A1 s.q.l.length c1) s.q.l :: slcE v2 s.x.l :: R))
  clear H hpk1
  obtain ⟨m, m1, m2, m3, m4, m5⟩ := tick_counts s t wst ch
  have hok9 := Lnk.ok_tick (w := wst) (ch := ch) hs ht hw hch
  have hqs : s.q.l.length ≤ 1000000 := by unfold Lnk.len at hl; omega
  have htick := fun w2 R2 (hA2 : ∀ wx, Own ε wx R2 → nsAt wx A n ch) (Hx : Own ε w2 (rlk rb s :: R2)) => rlkTick_c ε w2 R2 rb s hs hbn t wst ht hw hlt A n cap ch hch hn2 hA2 hl Hx
  have hsv := hs.served
  have hdv := hs.deliv
  have hqo := hs.q.all
  have hou : ∀ p ∈ s.outs t wst ch, p.Ok := outL_ok (Lnk.ok_mid hs ht hw hch).ps
  obtain ⟨s9, hs9⟩ : ∃ s9, s.tick t wst ch = s9 := ⟨_, rfl⟩
  obtain ⟨ol, hol⟩ : ∃ ol, s.outs t wst ch = ol := ⟨_, rfl⟩
  rw [hs9] at m2 m3 m4 m5 hok9 htick ⊢
  rw [hol] at m5 hou htick ⊢
  have hm1 : m ≤ 1000000 := by omega
  have hw9 : IntKind.i64.wrap ((s.q.l.length : Int) - (s9.q.l.length : Int)) = (m : Int) := by rw [IntKind.wrap_i64]; omega
  clear hs9 hol hs hbn hlt hl hch hn2 m2 ht hw hok9
  replace hA := Lib.hid hA
  replace m1 := Lib.hid m1
  replace m3 := Lib.hid m3
  replace m4 := Lib.hid m4
  replace m5 := Lib.hid m5
  replace htick := Lib.hid htick
  replace hsv := Lib.hid hsv
  replace hdv := Lib.hid hdv
  replace hqo := Lib.hid hqo
  replace hou := Lib.hid hou
  go_enter Try.func55, Try.ntmps55
  go_wp2_with (with_reducible refine stop_bs ?_)
  refine Stop.go ?_
  refine wpList_bs0_own HH.out 7 56 Try.underlying28 (by kernel_rfl) ?_
  intro g0 w1_ H9_
  replace HH := Lib.hid H9_
  clear H9_
  (try clear cc1_); (try clear cc2_); (try clear cc3_); (try clear cc4_); (try clear cc5_); (try clear cc6_); (try clear cc7_)
  have cc2_ := HH.out.r2.cells
  have cc3_ := HH.out.r3.cells
  go_wp2_with (with_reducible refine stop_app ?_)
  refine Stop.go ?_
  refine wpList_append_slc rfl _ _ 28 rfl 42 7 56 Try.underlying28 (by kernel_rfl) (by decide) rfl (HH.out) rfl ((show ([] : List Value).length = 0 * 7 from rfl)) ((slc_srcP HH.out.r4)) ((flat_pks_one _)) (by simp only [maxLen]; omega) (by omega) ?_
  intro vb w2_ H9_
  obtain ⟨A_vb, n_vb, c_vb, rfl⟩ := H9_.slc_isv
  replace HH := Lib.hid H9_
  clear H9_
  have H9 : Own ε _ (slcP (.slice A_vb n_vb c_vb) s.q.l :: _) := HH.out
  obtain ⟨_, nb, _, ee, _, _, hpk⟩ := H9.slcP_val
  cases ee
  obtain rfl : s.q.l.length = n_vb := hpk.1
  clear hpk
  replace HH := Lib.hid ((Own.pm (H9) (by repeat (first | with_reducible exact Pm.refl _ | with_reducible exact Pm.nil _ | with_reducible refine Pm.here ?_ | with_reducible refine Pm.at2 ?_ | with_reducible refine Pm.at3 ?_ | with_reducible refine Pm.at4 ?_ | with_reducible refine Pm.at5 ?_ | with_reducible refine Pm.at6 ?_ | with_reducible refine Pm.at7 ?_ | with_reducible refine Pm.at8 ?_ | with_reducible refine Pm.skip ?_))) : Own ε _ (pts rb _ :: slcP (.slice A1 s.q.l.length c1) s.q.l :: slcE v2 s.x.l :: slcP (.slice A_vb s.q.l.length c_vb) s.q.l :: pts b _ :: R))
  clear H9
  (try clear cc1_); (try clear cc2_); (try clear cc3_); (try clear cc4_); (try clear cc5_); (try clear cc6_); (try clear cc7_)
  have cc5_ := HH.out.r5.cells
  go_wp2_with fail
  refine (htick.out _ _ (fun wx Hx => hA.out wx Hx.tail.tail) (Own.rlk_mk ε _ _ rb HH.out)).mono ?_
  rintro e w3_ ⟨v, rfl, H9_⟩
  replace HH := Lib.hid H9_
  clear H9_
  clear htick
  obtain ⟨A2, n2, c2, rfl, _, hcm2, hpk⟩ := HH.out.slcP_val
  obtain rfl : ol.length = n2 := hpk.1
  have hol2 : ol.length ≤ 9223372036854775807 := by unfold maxLen at hcm2; omega
  clear hpk hcm2
  obtain ⟨u1, u2, H9⟩ := ((Own.pm (HH.out) (by repeat (first | with_reducible exact Pm.refl _ | with_reducible exact Pm.nil _ | with_reducible refine Pm.here ?_ | with_reducible refine Pm.at2 ?_ | with_reducible refine Pm.at3 ?_ | with_reducible refine Pm.at4 ?_ | with_reducible refine Pm.at5 ?_ | with_reducible refine Pm.at6 ?_ | with_reducible refine Pm.at7 ?_ | with_reducible refine Pm.at8 ?_ | with_reducible refine Pm.skip ?_))) : Own ε _ (rlk rb s9 :: slcP (.slice A_vb s.q.l.length c_vb) s.q.l :: slcP (.slice A2 ol.length c2) ol :: pts b _ :: R)).rlk_open
  obtain ⟨A3, n3, c3, rfl, _, _, hpk⟩ := H9.r2.slcP_val
  obtain rfl : s9.q.l.length = n3 := hpk.1
  clear hpk
  replace HH := Lib.hid ((Own.pm (H9) (by repeat (first | with_reducible exact Pm.refl _ | with_reducible exact Pm.nil _ | with_reducible refine Pm.here ?_ | with_reducible refine Pm.at2 ?_ | with_reducible refine Pm.at3 ?_ | with_reducible refine Pm.at4 ?_ | with_reducible refine Pm.at5 ?_ | with_reducible refine Pm.at6 ?_ | with_reducible refine Pm.at7 ?_ | with_reducible refine Pm.at8 ?_ | with_reducible refine Pm.skip ?_))) : Own ε _ (pts b _ :: pts rb _ :: slcP (.slice A_vb s.q.l.length c_vb) s.q.l :: slcP (.slice A2 ol.length c2) ol :: slcP (.slice A3 s9.q.l.length c3) s9.q.l :: slcE u2 s9.x.l :: R))
  clear H9
  (try clear cc1_); (try clear cc2_); (try clear cc3_); (try clear cc4_); (try clear cc5_); (try clear cc6_); (try clear cc7_)
  go_wp2_with fail
  go_loopw [13] (fun i wr => ∃ j : Nat, j ≤ m ∧ i = .int .i64 j ∧ Own ε wr (pts b (.cells #[.pointer (some ⟨rb, 0, none⟩), .int .u64 s.came, .int .u64 (sumF s.served (s.q.l.take j)), .int .u64 s.deliv] 111 (0, 0)) :: pts rb (.cells #[.int .u64 s9.b.rate, .int .u64 s9.b.now, .int .u64 s9.b.tok, .int .u64 s9.b.was, .int .u64 s9.q.room, .slice A3 s9.q.l.length c3, .int .u64 s9.q.dropped, .int .u64 s9.q.gone, .int .u64 s9.x.delay, .int .u64 s9.x.jit, u2, .int .u64 s9.x.last] 108 (0, 0)) :: slcP (.slice A_vb s.q.l.length c_vb) s.q.l :: slcP (.slice A2 ol.length c2) ol :: slcP (.slice A3 s9.q.l.length c3) s9.q.l :: slcE u2 s9.x.l :: R)) (fun i _ => m - (intOf i).toNat)
  case atStart => exact ⟨0, Nat.zero_le _, rfl, HH.out⟩
  case round =>
    clear HH
    obtain ⟨j, hj, rfl, HR⟩ := hrel
    have HH := Lib.hid HR
    clear HR
    by_cases hjm : j < m
    · have hjl : j < s.q.l.length := by have := m1.out; omega
      obtain ⟨g, off, p, ee, hp, _⟩ := (slc_pk HH.out.r3).cells hjl
      have hcs : ∀ wx R', Own ε wx (slcP (.slice A_vb s.q.l.length c_vb) s.q.l :: R') → wx.cell? ⟨g, off + j * 7 + 1, none⟩ = some (.int .u64 p.size) := fun wx R' Hx => by
        obtain ⟨g', off', p', e', hp', _, h1, _⟩ := (slc_pk Hx).cells hjl
        rw [ee] at e'
        cases e'
        rw [hp] at hp'
        cases hp'
        exact h1
      subst ee
      have hst := sumF_step (n := s.served) hp
      have hU : U (sumF s.served (s.q.l.take j)) := U_sumF hsv.out fun q hq => hqo.out q (List.mem_of_mem_take hq)
      have hsz := (hqo.out p (List.mem_of_getElem? hp)).2.1
      clear hp
      generalize sumF s.served (s.q.l.take j) = acc at *
      replace hst := Lib.hid hst
      replace hU := Lib.hid hU
      replace hsz := Lib.hid hsz
      replace hcs := Lib.hid hcs
      (try clear cc1_); (try clear cc2_); (try clear cc3_); (try clear cc4_); (try clear cc5_); (try clear cc6_); (try clear cc7_)
      have cc1_ := HH.out.cells
      have cc2_ := HH.out.r2.cells
      go_wp2_with fail
      (try clear cc1_); (try clear cc2_); (try clear cc3_); (try clear cc4_); (try clear cc5_); (try clear cc6_); (try clear cc7_)
      go_wp2_with fail
      refine wp_region_reg (some 13) HH.out (by kernel_rfl) ?_
      intro wm H9_
      replace HH := Lib.hid H9_
      clear H9_
      refine reg_p (i := 0) rfl (by kernel_rfl) (fun _ _ _ _ h => h) HH.out (fun K hK => ?_)
      go_simp
      first | (refine hK _ ?_; clear hK K) | (apply Exists.intro; refine ⟨?_, hK _ ?_⟩; (focus (intro wx; first | (go_simp; first | rfl) | rfl)); clear hK K)
      refine reg_p (i := 1) rfl (by kernel_rfl) (fun _ _ _ _ h => h) HH.out (fun K hK => ?_)
      go_simp
      first | (refine hK _ ?_; clear hK K) | (apply Exists.intro; refine ⟨?_, hK _ ?_⟩; (focus (intro wx; first | (go_simp; first | rfl) | rfl)); clear hK K)
      refine reg_p (i := 2) rfl (by kernel_rfl) (fun _ _ _ _ h => h) HH.out (fun K hK => ?_)
      go_simp
      first | (refine hK _ ?_; clear hK K) | (apply Exists.intro; refine ⟨?_, hK _ ?_⟩; (focus (intro wx; first | (go_simp; first | rfl) | rfl)); clear hK K)
      refine reg_p (i := 3) rfl (by kernel_rfl) (fun _ _ _ _ h => h) HH.out (fun K hK => ?_)
      go_simp
      first | (refine hK _ ?_; clear hK K) | (apply Exists.intro; refine ⟨?_, hK _ ?_⟩; (focus (intro wx; first | (go_simp; first | rfl) | rfl)); clear hK K)
      refine mixk_q (i := 4) rfl (by kernel_rfl) (fun _ _ _ _ h => h) HH.out (fun K hK => ?_)
      go_simp
      first | (refine hK _ ?_; clear hK K) | (apply Exists.intro; refine ⟨?_, hK _ ?_⟩; (focus (intro wx hx; have x1_ := hx.cells; have y1_ := hcs.out _ _ hx.r3; first | (first | (go_at_call 54; refine (refAdd_c wx acc p.size hU.out hsz.out).mono ?_; rintro e wy ⟨rfl, hbel⟩; exact ⟨rfl, (by first | exact Kp.same hbel | exact Kp.drew hbel | exact Kp.below hbel : Kp wx wy)⟩)) | (go_simp; first | rfl | exact ⟨rfl, rfl⟩) | rfl | exact ⟨rfl, rfl⟩)); clear hK K)
      refine reg_p (i := 5) rfl (by kernel_rfl) (fun _ _ _ _ h => h) HH.out (fun K hK => ?_)
      go_simp
      first | (refine hK _ ?_; clear hK K) | (apply Exists.intro; refine ⟨?_, hK _ ?_⟩; (focus (intro wx; first | (go_simp; first | rfl) | rfl)); clear hK K)
      refine reg_p (i := 6) rfl (by kernel_rfl) (fun _ _ _ _ h => h) HH.out (fun K hK => ?_)
      go_simp
      first | (refine hK _ ?_; clear hK K) | (apply Exists.intro; refine ⟨?_, hK _ ?_⟩; (focus (intro wx; first | (go_simp; first | rfl) | rfl)); clear hK K)
      refine reg_p (i := 7) rfl (by kernel_rfl) (fun _ _ _ _ h => h) HH.out (fun K hK => ?_)
      go_simp
      first | (refine hK _ ?_; clear hK K) | (apply Exists.intro; refine ⟨?_, hK _ ?_⟩; (focus (intro wx; first | (go_simp; first | rfl) | rfl)); clear hK K)
      refine reg_p (i := 8) rfl (by kernel_rfl) (fun _ _ _ _ h => h) HH.out (fun K hK => ?_)
      go_simp
      first | (refine hK _ ?_; clear hK K) | (apply Exists.intro; refine ⟨?_, hK _ ?_⟩; (focus (intro wx; first | (go_simp; first | rfl) | rfl)); clear hK K)
      refine mixk_q (i := 9) rfl (by kernel_rfl) (fun _ _ _ _ h => h) HH.out (fun K hK => ?_)
      go_simp
      first | (refine hK _ ?_; clear hK K) | (apply Exists.intro; refine ⟨?_, hK _ ?_⟩; (focus (intro wx hx; have x1_ := hx.cells; have y1_ := hcs.out _ _ hx.r3; first | (first | (go_at_call 54; refine (refAdd_c wx acc p.size hU.out hsz.out).mono ?_; rintro e wy ⟨rfl, hbel⟩; exact ⟨rfl, (by first | exact Kp.same hbel | exact Kp.drew hbel | exact Kp.below hbel : Kp wx wy)⟩)) | (go_simp; first | rfl | exact ⟨rfl, rfl⟩) | rfl | exact ⟨rfl, rfl⟩)); clear hK K)
      refine mixk_q (i := 10) rfl (by kernel_rfl) (fun _ _ _ _ h => h) HH.out (fun K hK => ?_)
      go_simp
      first | (refine hK _ ?_; clear hK K) | (apply Exists.intro; refine ⟨?_, hK _ ?_⟩; (focus (intro wx hx; have x1_ := hx.cells; have y1_ := hcs.out _ _ hx.r3; first | (first | (go_at_call 54; refine (refAdd_c wx acc p.size hU.out hsz.out).mono ?_; rintro e wy ⟨rfl, hbel⟩; exact ⟨rfl, (by first | exact Kp.same hbel | exact Kp.drew hbel | exact Kp.below hbel : Kp wx wy)⟩)) | (go_simp; first | rfl | exact ⟨rfl, rfl⟩) | rfl | exact ⟨rfl, rfl⟩)); clear hK K)
      refine reg_p (i := 11) rfl (by kernel_rfl) (fun _ _ _ _ h => h) HH.out (fun K hK => ?_)
      go_simp
      first | (refine hK _ ?_; clear hK K) | (apply Exists.intro; refine ⟨?_, hK _ ?_⟩; (focus (intro wx; first | (go_simp; first | rfl) | rfl)); clear hK K)
      refine reg_p (i := 12) rfl (by kernel_rfl) (fun _ _ _ _ h => h) HH.out (fun K hK => ?_)
      go_simp
      first | (refine hK _ ?_; clear hK K) | (apply Exists.intro; refine ⟨?_, hK _ ?_⟩; (focus (intro wx; first | (go_simp; first | rfl) | rfl)); clear hK K)
      refine reg_l none (i := 13) rfl (by kernel_rfl) (fun wn hk K hK => ?_)
      replace HH := Lib.hid (hk _ _ HH.out)
      clear hk
      have hx := HH.out
      have x1_ := hx.cells
      have y1_ := hcs.out _ _ hx.r3
      go_simp
      replace HH := Lib.hid (HH.out.set 2 (.int .u64 (sadd acc p.size)))
      simp only [List.setIfInBounds_toArray, List.set_cons_succ, List.set_cons_zero] at HH
      generalize wn.setCell ⟨b, 2, none⟩ (.int .u64 (sadd acc p.size)) = wm at *
      clear hx x1_
      refine hK _ _ _ HH.out (.inl (by kernel_rfl)) ?_
      clear hK K
      refine mixk_done (by kernel_rfl) (fun w4_ hk => ?_) _
      replace HH := Lib.hid (hk _ _ HH.out)
      clear hk
      replace HH := Lib.hid ((Own.pm (HH.out) (by repeat (first | with_reducible exact Pm.refl _ | with_reducible exact Pm.nil _ | with_reducible refine Pm.here ?_ | with_reducible refine Pm.at2 ?_ | with_reducible refine Pm.at3 ?_ | with_reducible refine Pm.at4 ?_ | with_reducible refine Pm.at5 ?_ | with_reducible refine Pm.at6 ?_ | with_reducible refine Pm.at7 ?_ | with_reducible refine Pm.at8 ?_ | with_reducible refine Pm.skip ?_))) : Own _ _ (pts b _ :: pts rb _ :: slcP (.slice (some ⟨g, off, none⟩) s.q.l.length c_vb) s.q.l :: slcP (.slice A2 ol.length c2) ol :: slcP (.slice A3 s9.q.l.length c3) s9.q.l :: slcE u2 s9.x.l :: R))
      go_wp2_with fail
      go_roundw
      case rel => exact ⟨j + 1, by omega, by go_num, by rw [hst.out]; exact HH.out⟩
      case measure => simp [intOf]; omega
    · have hjm2 : j = m := by omega
      subst hjm2
      clear hjm
      rw [← m3.out] at HH
      (try clear cc1_); (try clear cc2_); (try clear cc3_); (try clear cc4_); (try clear cc5_); (try clear cc6_); (try clear cc7_)
      have cc1_ := HH.out.cells
      have cc2_ := HH.out.r2.cells
      go_wp2_with fail
      (try clear cc1_); (try clear cc2_); (try clear cc3_); (try clear cc4_); (try clear cc5_); (try clear cc6_); (try clear cc7_)
      clear hw9
      replace HH := Lib.hid ((Own.pm (HH.out) (by repeat (first | with_reducible exact Pm.refl _ | with_reducible exact Pm.nil _ | with_reducible refine Pm.here ?_ | with_reducible refine Pm.at2 ?_ | with_reducible refine Pm.at3 ?_ | with_reducible refine Pm.at4 ?_ | with_reducible refine Pm.at5 ?_ | with_reducible refine Pm.at6 ?_ | with_reducible refine Pm.at7 ?_ | with_reducible refine Pm.at8 ?_ | with_reducible refine Pm.skip ?_))) : Own ε _ (pts b _ :: pts rb _ :: slcP (.slice A2 ol.length c2) ol :: slcP (.slice A3 s9.q.l.length c3) s9.q.l :: slcE u2 s9.x.l :: R))
      go_loopw [14] (fun i wr => ∃ j : Nat, j ≤ ol.length ∧ i = .int .i64 j ∧ Own ε wr (pts b (.cells #[.pointer (some ⟨rb, 0, none⟩), .int .u64 s.came, .int .u64 s9.served, .int .u64 (sumF s.deliv (ol.take j))] 111 (0, 0)) :: pts rb (.cells #[.int .u64 s9.b.rate, .int .u64 s9.b.now, .int .u64 s9.b.tok, .int .u64 s9.b.was, .int .u64 s9.q.room, .slice A3 s9.q.l.length c3, .int .u64 s9.q.dropped, .int .u64 s9.q.gone, .int .u64 s9.x.delay, .int .u64 s9.x.jit, u2, .int .u64 s9.x.last] 108 (0, 0)) :: slcP (.slice A2 ol.length c2) ol :: slcP (.slice A3 s9.q.l.length c3) s9.q.l :: slcE u2 s9.x.l :: R)) (fun i _ => ol.length - (intOf i).toNat)
      case atStart => exact ⟨0, Nat.zero_le _, rfl, HH.out⟩
      case round =>
        clear HH
        obtain ⟨k, hk, rfl, HR⟩ := hrel
        have HH := Lib.hid HR
        clear HR
        by_cases hkl : k < ol.length
        · obtain ⟨g, off, p, ee, hp, _⟩ := (slc_pk HH.out.r3).cells hkl
          have hcs : ∀ wx R', Own ε wx (slcP (.slice A2 ol.length c2) ol :: R') → wx.cell? ⟨g, off + k * 7 + 1, none⟩ = some (.int .u64 p.size) := fun wx R' Hx => by
            obtain ⟨g', off', p', e', hp', _, h1, _⟩ := (slc_pk Hx).cells hkl
            rw [ee] at e'
            cases e'
            rw [hp] at hp'
            cases hp'
            exact h1
          subst ee
          have hst := sumF_step (n := s.deliv) hp
          have hU : U (sumF s.deliv (ol.take k)) := U_sumF hdv.out fun q hq => hou.out q (List.mem_of_mem_take hq)
          have hsz := (hou.out p (List.mem_of_getElem? hp)).2.1
          clear hp
          generalize sumF s.deliv (ol.take k) = acc at *
          replace hst := Lib.hid hst
          replace hU := Lib.hid hU
          replace hsz := Lib.hid hsz
          replace hcs := Lib.hid hcs
          go_wp2_with fail
          go_wp2_with fail
          refine wp_region_reg (some 13) HH.out (by kernel_rfl) ?_
          intro wm H9_
          replace HH := Lib.hid H9_
          clear H9_
          refine reg_p (i := 0) rfl (by kernel_rfl) (fun _ _ _ _ h => h) HH.out (fun K hK => ?_)
          go_simp
          first | (refine hK _ ?_; clear hK K) | (apply Exists.intro; refine ⟨?_, hK _ ?_⟩; (focus (intro wx; first | (go_simp; first | rfl) | rfl)); clear hK K)
          refine reg_p (i := 1) rfl (by kernel_rfl) (fun _ _ _ _ h => h) HH.out (fun K hK => ?_)
          go_simp
          first | (refine hK _ ?_; clear hK K) | (apply Exists.intro; refine ⟨?_, hK _ ?_⟩; (focus (intro wx; first | (go_simp; first | rfl) | rfl)); clear hK K)
          refine reg_p (i := 2) rfl (by kernel_rfl) (fun _ _ _ _ h => h) HH.out (fun K hK => ?_)
          go_simp
          first | (refine hK _ ?_; clear hK K) | (apply Exists.intro; refine ⟨?_, hK _ ?_⟩; (focus (intro wx; first | (go_simp; first | rfl) | rfl)); clear hK K)
          refine reg_p (i := 3) rfl (by kernel_rfl) (fun _ _ _ _ h => h) HH.out (fun K hK => ?_)
          go_simp
          first | (refine hK _ ?_; clear hK K) | (apply Exists.intro; refine ⟨?_, hK _ ?_⟩; (focus (intro wx; first | (go_simp; first | rfl) | rfl)); clear hK K)
          refine mixk_q (i := 4) rfl (by kernel_rfl) (fun _ _ _ _ h => h) HH.out (fun K hK => ?_)
          go_simp
          first | (refine hK _ ?_; clear hK K) | (apply Exists.intro; refine ⟨?_, hK _ ?_⟩; (focus (intro wx hx; have x1_ := hx.cells; have y1_ := hcs.out _ _ hx.r3; first | (first | (go_at_call 54; refine (refAdd_c wx acc p.size hU.out hsz.out).mono ?_; rintro e wy ⟨rfl, hbel⟩; exact ⟨rfl, (by first | exact Kp.same hbel | exact Kp.drew hbel | exact Kp.below hbel : Kp wx wy)⟩)) | (go_simp; first | rfl | exact ⟨rfl, rfl⟩) | rfl | exact ⟨rfl, rfl⟩)); clear hK K)
          refine reg_p (i := 5) rfl (by kernel_rfl) (fun _ _ _ _ h => h) HH.out (fun K hK => ?_)
          go_simp
          first | (refine hK _ ?_; clear hK K) | (apply Exists.intro; refine ⟨?_, hK _ ?_⟩; (focus (intro wx; first | (go_simp; first | rfl) | rfl)); clear hK K)
          refine reg_p (i := 6) rfl (by kernel_rfl) (fun _ _ _ _ h => h) HH.out (fun K hK => ?_)
          go_simp
          first | (refine hK _ ?_; clear hK K) | (apply Exists.intro; refine ⟨?_, hK _ ?_⟩; (focus (intro wx; first | (go_simp; first | rfl) | rfl)); clear hK K)
          refine reg_p (i := 7) rfl (by kernel_rfl) (fun _ _ _ _ h => h) HH.out (fun K hK => ?_)
          go_simp
          first | (refine hK _ ?_; clear hK K) | (apply Exists.intro; refine ⟨?_, hK _ ?_⟩; (focus (intro wx; first | (go_simp; first | rfl) | rfl)); clear hK K)
          refine reg_p (i := 8) rfl (by kernel_rfl) (fun _ _ _ _ h => h) HH.out (fun K hK => ?_)
          go_simp
          first | (refine hK _ ?_; clear hK K) | (apply Exists.intro; refine ⟨?_, hK _ ?_⟩; (focus (intro wx; first | (go_simp; first | rfl) | rfl)); clear hK K)
          refine mixk_q (i := 9) rfl (by kernel_rfl) (fun _ _ _ _ h => h) HH.out (fun K hK => ?_)
          go_simp
          first | (refine hK _ ?_; clear hK K) | (apply Exists.intro; refine ⟨?_, hK _ ?_⟩; (focus (intro wx hx; have x1_ := hx.cells; have y1_ := hcs.out _ _ hx.r3; first | (first | (go_at_call 54; refine (refAdd_c wx acc p.size hU.out hsz.out).mono ?_; rintro e wy ⟨rfl, hbel⟩; exact ⟨rfl, (by first | exact Kp.same hbel | exact Kp.drew hbel | exact Kp.below hbel : Kp wx wy)⟩)) | (go_simp; first | rfl | exact ⟨rfl, rfl⟩) | rfl | exact ⟨rfl, rfl⟩)); clear hK K)
          refine mixk_q (i := 10) rfl (by kernel_rfl) (fun _ _ _ _ h => h) HH.out (fun K hK => ?_)
          go_simp
          first | (refine hK _ ?_; clear hK K) | (apply Exists.intro; refine ⟨?_, hK _ ?_⟩; (focus (intro wx hx; have x1_ := hx.cells; have y1_ := hcs.out _ _ hx.r3; first | (first | (go_at_call 54; refine (refAdd_c wx acc p.size hU.out hsz.out).mono ?_; rintro e wy ⟨rfl, hbel⟩; exact ⟨rfl, (by first | exact Kp.same hbel | exact Kp.drew hbel | exact Kp.below hbel : Kp wx wy)⟩)) | (go_simp; first | rfl | exact ⟨rfl, rfl⟩) | rfl | exact ⟨rfl, rfl⟩)); clear hK K)
          refine reg_p (i := 11) rfl (by kernel_rfl) (fun _ _ _ _ h => h) HH.out (fun K hK => ?_)
          go_simp
          first | (refine hK _ ?_; clear hK K) | (apply Exists.intro; refine ⟨?_, hK _ ?_⟩; (focus (intro wx; first | (go_simp; first | rfl) | rfl)); clear hK K)
          refine reg_p (i := 12) rfl (by kernel_rfl) (fun _ _ _ _ h => h) HH.out (fun K hK => ?_)
          go_simp
          first | (refine hK _ ?_; clear hK K) | (apply Exists.intro; refine ⟨?_, hK _ ?_⟩; (focus (intro wx; first | (go_simp; first | rfl) | rfl)); clear hK K)
          refine reg_l none (i := 13) rfl (by kernel_rfl) (fun wn hk K hK => ?_)
          replace HH := Lib.hid (hk _ _ HH.out)
          clear hk
          have hx := HH.out
          have x1_ := hx.cells
          have y1_ := hcs.out _ _ hx.r3
          go_simp
          replace HH := Lib.hid (HH.out.set 3 (.int .u64 (sadd acc p.size)))
          simp only [List.setIfInBounds_toArray, List.set_cons_succ, List.set_cons_zero] at HH
          generalize wn.setCell ⟨b, 3, none⟩ (.int .u64 (sadd acc p.size)) = wm at *
          clear hx x1_
          refine hK _ _ _ HH.out (.inl (by kernel_rfl)) ?_
          clear hK K
          refine mixk_done (by kernel_rfl) (fun w5_ hk => ?_) _
          replace HH := Lib.hid (hk _ _ HH.out)
          clear hk
          replace HH := Lib.hid ((Own.pm (HH.out) (by repeat (first | with_reducible exact Pm.refl _ | with_reducible exact Pm.nil _ | with_reducible refine Pm.here ?_ | with_reducible refine Pm.at2 ?_ | with_reducible refine Pm.at3 ?_ | with_reducible refine Pm.at4 ?_ | with_reducible refine Pm.at5 ?_ | with_reducible refine Pm.at6 ?_ | with_reducible refine Pm.at7 ?_ | with_reducible refine Pm.at8 ?_ | with_reducible refine Pm.skip ?_))) : Own _ _ (pts b _ :: pts rb _ :: slcP (.slice (some ⟨g, off, none⟩) ol.length c2) ol :: slcP (.slice A3 s9.q.l.length c3) s9.q.l :: slcE u2 s9.x.l :: R))
          go_wp2_with fail
          go_roundw
          case rel => exact ⟨k + 1, by omega, by go_num, by rw [hst.out]; exact HH.out⟩
          case measure => simp [intOf]; omega
        · rw [List.take_of_length_le (show ol.length ≤ k by omega), ← m5.out, ← m4.out] at HH
          have H8 := ((Own.pm (HH.out) (by repeat (first | with_reducible exact Pm.refl _ | with_reducible exact Pm.nil _ | with_reducible refine Pm.here ?_ | with_reducible refine Pm.at2 ?_ | with_reducible refine Pm.at3 ?_ | with_reducible refine Pm.at4 ?_ | with_reducible refine Pm.at5 ?_ | with_reducible refine Pm.at6 ?_ | with_reducible refine Pm.at7 ?_ | with_reducible refine Pm.at8 ?_ | with_reducible refine Pm.skip ?_))) : Own ε _ (pts b _ :: pts rb _ :: slcP (.slice A3 s9.q.l.length c3) s9.q.l :: slcE u2 s9.x.l :: slcP (.slice A2 ol.length c2) ol :: R))
          have H9 := Lib.hid (Own.rl21_mk2 ε _ _ b (s := s9) H8).r2
          clear H8
          go_wp2_with fail
          go_ret2
          exact ⟨_, rfl, H9.out⟩
end
end Go.Proofs.Ytklohjjkpobneaa
