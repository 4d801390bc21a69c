/- jitter: all of a box; the reference. -/
import Derived.Test.YtklohjjkpobneaaJitter4
import Derived.Test.YtklohjjkpobneaaFixP
import Derived.Test.YtklohjjkpobneaaItAt
namespace Go.Proofs.Ytklohjjkpobneaa
open Go.RowKit
abbrev slcD (v : Value) (l : List Du) : Asn := slc 241 8 v (encs Du.cells l)
abbrev slcE (v : Value) (l : List Du) : Asn := slc 189 8 v (encs Du.cells l)
def rbox (b : Nat) (s : Bo) : Asn := exA fun v : Value => sep (pts b (.cells #[.int .u64 s.delay, .int .u64 s.jit, v, .int .u64 s.last] 106 (0, 0))) (slcE v s.l)
section
variable {ε w : World} {R : List Asn} {b : Nat} {s : Bo}
theorem Own.rbox_open (H : Own ε w (rbox b s :: R)) : ∃ v, Own ε w (pts b (.cells #[.int .u64 s.delay, .int .u64 s.jit, v, .int .u64 s.last] 106 (0, 0)) :: slcE v s.l :: R) := by
  obtain ⟨v, H⟩ := H.ex
  exact ⟨v, H.split⟩
theorem Own.rbox_mk {v : Value} (H : Own ε w (pts b (.cells #[.int .u64 s.delay, .int .u64 s.jit, v, .int .u64 s.last] 106 (0, 0)) :: slcE v s.l :: R)) : Own ε w (rbox b s :: R) := Own.ex_mk v H.join
end
theorem ps_take (l : List Du) (k : Nat) {d : Du} (h : l[k]? = some d) : (l.take (k + 1)).map Du.p = (l.take k).map Du.p ++ [d.p] := by rw [List.take_add_one, h]; simp
section
variable (ε w : World) (R : List Asn) (b : Nat)
set_option maxHeartbeats 3200000 in
theorem boxAll_c (s : Bo) (hl : s.l.length ≤ 1000000) (H : Own ε w (box b s :: R)) :
    Calls Try.prog 108 #[.pointer (some ⟨b, 0, none⟩)] w fun e w' => ∃ v, e = .returned v ∧ Own ε w' (slcP v (s.l.map Du.p) :: box b s :: R) := by
  obtain ⟨rb, H⟩ := H.box_open
  have HH := Lib.hid H; clear H
  go_enter Try.func108, Try.ntmps108
  (try clear cc1_); (try clear cc2_); (try clear cc3_); (try clear cc4_); (try clear cc5_); (try clear cc6_); (try clear cc7_)
  have cc1_ := HH.out.cells
  go_wp2_with fail
  refine (rdAll_c ε _ _ rb (dus s.l) HH.out.r2).mono ?_
  rintro e w1_ ⟨va, rfl, H9_⟩
  replace HH := Lib.hid H9_
  clear H9_
  replace HH := Lib.hid (show Own ε _ (slcD va s.l :: _) from HH.out)
  obtain ⟨A, n, cap, rfl, hnc, hcap, hA⟩ := HH.out.slc_it Du.len (by decide)
  have hn := hA.1
  clear hA hnc
  replace HH := Lib.hid (HH.out.slc_none (T := 42) (sz := 7))
  replace hl := Lib.hid hl
  replace hcap := Lib.hid hcap
  replace hn := Lib.hid hn
  (try clear cc1_); (try clear cc2_); (try clear cc3_); (try clear cc4_); (try clear cc5_); (try clear cc6_); (try clear cc7_)
  go_wp2_with fail
  go_loopw [3, 15] (fun v i wr => ∃ k : Nat, k ≤ n ∧ i = .int .i64 k ∧ Own ε wr (slcP v ((s.l.take k).map Du.p) :: slcD (.slice A n cap) s.l :: box b s :: R)) (fun _ i _ => n - (intOf i).toNat)
  case atStart =>
    have H9 := Own.box_mk (s := s) (rb := rb) (R := slc 42 7 (.slice none 0 0) [] :: slcD (.slice A n cap) s.l :: R) (Own.pm (HH.out) (by repeat (first | with_reducible exact Pm.refl _ | with_reducible exact Pm.nil _ | with_reducible refine Pm.here ?_ | with_reducible refine Pm.at2 ?_ | with_reducible refine Pm.at3 ?_ | with_reducible refine Pm.at4 ?_ | with_reducible refine Pm.at5 ?_ | with_reducible refine Pm.at6 ?_ | with_reducible refine Pm.at7 ?_ | with_reducible refine Pm.at8 ?_ | with_reducible refine Pm.skip ?_)))
    exact ⟨0, Nat.zero_le _, rfl, ((Own.pm (H9) (by repeat (first | with_reducible exact Pm.refl _ | with_reducible exact Pm.nil _ | with_reducible refine Pm.here ?_ | with_reducible refine Pm.at2 ?_ | with_reducible refine Pm.at3 ?_ | with_reducible refine Pm.at4 ?_ | with_reducible refine Pm.at5 ?_ | with_reducible refine Pm.at6 ?_ | with_reducible refine Pm.at7 ?_ | with_reducible refine Pm.at8 ?_ | with_reducible refine Pm.skip ?_))) : Own ε _ (slc _ 7 (.slice none 0 0) [] :: slcD _ s.l :: box b s :: R))⟩
  case round =>
    clear HH
    obtain ⟨k, hk, rfl, HR⟩ := hrel
    have HH := Lib.hid HR
    clear HR
    by_cases hlt : k < n
    · obtain ⟨_, _, _, e, _, _, hA⟩ := HH.out.r2.slc_it Du.len (by decide)
      cases e
      obtain ⟨g, off, d, rfl, hd, hc⟩ := hA.get hlt
      have e1 := ps_take s.l k hd
      have hlk : (pks ((s.l.take k).map Du.p)).flatten.length = k * 7 := by rw [flat_pks_len, List.length_map, List.length_take, Nat.min_eq_left (by have := hn.out; omega)]
      replace hlk := Lib.hid hlk
      obtain ⟨⟨pn, ps, p3, p4, p5, p6, p7⟩, dt⟩ := d
      have c0 := hc 0 _ rfl
      have c1 := hc 1 _ rfl
      have c2 := hc 2 _ rfl
      have c3 := hc 3 _ rfl
      have c4 := hc 4 _ rfl
      have c5 := hc 5 _ rfl
      have c6 := hc 6 _ rfl
      have c7 := hc 7 _ rfl
      rw [Nat.add_zero] at c0
      clear hc hA hd
      replace e1 := Lib.hid e1
      have hk1 : k ≤ 1000000 := by have := hl.out; have := hn.out; omega
      go_wp2_with (with_reducible refine stop_al ?_)
      refine Stop.go ?_
      refine wpList_alloc_own HH.out [.int .u64 0, .int .u64 0, .int .u64 0, .int .u64 0, .int .u64 0, .int .u64 0, .bool false, .int .u64 0] (by kernel_rfl) ?_
      intro px w2_ H9_
      replace HH := Lib.hid H9_
      clear H9_
      go_wp2_with (with_reducible refine stop_st ?_)
      refine Stop.go ?_
      refine wpList_store_own _ #[_, _, _, _, _, _, _, _] rfl rfl HH.out (by kernel_rfl) rfl (by repeat (first | (refine List.forall_mem_cons.2 ⟨(by first | with_reducible assumption | rfl), ?_⟩) | exact fun _ h => absurd h List.not_mem_nil)) ?_
      intro w3_ H9_
      replace HH := Lib.hid H9_
      clear H9_
      clear c0 c1 c2 c3 c4 c5 c6 c7
      (try clear cc1_); (try clear cc2_); (try clear cc3_); (try clear cc4_); (try clear cc5_); (try clear cc6_); (try clear cc7_)
      have cc1_ := HH.out.cells
      replace HH := Lib.hid HH.out.r2
      go_wp2_with (with_reducible refine stop_bs ?_)
      refine Stop.go ?_
      refine wpList_bs1_own HH.out #[_, _, _, _, _, _, _] 7 56 Try.underlying28 (by kernel_rfl) (by decide) (by decide) rfl rfl ?_
      intro g_ w4_ H9_
      replace HH := Lib.hid H9_
      clear H9_
      go_wp2_with (with_reducible refine stop_app ?_)
      refine Stop.go ?_
      refine wpList_app1_own rfl _ _ 28 rfl 42 7 56 Try.underlying28 (by kernel_rfl) (by decide) (k) rfl rfl HH.out (hlk.out) rfl (by repeat (first | (refine List.forall_mem_cons.2 ⟨(by first | with_reducible assumption | rfl), ?_⟩) | exact fun _ h => absurd h List.not_mem_nil)) (by simp only [maxLen]; omega) (by omega) ?_
      intro v5 w5_ H9_
      obtain ⟨A_v5, n_v5, c_v5, rfl⟩ := H9_.slc_isv
      replace HH := Lib.hid H9_
      clear H9_
      (try clear cc1_); (try clear cc2_); (try clear cc3_); (try clear cc4_); (try clear cc5_); (try clear cc6_); (try clear cc7_)
      go_wp2_with fail
      go_roundw
      case rel =>
        refine ⟨k + 1, by omega, by go_num, ?_⟩
        rw [e1.out]
        have H9 := HH.out
        rw [show (pks ((s.l.take k).map Du.p)).flatten ++ [.int .u64 pn, .int .u64 ps, .int .u64 p3, .int .u64 p4, .int .u64 p5, .int .u64 p6, .bool p7] = (pks ((s.l.take k).map Du.p ++ [⟨pn, ps, p3, p4, p5, p6, p7⟩])).flatten from (flat_pks_snoc _ (⟨pn, ps, p3, p4, p5, p6, p7⟩ : Pk)).symm] at H9
        exact (Own.pm (H9) (by repeat (first | with_reducible exact Pm.refl _ | with_reducible exact Pm.nil _ | with_reducible refine Pm.here ?_ | with_reducible refine Pm.at2 ?_ | with_reducible refine Pm.at3 ?_ | with_reducible refine Pm.at4 ?_ | with_reducible refine Pm.at5 ?_ | with_reducible refine Pm.at6 ?_ | with_reducible refine Pm.at7 ?_ | with_reducible refine Pm.at8 ?_ | with_reducible refine Pm.skip ?_)))
      case measure => simp [intOf]; omega
    · have hkn : k = n := by omega
      go_wp2_with fail
      go_ret
      refine ⟨_, rfl, ?_⟩
      have H9 := HH.out
      rw [List.take_of_length_le (by rw [hkn, hn.out]; exact Nat.le_refl _)] at H9
      exact (show Own ε _ (slcP u3 _ :: box b s :: R) from (Own.pm (H9) (by repeat (first | with_reducible exact Pm.refl _ | with_reducible exact Pm.nil _ | with_reducible refine Pm.here ?_ | with_reducible refine Pm.at2 ?_ | with_reducible refine Pm.at3 ?_ | with_reducible refine Pm.at4 ?_ | with_reducible refine Pm.at5 ?_ | with_reducible refine Pm.at6 ?_ | with_reducible refine Pm.at7 ?_ | with_reducible refine Pm.at8 ?_ | with_reducible refine Pm.skip ?_))))
set_option maxHeartbeats 3200000 in
theorem rboxPut_c (s : Bo) (p : Pk) (now c : Int) (hs : s.Ok) (h1 : U now) (h2 : U c) (hl : s.l.length ≤ 1000000) (H : Own ε w (rbox b s :: R)) :
    Calls Try.prog 173 #[.pointer (some ⟨b, 0, none⟩), .agg p.cells.toArray, .int .u64 now, .int .u64 c] w fun e w' => e = .returned (.int .u64 (s.due now c)) ∧ Own ε w' (rbox b (s.put p now c) :: R) := by
  obtain ⟨v, H⟩ := H.rbox_open
  have HH := Lib.hid H; clear H
  obtain ⟨A, n, cap, rfl, hnc, hcap, hA⟩ := HH.out.r2.slc_it Du.len (by decide)
  have hm : U (min c s.jit) := by have := hs.jit; unfold U at *; omega
  have hdl := hs.delay
  have hsa := U_sadd h1 hdl
  have hput : s.put p now c = ⟨s.delay, s.jit, s.due now c, s.l ++ [⟨p, s.due now c⟩]⟩ := rfl
  rw [hput]
  have hdue : max (sadd (sadd now s.delay) (min c s.jit)) s.last = s.due now c := by unfold Bo.due; omega
  generalize s.due now c = dt at hdue ⊢
  have hn := hA.1
  have hfl : (encs Du.cells s.l).length = n * 8 := by rw [encs_len Du.len, hn]
  clear hput hs h2 hA hnc hcap
  obtain ⟨dl, jt, la, l⟩ := s
  obtain ⟨pn, ps, p3, p4, p5, p6, p7⟩ := p
  simp only at hdue hm hdl hl hsa hn hfl
  have hn1 : n ≤ 1000000 := by omega
  clear hn hl
  have im := min_ite'
  have ix := max_ite'
  replace hm := Lib.hid hm
  replace hdl := Lib.hid hdl
  replace hsa := Lib.hid hsa
  replace h1 := Lib.hid h1
  go_enter Try.func173, Try.ntmps173
  go_wp2_with (with_reducible refine stop_bx ?_)
  refine Stop.go ?_
  refine wpList_box_own HH.out [_, _, _, _, _, _, _] rfl ?_
  intro sp w6_ H9_
  replace HH := Lib.hid H9_
  clear H9_
  go_wp2_with fail
  refine wp_region_reg none HH.out (by kernel_rfl) ?_
  intro wm H9_
  replace HH := Lib.hid H9_
  clear H9_
  refine reg_p (i := 0) rfl (by kernel_rfl) (fun _ _ _ _ h => h) HH.out (fun K hK => ?_)
  go_simp
  first | (refine hK _ ?_; clear hK K) | (apply Exists.intro; refine ⟨?_, hK _ ?_⟩; (focus (intro wx; first | (go_simp; first | rfl) | rfl)); clear hK K)
  refine reg_p (i := 1) rfl (by kernel_rfl) (fun _ _ _ _ h => h) HH.out (fun K hK => ?_)
  go_simp
  first | (refine hK _ ?_; clear hK K) | (apply Exists.intro; refine ⟨?_, hK _ ?_⟩; (focus (intro wx; first | (go_simp; first | rfl) | rfl)); clear hK K)
  refine reg_p (i := 2) rfl (by kernel_rfl) (fun _ _ _ _ h => h) HH.out (fun K hK => ?_)
  go_simp
  first | (refine hK _ ?_; clear hK K) | (apply Exists.intro; refine ⟨?_, hK _ ?_⟩; (focus (intro wx; first | (go_simp; first | rfl) | rfl)); clear hK K)
  refine reg_p (i := 3) rfl (by kernel_rfl) (fun _ _ _ _ h => h) HH.out (fun K hK => ?_)
  go_simp
  first | (refine hK _ ?_; clear hK K) | (apply Exists.intro; refine ⟨?_, hK _ ?_⟩; (focus (intro wx; first | (go_simp; first | rfl) | rfl)); clear hK K)
  refine mixk_q (i := 4) rfl (by kernel_rfl) (fun _ _ _ _ h => h) HH.out (fun K hK => ?_)
  go_simp
  first | (refine hK _ ?_; clear hK K) | (apply Exists.intro; refine ⟨?_, hK _ ?_⟩; (focus (intro wx hx; have x2_ := hx.r2.cells; first | (first | (go_at_call 54; (with_reducible refine (refAdd_c wx now dl h1.out hdl.out).mono ?_); rintro e wy ⟨rfl, hbel⟩; exact ⟨rfl, (by first | exact Kp.same hbel | exact Kp.drew hbel | exact Kp.below hbel : Kp wx wy)⟩) | (go_at_call 54; (with_reducible refine (refAdd_c wx (sadd now dl) (min c jt) hsa.out hm.out).mono ?_); rintro e wy ⟨rfl, hbel⟩; exact ⟨rfl, (by first | exact Kp.same hbel | exact Kp.drew hbel | exact Kp.below hbel : Kp wx wy)⟩)) | (go_simp; first | rfl | exact ⟨rfl, rfl⟩) | rfl | exact ⟨rfl, rfl⟩)); clear hK K)
  refine mixk_q (i := 5) rfl (by kernel_rfl) (fun _ _ _ _ h => h) HH.out (fun K hK => ?_)
  go_simp
  first | (refine hK _ ?_; clear hK K) | (apply Exists.intro; refine ⟨?_, hK _ ?_⟩; (focus (intro wx hx; have x2_ := hx.r2.cells; first | (first | (go_at_call 54; (with_reducible refine (refAdd_c wx now dl h1.out hdl.out).mono ?_); rintro e wy ⟨rfl, hbel⟩; exact ⟨rfl, (by first | exact Kp.same hbel | exact Kp.drew hbel | exact Kp.below hbel : Kp wx wy)⟩) | (go_at_call 54; (with_reducible refine (refAdd_c wx (sadd now dl) (min c jt) hsa.out hm.out).mono ?_); rintro e wy ⟨rfl, hbel⟩; exact ⟨rfl, (by first | exact Kp.same hbel | exact Kp.drew hbel | exact Kp.below hbel : Kp wx wy)⟩)) | (go_simp; first | rfl | exact ⟨rfl, rfl⟩) | rfl | exact ⟨rfl, rfl⟩)); clear hK K)
  refine reg_p (i := 6) rfl (by kernel_rfl) (fun _ _ _ _ h => h) HH.out (fun K hK => ?_)
  go_simp
  first | (refine hK _ ?_; clear hK K) | (apply Exists.intro; refine ⟨?_, hK _ ?_⟩; (focus (intro wx; first | (go_simp; first | rfl) | rfl)); clear hK K)
  refine reg_p (i := 7) rfl (by kernel_rfl) (fun _ _ _ _ h => h) HH.out (fun K hK => ?_)
  go_simp
  first | (refine hK _ ?_; clear hK K) | (apply Exists.intro; refine ⟨?_, hK _ ?_⟩; (focus (intro wx; first | (go_simp; first | rfl) | rfl)); clear hK K)
  refine reg_p (i := 8) rfl (by kernel_rfl) (fun _ _ _ _ h => h) HH.out (fun K hK => ?_)
  go_simp
  first | (refine hK _ ?_; clear hK K) | (apply Exists.intro; refine ⟨?_, hK _ ?_⟩; (focus (intro wx; first | (go_simp; first | rfl) | rfl)); clear hK K)
  refine reg_p (i := 9) rfl (by kernel_rfl) (fun _ _ _ _ h => h) HH.out (fun K hK => ?_)
  go_simp
  first | (refine hK _ ?_; clear hK K) | (apply Exists.intro; refine ⟨?_, hK _ ?_⟩; (focus (intro wx; first | (go_simp; first | rfl) | rfl)); clear hK K)
  refine mixk_q (i := 10) rfl (by kernel_rfl) (fun _ _ _ _ h => h) HH.out (fun K hK => ?_)
  go_simp
  first | (refine hK _ ?_; clear hK K) | (apply Exists.intro; refine ⟨?_, hK _ ?_⟩; (focus (intro wx hx; have x2_ := hx.r2.cells; first | (first | (go_at_call 54; (with_reducible refine (refAdd_c wx now dl h1.out hdl.out).mono ?_); rintro e wy ⟨rfl, hbel⟩; exact ⟨rfl, (by first | exact Kp.same hbel | exact Kp.drew hbel | exact Kp.below hbel : Kp wx wy)⟩) | (go_at_call 54; (with_reducible refine (refAdd_c wx (sadd now dl) (min c jt) hsa.out hm.out).mono ?_); rintro e wy ⟨rfl, hbel⟩; exact ⟨rfl, (by first | exact Kp.same hbel | exact Kp.drew hbel | exact Kp.below hbel : Kp wx wy)⟩)) | (go_simp; first | rfl | exact ⟨rfl, rfl⟩) | rfl | exact ⟨rfl, rfl⟩)); clear hK K)
  refine reg_p (i := 11) rfl (by kernel_rfl) (fun _ _ _ _ h => h) HH.out (fun K hK => ?_)
  go_simp
  first | (refine hK _ ?_; clear hK K) | (apply Exists.intro; refine ⟨?_, hK _ ?_⟩; (focus (intro wx; first | (go_simp; first | rfl) | rfl)); clear hK K)
  refine mixk_q (i := 12) rfl (by kernel_rfl) (fun _ _ _ _ h => h) HH.out (fun K hK => ?_)
  go_simp
  first | (refine hK _ ?_; clear hK K) | (apply Exists.intro; refine ⟨?_, hK _ ?_⟩; (focus (intro wx hx; have x2_ := hx.r2.cells; first | (first | (go_at_call 54; (with_reducible refine (refAdd_c wx now dl h1.out hdl.out).mono ?_); rintro e wy ⟨rfl, hbel⟩; exact ⟨rfl, (by first | exact Kp.same hbel | exact Kp.drew hbel | exact Kp.below hbel : Kp wx wy)⟩) | (go_at_call 54; (with_reducible refine (refAdd_c wx (sadd now dl) (min c jt) hsa.out hm.out).mono ?_); rintro e wy ⟨rfl, hbel⟩; exact ⟨rfl, (by first | exact Kp.same hbel | exact Kp.drew hbel | exact Kp.below hbel : Kp wx wy)⟩)) | (go_simp; first | rfl | exact ⟨rfl, rfl⟩) | rfl | exact ⟨rfl, rfl⟩)); clear hK K)
  refine reg_p (i := 13) rfl (by kernel_rfl) (fun _ _ _ _ h => h) HH.out (fun K hK => ?_)
  go_simp
  first | (refine hK _ ?_; clear hK K) | (apply Exists.intro; refine ⟨?_, hK _ ?_⟩; (focus (intro wx; first | (go_simp; first | rfl) | rfl)); clear hK K)
  refine mixk_done (by kernel_rfl) (fun w7_ hk => ?_) _
  replace HH := Lib.hid (hk _ _ HH.out)
  clear hk
  (try clear cc1_); (try clear cc2_); (try clear cc3_); (try clear cc4_); (try clear cc5_); (try clear cc6_); (try clear cc7_)
  have cc2_ := HH.out.r2.cells
  go_wp2_with (with_reducible refine stop_st ?_)
  refine Stop.go ?_
  refine wpList_store1_own (v := .int .u64 dt) (k := 3) rfl rfl HH.out.r2 (by kernel_rfl) (by simp) (by first | rfl | assumption) ?_
  intro w8_ H9_
  replace HH := Lib.hid H9_
  clear H9_
  simp only [List.setIfInBounds_toArray, List.set_cons_succ, List.set_cons_zero] at HH
  clear hdue
  (try clear cc1_); (try clear cc2_); (try clear cc3_); (try clear cc4_); (try clear cc5_); (try clear cc6_); (try clear cc7_)
  replace HH := Lib.hid ((Own.pm (HH.out) (by repeat (first | with_reducible exact Pm.refl _ | with_reducible exact Pm.nil _ | with_reducible refine Pm.here ?_ | with_reducible refine Pm.at2 ?_ | with_reducible refine Pm.at3 ?_ | with_reducible refine Pm.at4 ?_ | with_reducible refine Pm.at5 ?_ | with_reducible refine Pm.at6 ?_ | with_reducible refine Pm.at7 ?_ | with_reducible refine Pm.at8 ?_ | with_reducible refine Pm.skip ?_))) : Own ε _ (slcE _ l :: pts b _ :: pts sp _ :: R))
  go_wp2_with fail
  refine wp_region_reg (some 9) HH.out (by kernel_rfl) ?_
  intro wm H9_
  replace HH := Lib.hid H9_
  clear H9_
  refine reg_p (i := 0) rfl (by kernel_rfl) (fun _ _ _ _ h => h) HH.out (fun K hK => ?_)
  go_simp
  first | (refine hK _ ?_; clear hK K) | (apply Exists.intro; refine ⟨?_, hK _ ?_⟩; (focus (intro wx; first | (go_simp; first | rfl) | rfl)); clear hK K)
  refine reg_p (i := 1) rfl (by kernel_rfl) (fun _ _ _ _ h => h) HH.out (fun K hK => ?_)
  go_simp
  first | (refine hK _ ?_; clear hK K) | (apply Exists.intro; refine ⟨?_, hK _ ?_⟩; (focus (intro wx; first | (go_simp; first | rfl) | rfl)); clear hK K)
  refine reg_p (i := 2) rfl (by kernel_rfl) (fun _ _ _ _ h => h) HH.out (fun K hK => ?_)
  go_simp
  first | (refine hK _ ?_; clear hK K) | (apply Exists.intro; refine ⟨?_, hK _ ?_⟩; (focus (intro wx; first | (go_simp; first | rfl) | rfl)); clear hK K)
  refine reg_p (i := 3) rfl (by kernel_rfl) (fun _ _ _ _ h => h) HH.out (fun K hK => ?_)
  go_simp
  first | (refine hK _ ?_; clear hK K) | (apply Exists.intro; refine ⟨?_, hK _ ?_⟩; (focus (intro wx; first | (go_simp; first | rfl) | rfl)); clear hK K)
  refine mixk_q (i := 4) rfl (by kernel_rfl) (fun _ _ _ _ h => h) HH.out (fun K hK => ?_)
  go_simp
  first | (refine hK _ ?_; clear hK K) | (apply Exists.intro; refine ⟨?_, hK _ ?_⟩; (focus (intro wx hx; have x2_ := hx.r2.cells; have x3_ := hx.r3.cells; first | (go_simp; first | rfl | exact ⟨rfl, rfl⟩) | rfl | exact ⟨rfl, rfl⟩)); clear hK K)
  refine mixk_q (i := 5) rfl (by kernel_rfl) (fun _ _ _ _ h => h) HH.out (fun K hK => ?_)
  go_simp
  first | (refine hK _ ?_; clear hK K) | (apply Exists.intro; refine ⟨?_, hK _ ?_⟩; (focus (intro wx hx; have x2_ := hx.r2.cells; have x3_ := hx.r3.cells; first | (go_simp; first | rfl | exact ⟨rfl, rfl⟩) | rfl | exact ⟨rfl, rfl⟩)); clear hK K)
  refine reg_p (i := 6) rfl (by kernel_rfl) (fun _ _ _ _ h => h) HH.out (fun K hK => ?_)
  go_simp
  first | (refine hK _ ?_; clear hK K) | (apply Exists.intro; refine ⟨?_, hK _ ?_⟩; (focus (intro wx; first | (go_simp; first | rfl) | rfl)); clear hK K)
  refine reg_p (i := 7) rfl (by kernel_rfl) (fun _ _ _ _ h => h) HH.out (fun K hK => ?_)
  go_simp
  first | (refine hK _ ?_; clear hK K) | (apply Exists.intro; refine ⟨?_, hK _ ?_⟩; (focus (intro wx; first | (go_simp; first | rfl) | rfl)); clear hK K)
  refine reg_l (some 9) (i := 8) rfl (by kernel_rfl) (fun wn hk K hK => ?_)
  replace HH := Lib.hid (hk _ _ HH.out)
  clear hk
  go_simp
  replace HH := Lib.hid (HH.out.alloc (.cells #[.int .u64 pn, .int .u64 ps, .int .u64 p3, .int .u64 p4, .int .u64 p5, .int .u64 p6, .bool p7, .int .u64 dt] 189))
  generalize wn.alloc (.cells #[.int .u64 pn, .int .u64 ps, .int .u64 p3, .int .u64 p4, .int .u64 p5, .int .u64 p6, .bool p7, .int .u64 dt] 189) = wm at *
  generalize wn.heap.size = sb at *
  refine hK _ _ _ HH.out (.inr ⟨rfl, fun _ h => h.tail⟩) ?_
  clear hK K
  refine reg_l (some 12) (i := 9) rfl (by kernel_rfl) (fun wn hk K hK => ?_)
  replace HH := Lib.hid (hk _ _ HH.out)
  clear hk
  refine want rfl (wp_append_slc _ _ 104 rfl 189 8 64 Try.underlying104 (by kernel_rfl) (by decide) rfl (HH.out.r2) rfl (hfl) ((show srcAt wn (some ⟨sb, 0, none⟩) 1 8 [.int .u64 pn, .int .u64 ps, .int .u64 p3, .int .u64 p4, .int .u64 p5, .int .u64 p6, .bool p7, .int .u64 dt] from ⟨rfl, .inr ⟨sb, 0, rfl, fun j u hj => by rw [Nat.zero_add, HH.out.cells.1 j]; simpa using hj⟩⟩)) ((by repeat (first | (refine List.forall_mem_cons.2 ⟨(by first | with_reducible assumption | rfl), ?_⟩) | exact fun _ h => absurd h List.not_mem_nil))) (by simp only [maxLen]; omega) (by omega) ?_)
  intro v1 wm H9_
  obtain ⟨A_v1, n_v1, c_v1, rfl⟩ := H9_.slc_isv
  replace HH := Lib.hid H9_
  clear H9_
  refine hK _ _ _ HH.out (.inl (by kernel_rfl)) ?_
  clear hK K
  refine reg_p (i := 10) rfl (by kernel_rfl) (fun _ _ _ _ h => h) HH.out (fun K hK => ?_)
  go_simp
  first | (refine hK _ ?_; clear hK K) | (apply Exists.intro; refine ⟨?_, hK _ ?_⟩; (focus (intro wx; first | (go_simp; first | rfl) | rfl)); clear hK K)
  refine reg_p (i := 11) rfl (by kernel_rfl) (fun _ _ _ _ h => h) HH.out (fun K hK => ?_)
  go_simp
  first | (refine hK _ ?_; clear hK K) | (apply Exists.intro; refine ⟨?_, hK _ ?_⟩; (focus (intro wx; first | (go_simp; first | rfl) | rfl)); clear hK K)
  refine reg_l none (i := 12) rfl (by kernel_rfl) (fun wn hk K hK => ?_)
  replace HH := Lib.hid (hk _ _ HH.out)
  clear hk
  have hx := HH.out
  have x2_ := hx.r3.cells
  have x3_ := hx.r4.cells
  go_simp
  replace HH := Lib.hid (HH.out.r3.set 2 (.slice A_v1 n_v1 c_v1))
  simp only [List.setIfInBounds_toArray, List.set_cons_succ, List.set_cons_zero] at HH
  generalize wn.setCell ⟨b, 2, none⟩ (.slice A_v1 n_v1 c_v1) = wm at *
  clear hx x2_ x3_
  refine hK _ _ _ HH.out (.inl (by kernel_rfl)) ?_
  clear hK K
  refine mixk_done (by kernel_rfl) (fun w9_ hk => ?_) _
  replace HH := Lib.hid (hk _ _ HH.out)
  clear hk
  go_wp2_with fail
  go_ret
  refine ⟨rfl, Own.rbox_mk (v := .slice A_v1 n_v1 c_v1) ?_⟩
  unfold slcE
  rw [encs_snoc]
  exact ((Own.pm (HH.out) (by repeat (first | with_reducible exact Pm.refl _ | with_reducible exact Pm.nil _ | with_reducible refine Pm.here ?_ | with_reducible refine Pm.at2 ?_ | with_reducible refine Pm.at3 ?_ | with_reducible refine Pm.at4 ?_ | with_reducible refine Pm.at5 ?_ | with_reducible refine Pm.at6 ?_ | with_reducible refine Pm.at7 ?_ | with_reducible refine Pm.at8 ?_ | with_reducible refine Pm.skip ?_))) : Own ε _ (pts b _ :: slc _ 8 _ _ :: R))
end
end Go.Proofs.Ytklohjjkpobneaa
