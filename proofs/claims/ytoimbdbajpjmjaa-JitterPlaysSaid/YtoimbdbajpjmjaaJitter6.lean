/- jitter: the reference's Out, and all of its packets. -/
import Derived.Test.YtoimbdbajpjmjaaJitter5
namespace Go.Proofs.Ytoimbdbajpjmjaa
open Go.RowKit
section
variable (ε w : World) (R : List Asn) (b : Nat)
set_option maxHeartbeats 6400000 in
theorem rboxOut_c (s : Bo) (now : Int) (hl : s.l.length ≤ 1000000) (H : Own ε w (rbox b s :: R)) :
    Calls Try.prog 43 #[.pointer (some ⟨b, 0, none⟩), .int .u64 now] w fun e w' => ∃ v, e = .returned v ∧ Own ε w' (slcP v (s.out now).1 :: rbox b (s.out now).2 :: R) := by
  have HH := Lib.hid (H.slc_none (T := 62) (sz := 7)); clear H
  replace hl := Lib.hid hl
  go_enter Try.func43, Try.ntmps43
  go_wp2_with fail
  go_loopg [5] s.l.length (fun k v wr => ∃ (l' : List Du) (pre : List Pk), l'.length = k ∧ pre.length + l'.length ≤ s.l.length ∧ Bo.outL now s.l = pre ++ Bo.outL now l' ∧ Bo.restL now s.l = Bo.restL now l' ∧ Own ε wr (slcP v pre :: rbox b { s with l := l' } :: R))
  case atStart => exact ⟨s.l, [], rfl, by simp, rfl, rfl, HH.out⟩
  case round =>
    clear HH
    obtain ⟨l', pre, hk, hlen, ho, hr, HR⟩ := hrel
    obtain ⟨v, HR⟩ := HR.r2.rbox_open
    obtain ⟨A, n, cap, rfl, hnc, hcap, hA⟩ := HR.r2.slc_it Du.len (by decide)
    have HH := Lib.hid HR
    clear HR
    replace ho := Lib.hid ho
    replace hr := Lib.hid hr
    replace hk := Lib.hid hk
    have hn := hA.1
    simp only at hn
    cases l' with
    | nil =>
      obtain rfl : n = 0 := hn.symm
      clear hA hnc hcap
      (try clear cc1_); (try clear cc2_); (try clear cc3_); (try clear cc4_); (try clear cc5_); (try clear cc6_); (try clear cc7_)
      have cc1_ := HH.out.cells
      go_wp2_with fail
      go_ret
      have e1 := ho.out
      have e2 := hr.out
      rw [(Bo.out_nil now).1, List.append_nil] at e1
      rw [(Bo.out_nil now).2] at e2
      refine ⟨_, rfl, ?_⟩
      rw [show (s.out now) = (pre, { s with l := [] }) by unfold Bo.out; rw [e1, e2]]
      exact (Own.rbox_mk (s := { s with l := [] }) HH.out).r2
    | cons d l =>
      obtain ⟨⟨pn, ps, p3, p4, p5, p6, p7⟩, dt⟩ := d
      simp only [List.length_cons] at hn hlen
      obtain rfl : n = l.length + 1 := hn.symm
      clear hn
      have hdr : ∀ wx R', Own ε wx (slcE (.slice A (l.length + 1) cap) ((⟨⟨pn, ps, p3, p4, p5, p6, p7⟩, dt⟩ : Du) :: l) :: R') → ∃ g, A = some ⟨g, 0, none⟩ ∧ (∀ j u, (⟨⟨pn, ps, p3, p4, p5, p6, p7⟩, dt⟩ : Du).cells[j]? = some u → wx.cell? ⟨g, j, none⟩ = some u) ∧ srcAt wx (some ⟨g, 8, none⟩) l.length 8 (encs Du.cells l) := by
        intro wx R' Hx
        rcases Hx.slc_val with ⟨e, _⟩ | ⟨g', n', cap', e, h1, _, _, h4, _⟩
        · cases e
        · cases e
          refine ⟨g', rfl, fun j u hj => h4 j u ?_, encs_len Du.len l, .inr ⟨_, 8, rfl, fun j u hj => ?_⟩⟩
          · rw [encs_cons]
            have hj8 : j < 8 := by
              rcases Nat.lt_or_ge j 8 with h | h
              · exact h
              · rw [List.getElem?_eq_none (by simpa [Du.cells] using h)] at hj; cases hj
            rw [List.getElem?_append_left (by simpa [Du.cells] using hj8)]
            exact hj
          · refine h4 (8 + j) u ?_
            rw [encs_cons, List.getElem?_append_right (by simp [Du.cells])]
            simpa [Du.cells] using hj
      obtain ⟨g, rfl, _, _⟩ := hdr _ _ HH.out.r2
      obtain ⟨_, e0, hc, _⟩ := hdr _ _ HH.out.r2
      cases e0
      have c7 := hc 7 _ rfl
      replace hdr := Lib.hid hdr
      clear hA
      (try clear cc1_); (try clear cc2_); (try clear cc3_); (try clear cc4_); (try clear cc5_); (try clear cc6_); (try clear cc7_)
      have cc1_ := HH.out.cells
      by_cases hd : dt ≤ now
      · have c0 := hc 0 _ rfl
        have c1 := hc 1 _ rfl
        have c2 := hc 2 _ rfl
        have c3 := hc 3 _ rfl
        have c4 := hc 4 _ rfl
        have c5 := hc 5 _ rfl
        have c6 := hc 6 _ rfl
        clear hc
        have hp1 : pre.length ≤ 1000000 := by have := hl.out; omega
        have hl1 : l.length ≤ 1000000 := by have := hl.out; omega
        replace HH := Lib.hid HH.out.r3
        go_wp2_with (with_reducible refine stop_bs ?_)
        refine Stop.go ?_
        refine wpList_bs1_own HH.out #[_, _, _, _, _, _, _] 7 56 Try.underlying69 (by kernel_rfl) (by decide) (by decide) rfl rfl ?_
        intro g_ w1_ H9_
        replace HH := Lib.hid H9_
        clear H9_
        go_wp2_with (with_reducible refine stop_app ?_)
        refine Stop.go ?_
        refine wpList_app1_own rfl _ _ 69 rfl 62 7 56 Try.underlying69 (by kernel_rfl) (by decide) (pre.length) rfl rfl HH.out (flat_pks_len pre) rfl (by repeat (first | (refine List.forall_mem_cons.2 ⟨(by first | with_reducible assumption | rfl), ?_⟩) | exact fun _ h => absurd h List.not_mem_nil)) (by simp only [maxLen]; omega) (by omega) ?_
        intro v5 w2_ H9_
        obtain ⟨A_v5, n_v5, c_v5, rfl⟩ := H9_.slc_isv
        replace HH := Lib.hid H9_
        clear H9_
        clear c0 c1 c2 c3 c4 c5 c6 c7
        (try clear cc1_); (try clear cc2_); (try clear cc3_); (try clear cc4_); (try clear cc5_); (try clear cc6_); (try clear cc7_)
        have cc2_ := HH.out.r2.cells
        have hone := encs_one Du.one l
        replace hone := Lib.hid hone
        by_cases hcap1 : cap = 1
        · subst hcap1
          obtain rfl : l = [] := List.eq_nil_of_length_eq_zero (by omega)
          go_wp2_with (with_reducible refine stop_bs ?_)
          refine Stop.go ?_
          refine wpList_bs0_own HH.out 8 64 Try.underlying84 (by kernel_rfl) ?_
          intro g0 w3_ H9_
          replace HH := Lib.hid H9_
          clear H9_
          (try clear cc1_); (try clear cc2_); (try clear cc3_); (try clear cc4_); (try clear cc5_); (try clear cc6_); (try clear cc7_)
          have cc3_ := HH.out.r3.cells
          go_wp2_with (with_reducible refine stop_app ?_)
          refine Stop.go ?_
          refine wpList_append_slc rfl _ _ 84 rfl 92 8 64 Try.underlying84 (by kernel_rfl) (by decide) rfl (HH.out) rfl ((show ([] : List Value).length = 0 * 8 from rfl)) ((show srcAt _ _ 0 8 [] from ⟨rfl, .inl rfl⟩)) ((by intro u hu; cases hu)) (by simp only [maxLen]; omega) (by omega) ?_
          intro v6 w4_ H9_
          obtain ⟨A_v6, n_v6, c_v6, rfl⟩ := H9_.slc_isv
          replace HH := Lib.hid H9_
          clear H9_
          (try clear cc1_); (try clear cc2_); (try clear cc3_); (try clear cc4_); (try clear cc5_); (try clear cc6_); (try clear cc7_)
          have cc3_ := HH.out.r3.cells
          go_wp2_with (with_reducible refine stop_st ?_)
          refine Stop.go ?_
          refine wpList_store1_own (v := .slice A_v6 n_v6 c_v6) (k := 2) rfl rfl HH.out.r3 (by kernel_rfl) (by simp) (by first | rfl | assumption) ?_
          intro w5_ H9_
          replace HH := Lib.hid H9_
          clear H9_
          simp only [List.setIfInBounds_toArray, List.set_cons_succ, List.set_cons_zero] at HH
          go_wp2_with fail
          go_roundg 0
          case measure => have := hk.out; simp at this; omega
          case rel =>
            refine ⟨[], pre ++ [⟨pn, ps, p3, p4, p5, p6, p7⟩], rfl, by simp; omega, by rw [ho.out, ((Bo.out_cons now ⟨⟨pn, ps, p3, p4, p5, p6, p7⟩, dt⟩ []).1 (show dt ≤ now by omega)).1]; simp, by rw [hr.out, ((Bo.out_cons now ⟨⟨pn, ps, p3, p4, p5, p6, p7⟩, dt⟩ []).1 (show dt ≤ now by omega)).2], ?_⟩
            have H9 := HH.out
            rw [show (pks pre).flatten ++ [.int .u64 pn, .int .u64 ps, .int .u64 p3, .int .u64 p4, .int .u64 p5, .int .u64 p6, .bool p7] = (pks (pre ++ [⟨pn, ps, p3, p4, p5, p6, p7⟩])).flatten from (flat_pks_snoc _ (⟨pn, ps, p3, p4, p5, p6, p7⟩ : Pk)).symm] at H9
            have H10 := ((Own.pm (H9) (by repeat (first | with_reducible exact Pm.refl _ | with_reducible exact Pm.nil _ | with_reducible refine Pm.here ?_ | with_reducible refine Pm.at2 ?_ | with_reducible refine Pm.at3 ?_ | with_reducible refine Pm.at4 ?_ | with_reducible refine Pm.at5 ?_ | with_reducible refine Pm.at6 ?_ | with_reducible refine Pm.at7 ?_ | with_reducible refine Pm.at8 ?_ | with_reducible refine Pm.skip ?_))) : Own ε _ (pts b _ :: slc 92 8 _ _ :: slc 62 7 _ _ :: R))
            exact (Own.rbox_mk (s := { s with l := [] }) H10).r2
        · go_wp2_with (with_reducible refine stop_bs ?_)
          refine Stop.go ?_
          refine wpList_bs0_own HH.out 8 64 Try.underlying84 (by kernel_rfl) ?_
          intro g0 w6_ H9_
          replace HH := Lib.hid H9_
          clear H9_
          (try clear cc1_); (try clear cc2_); (try clear cc3_); (try clear cc4_); (try clear cc5_); (try clear cc6_); (try clear cc7_)
          have cc3_ := HH.out.r3.cells
          obtain ⟨_, e, _, hs⟩ := hdr.out _ _ ((Own.pm (HH.out) (by repeat (first | with_reducible exact Pm.refl _ | with_reducible exact Pm.nil _ | with_reducible refine Pm.here ?_ | with_reducible refine Pm.at2 ?_ | with_reducible refine Pm.at3 ?_ | with_reducible refine Pm.at4 ?_ | with_reducible refine Pm.at5 ?_ | with_reducible refine Pm.at6 ?_ | with_reducible refine Pm.at7 ?_ | with_reducible refine Pm.at8 ?_ | with_reducible refine Pm.skip ?_))) : Own ε _ (slcE (.slice _ (l.length + 1) cap) _ :: R))
          cases e
          replace hs := Lib.hid hs
          go_wp2_with (with_reducible refine stop_app ?_)
          refine Stop.go ?_
          refine wpList_append_slc rfl _ _ 84 rfl 92 8 64 Try.underlying84 (by kernel_rfl) (by decide) rfl (HH.out) rfl ((show ([] : List Value).length = 0 * 8 from rfl)) (hs.out) (hone.out) (by simp only [maxLen]; omega) (by omega) ?_
          intro v6 w7_ H9_
          obtain ⟨A_v6, n_v6, c_v6, rfl⟩ := H9_.slc_isv
          replace HH := Lib.hid H9_
          clear H9_
          clear hs
          (try clear cc1_); (try clear cc2_); (try clear cc3_); (try clear cc4_); (try clear cc5_); (try clear cc6_); (try clear cc7_)
          have cc3_ := HH.out.r3.cells
          go_wp2_with (with_reducible refine stop_st ?_)
          refine Stop.go ?_
          refine wpList_store1_own (v := .slice A_v6 n_v6 c_v6) (k := 2) rfl rfl HH.out.r3 (by kernel_rfl) (by simp) (by first | rfl | assumption) ?_
          intro w8_ H9_
          replace HH := Lib.hid H9_
          clear H9_
          simp only [List.setIfInBounds_toArray, List.set_cons_succ, List.set_cons_zero] at HH
          go_wp2_with fail
          go_roundg l.length
          case measure => have := hk.out; simp at this; omega
          case rel =>
            refine ⟨l, pre ++ [⟨pn, ps, p3, p4, p5, p6, p7⟩], rfl, by simp; omega, by rw [ho.out, ((Bo.out_cons now ⟨⟨pn, ps, p3, p4, p5, p6, p7⟩, dt⟩ l).1 (show dt ≤ now by omega)).1]; simp, by rw [hr.out, ((Bo.out_cons now ⟨⟨pn, ps, p3, p4, p5, p6, p7⟩, dt⟩ l).1 (show dt ≤ now by omega)).2], ?_⟩
            have H9 := HH.out
            rw [show (pks pre).flatten ++ [.int .u64 pn, .int .u64 ps, .int .u64 p3, .int .u64 p4, .int .u64 p5, .int .u64 p6, .bool p7] = (pks (pre ++ [⟨pn, ps, p3, p4, p5, p6, p7⟩])).flatten from (flat_pks_snoc _ (⟨pn, ps, p3, p4, p5, p6, p7⟩ : Pk)).symm] at H9
            have H10 := ((Own.pm (H9) (by repeat (first | with_reducible exact Pm.refl _ | with_reducible exact Pm.nil _ | with_reducible refine Pm.here ?_ | with_reducible refine Pm.at2 ?_ | with_reducible refine Pm.at3 ?_ | with_reducible refine Pm.at4 ?_ | with_reducible refine Pm.at5 ?_ | with_reducible refine Pm.at6 ?_ | with_reducible refine Pm.at7 ?_ | with_reducible refine Pm.at8 ?_ | with_reducible refine Pm.skip ?_))) : Own ε _ (pts b _ :: slc 92 8 _ _ :: slc 62 7 _ _ :: R))
            exact (Own.rbox_mk (s := { s with l := l }) H10).r2
      · clear hc
        go_wp2_with fail
        go_ret
        have e1 := ho.out
        have e2 := hr.out
        rw [((Bo.out_cons now ⟨⟨pn, ps, p3, p4, p5, p6, p7⟩, dt⟩ l).2 (show ¬ dt ≤ now by omega)).1, List.append_nil] at e1
        rw [((Bo.out_cons now ⟨⟨pn, ps, p3, p4, p5, p6, p7⟩, dt⟩ l).2 (show ¬ dt ≤ now by omega)).2] at e2
        refine ⟨_, rfl, ?_⟩
        rw [show (s.out now) = (pre, { s with l := ⟨⟨pn, ps, p3, p4, p5, p6, p7⟩, dt⟩ :: l }) by unfold Bo.out; rw [e1, e2]]
        exact (Own.rbox_mk (s := { s with l := ⟨⟨pn, ps, p3, p4, p5, p6, p7⟩, dt⟩ :: l }) HH.out).r2
end
end Go.Proofs.Ytoimbdbajpjmjaa
