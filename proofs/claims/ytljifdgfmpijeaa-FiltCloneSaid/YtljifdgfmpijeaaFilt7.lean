/- filt: FiltClone. -/
import Derived.Test.YtljifdgfmpijeaaFilt6
namespace Go.Proofs.Ytljifdgfmpijeaa
open Go.RowKit
/-- One act: of the program's, and of the document's. -/
def Fil.act (s : Fil) (a : Bool × Int × Int) : Fil := if a.1 then (s.put a.2.1 a.2.2).2 else (s.to a.2.1).2
def Fil.ract (s : Fil) (a : Bool × Int × Int) : Fil := if a.1 then (s.rput a.2.1 a.2.2).2 else (s.rto a.2.1).2
theorem CRel.act {s m : Fil} (h : CRel s m) {a : Bool × Int × Int} (ht : U a.2.1) (hx : U a.2.2) : CRel (s.act a) (m.ract a) := by
  unfold Fil.act Fil.ract
  split
  · exact (h.put ht hx).2
  · exact (h.to ht).2
theorem act_len {s m : Fil} {a : Bool × Int × Int} {k : Nat} (h1 : s.l.length ≤ k) (h2 : m.l.length ≤ k) : (s.act a).l.length ≤ k + 1 ∧ (m.ract a).l.length ≤ k + 1 := by
  unfold Fil.act Fil.ract Fil.put Fil.rput Fil.to Fil.rto
  constructor
  · split
    · split
      · simp only; omega
      · simp only [List.length_append, List.length_singleton]
        have q1 := worse_len s.least a.2.2 (Fil.old s.win a.2.1 s.l)
        have q2 := old_len s.win a.2.1 s.l
        omega
    · split
      · simp only; omega
      · simp only
        have q2 := old_len s.win a.2.1 s.l
        omega
  · split
    · split
      · simp only; omega
      · simp only [List.length_append, List.length_singleton]; omega
    · split <;> simp only <;> omega
section
variable (ε w : World) (R : List Asn) (b c : Nat)
set_option maxHeartbeats 3200000 in
theorem act05_c (s m : Fil) (h : CRel s m) (pu : Bool) (t x : Int) (ht : U t) (hx : U x) (h1 : s.l.length ≤ 1000000) (h2 : m.l.length ≤ 1000000) (H : Own ε w (fil b s :: rfil c m :: R)) :
    Calls Try.prog 11 #[.pointer (some ⟨b, 0, none⟩), .pointer (some ⟨c, 0, none⟩), .agg #[.bool pu, .int .u64 t, .int .u64 x]] w fun e w' => e = .returned (.bool true) ∧ Own ε w' (fil b (s.act (pu, t, x)) :: rfil c (m.ract (pu, t, x)) :: R) := by
  have HH := Lib.hid H; clear H
  have hok := Lib.hid h.ok
  cases pu with
  | true =>
    have e1 := (h.put ht hx).1
    rw [show s.act (true, t, x) = (s.put t x).2 from rfl, show m.ract (true, t, x) = (m.rput t x).2 from rfl]
    obtain ⟨⟨p1, s2⟩, hs2⟩ : ∃ r, s.put t x = r := ⟨_, rfl⟩
    obtain ⟨⟨p2, m2⟩, hm2⟩ : ∃ r, m.rput t x = r := ⟨_, rfl⟩
    rw [hs2, hm2] at e1
    simp only at e1
    subst e1
    rw [hs2, hm2]
    replace hs2 := Lib.hid hs2
    replace hm2 := Lib.hid hm2
    replace ht := Lib.hid ht
    replace hx := Lib.hid hx
    go_enter Try.func11, Try.ntmps11
    go_wp2_with (with_reducible refine stop_bx ?_)
    refine Stop.go ?_
    refine wpList_box_own HH.out [_, _, _] rfl ?_
    intro g w1_ H9_
    replace HH := Lib.hid H9_
    clear H9_
    (try clear cc1_); (try clear cc2_); (try clear cc3_); (try clear cc4_); (try clear cc5_); (try clear cc6_); (try clear cc7_)
    have cc1_ := HH.out.cells
    go_wp2_with fail
    (try clear cc1_); (try clear cc2_); (try clear cc3_); (try clear cc4_); (try clear cc5_); (try clear cc6_); (try clear cc7_)
    go_wp2_with fail
    refine wp_region_regK (some 11) [pts g (.cells #[.bool true, .int .u64 t, .int .u64 x] 29 (0, 0))] HH.out (by kernel_rfl) ?_
    intro wm H9_
    replace HH := Lib.hid H9_
    clear H9_
    have HS : Own _ wm [pts g (.cells #[.bool true, .int .u64 t, .int .u64 x] 29 (0, 0))] := (Own.pm (HH.out) (by repeat (first | with_reducible exact Pm.refl _ | with_reducible exact Pm.nil _ | with_reducible refine Pm.here ?_ | with_reducible refine Pm.at2 ?_ | with_reducible refine Pm.at3 ?_ | with_reducible refine Pm.at4 ?_ | with_reducible refine Pm.at5 ?_ | with_reducible refine Pm.at6 ?_ | with_reducible refine Pm.at7 ?_ | with_reducible refine Pm.at8 ?_ | with_reducible refine Pm.skip ?_)))
    refine reg_p (i := 0) rfl (by kernel_rfl) (fun _ _ _ _ h => h) HS (fun K hK => ?_)
    go_simp
    first | (refine hK _ ?_; clear hK K) | (apply Exists.intro; refine ⟨?_, hK _ ?_⟩; (focus (intro wx; first | (go_simp; first | rfl) | rfl)); clear hK K)
    refine reg_p (i := 1) rfl (by kernel_rfl) (fun _ _ _ _ h => h) HS (fun K hK => ?_)
    go_simp
    first | (refine hK _ ?_; clear hK K) | (apply Exists.intro; refine ⟨?_, hK _ ?_⟩; (focus (intro wx; first | (go_simp; first | rfl) | rfl)); clear hK K)
    refine mixk_q (i := 2) rfl (by kernel_rfl) (fun _ _ _ _ h => h) HS (fun K hK => ?_)
    go_simp
    first | (refine hK _ ?_; clear hK K) | (apply Exists.intro; refine ⟨?_, hK _ ?_⟩; (focus (intro wx hx; have x1_ := hx.cells; first | (go_simp; first | rfl | exact ⟨rfl, rfl⟩) | rfl | exact ⟨rfl, rfl⟩)); clear hK K)
    refine reg_p (i := 3) rfl (by kernel_rfl) (fun _ _ _ _ h => h) HS (fun K hK => ?_)
    go_simp
    first | (refine hK _ ?_; clear hK K) | (apply Exists.intro; refine ⟨?_, hK _ ?_⟩; (focus (intro wx; first | (go_simp; first | rfl) | rfl)); clear hK K)
    refine mixk_q (i := 4) rfl (by kernel_rfl) (fun _ _ _ _ h => h) HS (fun K hK => ?_)
    go_simp
    first | (refine hK _ ?_; clear hK K) | (apply Exists.intro; refine ⟨?_, hK _ ?_⟩; (focus (intro wx hx; have x1_ := hx.cells; first | (go_simp; first | rfl | exact ⟨rfl, rfl⟩) | rfl | exact ⟨rfl, rfl⟩)); clear hK K)
    refine reg_p (i := 6) rfl (by kernel_rfl) (fun _ _ _ _ h => h) HS (fun K hK => ?_)
    go_simp
    first | (refine hK _ ?_; clear hK K) | (apply Exists.intro; refine ⟨?_, hK _ ?_⟩; (focus (intro wx; first | (go_simp; first | rfl) | rfl)); clear hK K)
    refine reg_p (i := 7) rfl (by kernel_rfl) (fun _ _ _ _ h => h) HS (fun K hK => ?_)
    go_simp
    first | (refine hK _ ?_; clear hK K) | (apply Exists.intro; refine ⟨?_, hK _ ?_⟩; (focus (intro wx; first | (go_simp; first | rfl) | rfl)); clear hK K)
    refine mixk_q (i := 8) rfl (by kernel_rfl) (fun _ _ _ _ h => h) HS (fun K hK => ?_)
    go_simp
    first | (refine hK _ ?_; clear hK K) | (apply Exists.intro; refine ⟨?_, hK _ ?_⟩; (focus (intro wx hx; have x1_ := hx.cells; first | (go_simp; first | rfl | exact ⟨rfl, rfl⟩) | rfl | exact ⟨rfl, rfl⟩)); clear hK K)
    refine reg_p (i := 9) rfl (by kernel_rfl) (fun _ _ _ _ h => h) HS (fun K hK => ?_)
    go_simp
    first | (refine hK _ ?_; clear hK K) | (apply Exists.intro; refine ⟨?_, hK _ ?_⟩; (focus (intro wx; first | (go_simp; first | rfl) | rfl)); clear hK K)
    refine mixk_q (i := 10) rfl (by kernel_rfl) (fun _ _ _ _ h => h) HS (fun K hK => ?_)
    go_simp
    first | (refine hK _ ?_; clear hK K) | (apply Exists.intro; refine ⟨?_, hK _ ?_⟩; (focus (intro wx hx; have x1_ := hx.cells; first | (go_simp; first | rfl | exact ⟨rfl, rfl⟩) | rfl | exact ⟨rfl, rfl⟩)); clear hK K)
    refine reg_l (some 11) (i := 5) rfl (by kernel_rfl) (fun wn hk K hK => ?_)
    replace HH := Lib.hid (hk _ _ HH.out)
    clear hk HS
    go_simp
    refine (filPut_c ε wn _ b s t x hok.out h1 HH.out.r2).mono ?_
    rw [hs2.out]
    rintro e wm ⟨rfl, H9_⟩
    replace HH := Lib.hid H9_
    clear H9_
    have HS : Own _ wm [pts g (.cells #[.bool true, .int .u64 t, .int .u64 x] 29 (0, 0))] := (Own.pm (HH.out) (by repeat (first | with_reducible exact Pm.refl _ | with_reducible exact Pm.nil _ | with_reducible refine Pm.here ?_ | with_reducible refine Pm.at2 ?_ | with_reducible refine Pm.at3 ?_ | with_reducible refine Pm.at4 ?_ | with_reducible refine Pm.at5 ?_ | with_reducible refine Pm.at6 ?_ | with_reducible refine Pm.at7 ?_ | with_reducible refine Pm.at8 ?_ | with_reducible refine Pm.skip ?_)))
    refine hK _ _ [pts g (.cells #[.bool true, .int .u64 t, .int .u64 x] 29 (0, 0))] HS (.inr ⟨rfl, fun _ h => h⟩) ?_
    clear hK K
    refine reg_l none (i := 11) rfl (by kernel_rfl) (fun wn hk K hK => ?_)
    replace HH := Lib.hid (hk _ _ HH.out)
    clear hk HS
    go_simp
    refine (rfilPut_c ε wn _ c m t x h2 HH.out.r3).mono ?_
    rw [hm2.out]
    rintro e wm ⟨rfl, H9_⟩
    replace HH := Lib.hid H9_
    clear H9_
    refine hK _ _ _ HH.out (.inl (by kernel_rfl)) ?_
    clear hK K
    refine reg_p (i := 12) rfl (by kernel_rfl) (fun _ _ _ _ h => h) HH.out (fun K hK => ?_)
    go_simp
    first | (refine hK _ ?_; clear hK K) | (apply Exists.intro; refine ⟨?_, hK _ ?_⟩; (focus (intro wx; first | (go_simp; first | rfl) | rfl)); clear hK K)
    refine reg_p (i := 13) rfl (by kernel_rfl) (fun _ _ _ _ h => h) HH.out (fun K hK => ?_)
    go_simp
    first | (refine hK _ ?_; clear hK K) | (apply Exists.intro; refine ⟨?_, hK _ ?_⟩; (focus (intro wx; first | (go_simp; first | rfl) | rfl)); clear hK K)
    refine mixk_done (by kernel_rfl) (fun w2_ hk => ?_) _
    replace HH := Lib.hid (hk _ _ HH.out)
    clear hk
    replace HH := Lib.hid ((Own.pm (HH.out) (by repeat (first | with_reducible exact Pm.refl _ | with_reducible exact Pm.nil _ | with_reducible refine Pm.here ?_ | with_reducible refine Pm.at2 ?_ | with_reducible refine Pm.at3 ?_ | with_reducible refine Pm.at4 ?_ | with_reducible refine Pm.at5 ?_ | with_reducible refine Pm.at6 ?_ | with_reducible refine Pm.at7 ?_ | with_reducible refine Pm.at8 ?_ | with_reducible refine Pm.skip ?_))) : Own _ _ (fil b s2 :: rfil c m2 :: R))
    all_goals
      go_wp2_with fail
      go_ret
      exact ⟨rfl, HH.out⟩
  | false =>
    have e1 := (h.to ht).1
    rw [show s.act (false, t, x) = (s.to t).2 from rfl, show m.ract (false, t, x) = (m.rto t).2 from rfl]
    obtain ⟨⟨p1, s2⟩, hs2⟩ : ∃ r, s.to t = r := ⟨_, rfl⟩
    obtain ⟨⟨p2, m2⟩, hm2⟩ : ∃ r, m.rto t = r := ⟨_, rfl⟩
    rw [hs2, hm2] at e1
    simp only at e1
    subst e1
    rw [hs2, hm2]
    replace hs2 := Lib.hid hs2
    replace hm2 := Lib.hid hm2
    replace ht := Lib.hid ht
    replace hx := Lib.hid hx
    go_enter Try.func11, Try.ntmps11
    go_wp2_with (with_reducible refine stop_bx ?_)
    refine Stop.go ?_
    refine wpList_box_own HH.out [_, _, _] rfl ?_
    intro g w3_ H9_
    replace HH := Lib.hid H9_
    clear H9_
    (try clear cc1_); (try clear cc2_); (try clear cc3_); (try clear cc4_); (try clear cc5_); (try clear cc6_); (try clear cc7_)
    have cc1_ := HH.out.cells
    go_wp2_with fail
    (try clear cc1_); (try clear cc2_); (try clear cc3_); (try clear cc4_); (try clear cc5_); (try clear cc6_); (try clear cc7_)
    go_wp2_with fail
    refine wp_region_regK (some 7) [pts g (.cells #[.bool false, .int .u64 t, .int .u64 x] 29 (0, 0))] HH.out (by kernel_rfl) ?_
    intro wm H9_
    replace HH := Lib.hid H9_
    clear H9_
    have HS : Own _ wm [pts g (.cells #[.bool false, .int .u64 t, .int .u64 x] 29 (0, 0))] := (Own.pm (HH.out) (by repeat (first | with_reducible exact Pm.refl _ | with_reducible exact Pm.nil _ | with_reducible refine Pm.here ?_ | with_reducible refine Pm.at2 ?_ | with_reducible refine Pm.at3 ?_ | with_reducible refine Pm.at4 ?_ | with_reducible refine Pm.at5 ?_ | with_reducible refine Pm.at6 ?_ | with_reducible refine Pm.at7 ?_ | with_reducible refine Pm.at8 ?_ | with_reducible refine Pm.skip ?_)))
    refine reg_p (i := 0) rfl (by kernel_rfl) (fun _ _ _ _ h => h) HS (fun K hK => ?_)
    go_simp
    first | (refine hK _ ?_; clear hK K) | (apply Exists.intro; refine ⟨?_, hK _ ?_⟩; (focus (intro wx; first | (go_simp; first | rfl) | rfl)); clear hK K)
    refine reg_p (i := 1) rfl (by kernel_rfl) (fun _ _ _ _ h => h) HS (fun K hK => ?_)
    go_simp
    first | (refine hK _ ?_; clear hK K) | (apply Exists.intro; refine ⟨?_, hK _ ?_⟩; (focus (intro wx; first | (go_simp; first | rfl) | rfl)); clear hK K)
    refine mixk_q (i := 2) rfl (by kernel_rfl) (fun _ _ _ _ h => h) HS (fun K hK => ?_)
    go_simp
    first | (refine hK _ ?_; clear hK K) | (apply Exists.intro; refine ⟨?_, hK _ ?_⟩; (focus (intro wx hx; have x1_ := hx.cells; first | (go_simp; first | rfl | exact ⟨rfl, rfl⟩) | rfl | exact ⟨rfl, rfl⟩)); clear hK K)
    refine reg_p (i := 4) rfl (by kernel_rfl) (fun _ _ _ _ h => h) HS (fun K hK => ?_)
    go_simp
    first | (refine hK _ ?_; clear hK K) | (apply Exists.intro; refine ⟨?_, hK _ ?_⟩; (focus (intro wx; first | (go_simp; first | rfl) | rfl)); clear hK K)
    refine reg_p (i := 5) rfl (by kernel_rfl) (fun _ _ _ _ h => h) HS (fun K hK => ?_)
    go_simp
    first | (refine hK _ ?_; clear hK K) | (apply Exists.intro; refine ⟨?_, hK _ ?_⟩; (focus (intro wx; first | (go_simp; first | rfl) | rfl)); clear hK K)
    refine mixk_q (i := 6) rfl (by kernel_rfl) (fun _ _ _ _ h => h) HS (fun K hK => ?_)
    go_simp
    first | (refine hK _ ?_; clear hK K) | (apply Exists.intro; refine ⟨?_, hK _ ?_⟩; (focus (intro wx hx; have x1_ := hx.cells; first | (go_simp; first | rfl | exact ⟨rfl, rfl⟩) | rfl | exact ⟨rfl, rfl⟩)); clear hK K)
    refine reg_l (some 7) (i := 3) rfl (by kernel_rfl) (fun wn hk K hK => ?_)
    replace HH := Lib.hid (hk _ _ HH.out)
    clear hk HS
    go_simp
    refine (filTo_c ε wn _ b s t hok.out HH.out.r2).mono ?_
    rw [hs2.out]
    rintro e wm ⟨rfl, H9_⟩
    replace HH := Lib.hid H9_
    clear H9_
    have HS : Own _ wm [pts g (.cells #[.bool false, .int .u64 t, .int .u64 x] 29 (0, 0))] := (Own.pm (HH.out) (by repeat (first | with_reducible exact Pm.refl _ | with_reducible exact Pm.nil _ | with_reducible refine Pm.here ?_ | with_reducible refine Pm.at2 ?_ | with_reducible refine Pm.at3 ?_ | with_reducible refine Pm.at4 ?_ | with_reducible refine Pm.at5 ?_ | with_reducible refine Pm.at6 ?_ | with_reducible refine Pm.at7 ?_ | with_reducible refine Pm.at8 ?_ | with_reducible refine Pm.skip ?_)))
    refine hK _ _ [pts g (.cells #[.bool false, .int .u64 t, .int .u64 x] 29 (0, 0))] HS (.inr ⟨rfl, fun _ h => h⟩) ?_
    clear hK K
    refine reg_l none (i := 7) rfl (by kernel_rfl) (fun wn hk K hK => ?_)
    replace HH := Lib.hid (hk _ _ HH.out)
    clear hk HS
    go_simp
    refine (rfilTo_c ε wn _ c m t HH.out.r3).mono ?_
    rw [hm2.out]
    rintro e wm ⟨rfl, H9_⟩
    replace HH := Lib.hid H9_
    clear H9_
    refine hK _ _ _ HH.out (.inl (by kernel_rfl)) ?_
    clear hK K
    refine reg_p (i := 8) rfl (by kernel_rfl) (fun _ _ _ _ h => h) HH.out (fun K hK => ?_)
    go_simp
    first | (refine hK _ ?_; clear hK K) | (apply Exists.intro; refine ⟨?_, hK _ ?_⟩; (focus (intro wx; first | (go_simp; first | rfl) | rfl)); clear hK K)
    refine reg_p (i := 9) rfl (by kernel_rfl) (fun _ _ _ _ h => h) HH.out (fun K hK => ?_)
    go_simp
    first | (refine hK _ ?_; clear hK K) | (apply Exists.intro; refine ⟨?_, hK _ ?_⟩; (focus (intro wx; first | (go_simp; first | rfl) | rfl)); clear hK K)
    refine mixk_done (by kernel_rfl) (fun w4_ hk => ?_) _
    replace HH := Lib.hid (hk _ _ HH.out)
    clear hk
    replace HH := Lib.hid ((Own.pm (HH.out) (by repeat (first | with_reducible exact Pm.refl _ | with_reducible exact Pm.nil _ | with_reducible refine Pm.here ?_ | with_reducible refine Pm.at2 ?_ | with_reducible refine Pm.at3 ?_ | with_reducible refine Pm.at4 ?_ | with_reducible refine Pm.at5 ?_ | with_reducible refine Pm.at6 ?_ | with_reducible refine Pm.at7 ?_ | with_reducible refine Pm.at8 ?_ | with_reducible refine Pm.skip ?_))) : Own _ _ (fil b s2 :: rfil c m2 :: R))
    all_goals
      go_wp2_with fail
      go_ret
      exact ⟨rfl, HH.out⟩
set_option maxRecDepth 100000 in
set_option maxHeartbeats 3200000 in
theorem same05_c (s m : Fil) (h : CRel s m) (H : Own ε w (fil b s :: rfil c m :: R)) :
    Calls Try.prog 13 #[.pointer (some ⟨b, 0, none⟩), .pointer (some ⟨c, 0, none⟩)] w fun e w' => e = .returned (.bool true) ∧ Own ε w' (fil b s :: rfil c m :: R) := by
  have HH := Lib.hid H; clear H
  have hb := h.best
  have hn := h.now
  have hw : U m.win := by rw [h.win]; exact h.ok.1
  have hus := Lib.hid h.us
  clear h
  obtain ⟨⟨⟨q1, q2⟩, so⟩, hq⟩ : ∃ r, s.best = r := ⟨_, rfl⟩
  rw [hq] at hb
  replace hq := Lib.hid hq
  replace hb := Lib.hid hb
  replace hw := Lib.hid hw
  go_enter Try.func13, Try.ntmps13
  go_wp2_with fail
  refine (filBest_c ε _ _ b s HH.out).mono ?_
  rw [hq.out]
  rintro e w5_ ⟨rfl, H9_⟩
  replace HH := Lib.hid H9_
  clear H9_
  go_wp2_with fail
  refine (rfilBest_c ε _ _ c m hw.out hus.out HH.out.r2).mono ?_
  rw [hb.out]
  rintro e w6_ ⟨rfl, H9_⟩
  replace HH := Lib.hid H9_
  clear H9_
  obtain ⟨v, H2⟩ := HH.out.rfil_open
  replace HH := Lib.hid H2
  clear H2
  have f1 : (q2 == q2) = true := beq_self_eq_true _
  have f2 : (q1 == q1) = true := beq_self_eq_true _
  have f3 : (so == so) = true := beq_self_eq_true _
  have f4 : (s.now == m.now) = true := by rw [hn]; exact beq_self_eq_true _
  clear hn
  go_wp2_with fail
  refine wp_region_reg none HH.out (by kernel_rfl) ?_
  intro wm H9_
  replace HH := Lib.hid H9_
  clear H9_
  refine reg_p (i := 0) rfl (by kernel_rfl) (fun _ _ _ _ h => h) HH.out (fun K hK => ?_)
  go_simp
  first | (refine hK _ ?_; clear hK K) | (apply Exists.intro; refine ⟨?_, hK _ ?_⟩; (focus (intro wx; first | (go_simp; first | rfl) | rfl)); clear hK K)
  refine reg_p (i := 1) rfl (by kernel_rfl) (fun _ _ _ _ h => h) HH.out (fun K hK => ?_)
  go_simp
  first | (refine hK _ ?_; clear hK K) | (apply Exists.intro; refine ⟨?_, hK _ ?_⟩; (focus (intro wx; first | (go_simp; first | rfl) | rfl)); clear hK K)
  refine reg_p (i := 2) rfl (by kernel_rfl) (fun _ _ _ _ h => h) HH.out (fun K hK => ?_)
  go_simp
  first | (refine hK _ ?_; clear hK K) | (apply Exists.intro; refine ⟨?_, hK _ ?_⟩; (focus (intro wx; first | (go_simp; first | rfl) | rfl)); clear hK K)
  refine reg_p (i := 3) rfl (by kernel_rfl) (fun _ _ _ _ h => h) HH.out (fun K hK => ?_)
  go_simp
  first | (refine hK _ ?_; clear hK K) | (apply Exists.intro; refine ⟨?_, hK _ ?_⟩; (focus (intro wx; first | (go_simp; first | rfl) | rfl)); clear hK K)
  refine reg_p (i := 4) rfl (by kernel_rfl) (fun _ _ _ _ h => h) HH.out (fun K hK => ?_)
  go_simp
  first | (refine hK _ ?_; clear hK K) | (apply Exists.intro; refine ⟨?_, hK _ ?_⟩; (focus (intro wx; first | (go_simp; first | rfl) | rfl)); clear hK K)
  refine reg_p (i := 5) rfl (by kernel_rfl) (fun _ _ _ _ h => h) HH.out (fun K hK => ?_)
  go_simp
  first | (refine hK _ ?_; clear hK K) | (apply Exists.intro; refine ⟨?_, hK _ ?_⟩; (focus (intro wx; first | (go_simp; first | rfl) | rfl)); clear hK K)
  refine reg_p (i := 6) rfl (by kernel_rfl) (fun _ _ _ _ h => h) HH.out (fun K hK => ?_)
  go_simp
  first | (refine hK _ ?_; clear hK K) | (apply Exists.intro; refine ⟨?_, hK _ ?_⟩; (focus (intro wx; first | (go_simp; first | rfl) | rfl)); clear hK K)
  refine reg_p (i := 7) rfl (by kernel_rfl) (fun _ _ _ _ h => h) HH.out (fun K hK => ?_)
  go_simp
  first | (refine hK _ ?_; clear hK K) | (apply Exists.intro; refine ⟨?_, hK _ ?_⟩; (focus (intro wx; first | (go_simp; first | rfl) | rfl)); clear hK K)
  refine reg_p (i := 8) rfl (by kernel_rfl) (fun _ _ _ _ h => h) HH.out (fun K hK => ?_)
  go_simp
  first | (refine hK _ ?_; clear hK K) | (apply Exists.intro; refine ⟨?_, hK _ ?_⟩; (focus (intro wx; first | (go_simp; first | rfl) | rfl)); clear hK K)
  refine reg_p (i := 9) rfl (by kernel_rfl) (fun _ _ _ _ h => h) HH.out (fun K hK => ?_)
  go_simp
  first | (refine hK _ ?_; clear hK K) | (apply Exists.intro; refine ⟨?_, hK _ ?_⟩; (focus (intro wx; first | (go_simp; first | rfl) | rfl)); clear hK K)
  refine reg_p (i := 10) rfl (by kernel_rfl) (fun _ _ _ _ h => h) HH.out (fun K hK => ?_)
  go_simp
  first | (refine hK _ ?_; clear hK K) | (apply Exists.intro; refine ⟨?_, hK _ ?_⟩; (focus (intro wx; first | (go_simp; first | rfl) | rfl)); clear hK K)
  refine reg_p (i := 11) rfl (by kernel_rfl) (fun _ _ _ _ h => h) HH.out (fun K hK => ?_)
  go_simp
  first | (refine hK _ ?_; clear hK K) | (apply Exists.intro; refine ⟨?_, hK _ ?_⟩; (focus (intro wx; first | (go_simp; first | rfl) | rfl)); clear hK K)
  refine reg_p (i := 12) rfl (by kernel_rfl) (fun _ _ _ _ h => h) HH.out (fun K hK => ?_)
  go_simp
  first | (refine hK _ ?_; clear hK K) | (apply Exists.intro; refine ⟨?_, hK _ ?_⟩; (focus (intro wx; first | (go_simp; first | rfl) | rfl)); clear hK K)
  refine reg_p (i := 13) rfl (by kernel_rfl) (fun _ _ _ _ h => h) HH.out (fun K hK => ?_)
  go_simp
  first | (refine hK _ ?_; clear hK K) | (apply Exists.intro; refine ⟨?_, hK _ ?_⟩; (focus (intro wx; first | (go_simp; first | rfl) | rfl)); clear hK K)
  refine reg_p (i := 14) rfl (by kernel_rfl) (fun _ _ _ _ h => h) HH.out (fun K hK => ?_)
  go_simp
  first | (refine hK _ ?_; clear hK K) | (apply Exists.intro; refine ⟨?_, hK _ ?_⟩; (focus (intro wx; first | (go_simp; first | rfl) | rfl)); clear hK K)
  refine mixk_q (i := 15) rfl (by kernel_rfl) (fun _ _ _ _ h => h) HH.out (fun K hK => ?_)
  go_simp
  first | (refine hK _ ?_; clear hK K) | (apply Exists.intro; refine ⟨?_, hK _ ?_⟩; (focus (intro wx hx; have x1_ := hx.cells; first | (first | (go_at_call 10; refine (filTime_c ε wx _ b s hx.r3).mono ?_; rintro e wy ⟨rfl, hbel⟩; exact ⟨rfl, (by first | exact Kp.same hbel | exact Kp.drew hbel | exact Kp.below hbel : Kp wx wy)⟩)) | (go_simp; first | rfl | exact ⟨rfl, rfl⟩) | rfl | exact ⟨rfl, rfl⟩)); clear hK K)
  refine reg_p (i := 16) rfl (by kernel_rfl) (fun _ _ _ _ h => h) HH.out (fun K hK => ?_)
  go_simp
  first | (refine hK _ ?_; clear hK K) | (apply Exists.intro; refine ⟨?_, hK _ ?_⟩; (focus (intro wx; first | (go_simp; first | rfl) | rfl)); clear hK K)
  refine reg_p (i := 17) rfl (by kernel_rfl) (fun _ _ _ _ h => h) HH.out (fun K hK => ?_)
  go_simp
  first | (refine hK _ ?_; clear hK K) | (apply Exists.intro; refine ⟨?_, hK _ ?_⟩; (focus (intro wx; first | (go_simp; first | rfl) | rfl)); clear hK K)
  refine reg_p (i := 18) rfl (by kernel_rfl) (fun _ _ _ _ h => h) HH.out (fun K hK => ?_)
  go_simp
  first | (refine hK _ ?_; clear hK K) | (apply Exists.intro; refine ⟨?_, hK _ ?_⟩; (focus (intro wx; first | (go_simp; first | rfl) | rfl)); clear hK K)
  refine mixk_q (i := 19) rfl (by kernel_rfl) (fun _ _ _ _ h => h) HH.out (fun K hK => ?_)
  go_simp
  first | (refine hK _ ?_; clear hK K) | (apply Exists.intro; refine ⟨?_, hK _ ?_⟩; (focus (intro wx hx; have x1_ := hx.cells; first | (first | (go_at_call 10; refine (filTime_c ε wx _ b s hx.r3).mono ?_; rintro e wy ⟨rfl, hbel⟩; exact ⟨rfl, (by first | exact Kp.same hbel | exact Kp.drew hbel | exact Kp.below hbel : Kp wx wy)⟩)) | (go_simp; first | rfl | exact ⟨rfl, rfl⟩) | rfl | exact ⟨rfl, rfl⟩)); clear hK K)
  refine reg_p (i := 20) rfl (by kernel_rfl) (fun _ _ _ _ h => h) HH.out (fun K hK => ?_)
  go_simp
  first | (refine hK _ ?_; clear hK K) | (apply Exists.intro; refine ⟨?_, hK _ ?_⟩; (focus (intro wx; first | (go_simp; first | rfl) | rfl)); clear hK K)
  refine reg_p (i := 21) rfl (by kernel_rfl) (fun _ _ _ _ h => h) HH.out (fun K hK => ?_)
  go_simp
  first | (refine hK _ ?_; clear hK K) | (apply Exists.intro; refine ⟨?_, hK _ ?_⟩; (focus (intro wx; first | (go_simp; first | rfl) | rfl)); clear hK K)
  refine reg_p (i := 22) rfl (by kernel_rfl) (fun _ _ _ _ h => h) HH.out (fun K hK => ?_)
  go_simp
  first | (refine hK _ ?_; clear hK K) | (apply Exists.intro; refine ⟨?_, hK _ ?_⟩; (focus (intro wx; first | (go_simp; first | rfl) | rfl)); clear hK K)
  refine mixk_done (by kernel_rfl) (fun w7_ hk => ?_) _
  replace HH := Lib.hid (hk _ _ HH.out)
  clear hk
  go_wp2_with fail
  go_ret
  exact ⟨rfl, (Own.rfil_mk ε _ _ c (s := m) ((Own.pm (HH.out) (by repeat (first | with_reducible exact Pm.refl _ | with_reducible exact Pm.nil _ | with_reducible refine Pm.here ?_ | with_reducible refine Pm.at2 ?_ | with_reducible refine Pm.at3 ?_ | with_reducible refine Pm.at4 ?_ | with_reducible refine Pm.at5 ?_ | with_reducible refine Pm.at6 ?_ | with_reducible refine Pm.at7 ?_ | with_reducible refine Pm.at8 ?_ | with_reducible refine Pm.skip ?_))) : Own ε _ (pts c _ :: slc _ 2 _ _ :: fil b s :: R))).r2⟩
end
section
variable (w : World)
theorem acts05 {w : World} {A : Option Addr} {len cap : Nat} {xs : List ActF} (hr : rdSlice rdActF 3 w [.slice A len cap] xs) : ∀ k, k < len → ∃ ab off pu t x, A = some ⟨ab, off, none⟩ ∧ U t ∧ U x ∧ w.cell? ⟨ab, off + k * 3, none⟩ = some (.bool pu) ∧ w.cell? ⟨ab, off + k * 3 + 1, none⟩ = some (.int .u64 t) ∧ w.cell? ⟨ab, off + k * 3 + 2, none⟩ = some (.int .u64 x) := by
  obtain ⟨hlen, hm, hx⟩ := rdSlice_cases hr
  intro k hk
  rcases hx with hz | ⟨ab, off, rfl, hx⟩
  · omega
  · obtain ⟨c, _, hcell, hR⟩ := hx k (by omega)
    obtain ⟨rfl, h1, h2⟩ := rdActF_open hR
    exact ⟨ab, off, _, _, _, rfl, h1, h2, hcell 0 _ rfl, hcell 1 _ rfl, hcell 2 _ rfl⟩
set_option maxRecDepth 100000 in
set_option maxHeartbeats 12800000 in
theorem filtClone_c (win : Int) (hw0 : (Lit.int .u64 win).wf = true) (A : Option Addr) (len cap : Nat) (xs : List ActF) (hr : rdSlice rdActF 3 w [.slice A len cap] xs) (A' : Option Addr) (len' cap' : Nat) (xs' : List ActF) (hr' : rdSlice rdActF 3 w [.slice A' len' cap'] xs') :
    Calls Try.prog 4 #[.int .u64 win, .slice A len cap, .slice A' len' cap'] w fun e w' => e = .returned (.bool true) ∧ Own w w' [old w] := by
  have HH := Lib.hid (Own.init w)
  have hwin := U_of_wf hw0
  clear hw0
  have hm := (rdSlice_cases hr).2.1
  have hm' := (rdSlice_cases hr').2.1
  have hacts := acts05 hr
  have hacts' := acts05 hr'
  clear hr hr'
  by_cases hbig : 150 < len
  · clear hacts hacts'
    replace hwin := Lib.hid hwin
    go_enter Try.func4, Try.ntmps4
    go_wp2_with fail
    refine (alive05_k _).mono ?_
    rintro e w8_ ⟨rfl, hbel⟩
    replace HH := Lib.hid ((by first | exact Kp.same hbel | exact Kp.drew hbel | exact Kp.below hbel : Kp _ w8_) _ _ (by first | exact HH.out | exact HH.out.drewN _ | exact (HH.out.alloc _).tail | exact ((HH.out.alloc _).drewN _).tail | exact ((HH.out.alloc _).alloc _).tail.tail))
    clear hbel
    go_wp2_with fail
    go_ret
    exact ⟨rfl, HH.out⟩
  by_cases hbig' : 150 < len'
  · clear hacts hacts'
    replace hwin := Lib.hid hwin
    go_enter Try.func4, Try.ntmps4
    go_wp2_with fail
    refine (alive05_k _).mono ?_
    rintro e w9_ ⟨rfl, hbel⟩
    replace HH := Lib.hid ((by first | exact Kp.same hbel | exact Kp.drew hbel | exact Kp.below hbel : Kp _ w9_) _ _ (by first | exact HH.out | exact HH.out.drewN _ | exact (HH.out.alloc _).tail | exact ((HH.out.alloc _).drewN _).tail | exact ((HH.out.alloc _).alloc _).tail.tail))
    clear hbel
    go_wp2_with fail
    go_ret
    exact ⟨rfl, HH.out⟩
  replace hacts := Lib.hid hacts
  replace hacts' := Lib.hid hacts'
  have ht2 : win.tmod 2 = win % 2 := by unfold U at hwin; exact Int.tmod_eq_emod_of_nonneg hwin.1
  obtain ⟨least, hle⟩ : ∃ l, (win % 2 == 1) = l := ⟨_, rfl⟩
  replace hwin := Lib.hid hwin
  go_enter Try.func4, Try.ntmps4
  go_wp2_with fail
  refine (of05_c w _ _ win least HH.out).mono ?_
  rintro e w10_ ⟨b, rfl, H9_⟩
  replace HH := Lib.hid H9_
  clear H9_
  go_wp2_with (with_reducible refine stop_bx ?_)
  refine Stop.go ?_
  refine wpList_box_own HH.out [_, _, _, _] rfl ?_
  intro c w11_ H9_
  replace HH := Lib.hid H9_
  clear H9_
  have H9 : Own w _ (slc 34 2 (.slice none 0 0) (encs encR []) :: pts c _ :: fil b ⟨win, 0, least, []⟩ :: [old w]) := HH.out.slc_none
  replace HH := Lib.hid (Own.rfil_mk w _ _ c (s := ⟨win, 0, least, []⟩) H9.r2)
  clear H9
  replace HH := Lib.hid ((Own.pm (HH.out) (by repeat (first | with_reducible exact Pm.refl _ | with_reducible exact Pm.nil _ | with_reducible refine Pm.here ?_ | with_reducible refine Pm.at2 ?_ | with_reducible refine Pm.at3 ?_ | with_reducible refine Pm.at4 ?_ | with_reducible refine Pm.at5 ?_ | with_reducible refine Pm.at6 ?_ | with_reducible refine Pm.at7 ?_ | with_reducible refine Pm.at8 ?_ | with_reducible refine Pm.skip ?_))) : Own w _ (fil b ⟨win, 0, least, []⟩ :: rfil c ⟨win, 0, least, []⟩ :: [old w]))
  go_wp2_with fail
  go_loopw [9] (fun i wr => ∃ (k : Nat) (s m : Fil), k ≤ len ∧ i = .int .i64 k ∧ CRel s m ∧ s.win = win ∧ s.l.length ≤ k ∧ m.l.length ≤ k ∧ Own w wr (fil b s :: rfil c m :: [old w])) (fun i _ => len - (intOf i).toNat)
  case atStart => exact ⟨0, ⟨win, 0, least, []⟩, ⟨win, 0, least, []⟩, Nat.zero_le _, rfl, CRel.zero hwin.out least, rfl, Nat.le_refl _, Nat.le_refl _, HH.out⟩
  case round =>
    clear HH
    obtain ⟨k, s, m, hk, rfl, hC, hsw, hl1, hl2, HR⟩ := hrel
    have HH := Lib.hid HR
    clear HR
    replace hC := Lib.hid hC
    replace hsw := Lib.hid hsw
    by_cases hlt : k < len
    · obtain ⟨ab, off, pu, t, x, rfl, ht, hx, c0, c1, c2⟩ := hacts.out k hlt
      have o0 := ((Own.pm (HH.out) (by repeat (first | with_reducible exact Pm.refl _ | with_reducible exact Pm.nil _ | with_reducible refine Pm.here ?_ | with_reducible refine Pm.at2 ?_ | with_reducible refine Pm.at3 ?_ | with_reducible refine Pm.at4 ?_ | with_reducible refine Pm.at5 ?_ | with_reducible refine Pm.at6 ?_ | with_reducible refine Pm.at7 ?_ | with_reducible refine Pm.at8 ?_ | with_reducible refine Pm.skip ?_))) : Own w _ [old w]).old_cell c0
      have o1 := ((Own.pm (HH.out) (by repeat (first | with_reducible exact Pm.refl _ | with_reducible exact Pm.nil _ | with_reducible refine Pm.here ?_ | with_reducible refine Pm.at2 ?_ | with_reducible refine Pm.at3 ?_ | with_reducible refine Pm.at4 ?_ | with_reducible refine Pm.at5 ?_ | with_reducible refine Pm.at6 ?_ | with_reducible refine Pm.at7 ?_ | with_reducible refine Pm.at8 ?_ | with_reducible refine Pm.skip ?_))) : Own w _ [old w]).old_cell c1
      have o2 := ((Own.pm (HH.out) (by repeat (first | with_reducible exact Pm.refl _ | with_reducible exact Pm.nil _ | with_reducible refine Pm.here ?_ | with_reducible refine Pm.at2 ?_ | with_reducible refine Pm.at3 ?_ | with_reducible refine Pm.at4 ?_ | with_reducible refine Pm.at5 ?_ | with_reducible refine Pm.at6 ?_ | with_reducible refine Pm.at7 ?_ | with_reducible refine Pm.at8 ?_ | with_reducible refine Pm.skip ?_))) : Own w _ [old w]).old_cell c2
      have hl3 := act_len (a := (pu, t, x)) hl1 hl2
      replace ht := Lib.hid ht
      replace hx := Lib.hid hx
      go_wp2_with fail
      refine (act05_c w _ _ b c s m hC.out pu t x ht.out hx.out (by omega) (by omega) HH.out).mono ?_
      rintro e w12_ ⟨rfl, H9_⟩
      replace HH := Lib.hid H9_
      clear H9_
      clear o0 o1 o2
      go_wp2_with fail
      go_roundw
      case rel => exact ⟨k + 1, _, _, by omega, by go_num, hC.out.act ht.out hx.out, by rw [← hsw.out]; cases pu <;> (simp only [Fil.act, Fil.put, Fil.to]; (repeat' split) <;> rfl), hl3.1, hl3.2, HH.out⟩
      case measure => simp [intOf]; omega
    · have hkl : k = len := by omega
      subst hkl
      clear hacts
      go_wp2_with fail
      refine (filClone_c w _ _ b s HH.out).mono ?_
      rintro e w13_ ⟨d, rfl, H9_⟩
      replace HH := Lib.hid H9_
      clear H9_
      obtain ⟨v, H2⟩ := ((Own.pm (HH.out) (by repeat (first | with_reducible exact Pm.refl _ | with_reducible exact Pm.nil _ | with_reducible refine Pm.here ?_ | with_reducible refine Pm.at2 ?_ | with_reducible refine Pm.at3 ?_ | with_reducible refine Pm.at4 ?_ | with_reducible refine Pm.at5 ?_ | with_reducible refine Pm.at6 ?_ | with_reducible refine Pm.at7 ?_ | with_reducible refine Pm.at8 ?_ | with_reducible refine Pm.skip ?_))) : Own w _ (rfil c m :: fil d s :: fil b s :: [old w])).rfil_open
      replace HH := Lib.hid H2
      clear H2
      obtain ⟨A1, n1, c1, rfl, _, hcm1, hit1⟩ := HH.out.r2.slc_it encR_len (by decide)
      have hn1 := hit1.1
      clear hit1
      obtain ⟨msw, mnow, mle, ml⟩ := m
      simp only at hn1 hl2 HH
      have hw9 : msw = win := by have := hC.out.win; simp only at this; rw [this, hsw.out]
      subst hw9
      have hln : (encs encR ml).length = n1 * 2 := by rw [encs_len encR_len, hn1]
      replace hln := Lib.hid hln
      go_wp2_with fail
      refine wp_region_reg none HH.out (by kernel_rfl) ?_
      intro wm H9_
      replace HH := Lib.hid H9_
      clear H9_
      refine reg_p (i := 0) rfl (by kernel_rfl) (fun _ _ _ _ h => h) HH.out (fun K hK => ?_)
      go_simp
      first | (refine hK _ ?_; clear hK K) | (apply Exists.intro; refine ⟨?_, hK _ ?_⟩; (focus (intro wx; first | (go_simp; first | rfl) | rfl)); clear hK K)
      refine reg_p (i := 1) rfl (by kernel_rfl) (fun _ _ _ _ h => h) HH.out (fun K hK => ?_)
      go_simp
      first | (refine hK _ ?_; clear hK K) | (apply Exists.intro; refine ⟨?_, hK _ ?_⟩; (focus (intro wx; first | (go_simp; first | rfl) | rfl)); clear hK K)
      refine reg_p (i := 2) rfl (by kernel_rfl) (fun _ _ _ _ h => h) HH.out (fun K hK => ?_)
      go_simp
      first | (refine hK _ ?_; clear hK K) | (apply Exists.intro; refine ⟨?_, hK _ ?_⟩; (focus (intro wx; first | (go_simp; first | rfl) | rfl)); clear hK K)
      refine reg_p (i := 3) rfl (by kernel_rfl) (fun _ _ _ _ h => h) HH.out (fun K hK => ?_)
      go_simp
      first | (refine hK _ ?_; clear hK K) | (apply Exists.intro; refine ⟨?_, hK _ ?_⟩; (focus (intro wx; first | (go_simp; first | rfl) | rfl)); clear hK K)
      refine mixk_q (i := 4) rfl (by kernel_rfl) (fun _ _ _ _ h => h) HH.out (fun K hK => ?_)
      go_simp
      first | (refine hK _ ?_; clear hK K) | (apply Exists.intro; refine ⟨?_, hK _ ?_⟩; (focus (intro wx hx; have x1_ := hx.cells; first | (go_simp; first | rfl | exact ⟨rfl, rfl⟩) | rfl | exact ⟨rfl, rfl⟩)); clear hK K)
      refine reg_p (i := 5) rfl (by kernel_rfl) (fun _ _ _ _ h => h) HH.out (fun K hK => ?_)
      go_simp
      first | (refine hK _ ?_; clear hK K) | (apply Exists.intro; refine ⟨?_, hK _ ?_⟩; (focus (intro wx; first | (go_simp; first | rfl) | rfl)); clear hK K)
      refine reg_p (i := 6) rfl (by kernel_rfl) (fun _ _ _ _ h => h) HH.out (fun K hK => ?_)
      go_simp
      first | (refine hK _ ?_; clear hK K) | (apply Exists.intro; refine ⟨?_, hK _ ?_⟩; (focus (intro wx; first | (go_simp; first | rfl) | rfl)); clear hK K)
      refine reg_p (i := 7) rfl (by kernel_rfl) (fun _ _ _ _ h => h) HH.out (fun K hK => ?_)
      go_simp
      first | (refine hK _ ?_; clear hK K) | (apply Exists.intro; refine ⟨?_, hK _ ?_⟩; (focus (intro wx; first | (go_simp; first | rfl) | rfl)); clear hK K)
      refine mixk_q (i := 8) rfl (by kernel_rfl) (fun _ _ _ _ h => h) HH.out (fun K hK => ?_)
      go_simp
      first | (refine hK _ ?_; clear hK K) | (apply Exists.intro; refine ⟨?_, hK _ ?_⟩; (focus (intro wx hx; have x1_ := hx.cells; first | (go_simp; first | rfl | exact ⟨rfl, rfl⟩) | rfl | exact ⟨rfl, rfl⟩)); clear hK K)
      refine reg_p (i := 9) rfl (by kernel_rfl) (fun _ _ _ _ h => h) HH.out (fun K hK => ?_)
      go_simp
      first | (refine hK _ ?_; clear hK K) | (apply Exists.intro; refine ⟨?_, hK _ ?_⟩; (focus (intro wx; first | (go_simp; first | rfl) | rfl)); clear hK K)
      refine reg_l none (i := 10) rfl (by kernel_rfl) (fun wn hk K hK => ?_)
      replace HH := Lib.hid (hk _ _ HH.out)
      clear hk
      go_simp
      replace HH := Lib.hid (HH.out.alloc (.cells #[.int .u64 msw, .bool mle, .int .u64 mnow, .slice none 0 0] 41))
      generalize wn.alloc (.cells #[.int .u64 msw, .bool mle, .int .u64 mnow, .slice none 0 0] 41) = wm at *
      generalize wn.heap.size = nb at *
      refine hK _ _ _ HH.out (.inr ⟨rfl, fun _ h => h.tail⟩) ?_
      clear hK K
      refine reg_p (i := 11) rfl (by kernel_rfl) (fun _ _ _ _ h => h) HH.out (fun K hK => ?_)
      go_simp
      first | (refine hK _ ?_; clear hK K) | (apply Exists.intro; refine ⟨?_, hK _ ?_⟩; (focus (intro wx; first | (go_simp; first | rfl) | rfl)); clear hK K)
      refine mixk_done (by kernel_rfl) (fun w14_ hk => ?_) _
      replace HH := Lib.hid (hk _ _ HH.out)
      clear hk
      replace HH := Lib.hid (HH.out.slc_none (T := 34) (sz := 2))
      go_wp2_with fail
      refine wp_region_reg (some 9) HH.out (by kernel_rfl) ?_
      intro wm H9_
      replace HH := Lib.hid H9_
      clear H9_
      refine reg_p (i := 0) rfl (by kernel_rfl) (fun _ _ _ _ h => h) HH.out (fun K hK => ?_)
      go_simp
      first | (refine hK _ ?_; clear hK K) | (apply Exists.intro; refine ⟨?_, hK _ ?_⟩; (focus (intro wx; first | (go_simp; first | rfl) | rfl)); clear hK K)
      refine reg_p (i := 1) rfl (by kernel_rfl) (fun _ _ _ _ h => h) HH.out (fun K hK => ?_)
      go_simp
      first | (refine hK _ ?_; clear hK K) | (apply Exists.intro; refine ⟨?_, hK _ ?_⟩; (focus (intro wx; first | (go_simp; first | rfl) | rfl)); clear hK K)
      refine reg_p (i := 2) rfl (by kernel_rfl) (fun _ _ _ _ h => h) HH.out (fun K hK => ?_)
      go_simp
      first | (refine hK _ ?_; clear hK K) | (apply Exists.intro; refine ⟨?_, hK _ ?_⟩; (focus (intro wx; first | (go_simp; first | rfl) | rfl)); clear hK K)
      refine reg_p (i := 3) rfl (by kernel_rfl) (fun _ _ _ _ h => h) HH.out (fun K hK => ?_)
      go_simp
      first | (refine hK _ ?_; clear hK K) | (apply Exists.intro; refine ⟨?_, hK _ ?_⟩; (focus (intro wx; first | (go_simp; first | rfl) | rfl)); clear hK K)
      refine mixk_q (i := 4) rfl (by kernel_rfl) (fun _ _ _ _ h => h) HH.out (fun K hK => ?_)
      go_simp
      first | (refine hK _ ?_; clear hK K) | (apply Exists.intro; refine ⟨?_, hK _ ?_⟩; (focus (intro wx hx; have x2_ := hx.r2.cells; have x3_ := hx.r3.cells; first | (go_simp; first | rfl | exact ⟨rfl, rfl⟩) | rfl | exact ⟨rfl, rfl⟩)); clear hK K)
      refine reg_p (i := 5) rfl (by kernel_rfl) (fun _ _ _ _ h => h) HH.out (fun K hK => ?_)
      go_simp
      first | (refine hK _ ?_; clear hK K) | (apply Exists.intro; refine ⟨?_, hK _ ?_⟩; (focus (intro wx; first | (go_simp; first | rfl) | rfl)); clear hK K)
      refine reg_p (i := 6) rfl (by kernel_rfl) (fun _ _ _ _ h => h) HH.out (fun K hK => ?_)
      go_simp
      first | (refine hK _ ?_; clear hK K) | (apply Exists.intro; refine ⟨?_, hK _ ?_⟩; (focus (intro wx; first | (go_simp; first | rfl) | rfl)); clear hK K)
      refine reg_p (i := 7) rfl (by kernel_rfl) (fun _ _ _ _ h => h) HH.out (fun K hK => ?_)
      go_simp
      first | (refine hK _ ?_; clear hK K) | (apply Exists.intro; refine ⟨?_, hK _ ?_⟩; (focus (intro wx; first | (go_simp; first | rfl) | rfl)); clear hK K)
      refine mixk_q (i := 8) rfl (by kernel_rfl) (fun _ _ _ _ h => h) HH.out (fun K hK => ?_)
      go_simp
      first | (refine hK _ ?_; clear hK K) | (apply Exists.intro; refine ⟨?_, hK _ ?_⟩; (focus (intro wx hx; have x2_ := hx.r2.cells; have x3_ := hx.r3.cells; first | (go_simp; first | rfl | exact ⟨rfl, rfl⟩) | rfl | exact ⟨rfl, rfl⟩)); clear hK K)
      refine reg_l (some 12) (i := 9) rfl (by kernel_rfl) (fun wn hk K hK => ?_)
      replace HH := Lib.hid (hk _ _ HH.out)
      clear hk
      refine want rfl (wp_append_slc _ _ 27 rfl 34 2 16 Try.underlying27 (by kernel_rfl) (by decide) rfl (HH.out) rfl ((show ([] : List Value).length = 0 * 2 from rfl)) ((slc_srcF HH.out.r4)) ((encs_one (fun x => (by repeat (first | (refine List.forall_mem_cons.2 ⟨(by first | with_reducible assumption | rfl), ?_⟩) | exact fun _ h => absurd h List.not_mem_nil))) _)) (by simp only [maxLen]; omega) (by omega) ?_)
      intro v1 wm H9_
      obtain ⟨A_v1, n_v1, c_v1, rfl⟩ := H9_.slc_isv
      replace HH := Lib.hid H9_
      clear H9_
      refine hK _ _ _ HH.out (.inl (by kernel_rfl)) ?_
      clear hK K
      refine reg_p (i := 10) rfl (by kernel_rfl) (fun _ _ _ _ h => h) HH.out (fun K hK => ?_)
      go_simp
      first | (refine hK _ ?_; clear hK K) | (apply Exists.intro; refine ⟨?_, hK _ ?_⟩; (focus (intro wx; first | (go_simp; first | rfl) | rfl)); clear hK K)
      refine reg_p (i := 11) rfl (by kernel_rfl) (fun _ _ _ _ h => h) HH.out (fun K hK => ?_)
      go_simp
      first | (refine hK _ ?_; clear hK K) | (apply Exists.intro; refine ⟨?_, hK _ ?_⟩; (focus (intro wx; first | (go_simp; first | rfl) | rfl)); clear hK K)
      refine reg_l none (i := 12) rfl (by kernel_rfl) (fun wn hk K hK => ?_)
      replace HH := Lib.hid (hk _ _ HH.out)
      clear hk
      have hx := HH.out
      have x2_ := hx.r2.cells
      have x3_ := hx.r3.cells
      go_simp
      replace HH := Lib.hid (HH.out.r2.set 3 (.slice A_v1 n_v1 c_v1))
      simp only [List.setIfInBounds_toArray, List.set_cons_succ, List.set_cons_zero] at HH
      generalize wn.setCell ⟨nb, 3, none⟩ (.slice A_v1 n_v1 c_v1) = wm at *
      clear hx x2_ x3_
      refine hK _ _ _ HH.out (.inl (by kernel_rfl)) ?_
      clear hK K
      refine mixk_done (by kernel_rfl) (fun w15_ hk => ?_) _
      replace HH := Lib.hid (hk _ _ HH.out)
      clear hk
      rw [List.nil_append] at HH
      have H2 := Own.rfil_mk w _ _ nb (s := ⟨msw, mnow, mle, ml⟩) ((Own.pm (HH.out) (by repeat (first | with_reducible exact Pm.refl _ | with_reducible exact Pm.nil _ | with_reducible refine Pm.here ?_ | with_reducible refine Pm.at2 ?_ | with_reducible refine Pm.at3 ?_ | with_reducible refine Pm.at4 ?_ | with_reducible refine Pm.at5 ?_ | with_reducible refine Pm.at6 ?_ | with_reducible refine Pm.at7 ?_ | with_reducible refine Pm.at8 ?_ | with_reducible refine Pm.skip ?_))) : Own w _ (pts nb _ :: slc _ 2 (.slice A_v1 n_v1 c_v1) (encs encR ml) :: pts c _ :: slc _ 2 (.slice A1 n1 c1) (encs encR ml) :: fil d s :: fil b s :: [old w]))
      have H3 := Own.rfil_mk w _ _ c (s := ⟨msw, mnow, mle, ml⟩) ((Own.pm (H2) (by repeat (first | with_reducible exact Pm.refl _ | with_reducible exact Pm.nil _ | with_reducible refine Pm.here ?_ | with_reducible refine Pm.at2 ?_ | with_reducible refine Pm.at3 ?_ | with_reducible refine Pm.at4 ?_ | with_reducible refine Pm.at5 ?_ | with_reducible refine Pm.at6 ?_ | with_reducible refine Pm.at7 ?_ | with_reducible refine Pm.at8 ?_ | with_reducible refine Pm.skip ?_))) : Own w _ (pts c _ :: slc _ 2 (.slice A1 n1 c1) (encs encR ml) :: fil d s :: rfil nb ⟨msw, mnow, mle, ml⟩ :: fil b s :: [old w]))
      replace HH := Lib.hid ((Own.pm (H3) (by repeat (first | with_reducible exact Pm.refl _ | with_reducible exact Pm.nil _ | with_reducible refine Pm.here ?_ | with_reducible refine Pm.at2 ?_ | with_reducible refine Pm.at3 ?_ | with_reducible refine Pm.at4 ?_ | with_reducible refine Pm.at5 ?_ | with_reducible refine Pm.at6 ?_ | with_reducible refine Pm.at7 ?_ | with_reducible refine Pm.at8 ?_ | with_reducible refine Pm.skip ?_))) : Own w _ (fil d s :: rfil nb ⟨msw, mnow, mle, ml⟩ :: fil b s :: rfil c ⟨msw, mnow, mle, ml⟩ :: [old w]))
      clear H2 H3
      have hl9 : (⟨msw, mnow, mle, ml⟩ : Fil).l.length ≤ k := hl2
      generalize (⟨msw, mnow, mle, ml⟩ : Fil) = m at hC HH hl9
      go_wp2_with fail
      go_loopw [12] (fun i wr => ∃ (j : Nat) (s2 m2 : Fil), j ≤ len' ∧ i = .int .i64 j ∧ CRel s2 m2 ∧ s2.l.length ≤ k + j ∧ m2.l.length ≤ k + j ∧ Own w wr (fil d s2 :: rfil nb m2 :: fil b s :: rfil c m :: [old w])) (fun i _ => len' - (intOf i).toNat)
      case atStart => exact ⟨0, s, m, Nat.zero_le _, rfl, hC.out, hl1, hl9, HH.out⟩
      case round =>
        clear HH
        obtain ⟨j, s2, m2, hj, rfl, hC2, hl3, hl4, HR⟩ := hrel
        have HH := Lib.hid HR
        clear HR
        replace hC2 := Lib.hid hC2
        by_cases hlt2 : j < len'
        · obtain ⟨ab, off, pu, t, x, rfl, ht, hx, c0, c1, c2⟩ := hacts'.out j hlt2
          have o0 := ((Own.pm (HH.out) (by repeat (first | with_reducible exact Pm.refl _ | with_reducible exact Pm.nil _ | with_reducible refine Pm.here ?_ | with_reducible refine Pm.at2 ?_ | with_reducible refine Pm.at3 ?_ | with_reducible refine Pm.at4 ?_ | with_reducible refine Pm.at5 ?_ | with_reducible refine Pm.at6 ?_ | with_reducible refine Pm.at7 ?_ | with_reducible refine Pm.at8 ?_ | with_reducible refine Pm.skip ?_))) : Own w _ [old w]).old_cell c0
          have o1 := ((Own.pm (HH.out) (by repeat (first | with_reducible exact Pm.refl _ | with_reducible exact Pm.nil _ | with_reducible refine Pm.here ?_ | with_reducible refine Pm.at2 ?_ | with_reducible refine Pm.at3 ?_ | with_reducible refine Pm.at4 ?_ | with_reducible refine Pm.at5 ?_ | with_reducible refine Pm.at6 ?_ | with_reducible refine Pm.at7 ?_ | with_reducible refine Pm.at8 ?_ | with_reducible refine Pm.skip ?_))) : Own w _ [old w]).old_cell c1
          have o2 := ((Own.pm (HH.out) (by repeat (first | with_reducible exact Pm.refl _ | with_reducible exact Pm.nil _ | with_reducible refine Pm.here ?_ | with_reducible refine Pm.at2 ?_ | with_reducible refine Pm.at3 ?_ | with_reducible refine Pm.at4 ?_ | with_reducible refine Pm.at5 ?_ | with_reducible refine Pm.at6 ?_ | with_reducible refine Pm.at7 ?_ | with_reducible refine Pm.at8 ?_ | with_reducible refine Pm.skip ?_))) : Own w _ [old w]).old_cell c2
          have hl5 := act_len (a := (pu, t, x)) hl3 hl4
          have hC3 := hC2.out.act (a := (pu, t, x)) ht hx
          replace ht := Lib.hid ht
          replace hx := Lib.hid hx
          replace hC3 := Lib.hid hC3
          go_wp2_with fail
          refine (act05_c w _ _ d nb s2 m2 hC2.out pu t x ht.out hx.out (by omega) (by omega) HH.out).mono ?_
          rintro e w16_ ⟨rfl, H9_⟩
          replace HH := Lib.hid H9_
          clear H9_
          clear o0 o1 o2
          go_wp2_with fail
          refine (same05_c w _ _ d nb _ _ hC3.out HH.out).mono ?_
          rintro e w17_ ⟨rfl, H9_⟩
          replace HH := Lib.hid H9_
          clear H9_
          go_wp2_with fail
          refine (same05_c w _ _ b c s m hC.out ((Own.pm (HH.out) (by repeat (first | with_reducible exact Pm.refl _ | with_reducible exact Pm.nil _ | with_reducible refine Pm.here ?_ | with_reducible refine Pm.at2 ?_ | with_reducible refine Pm.at3 ?_ | with_reducible refine Pm.at4 ?_ | with_reducible refine Pm.at5 ?_ | with_reducible refine Pm.at6 ?_ | with_reducible refine Pm.at7 ?_ | with_reducible refine Pm.at8 ?_ | with_reducible refine Pm.skip ?_))) : Own w _ (fil b s :: rfil c m :: fil d (s2.act (pu, t, x)) :: rfil nb (m2.ract (pu, t, x)) :: [old w]))).mono ?_
          rintro e w18_ ⟨rfl, H9_⟩
          replace HH := Lib.hid H9_
          clear H9_
          go_wp2_with fail
          go_roundw
          case rel => exact ⟨j + 1, _, _, by omega, by go_num, hC3.out, by have := hl5.1; omega, by have := hl5.2; omega, (Own.pm (HH.out) (by repeat (first | with_reducible exact Pm.refl _ | with_reducible exact Pm.nil _ | with_reducible refine Pm.here ?_ | with_reducible refine Pm.at2 ?_ | with_reducible refine Pm.at3 ?_ | with_reducible refine Pm.at4 ?_ | with_reducible refine Pm.at5 ?_ | with_reducible refine Pm.at6 ?_ | with_reducible refine Pm.at7 ?_ | with_reducible refine Pm.at8 ?_ | with_reducible refine Pm.skip ?_)))⟩
          case measure => simp [intOf]; omega
        · have hjl : j = len' := by omega
          clear hacts'
          replace HH := Lib.hid ((Own.pm (HH.out) (by repeat (first | with_reducible exact Pm.refl _ | with_reducible exact Pm.nil _ | with_reducible refine Pm.here ?_ | with_reducible refine Pm.at2 ?_ | with_reducible refine Pm.at3 ?_ | with_reducible refine Pm.at4 ?_ | with_reducible refine Pm.at5 ?_ | with_reducible refine Pm.at6 ?_ | with_reducible refine Pm.at7 ?_ | with_reducible refine Pm.at8 ?_ | with_reducible refine Pm.skip ?_))) : Own w wr [old w])
          go_wp2_with fail
          refine (filBest_nil _).mono ?_
          rintro e w19_ ⟨rfl, hbel⟩
          replace HH := Lib.hid ((by first | exact Kp.same hbel | exact Kp.drew hbel | exact Kp.below hbel : Kp _ w19_) _ _ (by first | exact HH.out | exact HH.out.drewN _ | exact (HH.out.alloc _).tail | exact ((HH.out.alloc _).drewN _).tail | exact ((HH.out.alloc _).alloc _).tail.tail))
          clear hbel
          go_wp2_with fail
          refine (alive05_k _).mono ?_
          rintro e w20_ ⟨rfl, hbel⟩
          replace HH := Lib.hid ((by first | exact Kp.same hbel | exact Kp.drew hbel | exact Kp.below hbel : Kp _ w20_) _ _ (by first | exact HH.out | exact HH.out.drewN _ | exact (HH.out.alloc _).tail | exact ((HH.out.alloc _).drewN _).tail | exact ((HH.out.alloc _).alloc _).tail.tail))
          clear hbel
          go_wp2_with fail
          refine (filTo_nil _ _).mono ?_
          rintro e w21_ ⟨rfl, hbel⟩
          replace HH := Lib.hid ((by first | exact Kp.same hbel | exact Kp.drew hbel | exact Kp.below hbel : Kp _ w21_) _ _ (by first | exact HH.out | exact HH.out.drewN _ | exact (HH.out.alloc _).tail | exact ((HH.out.alloc _).drewN _).tail | exact ((HH.out.alloc _).alloc _).tail.tail))
          clear hbel
          go_wp2_with fail
          refine (filPut_nil _ _ _).mono ?_
          rintro e w22_ ⟨rfl, hbel⟩
          replace HH := Lib.hid ((by first | exact Kp.same hbel | exact Kp.drew hbel | exact Kp.below hbel : Kp _ w22_) _ _ (by first | exact HH.out | exact HH.out.drewN _ | exact (HH.out.alloc _).tail | exact ((HH.out.alloc _).drewN _).tail | exact ((HH.out.alloc _).alloc _).tail.tail))
          clear hbel
          go_wp2_with fail
          refine (filTime_nil _).mono ?_
          rintro e w23_ ⟨rfl, hbel⟩
          replace HH := Lib.hid ((by first | exact Kp.same hbel | exact Kp.drew hbel | exact Kp.below hbel : Kp _ w23_) _ _ (by first | exact HH.out | exact HH.out.drewN _ | exact (HH.out.alloc _).tail | exact ((HH.out.alloc _).drewN _).tail | exact ((HH.out.alloc _).alloc _).tail.tail))
          clear hbel
          go_wp2_with fail
          refine (filClone_nil _).mono ?_
          rintro e w24_ ⟨rfl, hbel⟩
          replace HH := Lib.hid ((by first | exact Kp.same hbel | exact Kp.drew hbel | exact Kp.below hbel : Kp _ w24_) _ _ (by first | exact HH.out | exact HH.out.drewN _ | exact (HH.out.alloc _).tail | exact ((HH.out.alloc _).drewN _).tail | exact ((HH.out.alloc _).alloc _).tail.tail))
          clear hbel
          go_wp2_with fail
          go_ret
          exact ⟨rfl, HH.out⟩
end
end Go.Proofs.Ytljifdgfmpijeaa
