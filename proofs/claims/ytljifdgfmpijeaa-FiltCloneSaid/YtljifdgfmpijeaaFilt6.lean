/- filt: the document's own answer, clones, one act. -/
import Derived.Test.YtljifdgfmpijeaaFilt4
namespace Go.Proofs.Ytljifdgfmpijeaa
open Go.RowKit
/-- The document's filter: all readings. -/
def rfil (b : Nat) (s : Fil) : Asn := exA fun v : Value => sep (pts b (.cells #[.int .u64 s.win, .bool s.least, .int .u64 s.now, v] 41 (0, 0))) (slc 34 2 v (encs encR s.l))
def Fil.rto (s : Fil) (t : Int) : Int × Fil := if t < s.now then (2, s) else (0, { s with now := t })
def Fil.rput (s : Fil) (t x : Int) : Int × Fil := if t < s.now then (2, s) else (0, { s with now := t, l := s.l ++ [(t, x)] })
theorem slc_srcF {T : TypeId} {sz : Nat} {A : Option Addr} {n cap : Nat} {xs : List Value} {ε w : World} {R : List Asn} (H : Own ε w (slc T sz (.slice A n cap) xs :: R)) : srcAt w A n sz xs := by
  obtain ⟨_, _, _, e, h⟩ := H.slc_src
  cases e
  exact h
/-- What a filter is beside the document's. -/
structure CRel (s m : Fil) : Prop where
  win : m.win = s.win
  least : m.least = s.least
  now : m.now = s.now
  rise : m.l.reverse.Pairwise fun a b => b.1 ≤ a.1
  le : ∀ r ∈ m.l, r.1 ≤ s.now
  row : s.l = Fil.old s.win s.now (surv s.least m.l)
  us : ∀ r ∈ m.l, U r.1 ∧ U r.2
  ok : s.Ok
theorem CRel.zero {win : Int} (h : U win) (least : Bool) : CRel ⟨win, 0, least, []⟩ ⟨win, 0, least, []⟩ :=
  ⟨rfl, rfl, rfl, by simp, by simp, rfl, by simp, ⟨h, U_zero, by simp⟩⟩
theorem CRel.to {s m : Fil} (h : CRel s m) {t : Int} (ht : U t) : (s.to t).1 = (m.rto t).1 ∧ CRel (s.to t).2 (m.rto t).2 := by
  have hk := Fil.ok_to h.ok ht
  unfold Fil.to at *
  unfold Fil.rto
  rw [h.now]
  split
  · exact ⟨rfl, h⟩
  · rename_i hlt
    rw [if_neg hlt] at hk
    refine ⟨rfl, h.win, h.least, rfl, h.rise, fun r hr => ?_, ?_, h.us, hk⟩
    · have := h.le r hr; simp only; omega
    · simp only
      rw [h.row, old_old (by omega)]
theorem CRel.put {s m : Fil} (h : CRel s m) {t x : Int} (ht : U t) (hx : U x) : (s.put t x).1 = (m.rput t x).1 ∧ CRel (s.put t x).2 (m.rput t x).2 := by
  have hk := Fil.ok_put h.ok ht hx
  unfold Fil.put at *
  unfold Fil.rput
  rw [h.now]
  split
  · exact ⟨rfl, h⟩
  · rename_i hlt
    rw [if_neg hlt] at hk
    refine ⟨rfl, h.win, h.least, rfl, ?_, fun r hr => ?_, ?_, fun r hr => ?_, hk⟩
    · simp only [List.reverse_append, List.reverse_cons, List.reverse_nil, List.nil_append, List.singleton_append]
      rw [List.pairwise_cons]
      refine ⟨fun r hr => ?_, h.rise⟩
      have := h.le r (List.mem_reverse.1 hr); simp only; omega
    · simp only at hr ⊢
      rcases List.mem_append.1 hr with hr | hr
      · have := h.le r hr; omega
      · rw [List.mem_singleton.1 hr]; exact Int.le_refl _
    · simp only
      rw [surv_snoc, h.row, old_old (by omega)]
      exact (old_worse (surv s.least m.l) (t, x) (sadd_ge ht h.ok.1)).symm
    · simp only at hr
      rcases List.mem_append.1 hr with hr | hr
      · exact h.us r hr
      · rw [List.mem_singleton.1 hr]; exact ⟨ht, hx⟩
theorem CRel.best {s m : Fil} (h : CRel s m) : refBest m.win m.now m.least m.l = s.best := by
  have e := refBest_head (win := m.win) (now := m.now) (least := m.least) m.l.reverse h.rise
  rw [List.reverse_reverse, h.win, h.now, h.least, ← h.row] at e
  rw [h.win, h.now, h.least, e]
  unfold Fil.best headR
  cases s.l <;> rfl
theorem refBest_step {win now : Int} {least : Bool} {l : List (Int × Int)} {k : Nat} {r : Int × Int} (h : l[k]? = some r) : refBest win now least (l.take (k + 1)) = bestF win now least (refBest win now least (l.take k)) r := by
  rw [List.take_add_one, h]
  exact refBest_snoc win now least _ r
section
variable (ε w : World) (R : List Asn) (b : Nat)
theorem Own.rfil_open {s : Fil} (H : Own ε w (rfil b s :: R)) : ∃ v, Own ε w (pts b (.cells #[.int .u64 s.win, .bool s.least, .int .u64 s.now, v] 41 (0, 0)) :: slc 34 2 v (encs encR s.l) :: R) := by
  obtain ⟨v, H⟩ := H.ex
  exact ⟨v, H.split⟩
theorem Own.rfil_mk {s : Fil} {v : Value} (H : Own ε w (pts b (.cells #[.int .u64 s.win, .bool s.least, .int .u64 s.now, v] 41 (0, 0)) :: slc 34 2 v (encs encR s.l) :: R)) : Own ε w (rfil b s :: R) := Own.ex_mk v H.join
theorem rfilTo_c (s : Fil) (t : Int) (H : Own ε w (rfil b s :: R)) :
    Calls Try.prog 24 #[.pointer (some ⟨b, 0, none⟩), .int .u64 t] w fun e w' => e = .returned (.int .i64 (s.rto t).1) ∧ Own ε w' (rfil b (s.rto t).2 :: R) := by
  obtain ⟨win, now, least, l⟩ := s
  obtain ⟨v, H⟩ := H.rfil_open
  have HH := Lib.hid H; clear H
  by_cases hlt : t < now
  · rw [show (⟨win, now, least, l⟩ : Fil).rto t = (2, ⟨win, now, least, l⟩) from if_pos hlt]
    go_enter Try.func24, Try.ntmps24
    (try clear cc1_); (try clear cc2_); (try clear cc3_); (try clear cc4_); (try clear cc5_); (try clear cc6_); (try clear cc7_)
    have cc1_ := HH.out.cells
    go_wp2_with fail
    go_ret
    exact ⟨rfl, Own.rfil_mk ε w R b HH.out⟩
  · rw [show (⟨win, now, least, l⟩ : Fil).rto t = (0, ⟨win, t, least, l⟩) from if_neg hlt]
    go_enter Try.func24, Try.ntmps24
    (try clear cc1_); (try clear cc2_); (try clear cc3_); (try clear cc4_); (try clear cc5_); (try clear cc6_); (try clear cc7_)
    have cc1_ := HH.out.cells
    go_wp2_with (with_reducible refine stop_st ?_)
    refine Stop.go ?_
    refine wpList_store1_own (v := .int .u64 t) (k := 2) rfl rfl HH.out (by kernel_rfl) (by simp) (by first | rfl | assumption) ?_
    intro w1_ H9_
    replace HH := Lib.hid H9_
    clear H9_
    simp only [List.setIfInBounds_toArray, List.set_cons_succ, List.set_cons_zero] at HH
    go_wp2_with fail
    go_ret
    exact ⟨rfl, Own.rfil_mk ε _ R b (s := ⟨win, t, least, l⟩) HH.out⟩
set_option maxHeartbeats 1600000 in
theorem rfilPut_c (s : Fil) (t x : Int) (hl : s.l.length ≤ 1000000) (H : Own ε w (rfil b s :: R)) :
    Calls Try.prog 23 #[.pointer (some ⟨b, 0, none⟩), .int .u64 t, .int .u64 x] w fun e w' => e = .returned (.int .i64 (s.rput t x).1) ∧ Own ε w' (rfil b (s.rput t x).2 :: R) := by
  have hto := rfilTo_c ε w R b s t H
  obtain ⟨win, now, least, l⟩ := s
  have HH := Lib.hid H; clear H
  by_cases hlt : t < now
  · rw [show (⟨win, now, least, l⟩ : Fil).rto t = (2, ⟨win, now, least, l⟩) from if_pos hlt] at hto
    rw [show (⟨win, now, least, l⟩ : Fil).rput t x = (2, ⟨win, now, least, l⟩) from if_pos hlt]
    go_enter Try.func23, Try.ntmps23
    go_wp2_with fail
    refine (hto).mono ?_
    rintro e w2_ ⟨rfl, H9_⟩
    replace HH := Lib.hid H9_
    clear H9_
    go_wp2_with fail
    go_ret
    exact ⟨rfl, HH.out⟩
  · rw [show (⟨win, now, least, l⟩ : Fil).rto t = (0, ⟨win, t, least, l⟩) from if_neg hlt] at hto
    rw [show (⟨win, now, least, l⟩ : Fil).rput t x = (0, ⟨win, t, least, l ++ [(t, x)]⟩) from if_neg hlt]
    have hln : (encs encR l).length = l.length * 2 := encs_len encR_len l
    replace hln := Lib.hid hln
    go_enter Try.func23, Try.ntmps23
    go_wp2_with fail
    refine (hto).mono ?_
    rintro e w3_ ⟨rfl, H9_⟩
    replace HH := Lib.hid H9_
    clear H9_
    obtain ⟨v, H2⟩ := HH.out.rfil_open
    replace HH := Lib.hid H2
    clear H2
    (try clear cc1_); (try clear cc2_); (try clear cc3_); (try clear cc4_); (try clear cc5_); (try clear cc6_); (try clear cc7_)
    have cc1_ := HH.out.cells
    replace HH := Lib.hid HH.out.r2
    go_wp2_with (with_reducible refine stop_bs ?_)
    refine Stop.go ?_
    refine wpList_bs1_own HH.out #[_, _] 2 16 Try.underlying27 (by kernel_rfl) (by decide) (by decide) rfl rfl ?_
    intro g_ w4_ H9_
    replace HH := Lib.hid H9_
    clear H9_
    go_wp2_with (with_reducible refine stop_app ?_)
    refine Stop.go ?_
    refine wpList_app1_own rfl _ _ 27 rfl 34 2 16 Try.underlying27 (by kernel_rfl) (by decide) (l.length) rfl rfl HH.out (hln.out) rfl (by repeat (first | (refine List.forall_mem_cons.2 ⟨(by first | with_reducible assumption | rfl), ?_⟩) | exact fun _ h => absurd h List.not_mem_nil)) (by simp only [maxLen]; omega) (by omega) ?_
    intro v5 w5_ H9_
    obtain ⟨A_v5, n_v5, c_v5, rfl⟩ := H9_.slc_isv
    replace HH := Lib.hid H9_
    clear H9_
    go_wp2_with (with_reducible refine stop_st ?_)
    refine Stop.go ?_
    refine wpList_store1_own (v := (.slice A_v5 n_v5 c_v5)) (k := 3) rfl rfl HH.out.r2 (by kernel_rfl) (by simp) (by first | rfl | assumption) ?_
    intro w6_ H9_
    replace HH := Lib.hid H9_
    clear H9_
    simp only [List.setIfInBounds_toArray, List.set_cons_succ, List.set_cons_zero] at HH
    go_wp2_with fail
    go_ret
    refine ⟨rfl, Own.rfil_mk ε _ R b (s := ⟨win, t, least, l ++ [(t, x)]⟩) (v := .slice A_v5 n_v5 c_v5) ?_⟩
    rw [encs_snoc]
    exact HH.out
set_option maxHeartbeats 1600000 in
theorem rfilCounts_c (win now : Int) (least : Bool) (v : Value) (hwin : U win) (r : Int × Int) (hr : U r.1) (H : Own ε w (pts b (.cells #[.int .u64 win, .bool least, .int .u64 now, v] 41 (0, 0)) :: R)) :
    Calls Try.prog 32 #[.pointer (some ⟨b, 0, none⟩), .agg #[.int .u64 r.1, .int .u64 r.2]] w fun e w' => e = .returned (.bool (decide (now ≤ sadd r.1 win))) ∧ Own ε w' (pts b (.cells #[.int .u64 win, .bool least, .int .u64 now, v] 41 (0, 0)) :: R) := by
  have HH := Lib.hid H; clear H
  obtain ⟨r1, r2⟩ := r
  go_enter Try.func32, Try.ntmps32
  go_wp2_with (with_reducible refine stop_bx ?_)
  refine Stop.go ?_
  refine wpList_box_own HH.out [_, _] rfl ?_
  intro g w7_ H9_
  replace HH := Lib.hid H9_
  clear H9_
  go_wp2_with fail
  refine wp_region_reg none HH.out (by kernel_rfl) ?_
  intro wm H9_
  replace HH := Lib.hid H9_
  clear H9_
  refine reg_p (i := 0) rfl (by kernel_rfl) (fun _ _ _ _ h => h) HH.out (fun K hK => ?_)
  go_simp
  first | (refine hK _ ?_; clear hK K) | (apply Exists.intro; refine ⟨?_, hK _ ?_⟩; (focus (intro wx; first | (go_simp; first | rfl) | rfl)); clear hK K)
  refine mixk_q (i := 1) rfl (by kernel_rfl) (fun _ _ _ _ h => h) HH.out (fun K hK => ?_)
  go_simp
  first | (refine hK _ ?_; clear hK K) | (apply Exists.intro; refine ⟨?_, hK _ ?_⟩; (focus (intro wx hx; have x1_ := hx.cells; have x2_ := hx.r2.cells; first | (first | (go_at_call 33; refine (refAdd_c wx r1 win hr hwin).mono ?_; rintro e wy ⟨rfl, hbel⟩; exact ⟨rfl, (by first | exact Kp.same hbel | exact Kp.drew hbel | exact Kp.below hbel : Kp wx wy)⟩)) | (go_simp; first | rfl | exact ⟨rfl, rfl⟩) | rfl | exact ⟨rfl, rfl⟩)); clear hK K)
  refine reg_p (i := 2) rfl (by kernel_rfl) (fun _ _ _ _ h => h) HH.out (fun K hK => ?_)
  go_simp
  first | (refine hK _ ?_; clear hK K) | (apply Exists.intro; refine ⟨?_, hK _ ?_⟩; (focus (intro wx; first | (go_simp; first | rfl) | rfl)); clear hK K)
  refine reg_p (i := 3) rfl (by kernel_rfl) (fun _ _ _ _ h => h) HH.out (fun K hK => ?_)
  go_simp
  first | (refine hK _ ?_; clear hK K) | (apply Exists.intro; refine ⟨?_, hK _ ?_⟩; (focus (intro wx; first | (go_simp; first | rfl) | rfl)); clear hK K)
  refine reg_p (i := 4) rfl (by kernel_rfl) (fun _ _ _ _ h => h) HH.out (fun K hK => ?_)
  go_simp
  first | (refine hK _ ?_; clear hK K) | (apply Exists.intro; refine ⟨?_, hK _ ?_⟩; (focus (intro wx; first | (go_simp; first | rfl) | rfl)); clear hK K)
  refine mixk_q (i := 5) rfl (by kernel_rfl) (fun _ _ _ _ h => h) HH.out (fun K hK => ?_)
  go_simp
  first | (refine hK _ ?_; clear hK K) | (apply Exists.intro; refine ⟨?_, hK _ ?_⟩; (focus (intro wx hx; have x1_ := hx.cells; have x2_ := hx.r2.cells; first | (first | (go_at_call 33; refine (refAdd_c wx r1 win hr hwin).mono ?_; rintro e wy ⟨rfl, hbel⟩; exact ⟨rfl, (by first | exact Kp.same hbel | exact Kp.drew hbel | exact Kp.below hbel : Kp wx wy)⟩)) | (go_simp; first | rfl | exact ⟨rfl, rfl⟩) | rfl | exact ⟨rfl, rfl⟩)); clear hK K)
  refine mixk_q (i := 6) rfl (by kernel_rfl) (fun _ _ _ _ h => h) HH.out (fun K hK => ?_)
  go_simp
  first | (refine hK _ ?_; clear hK K) | (apply Exists.intro; refine ⟨?_, hK _ ?_⟩; (focus (intro wx hx; have x1_ := hx.cells; have x2_ := hx.r2.cells; first | (first | (go_at_call 33; refine (refAdd_c wx r1 win hr hwin).mono ?_; rintro e wy ⟨rfl, hbel⟩; exact ⟨rfl, (by first | exact Kp.same hbel | exact Kp.drew hbel | exact Kp.below hbel : Kp wx wy)⟩)) | (go_simp; first | rfl | exact ⟨rfl, rfl⟩) | rfl | exact ⟨rfl, rfl⟩)); clear hK K)
  refine reg_p (i := 7) rfl (by kernel_rfl) (fun _ _ _ _ h => h) HH.out (fun K hK => ?_)
  go_simp
  first | (refine hK _ ?_; clear hK K) | (apply Exists.intro; refine ⟨?_, hK _ ?_⟩; (focus (intro wx; first | (go_simp; first | rfl) | rfl)); clear hK K)
  refine reg_p (i := 8) rfl (by kernel_rfl) (fun _ _ _ _ h => h) HH.out (fun K hK => ?_)
  go_simp
  first | (refine hK _ ?_; clear hK K) | (apply Exists.intro; refine ⟨?_, hK _ ?_⟩; (focus (intro wx; first | (go_simp; first | rfl) | rfl)); clear hK K)
  refine reg_p (i := 9) rfl (by kernel_rfl) (fun _ _ _ _ h => h) HH.out (fun K hK => ?_)
  go_simp
  first | (refine hK _ ?_; clear hK K) | (apply Exists.intro; refine ⟨?_, hK _ ?_⟩; (focus (intro wx; first | (go_simp; first | rfl) | rfl)); clear hK K)
  refine mixk_q (i := 10) rfl (by kernel_rfl) (fun _ _ _ _ h => h) HH.out (fun K hK => ?_)
  go_simp
  first | (refine hK _ ?_; clear hK K) | (apply Exists.intro; refine ⟨?_, hK _ ?_⟩; (focus (intro wx hx; have x1_ := hx.cells; have x2_ := hx.r2.cells; first | (first | (go_at_call 33; refine (refAdd_c wx r1 win hr hwin).mono ?_; rintro e wy ⟨rfl, hbel⟩; exact ⟨rfl, (by first | exact Kp.same hbel | exact Kp.drew hbel | exact Kp.below hbel : Kp wx wy)⟩)) | (go_simp; first | rfl | exact ⟨rfl, rfl⟩) | rfl | exact ⟨rfl, rfl⟩)); clear hK K)
  refine reg_p (i := 11) rfl (by kernel_rfl) (fun _ _ _ _ h => h) HH.out (fun K hK => ?_)
  go_simp
  first | (refine hK _ ?_; clear hK K) | (apply Exists.intro; refine ⟨?_, hK _ ?_⟩; (focus (intro wx; first | (go_simp; first | rfl) | rfl)); clear hK K)
  refine reg_p (i := 12) rfl (by kernel_rfl) (fun _ _ _ _ h => h) HH.out (fun K hK => ?_)
  go_simp
  first | (refine hK _ ?_; clear hK K) | (apply Exists.intro; refine ⟨?_, hK _ ?_⟩; (focus (intro wx; first | (go_simp; first | rfl) | rfl)); clear hK K)
  refine mixk_done (by kernel_rfl) (fun w8_ hk => ?_) _
  replace HH := Lib.hid (hk _ _ HH.out)
  clear hk
  go_wp2_with fail
  go_ret
  exact ⟨rfl, (Own.pm (HH.out) (by repeat (first | with_reducible exact Pm.refl _ | with_reducible exact Pm.nil _ | with_reducible refine Pm.here ?_ | with_reducible refine Pm.at2 ?_ | with_reducible refine Pm.at3 ?_ | with_reducible refine Pm.at4 ?_ | with_reducible refine Pm.at5 ?_ | with_reducible refine Pm.at6 ?_ | with_reducible refine Pm.at7 ?_ | with_reducible refine Pm.at8 ?_ | with_reducible refine Pm.skip ?_)))⟩
set_option maxRecDepth 100000 in
set_option maxHeartbeats 6400000 in
theorem rfilBest_c (s : Fil) (hw : U s.win) (hus : ∀ r ∈ s.l, U r.1 ∧ U r.2) (H : Own ε w (rfil b s :: R)) :
    Calls Try.prog 26 #[.pointer (some ⟨b, 0, none⟩)] w fun e w' => e = .returned (.tuple #[.int .u64 (refBest s.win s.now s.least s.l).1.2, .int .u64 (refBest s.win s.now s.least s.l).1.1, .bool (refBest s.win s.now s.least s.l).2]) ∧ Own ε w' (rfil b s :: R) := by
  obtain ⟨win, now, least, l⟩ := s
  obtain ⟨v, H⟩ := H.rfil_open
  have HH := Lib.hid H; clear H
  simp only at hw hus HH ⊢
  obtain ⟨A, n, cap, rfl, hnc, hcm, hit⟩ := HH.out.r2.slc_it encR_len (by decide)
  have hn := hit.1
  have hm : n ≤ 9223372036854775807 := by unfold maxLen at hcm; omega
  clear hnc hcm
  clear hit
  replace hus := Lib.hid hus
  replace hw := Lib.hid hw
  go_enter Try.func26, Try.ntmps26
  go_wp2_with (with_reducible refine stop_al ?_)
  refine Stop.go ?_
  refine wpList_alloc_own HH.out [.int .u64 0, .int .u64 0] (by kernel_rfl) ?_
  intro sb w9_ H9_
  replace HH := Lib.hid H9_
  clear H9_
  go_wp2_with (with_reducible refine stop_st ?_)
  refine Stop.go ?_
  refine wpList_store_own _ #[_, _] rfl rfl HH.out (by kernel_rfl) rfl (by repeat (first | (refine List.forall_mem_cons.2 ⟨(by first | with_reducible assumption | rfl), ?_⟩) | exact fun _ h => absurd h List.not_mem_nil)) ?_
  intro w10_ H9_
  replace HH := Lib.hid H9_
  clear H9_
  go_wp2_with fail
  go_loopw [6, 7] (fun so i wr => ∃ k : Nat, k ≤ n ∧ i = .int .i64 k ∧ so = .bool (refBest win now least (l.take k)).2 ∧ Own ε wr (pts sb (.cells #[.int .u64 (refBest win now least (l.take k)).1.1, .int .u64 (refBest win now least (l.take k)).1.2] 34 (0, 0)) :: pts b (.cells #[.int .u64 win, .bool least, .int .u64 now, .slice A n cap] 41 (0, 0)) :: slc 34 2 (.slice A n cap) (encs encR l) :: R)) (fun _ i _ => n - (intOf i).toNat)
  case atStart => exact ⟨0, Nat.zero_le _, rfl, rfl, HH.out⟩
  case round =>
    clear HH
    obtain ⟨k, hk, rfl, rfl, HR⟩ := hrel
    have HH := Lib.hid HR
    clear HR
    by_cases hlt : k < n
    · obtain ⟨g, off, r, rfl, hrk, hc⟩ := (slc_rdF encR_len (by decide) HH.out.r3).get hlt
      have hst := refBest_step (win := win) (now := now) (least := least) hrk
      have hUr := hus.out r (List.mem_of_getElem? hrk)
      have hcs : ∀ wx, Own ε wx (slc 34 2 (.slice (some ⟨g, off, none⟩) n cap) (encs encR l) :: R) → wx.cell? ⟨g, off + k * 2, none⟩ = some (.int .u64 r.1) ∧ wx.cell? ⟨g, off + k * 2 + 1, none⟩ = some (.int .u64 r.2) := fun wx Hx => by
        obtain ⟨g2, off2, b2, e, hb2, hc2⟩ := (slc_rdF encR_len (by decide) Hx).get hlt
        cases e
        rw [hrk] at hb2
        cases hb2
        exact ⟨hc2 0 _ rfl, hc2 1 _ rfl⟩
      generalize refBest win now least (l.take k) = acc at hst HH ⊢
      obtain ⟨⟨q1, q2⟩, so⟩ := acc
      obtain ⟨r1, r2⟩ := r
      simp only at hcs hUr HH ⊢
      unfold bestF at hst
      simp only at hst
      clear hrk hc
      replace hcs := Lib.hid hcs
      replace hUr := Lib.hid hUr
      by_cases hcc : now ≤ sadd r1 win
      · rw [if_neg (by omega)] at hst
        have hcd : decide (now ≤ sadd r1 win) = true := decide_eq_true hcc
        obtain ⟨y1, y2⟩ := hcs.out _ HH.out.tail.tail
        (try clear cc1_); (try clear cc2_); (try clear cc3_); (try clear cc4_); (try clear cc5_); (try clear cc6_); (try clear cc7_)
        have cc2_ := HH.out.r2.cells
        go_wp2_with fail
        refine (rfilCounts_c ε _ _ b win now least _ hw.out (r1, r2) hUr.out.1 HH.out.r2).mono ?_
        rw [hcd]
        rintro e w11_ ⟨rfl, H9_⟩
        replace HH := Lib.hid H9_
        clear H9_
        clear hcd hcc y1 y2
        replace HH := Lib.hid ((Own.pm (HH.out) (by repeat (first | with_reducible exact Pm.refl _ | with_reducible exact Pm.nil _ | with_reducible refine Pm.here ?_ | with_reducible refine Pm.at2 ?_ | with_reducible refine Pm.at3 ?_ | with_reducible refine Pm.at4 ?_ | with_reducible refine Pm.at5 ?_ | with_reducible refine Pm.at6 ?_ | with_reducible refine Pm.at7 ?_ | with_reducible refine Pm.at8 ?_ | with_reducible refine Pm.skip ?_))) : Own ε _ (pts sb _ :: pts b _ :: slc _ 2 (.slice (some ⟨g, off, none⟩) n cap) _ :: R))
        obtain ⟨y1, y2⟩ := hcs.out _ HH.out.tail.tail
        cases so
        case' false =>
          rw [if_pos (.inl rfl)] at hst
        case' true =>
          rcases Int.lt_trichotomy r2 q2 with h1 | rfl | h1
          case' inl =>
            have f1 : (r2 == q2) = false := by simp; omega
            have f2 : decide (r2 < q2) = true := decide_eq_true h1
            have f3 : (true = false ∨ aheadOf least q2 r2 = false) ↔ least = true := by unfold aheadOf; cases least <;> simp <;> omega
            simp only [f3] at hst
            clear f3
          case' inr.inl =>
            have f1 : (r2 == r2) = true := by simp
            have f3 : (true = false ∨ aheadOf least r2 r2 = false) := .inr (ahead_self _ _)
            rw [if_pos f3] at hst
            clear f3
          case' inr.inr =>
            have f1 : (r2 == q2) = false := by simp; omega
            have f2 : decide (r2 < q2) = false := decide_eq_false (by omega)
            have f3 : (true = false ∨ aheadOf least q2 r2 = false) ↔ least = false := by unfold aheadOf; cases least <;> simp <;> omega
            simp only [f3] at hst
            clear f3
        all_goals
          cases least
          all_goals
            first | rw [if_pos rfl] at hst | rw [if_neg Bool.noConfusion] at hst | skip
            replace hst := Lib.hid hst
            (try clear cc1_); (try clear cc2_); (try clear cc3_); (try clear cc4_); (try clear cc5_); (try clear cc6_); (try clear cc7_)
            have cc2_ := HH.out.r2.cells
            go_wp2_with fail
            (try clear cc1_); (try clear cc2_); (try clear cc3_); (try clear cc4_); (try clear cc5_); (try clear cc6_); (try clear cc7_)
            clear y1 y2
            go_wp2_with fail
            refine wp_region_reg none HH.out (by kernel_rfl) ?_
            intro wm H9_
            replace HH := Lib.hid H9_
            clear H9_
            refine reg_p (i := 0) rfl (by kernel_rfl) (fun _ _ _ _ h => h) HH.out (fun K hK => ?_)
            go_simp
            first | (refine hK _ ?_; clear hK K) | (apply Exists.intro; refine ⟨?_, hK _ ?_⟩; (focus (intro wx; first | (go_simp; first | rfl) | rfl)); clear hK K)
            refine reg_p (i := 1) rfl (by kernel_rfl) (fun _ _ _ _ h => h) HH.out (fun K hK => ?_)
            go_simp
            first | (refine hK _ ?_; clear hK K) | (apply Exists.intro; refine ⟨?_, hK _ ?_⟩; (focus (intro wx; first | (go_simp; first | rfl) | rfl)); clear hK K)
            refine reg_p (i := 2) rfl (by kernel_rfl) (fun _ _ _ _ h => h) HH.out (fun K hK => ?_)
            go_simp
            first | (refine hK _ ?_; clear hK K) | (apply Exists.intro; refine ⟨?_, hK _ ?_⟩; (focus (intro wx; first | (go_simp; first | rfl) | rfl)); clear hK K)
            refine reg_p (i := 3) rfl (by kernel_rfl) (fun _ _ _ _ h => h) HH.out (fun K hK => ?_)
            go_simp
            first | (refine hK _ ?_; clear hK K) | (apply Exists.intro; refine ⟨?_, hK _ ?_⟩; (focus (intro wx; first | (go_simp; first | rfl) | rfl)); clear hK K)
            refine reg_p (i := 4) rfl (by kernel_rfl) (fun _ _ _ _ h => h) HH.out (fun K hK => ?_)
            go_simp
            first | (refine hK _ ?_; clear hK K) | (apply Exists.intro; refine ⟨?_, hK _ ?_⟩; (focus (intro wx; first | (go_simp; first | rfl) | rfl)); clear hK K)
            refine mixk_q (i := 5) rfl (by kernel_rfl) (fun _ _ _ _ h => h) HH.out (fun K hK => ?_)
            go_simp
            first | (refine hK _ ?_; clear hK K) | (apply Exists.intro; refine ⟨?_, hK _ ?_⟩; (focus (intro wx hx; have x1_ := hx.cells; have x2_ := hx.r2.cells; first | (go_simp; first | rfl | exact ⟨rfl, rfl⟩) | rfl | exact ⟨rfl, rfl⟩)); clear hK K)
            refine reg_p (i := 6) rfl (by kernel_rfl) (fun _ _ _ _ h => h) HH.out (fun K hK => ?_)
            go_simp
            first | (refine hK _ ?_; clear hK K) | (apply Exists.intro; refine ⟨?_, hK _ ?_⟩; (focus (intro wx; first | (go_simp; first | rfl) | rfl)); clear hK K)
            refine reg_p (i := 7) rfl (by kernel_rfl) (fun _ _ _ _ h => h) HH.out (fun K hK => ?_)
            go_simp
            first | (refine hK _ ?_; clear hK K) | (apply Exists.intro; refine ⟨?_, hK _ ?_⟩; (focus (intro wx; first | (go_simp; first | rfl) | rfl)); clear hK K)
            refine reg_p (i := 8) rfl (by kernel_rfl) (fun _ _ _ _ h => h) HH.out (fun K hK => ?_)
            go_simp
            first | (refine hK _ ?_; clear hK K) | (apply Exists.intro; refine ⟨?_, hK _ ?_⟩; (focus (intro wx; first | (go_simp; first | rfl) | rfl)); clear hK K)
            refine reg_p (i := 9) rfl (by kernel_rfl) (fun _ _ _ _ h => h) HH.out (fun K hK => ?_)
            go_simp
            first | (refine hK _ ?_; clear hK K) | (apply Exists.intro; refine ⟨?_, hK _ ?_⟩; (focus (intro wx; first | (go_simp; first | rfl) | rfl)); clear hK K)
            refine reg_p (i := 10) rfl (by kernel_rfl) (fun _ _ _ _ h => h) HH.out (fun K hK => ?_)
            go_simp
            first | (refine hK _ ?_; clear hK K) | (apply Exists.intro; refine ⟨?_, hK _ ?_⟩; (focus (intro wx; first | (go_simp; first | rfl) | rfl)); clear hK K)
            refine mixk_q (i := 11) rfl (by kernel_rfl) (fun _ _ _ _ h => h) HH.out (fun K hK => ?_)
            go_simp
            first | (refine hK _ ?_; clear hK K) | (apply Exists.intro; refine ⟨?_, hK _ ?_⟩; (focus (intro wx hx; have x1_ := hx.cells; have x2_ := hx.r2.cells; first | (go_simp; first | rfl | exact ⟨rfl, rfl⟩) | rfl | exact ⟨rfl, rfl⟩)); clear hK K)
            refine reg_p (i := 12) rfl (by kernel_rfl) (fun _ _ _ _ h => h) HH.out (fun K hK => ?_)
            go_simp
            first | (refine hK _ ?_; clear hK K) | (apply Exists.intro; refine ⟨?_, hK _ ?_⟩; (focus (intro wx; first | (go_simp; first | rfl) | rfl)); clear hK K)
            refine reg_p (i := 13) rfl (by kernel_rfl) (fun _ _ _ _ h => h) HH.out (fun K hK => ?_)
            go_simp
            first | (refine hK _ ?_; clear hK K) | (apply Exists.intro; refine ⟨?_, hK _ ?_⟩; (focus (intro wx; first | (go_simp; first | rfl) | rfl)); clear hK K)
            refine reg_p (i := 14) rfl (by kernel_rfl) (fun _ _ _ _ h => h) HH.out (fun K hK => ?_)
            go_simp
            first | (refine hK _ ?_; clear hK K) | (apply Exists.intro; refine ⟨?_, hK _ ?_⟩; (focus (intro wx; first | (go_simp; first | rfl) | rfl)); clear hK K)
            refine reg_p (i := 15) rfl (by kernel_rfl) (fun _ _ _ _ h => h) HH.out (fun K hK => ?_)
            go_simp
            first | (refine hK _ ?_; clear hK K) | (apply Exists.intro; refine ⟨?_, hK _ ?_⟩; (focus (intro wx; first | (go_simp; first | rfl) | rfl)); clear hK K)
            refine mixk_q (i := 16) rfl (by kernel_rfl) (fun _ _ _ _ h => h) HH.out (fun K hK => ?_)
            go_simp
            first | (refine hK _ ?_; clear hK K) | (apply Exists.intro; refine ⟨?_, hK _ ?_⟩; (focus (intro wx hx; have x1_ := hx.cells; have x2_ := hx.r2.cells; first | (go_simp; first | rfl | exact ⟨rfl, rfl⟩) | rfl | exact ⟨rfl, rfl⟩)); clear hK K)
            refine reg_p (i := 17) rfl (by kernel_rfl) (fun _ _ _ _ h => h) HH.out (fun K hK => ?_)
            go_simp
            first | (refine hK _ ?_; clear hK K) | (apply Exists.intro; refine ⟨?_, hK _ ?_⟩; (focus (intro wx; first | (go_simp; first | rfl) | rfl)); clear hK K)
            refine reg_p (i := 18) rfl (by kernel_rfl) (fun _ _ _ _ h => h) HH.out (fun K hK => ?_)
            go_simp
            first | (refine hK _ ?_; clear hK K) | (apply Exists.intro; refine ⟨?_, hK _ ?_⟩; (focus (intro wx; first | (go_simp; first | rfl) | rfl)); clear hK K)
            refine mixk_done (by kernel_rfl) (fun w12_ hk => ?_) _
            replace HH := Lib.hid (hk _ _ HH.out)
            clear hk
            try clear f1
            try clear f2
            obtain ⟨y1, y2⟩ := hcs.out _ HH.out.tail.tail
            (try clear cc1_); (try clear cc2_); (try clear cc3_); (try clear cc4_); (try clear cc5_); (try clear cc6_); (try clear cc7_)
            have cc2_ := HH.out.r2.cells
            go_wp2_with (with_reducible refine stop_st ?_)
            first
            | (go_roundw
               case rel => exact ⟨k + 1, by omega, by go_num, by rw [hst.out], by rw [hst.out]; exact HH.out⟩
               case measure => simp [intOf]; omega)
            | refine Stop.go ?_
        all_goals
          go_wp2_with (with_reducible refine stop_st ?_)
          refine Stop.go ?_
          refine wpList_store_own _ #[_, _] rfl rfl HH.out (by kernel_rfl) rfl (by repeat (first | (refine List.forall_mem_cons.2 ⟨(by first | with_reducible assumption | rfl), ?_⟩) | exact fun _ h => absurd h List.not_mem_nil)) ?_
          intro w13_ H9_
          replace HH := Lib.hid H9_
          clear H9_
          go_wp2_with fail
          go_roundw
          case rel => exact ⟨k + 1, by omega, by go_num, by rw [hst.out], by rw [hst.out]; exact HH.out⟩
          case measure => simp [intOf]; omega
      · rw [if_pos (by omega)] at hst
        have hcd : decide (now ≤ sadd r1 win) = false := decide_eq_false hcc
        obtain ⟨y1, y2⟩ := hcs.out _ HH.out.tail.tail
        replace hst := Lib.hid hst
        (try clear cc1_); (try clear cc2_); (try clear cc3_); (try clear cc4_); (try clear cc5_); (try clear cc6_); (try clear cc7_)
        have cc2_ := HH.out.r2.cells
        go_wp2_with fail
        refine (rfilCounts_c ε _ _ b win now least _ hw.out (r1, r2) hUr.out.1 HH.out.r2).mono ?_
        rw [hcd]
        rintro e w14_ ⟨rfl, H9_⟩
        replace HH := Lib.hid H9_
        clear H9_
        clear hcd hcc y1 y2
        go_wp2_with fail
        go_roundw
        case rel => exact ⟨k + 1, by omega, by go_num, by rw [hst.out], by rw [hst.out]; exact (Own.pm (HH.out) (by repeat (first | with_reducible exact Pm.refl _ | with_reducible exact Pm.nil _ | with_reducible refine Pm.here ?_ | with_reducible refine Pm.at2 ?_ | with_reducible refine Pm.at3 ?_ | with_reducible refine Pm.at4 ?_ | with_reducible refine Pm.at5 ?_ | with_reducible refine Pm.at6 ?_ | with_reducible refine Pm.at7 ?_ | with_reducible refine Pm.at8 ?_ | with_reducible refine Pm.skip ?_)))⟩
        case measure => simp [intOf]; omega
    · have hkn : k = n := by omega
      subst hkn
      rw [List.take_of_length_le (show l.length ≤ k by omega)] at HH ⊢
      (try clear cc1_); (try clear cc2_); (try clear cc3_); (try clear cc4_); (try clear cc5_); (try clear cc6_); (try clear cc7_)
      have cc2_ := HH.out.r2.cells
      go_wp2_with fail
      (try clear cc1_); (try clear cc2_); (try clear cc3_); (try clear cc4_); (try clear cc5_); (try clear cc6_); (try clear cc7_)
      go_wp2_with fail
      refine wp_region_reg none HH.out (by kernel_rfl) ?_
      intro wm H9_
      replace HH := Lib.hid H9_
      clear H9_
      refine reg_p (i := 0) rfl (by kernel_rfl) (fun _ _ _ _ h => h) HH.out (fun K hK => ?_)
      go_simp
      first | (refine hK _ ?_; clear hK K) | (apply Exists.intro; refine ⟨?_, hK _ ?_⟩; (focus (intro wx; first | (go_simp; first | rfl) | rfl)); clear hK K)
      refine mixk_q (i := 1) rfl (by kernel_rfl) (fun _ _ _ _ h => h) HH.out (fun K hK => ?_)
      go_simp
      first | (refine hK _ ?_; clear hK K) | (apply Exists.intro; refine ⟨?_, hK _ ?_⟩; (focus (intro wx hx; have x1_ := hx.cells; first | (go_simp; first | rfl | exact ⟨rfl, rfl⟩) | rfl | exact ⟨rfl, rfl⟩)); clear hK K)
      refine reg_p (i := 2) rfl (by kernel_rfl) (fun _ _ _ _ h => h) HH.out (fun K hK => ?_)
      go_simp
      first | (refine hK _ ?_; clear hK K) | (apply Exists.intro; refine ⟨?_, hK _ ?_⟩; (focus (intro wx; first | (go_simp; first | rfl) | rfl)); clear hK K)
      refine mixk_q (i := 3) rfl (by kernel_rfl) (fun _ _ _ _ h => h) HH.out (fun K hK => ?_)
      go_simp
      first | (refine hK _ ?_; clear hK K) | (apply Exists.intro; refine ⟨?_, hK _ ?_⟩; (focus (intro wx hx; have x1_ := hx.cells; first | (go_simp; first | rfl | exact ⟨rfl, rfl⟩) | rfl | exact ⟨rfl, rfl⟩)); clear hK K)
      refine reg_p (i := 4) rfl (by kernel_rfl) (fun _ _ _ _ h => h) HH.out (fun K hK => ?_)
      go_simp
      first | (refine hK _ ?_; clear hK K) | (apply Exists.intro; refine ⟨?_, hK _ ?_⟩; (focus (intro wx; first | (go_simp; first | rfl) | rfl)); clear hK K)
      refine reg_p (i := 5) rfl (by kernel_rfl) (fun _ _ _ _ h => h) HH.out (fun K hK => ?_)
      go_simp
      first | (refine hK _ ?_; clear hK K) | (apply Exists.intro; refine ⟨?_, hK _ ?_⟩; (focus (intro wx; first | (go_simp; first | rfl) | rfl)); clear hK K)
      refine reg_p (i := 6) rfl (by kernel_rfl) (fun _ _ _ _ h => h) HH.out (fun K hK => ?_)
      go_simp
      first | (refine hK _ ?_; clear hK K) | (apply Exists.intro; refine ⟨?_, hK _ ?_⟩; (focus (intro wx; first | (go_simp; first | rfl) | rfl)); clear hK K)
      refine reg_p (i := 7) rfl (by kernel_rfl) (fun _ _ _ _ h => h) HH.out (fun K hK => ?_)
      go_simp
      first | (refine hK _ ?_; clear hK K) | (apply Exists.intro; refine ⟨?_, hK _ ?_⟩; (focus (intro wx; first | (go_simp; first | rfl) | rfl)); clear hK K)
      refine mixk_done (by kernel_rfl) (fun w15_ hk => ?_) _
      replace HH := Lib.hid (hk _ _ HH.out)
      clear hk
      go_wp2_with fail
      go_ret3
      refine ⟨rfl, Own.rfil_mk ε _ R b (s := ⟨win, now, least, l⟩) (v := .slice A k cap) ?_⟩
      exact (Own.pm (HH.out) (by repeat (first | with_reducible exact Pm.refl _ | with_reducible exact Pm.nil _ | with_reducible refine Pm.here ?_ | with_reducible refine Pm.at2 ?_ | with_reducible refine Pm.at3 ?_ | with_reducible refine Pm.at4 ?_ | with_reducible refine Pm.at5 ?_ | with_reducible refine Pm.at6 ?_ | with_reducible refine Pm.at7 ?_ | with_reducible refine Pm.at8 ?_ | with_reducible refine Pm.skip ?_)))
theorem filClone_nil : Calls Try.prog 12 #[.pointer none] w fun e w' => e = .returned (.pointer none) ∧ w = w' := by
  go_enter Try.func12, Try.ntmps12
  go_wp2_with fail
  go_ret
  exact ⟨rfl, rfl⟩
set_option maxHeartbeats 1600000 in
theorem filClone_c (s : Fil) (H : Own ε w (fil b s :: R)) :
    Calls Try.prog 12 #[.pointer (some ⟨b, 0, none⟩)] w fun e w' => ∃ c, e = .returned (.pointer (some ⟨c, 0, none⟩)) ∧ Own ε w' (fil c s :: fil b s :: R) := by
  obtain ⟨rb, H⟩ := H.fil_open
  have HH := Lib.hid H; clear H
  go_enter Try.func12, Try.ntmps12
  (try clear cc1_); (try clear cc2_); (try clear cc3_); (try clear cc4_); (try clear cc5_); (try clear cc6_); (try clear cc7_)
  have cc1_ := HH.out.cells
  go_wp2_with (with_reducible refine stop_al ?_)
  refine Stop.go ?_
  refine wpList_alloc_own HH.out [.pointer none, .int .u64 0, .int .u64 0, .bool false] (by kernel_rfl) ?_
  intro c w16_ H9_
  replace HH := Lib.hid H9_
  clear H9_
  go_wp2_with (with_reducible refine stop_st ?_)
  refine Stop.go ?_
  refine wpList_store_own _ #[_, _, _, _] rfl rfl HH.out (by kernel_rfl) rfl (by repeat (first | (refine List.forall_mem_cons.2 ⟨(by first | with_reducible assumption | rfl), ?_⟩) | exact fun _ h => absurd h List.not_mem_nil)) ?_
  intro w17_ H9_
  replace HH := Lib.hid H9_
  clear H9_
  (try clear cc1_); (try clear cc2_); (try clear cc3_); (try clear cc4_); (try clear cc5_); (try clear cc6_); (try clear cc7_)
  have cc2_ := HH.out.r2.cells
  go_wp2_with fail
  refine (rgClone_c ε _ _ rb (s.l.map encR) HH.out.r3).mono ?_
  rintro e w18_ ⟨rc, rfl, H9_⟩
  replace HH := Lib.hid H9_
  clear H9_
  (try clear cc1_); (try clear cc2_); (try clear cc3_); (try clear cc4_); (try clear cc5_); (try clear cc6_); (try clear cc7_)
  go_wp2_with (with_reducible refine stop_st ?_)
  refine Stop.go ?_
  refine wpList_store1_own (v := .pointer (some ⟨rc, 0, none⟩)) (k := 0) rfl rfl HH.out.r3 (by kernel_rfl) (by simp) (by first | rfl | assumption) ?_
  intro w19_ H9_
  replace HH := Lib.hid H9_
  clear H9_
  simp only [List.setIfInBounds_toArray, List.set_cons_zero] at HH
  go_wp2_with fail
  go_ret
  have H2 := Own.fil_mk ε _ _ c (s := s) (rb := rc) ((Own.pm (HH.out) (by repeat (first | with_reducible exact Pm.refl _ | with_reducible exact Pm.nil _ | with_reducible refine Pm.here ?_ | with_reducible refine Pm.at2 ?_ | with_reducible refine Pm.at3 ?_ | with_reducible refine Pm.at4 ?_ | with_reducible refine Pm.at5 ?_ | with_reducible refine Pm.at6 ?_ | with_reducible refine Pm.at7 ?_ | with_reducible refine Pm.at8 ?_ | with_reducible refine Pm.skip ?_))) : Own ε _ (pts c _ :: rgRing rc (s.l.map encR) :: pts b _ :: rgRing rb (s.l.map encR) :: R))
  exact ⟨_, rfl, (Own.fil_mk ε _ _ b (s := s) (rb := rb) ((Own.pm (H2) (by repeat (first | with_reducible exact Pm.refl _ | with_reducible exact Pm.nil _ | with_reducible refine Pm.here ?_ | with_reducible refine Pm.at2 ?_ | with_reducible refine Pm.at3 ?_ | with_reducible refine Pm.at4 ?_ | with_reducible refine Pm.at5 ?_ | with_reducible refine Pm.at6 ?_ | with_reducible refine Pm.at7 ?_ | with_reducible refine Pm.at8 ?_ | with_reducible refine Pm.skip ?_))) : Own ε _ (pts b _ :: rgRing rb (s.l.map encR) :: fil c s :: R))).r2⟩
theorem filTime_nil : Calls Try.prog 10 #[.pointer none] w fun e w' => e = .returned (.int .u64 0) ∧ w = w' := by
  go_enter Try.func10, Try.ntmps10
  go_wp2_with fail
  go_ret
  exact ⟨rfl, rfl⟩
end
end Go.Proofs.Ytljifdgfmpijeaa
