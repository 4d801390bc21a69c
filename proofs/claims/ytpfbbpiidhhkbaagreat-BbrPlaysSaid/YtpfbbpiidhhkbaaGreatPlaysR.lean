/- goitref15: the parts of one engine: written by mkplays.py. -/
import Derived.Test.YtpfbbpiidhhkbaaGreatRnd
namespace Go.Proofs.YtpfbbpiidhhkbaaGreat
open Go.RowKit
def rfilE (X : Nat → Value) (b : Nat) (s : Fil) : Asn := exA fun v : Value => sep (pts b (.cells #[X 0, X 1, X 2, X 3, X 4, X 5, X 6, X 7, X 8, .int .u64 s.win, .bool s.least, .int .u64 s.now, v, X 13, X 14, X 15, X 16, X 17, X 18, X 19, X 20, X 21, X 22, X 23, X 24, X 25] 76 (0, 0))) (slc 151 2 v (encs encR s.l))
section
variable (X : Nat → Value) (ε w : World) (R : List Asn) (b : Nat)
theorem Own.rfilE_open {s : Fil} (H : Own ε w (rfilE X b s :: R)) : ∃ v, Own ε w (pts b (.cells #[X 0, X 1, X 2, X 3, X 4, X 5, X 6, X 7, X 8, .int .u64 s.win, .bool s.least, .int .u64 s.now, v, X 13, X 14, X 15, X 16, X 17, X 18, X 19, X 20, X 21, X 22, X 23, X 24, X 25] 76 (0, 0)) :: slc 151 2 v (encs encR s.l) :: R) := by
  obtain ⟨v, H⟩ := H.ex
  exact ⟨v, H.split⟩
theorem Own.rfilE_mk {s : Fil} {v : Value} (H : Own ε w (pts b (.cells #[X 0, X 1, X 2, X 3, X 4, X 5, X 6, X 7, X 8, .int .u64 s.win, .bool s.least, .int .u64 s.now, v, X 13, X 14, X 15, X 16, X 17, X 18, X 19, X 20, X 21, X 22, X 23, X 24, X 25] 76 (0, 0)) :: slc 151 2 v (encs encR s.l) :: R)) : Own ε w (rfilE X b s :: R) := Own.ex_mk v H.join
theorem rfilETo_c (s : Fil) (t : Int) (H : Own ε w (rfilE X b s :: R)) :
    Calls Tryz.prog 90 #[.pointer (some ⟨b, 9, none⟩), .int .u64 t] w fun e w' => e = .returned (.int .i64 (s.rto t).1) ∧ Own ε w' (rfilE X b (s.rto t).2 :: R) := by
  obtain ⟨win, now, least, l⟩ := s
  obtain ⟨v, H⟩ := H.rfilE_open
  have HH := Lib.hid H; clear H
  by_cases hlt : t < now
  · rw [show (⟨win, now, least, l⟩ : Fil).rto t = (2, ⟨win, now, least, l⟩) from if_pos hlt]
    go_enter Tryz.func90, Tryz.ntmps90
    (try clear cc1_); (try clear cc2_); (try clear cc3_); (try clear cc4_); (try clear cc5_); (try clear cc6_); (try clear cc7_)
    have cc1_ := HH.out.cells
    go_wp2_with fail
    go_ret
    exact ⟨rfl, Own.rfilE_mk X ε w R b HH.out⟩
  · rw [show (⟨win, now, least, l⟩ : Fil).rto t = (0, ⟨win, t, least, l⟩) from if_neg hlt]
    go_enter Tryz.func90, Tryz.ntmps90
    (try clear cc1_); (try clear cc2_); (try clear cc3_); (try clear cc4_); (try clear cc5_); (try clear cc6_); (try clear cc7_)
    have cc1_ := HH.out.cells
    go_wp2_with (with_reducible refine stop_st ?_)
    refine Stop.go ?_
    refine wpList_store1_own (v := .int .u64 t) (k := 11) rfl rfl HH.out (by kernel_rfl) (by simp) (by first | rfl | assumption) ?_
    intro w1_ H9_
    replace HH := Lib.hid H9_
    clear H9_
    simp only [List.setIfInBounds_toArray, List.set_cons_succ, List.set_cons_zero] at HH
    go_wp2_with fail
    go_ret
    exact ⟨rfl, Own.rfilE_mk X ε _ R b (s := ⟨win, t, least, l⟩) HH.out⟩
set_option maxHeartbeats 1600000 in
theorem rfilEPut_c (s : Fil) (t x : Int) (hl : s.l.length ≤ 1000000) (H : Own ε w (rfilE X b s :: R)) :
    Calls Tryz.prog 91 #[.pointer (some ⟨b, 9, none⟩), .int .u64 t, .int .u64 x] w fun e w' => e = .returned (.int .i64 (s.rput t x).1) ∧ Own ε w' (rfilE X b (s.rput t x).2 :: R) := by
  have hto := rfilETo_c X ε w R b s t H
  obtain ⟨win, now, least, l⟩ := s
  have HH := Lib.hid H; clear H
  by_cases hlt : t < now
  · rw [show (⟨win, now, least, l⟩ : Fil).rto t = (2, ⟨win, now, least, l⟩) from if_pos hlt] at hto
    rw [show (⟨win, now, least, l⟩ : Fil).rput t x = (2, ⟨win, now, least, l⟩) from if_pos hlt]
    go_enter Tryz.func91, Tryz.ntmps91
    go_wp2_with fail
    refine (hto).mono ?_
    rintro e w2_ ⟨rfl, H9_⟩
    replace HH := Lib.hid H9_
    clear H9_
    go_wp2_with fail
    go_ret
    exact ⟨rfl, HH.out⟩
  · rw [show (⟨win, now, least, l⟩ : Fil).rto t = (0, ⟨win, t, least, l⟩) from if_neg hlt] at hto
    rw [show (⟨win, now, least, l⟩ : Fil).rput t x = (0, ⟨win, t, least, l ++ [(t, x)]⟩) from if_neg hlt]
    have hln : (encs encR l).length = l.length * 2 := encs_len encR_len l
    replace hln := Lib.hid hln
    go_enter Tryz.func91, Tryz.ntmps91
    go_wp2_with fail
    refine (hto).mono ?_
    rintro e w3_ ⟨rfl, H9_⟩
    replace HH := Lib.hid H9_
    clear H9_
    obtain ⟨v, H2⟩ := HH.out.rfilE_open
    replace HH := Lib.hid H2
    clear H2
    (try clear cc1_); (try clear cc2_); (try clear cc3_); (try clear cc4_); (try clear cc5_); (try clear cc6_); (try clear cc7_)
    have cc1_ := HH.out.cells
    replace HH := Lib.hid HH.out.r2
    go_wp2_with (with_reducible refine stop_bs ?_)
    refine Stop.go ?_
    refine wpList_bs1_own HH.out #[_, _] 2 16 Tryz.underlying67 (by kernel_rfl) (by decide) (by decide) rfl rfl ?_
    intro g_ w4_ H9_
    replace HH := Lib.hid H9_
    clear H9_
    go_wp2_with (with_reducible refine stop_app ?_)
    refine Stop.go ?_
    refine wpList_app1_own rfl _ _ 67 rfl 151 2 16 Tryz.underlying67 (by kernel_rfl) (by decide) (l.length) rfl rfl HH.out (hln.out) rfl (by repeat (first | (refine List.forall_mem_cons.2 ⟨(by first | with_reducible assumption | rfl), ?_⟩) | exact fun _ h => absurd h List.not_mem_nil)) (by simp only [maxLen]; omega) (by omega) ?_
    intro v5 w5_ H9_
    obtain ⟨A_v5, n_v5, c_v5, rfl⟩ := H9_.slc_isv
    replace HH := Lib.hid H9_
    clear H9_
    go_wp2_with (with_reducible refine stop_st ?_)
    refine Stop.go ?_
    refine wpList_store1_own (v := (.slice A_v5 n_v5 c_v5)) (k := 12) rfl rfl HH.out.r2 (by kernel_rfl) (by simp) (by first | rfl | assumption) ?_
    intro w6_ H9_
    replace HH := Lib.hid H9_
    clear H9_
    simp only [List.setIfInBounds_toArray, List.set_cons_succ, List.set_cons_zero] at HH
    go_wp2_with fail
    go_ret
    refine ⟨rfl, Own.rfilE_mk X ε _ R b (s := ⟨win, t, least, l ++ [(t, x)]⟩) (v := .slice A_v5 n_v5 c_v5) ?_⟩
    rw [encs_snoc]
    exact HH.out
set_option maxHeartbeats 1600000 in
theorem rfilECounts_c (win now : Int) (least : Bool) (v : Value) (hwin : U win) (r : Int × Int) (hr : U r.1) (H : Own ε w (pts b (.cells #[X 0, X 1, X 2, X 3, X 4, X 5, X 6, X 7, X 8, .int .u64 win, .bool least, .int .u64 now, v, X 13, X 14, X 15, X 16, X 17, X 18, X 19, X 20, X 21, X 22, X 23, X 24, X 25] 76 (0, 0)) :: R)) :
    Calls Tryz.prog 113 #[.pointer (some ⟨b, 9, none⟩), .agg #[.int .u64 r.1, .int .u64 r.2]] w fun e w' => e = .returned (.bool (decide (now ≤ sadd r.1 win))) ∧ Own ε w' (pts b (.cells #[X 0, X 1, X 2, X 3, X 4, X 5, X 6, X 7, X 8, .int .u64 win, .bool least, .int .u64 now, v, X 13, X 14, X 15, X 16, X 17, X 18, X 19, X 20, X 21, X 22, X 23, X 24, X 25] 76 (0, 0)) :: R) := by
  have HH := Lib.hid H; clear H
  obtain ⟨r1, r2⟩ := r
  go_enter Tryz.func113, Tryz.ntmps113
  go_wp2_with (with_reducible refine stop_bx ?_)
  refine Stop.go ?_
  refine wpList_box_own HH.out [_, _] rfl ?_
  intro g w7_ H9_
  replace HH := Lib.hid H9_
  clear H9_
  go_wp2_with fail
  refine wp_region_reg none HH.out (by kernel_rfl) ?_
  intro wm H9_
  replace HH := Lib.hid H9_
  clear H9_
  refine reg_p (i := 0) rfl (by kernel_rfl) (fun _ _ _ _ h => h) HH.out (fun K hK => ?_)
  go_simp
  (first | refine hK _ ?_ | (apply Exists.intro; refine ⟨?_, hK _ ?_⟩; focus intro wx; first | (go_simp; rfl) | rfl)); clear hK K
  refine mixk_q (i := 1) rfl (by kernel_rfl) (fun _ _ _ _ h => h) HH.out (fun K hK => ?_)
  go_simp
  (first | refine hK _ ?_ | (apply Exists.intro; refine ⟨?_, hK _ ?_⟩; focus intro wx hx; have x1_ := hx.cells; have x2_ := hx.r2.cells; first | (go_simp; first | rfl | exact ⟨rfl, rfl⟩) | rfl | exact ⟨rfl, rfl⟩)); clear hK K
  refine reg_p (i := 2) rfl (by kernel_rfl) (fun _ _ _ _ h => h) HH.out (fun K hK => ?_)
  go_simp
  (first | refine hK _ ?_ | (apply Exists.intro; refine ⟨?_, hK _ ?_⟩; focus intro wx; first | (go_simp; rfl) | rfl)); clear hK K
  refine reg_p (i := 3) rfl (by kernel_rfl) (fun _ _ _ _ h => h) HH.out (fun K hK => ?_)
  go_simp
  (first | refine hK _ ?_ | (apply Exists.intro; refine ⟨?_, hK _ ?_⟩; focus intro wx; first | (go_simp; rfl) | rfl)); clear hK K
  refine reg_p (i := 4) rfl (by kernel_rfl) (fun _ _ _ _ h => h) HH.out (fun K hK => ?_)
  go_simp
  (first | refine hK _ ?_ | (apply Exists.intro; refine ⟨?_, hK _ ?_⟩; focus intro wx; first | (go_simp; rfl) | rfl)); clear hK K
  refine mixk_q (i := 5) rfl (by kernel_rfl) (fun _ _ _ _ h => h) HH.out (fun K hK => ?_)
  go_simp
  (first | refine hK _ ?_ | (apply Exists.intro; refine ⟨?_, hK _ ?_⟩; focus intro wx hx; have x1_ := hx.cells; have x2_ := hx.r2.cells; first | (go_simp; first | rfl | exact ⟨rfl, rfl⟩) | rfl | exact ⟨rfl, rfl⟩)); clear hK K
  refine mixk_q (i := 6) rfl (by kernel_rfl) (fun _ _ _ _ h => h) HH.out (fun K hK => ?_)
  go_simp
  (first | refine hK _ ?_ | (apply Exists.intro; refine ⟨?_, hK _ ?_⟩; focus intro wx hx; first | (first | (go_at_call 89; refine (refAdd_c wx r1 win hr hwin).mono ?_; rintro e wy ⟨rfl, hbel⟩; exact ⟨rfl, (by first | exact .same hbel | exact .drew hbel | exact .below hbel : Kp wx wy)⟩)) | (go_simp; first | rfl | exact ⟨rfl, rfl⟩) | rfl | exact ⟨rfl, rfl⟩)); clear hK K
  refine reg_p (i := 7) rfl (by kernel_rfl) (fun _ _ _ _ h => h) HH.out (fun K hK => ?_)
  go_simp
  (first | refine hK _ ?_ | (apply Exists.intro; refine ⟨?_, hK _ ?_⟩; focus intro wx; first | (go_simp; rfl) | rfl)); clear hK K
  refine reg_p (i := 8) rfl (by kernel_rfl) (fun _ _ _ _ h => h) HH.out (fun K hK => ?_)
  go_simp
  (first | refine hK _ ?_ | (apply Exists.intro; refine ⟨?_, hK _ ?_⟩; focus intro wx; first | (go_simp; rfl) | rfl)); clear hK K
  refine reg_p (i := 9) rfl (by kernel_rfl) (fun _ _ _ _ h => h) HH.out (fun K hK => ?_)
  go_simp
  (first | refine hK _ ?_ | (apply Exists.intro; refine ⟨?_, hK _ ?_⟩; focus intro wx; first | (go_simp; rfl) | rfl)); clear hK K
  refine mixk_q (i := 10) rfl (by kernel_rfl) (fun _ _ _ _ h => h) HH.out (fun K hK => ?_)
  go_simp
  (first | refine hK _ ?_ | (apply Exists.intro; refine ⟨?_, hK _ ?_⟩; focus intro wx hx; have x1_ := hx.cells; have x2_ := hx.r2.cells; first | (go_simp; first | rfl | exact ⟨rfl, rfl⟩) | rfl | exact ⟨rfl, rfl⟩)); clear hK K
  refine reg_p (i := 11) rfl (by kernel_rfl) (fun _ _ _ _ h => h) HH.out (fun K hK => ?_)
  go_simp
  (first | refine hK _ ?_ | (apply Exists.intro; refine ⟨?_, hK _ ?_⟩; focus intro wx; first | (go_simp; rfl) | rfl)); clear hK K
  refine reg_p (i := 12) rfl (by kernel_rfl) (fun _ _ _ _ h => h) HH.out (fun K hK => ?_)
  go_simp
  (first | refine hK _ ?_ | (apply Exists.intro; refine ⟨?_, hK _ ?_⟩; focus intro wx; first | (go_simp; rfl) | rfl)); clear hK K
  refine mixk_done (by kernel_rfl) (fun w8_ hk => ?_) _
  replace HH := Lib.hid (hk _ _ HH.out)
  clear hk
  go_wp2_with fail
  go_ret
  exact ⟨rfl, (Own.pm (HH.out) (by with_reducible repeat (first | exact .refl _ | exact .nil _ | refine .here ?_ | refine .at2 ?_ | refine .at3 ?_ | refine .at4 ?_ | refine .at5 ?_ | refine .at6 ?_ | refine .at7 ?_ | refine .at8 ?_ | refine .skip ?_)))⟩
set_option maxRecDepth 100000 in
set_option maxHeartbeats 6400000 in
theorem rfilEBest_c (s : Fil) (hw : U s.win) (hus : ∀ r ∈ s.l, U r.1 ∧ U r.2) (v : Value) (H : Own ε w (pts b (.cells #[X 0, X 1, X 2, X 3, X 4, X 5, X 6, X 7, X 8, .int .u64 s.win, .bool s.least, .int .u64 s.now, v, X 13, X 14, X 15, X 16, X 17, X 18, X 19, X 20, X 21, X 22, X 23, X 24, X 25] 76 (0, 0)) :: slc 151 2 v (encs encR s.l) :: R)) :
    Calls Tryz.prog 64 #[.pointer (some ⟨b, 9, none⟩)] w fun e w' => e = .returned (.tuple #[.int .u64 (refBest s.win s.now s.least s.l).1.2, .int .u64 (refBest s.win s.now s.least s.l).1.1, .bool (refBest s.win s.now s.least s.l).2]) ∧ Own ε w' (pts b (.cells #[X 0, X 1, X 2, X 3, X 4, X 5, X 6, X 7, X 8, .int .u64 s.win, .bool s.least, .int .u64 s.now, v, X 13, X 14, X 15, X 16, X 17, X 18, X 19, X 20, X 21, X 22, X 23, X 24, X 25] 76 (0, 0)) :: slc 151 2 v (encs encR s.l) :: R) := by
  obtain ⟨win, now, least, l⟩ := s
  have HH := Lib.hid H; clear H
  simp only at hw hus HH ⊢
  obtain ⟨A, n, cap, rfl, hnc, hcm, hit⟩ := HH.out.r2.slc_it encR_len (by decide)
  have hn := hit.1
  have hm : n ≤ 9223372036854775807 := by unfold maxLen at hcm; omega
  clear hnc hcm
  clear hit
  replace hus := Lib.hid hus
  replace hw := Lib.hid hw
  go_enter Tryz.func64, Tryz.ntmps64
  go_wp2_with (with_reducible refine stop_al ?_)
  refine Stop.go ?_
  refine wpList_alloc_own HH.out [.int .u64 0, .int .u64 0] (by kernel_rfl) ?_
  intro sb w9_ H9_
  replace HH := Lib.hid H9_
  clear H9_
  go_wp2_with (with_reducible refine stop_st ?_)
  refine Stop.go ?_
  refine wpList_store_own _ #[_, _] rfl rfl HH.out (by kernel_rfl) rfl (by repeat (first | (refine List.forall_mem_cons.2 ⟨(by first | with_reducible assumption | rfl), ?_⟩) | exact fun _ h => absurd h List.not_mem_nil)) ?_
  intro w10_ H9_
  replace HH := Lib.hid H9_
  clear H9_
  go_wp2_with fail
  go_loopw [6, 7] (fun so i wr => ∃ k : Nat, k ≤ n ∧ i = .int .i64 k ∧ so = .bool (refBest win now least (l.take k)).2 ∧ Own ε wr (pts sb (.cells #[.int .u64 (refBest win now least (l.take k)).1.1, .int .u64 (refBest win now least (l.take k)).1.2] 151 (0, 0)) :: pts b (.cells #[X 0, X 1, X 2, X 3, X 4, X 5, X 6, X 7, X 8, .int .u64 win, .bool least, .int .u64 now, .slice A n cap, X 13, X 14, X 15, X 16, X 17, X 18, X 19, X 20, X 21, X 22, X 23, X 24, X 25] 76 (0, 0)) :: slc 151 2 (.slice A n cap) (encs encR l) :: R)) (fun _ i _ => n - (intOf i).toNat)
  case atStart => exact ⟨0, Nat.zero_le _, rfl, rfl, HH.out⟩
  case round =>
    clear HH
    obtain ⟨k, hk, rfl, rfl, HR⟩ := hrel
    have HH := Lib.hid HR
    clear HR
    by_cases hlt : k < n
    · obtain ⟨g, off, r, rfl, hrk, hc⟩ := (slc_rdF encR_len (by decide) HH.out.r3).get hlt
      have hst := refBest_step (win := win) (now := now) (least := least) hrk
      have hUr := hus.out r (List.mem_of_getElem? hrk)
      have hcs : ∀ wx, Own ε wx (slc 151 2 (.slice (some ⟨g, off, none⟩) n cap) (encs encR l) :: R) → wx.cell? ⟨g, off + k * 2, none⟩ = some (.int .u64 r.1) ∧ wx.cell? ⟨g, off + k * 2 + 1, none⟩ = some (.int .u64 r.2) := fun wx Hx => by
        obtain ⟨g2, off2, b2, e, hb2, hc2⟩ := (slc_rdF encR_len (by decide) Hx).get hlt
        cases e
        rw [hrk] at hb2
        cases hb2
        exact ⟨hc2 0 _ rfl, hc2 1 _ rfl⟩
      generalize refBest win now least (l.take k) = acc at hst HH ⊢
      obtain ⟨⟨q1, q2⟩, so⟩ := acc
      obtain ⟨r1, r2⟩ := r
      simp only at hcs hUr HH ⊢
      unfold bestF at hst
      simp only at hst
      clear hrk hc
      replace hcs := Lib.hid hcs
      replace hUr := Lib.hid hUr
      by_cases hcc : now ≤ sadd r1 win
      · rw [if_neg (by omega)] at hst
        have hcd : decide (now ≤ sadd r1 win) = true := decide_eq_true hcc
        obtain ⟨y1, y2⟩ := hcs.out _ HH.out.tail.tail
        (try clear cc1_); (try clear cc2_); (try clear cc3_); (try clear cc4_); (try clear cc5_); (try clear cc6_); (try clear cc7_)
        have cc2_ := HH.out.r2.cells
        go_wp2_with fail
        refine (rfilECounts_c X ε _ _ b win now least _ hw.out (r1, r2) hUr.out.1 HH.out.r2).mono ?_
        rw [hcd]
        rintro e w11_ ⟨rfl, H9_⟩
        replace HH := Lib.hid H9_
        clear H9_
        clear hcd hcc y1 y2
        replace HH := Lib.hid ((Own.pm (HH.out) (by with_reducible repeat (first | exact .refl _ | exact .nil _ | refine .here ?_ | refine .at2 ?_ | refine .at3 ?_ | refine .at4 ?_ | refine .at5 ?_ | refine .at6 ?_ | refine .at7 ?_ | refine .at8 ?_ | refine .skip ?_))) : Own ε _ (pts sb _ :: pts b _ :: slc _ 2 (.slice (some ⟨g, off, none⟩) n cap) _ :: R))
        obtain ⟨y1, y2⟩ := hcs.out _ HH.out.tail.tail
        cases so
        case' false =>
          rw [if_pos (.inl rfl)] at hst
        case' true =>
          rcases Int.lt_trichotomy r2 q2 with h1 | rfl | h1
          case' inl =>
            have f1 : (r2 == q2) = false := by simp; omega
            have f2 : decide (r2 < q2) = true := decide_eq_true h1
            have f3 : (true = false ∨ aheadOf least q2 r2 = false) ↔ least = true := by unfold aheadOf; cases least <;> simp <;> omega
            simp only [f3] at hst
            clear f3
          case' inr.inl =>
            have f1 : (r2 == r2) = true := by simp
            have f3 : (true = false ∨ aheadOf least r2 r2 = false) := .inr (ahead_self _ _)
            rw [if_pos f3] at hst
            clear f3
          case' inr.inr =>
            have f1 : (r2 == q2) = false := by simp; omega
            have f2 : decide (r2 < q2) = false := decide_eq_false (by omega)
            have f3 : (true = false ∨ aheadOf least q2 r2 = false) ↔ least = false := by unfold aheadOf; cases least <;> simp <;> omega
            simp only [f3] at hst
            clear f3
        all_goals
          cases least
          all_goals
            first | rw [if_pos rfl] at hst | rw [if_neg Bool.noConfusion] at hst | skip
            replace hst := Lib.hid hst
            (try clear cc1_); (try clear cc2_); (try clear cc3_); (try clear cc4_); (try clear cc5_); (try clear cc6_); (try clear cc7_)
            have cc2_ := HH.out.r2.cells
            go_wp2_with fail
            (try clear cc1_); (try clear cc2_); (try clear cc3_); (try clear cc4_); (try clear cc5_); (try clear cc6_); (try clear cc7_)
            clear y1 y2
            go_wp2_with fail
            refine wp_region_reg none HH.out (by kernel_rfl) ?_
            intro wm H9_
            replace HH := Lib.hid H9_
            clear H9_
            refine reg_p (i := 0) rfl (by kernel_rfl) (fun _ _ _ _ h => h) HH.out (fun K hK => ?_)
            go_simp
            (first | refine hK _ ?_ | (apply Exists.intro; refine ⟨?_, hK _ ?_⟩; focus intro wx; first | (go_simp; rfl) | rfl)); clear hK K
            refine reg_p (i := 1) rfl (by kernel_rfl) (fun _ _ _ _ h => h) HH.out (fun K hK => ?_)
            go_simp
            (first | refine hK _ ?_ | (apply Exists.intro; refine ⟨?_, hK _ ?_⟩; focus intro wx; first | (go_simp; rfl) | rfl)); clear hK K
            refine reg_p (i := 2) rfl (by kernel_rfl) (fun _ _ _ _ h => h) HH.out (fun K hK => ?_)
            go_simp
            (first | refine hK _ ?_ | (apply Exists.intro; refine ⟨?_, hK _ ?_⟩; focus intro wx; first | (go_simp; rfl) | rfl)); clear hK K
            refine reg_p (i := 3) rfl (by kernel_rfl) (fun _ _ _ _ h => h) HH.out (fun K hK => ?_)
            go_simp
            (first | refine hK _ ?_ | (apply Exists.intro; refine ⟨?_, hK _ ?_⟩; focus intro wx; first | (go_simp; rfl) | rfl)); clear hK K
            refine reg_p (i := 4) rfl (by kernel_rfl) (fun _ _ _ _ h => h) HH.out (fun K hK => ?_)
            go_simp
            (first | refine hK _ ?_ | (apply Exists.intro; refine ⟨?_, hK _ ?_⟩; focus intro wx; first | (go_simp; rfl) | rfl)); clear hK K
            refine mixk_q (i := 5) rfl (by kernel_rfl) (fun _ _ _ _ h => h) HH.out (fun K hK => ?_)
            go_simp
            (first | refine hK _ ?_ | (apply Exists.intro; refine ⟨?_, hK _ ?_⟩; focus intro wx hx; have x1_ := hx.cells; have x2_ := hx.r2.cells; first | (go_simp; first | rfl | exact ⟨rfl, rfl⟩) | rfl | exact ⟨rfl, rfl⟩)); clear hK K
            refine reg_p (i := 6) rfl (by kernel_rfl) (fun _ _ _ _ h => h) HH.out (fun K hK => ?_)
            go_simp
            (first | refine hK _ ?_ | (apply Exists.intro; refine ⟨?_, hK _ ?_⟩; focus intro wx; first | (go_simp; rfl) | rfl)); clear hK K
            refine reg_p (i := 7) rfl (by kernel_rfl) (fun _ _ _ _ h => h) HH.out (fun K hK => ?_)
            go_simp
            (first | refine hK _ ?_ | (apply Exists.intro; refine ⟨?_, hK _ ?_⟩; focus intro wx; first | (go_simp; rfl) | rfl)); clear hK K
            refine reg_p (i := 8) rfl (by kernel_rfl) (fun _ _ _ _ h => h) HH.out (fun K hK => ?_)
            go_simp
            (first | refine hK _ ?_ | (apply Exists.intro; refine ⟨?_, hK _ ?_⟩; focus intro wx; first | (go_simp; rfl) | rfl)); clear hK K
            refine reg_p (i := 9) rfl (by kernel_rfl) (fun _ _ _ _ h => h) HH.out (fun K hK => ?_)
            go_simp
            (first | refine hK _ ?_ | (apply Exists.intro; refine ⟨?_, hK _ ?_⟩; focus intro wx; first | (go_simp; rfl) | rfl)); clear hK K
            refine reg_p (i := 10) rfl (by kernel_rfl) (fun _ _ _ _ h => h) HH.out (fun K hK => ?_)
            go_simp
            (first | refine hK _ ?_ | (apply Exists.intro; refine ⟨?_, hK _ ?_⟩; focus intro wx; first | (go_simp; rfl) | rfl)); clear hK K
            refine mixk_q (i := 11) rfl (by kernel_rfl) (fun _ _ _ _ h => h) HH.out (fun K hK => ?_)
            go_simp
            (first | refine hK _ ?_ | (apply Exists.intro; refine ⟨?_, hK _ ?_⟩; focus intro wx hx; have x1_ := hx.cells; have x2_ := hx.r2.cells; first | (go_simp; first | rfl | exact ⟨rfl, rfl⟩) | rfl | exact ⟨rfl, rfl⟩)); clear hK K
            refine reg_p (i := 12) rfl (by kernel_rfl) (fun _ _ _ _ h => h) HH.out (fun K hK => ?_)
            go_simp
            (first | refine hK _ ?_ | (apply Exists.intro; refine ⟨?_, hK _ ?_⟩; focus intro wx; first | (go_simp; rfl) | rfl)); clear hK K
            refine reg_p (i := 13) rfl (by kernel_rfl) (fun _ _ _ _ h => h) HH.out (fun K hK => ?_)
            go_simp
            (first | refine hK _ ?_ | (apply Exists.intro; refine ⟨?_, hK _ ?_⟩; focus intro wx; first | (go_simp; rfl) | rfl)); clear hK K
            refine reg_p (i := 14) rfl (by kernel_rfl) (fun _ _ _ _ h => h) HH.out (fun K hK => ?_)
            go_simp
            (first | refine hK _ ?_ | (apply Exists.intro; refine ⟨?_, hK _ ?_⟩; focus intro wx; first | (go_simp; rfl) | rfl)); clear hK K
            refine reg_p (i := 15) rfl (by kernel_rfl) (fun _ _ _ _ h => h) HH.out (fun K hK => ?_)
            go_simp
            (first | refine hK _ ?_ | (apply Exists.intro; refine ⟨?_, hK _ ?_⟩; focus intro wx; first | (go_simp; rfl) | rfl)); clear hK K
            refine mixk_q (i := 16) rfl (by kernel_rfl) (fun _ _ _ _ h => h) HH.out (fun K hK => ?_)
            go_simp
            (first | refine hK _ ?_ | (apply Exists.intro; refine ⟨?_, hK _ ?_⟩; focus intro wx hx; have x1_ := hx.cells; have x2_ := hx.r2.cells; first | (go_simp; first | rfl | exact ⟨rfl, rfl⟩) | rfl | exact ⟨rfl, rfl⟩)); clear hK K
            refine reg_p (i := 17) rfl (by kernel_rfl) (fun _ _ _ _ h => h) HH.out (fun K hK => ?_)
            go_simp
            (first | refine hK _ ?_ | (apply Exists.intro; refine ⟨?_, hK _ ?_⟩; focus intro wx; first | (go_simp; rfl) | rfl)); clear hK K
            refine reg_p (i := 18) rfl (by kernel_rfl) (fun _ _ _ _ h => h) HH.out (fun K hK => ?_)
            go_simp
            (first | refine hK _ ?_ | (apply Exists.intro; refine ⟨?_, hK _ ?_⟩; focus intro wx; first | (go_simp; rfl) | rfl)); clear hK K
            refine mixk_done (by kernel_rfl) (fun w12_ hk => ?_) _
            replace HH := Lib.hid (hk _ _ HH.out)
            clear hk
            try clear f1
            try clear f2
            obtain ⟨y1, y2⟩ := hcs.out _ HH.out.tail.tail
            (try clear cc1_); (try clear cc2_); (try clear cc3_); (try clear cc4_); (try clear cc5_); (try clear cc6_); (try clear cc7_)
            have cc2_ := HH.out.r2.cells
            go_wp2_with (with_reducible refine stop_st ?_)
            first
            | (go_roundw
               case rel => exact ⟨k + 1, by omega, by go_num, by rw [hst.out], by rw [hst.out]; exact HH.out⟩
               case measure => simp [intOf]; omega)
            | refine Stop.go ?_
        all_goals
          go_wp2_with (with_reducible refine stop_st ?_)
          refine Stop.go ?_
          refine wpList_store_own _ #[_, _] rfl rfl HH.out (by kernel_rfl) rfl (by repeat (first | (refine List.forall_mem_cons.2 ⟨(by first | with_reducible assumption | rfl), ?_⟩) | exact fun _ h => absurd h List.not_mem_nil)) ?_
          intro w13_ H9_
          replace HH := Lib.hid H9_
          clear H9_
          go_wp2_with fail
          go_roundw
          case rel => exact ⟨k + 1, by omega, by go_num, by rw [hst.out], by rw [hst.out]; exact HH.out⟩
          case measure => simp [intOf]; omega
      · rw [if_pos (by omega)] at hst
        have hcd : decide (now ≤ sadd r1 win) = false := decide_eq_false hcc
        obtain ⟨y1, y2⟩ := hcs.out _ HH.out.tail.tail
        replace hst := Lib.hid hst
        (try clear cc1_); (try clear cc2_); (try clear cc3_); (try clear cc4_); (try clear cc5_); (try clear cc6_); (try clear cc7_)
        have cc2_ := HH.out.r2.cells
        go_wp2_with fail
        refine (rfilECounts_c X ε _ _ b win now least _ hw.out (r1, r2) hUr.out.1 HH.out.r2).mono ?_
        rw [hcd]
        rintro e w14_ ⟨rfl, H9_⟩
        replace HH := Lib.hid H9_
        clear H9_
        clear hcd hcc y1 y2
        go_wp2_with fail
        go_roundw
        case rel => exact ⟨k + 1, by omega, by go_num, by rw [hst.out], by rw [hst.out]; exact (Own.pm (HH.out) (by with_reducible repeat (first | exact .refl _ | exact .nil _ | refine .here ?_ | refine .at2 ?_ | refine .at3 ?_ | refine .at4 ?_ | refine .at5 ?_ | refine .at6 ?_ | refine .at7 ?_ | refine .at8 ?_ | refine .skip ?_)))⟩
        case measure => simp [intOf]; omega
    · have hkn : k = n := by omega
      subst hkn
      rw [List.take_of_length_le (show l.length ≤ k by omega)] at HH ⊢
      (try clear cc1_); (try clear cc2_); (try clear cc3_); (try clear cc4_); (try clear cc5_); (try clear cc6_); (try clear cc7_)
      have cc2_ := HH.out.r2.cells
      go_wp2_with fail
      (try clear cc1_); (try clear cc2_); (try clear cc3_); (try clear cc4_); (try clear cc5_); (try clear cc6_); (try clear cc7_)
      go_wp2_with fail
      refine wp_region_reg none HH.out (by kernel_rfl) ?_
      intro wm H9_
      replace HH := Lib.hid H9_
      clear H9_
      refine reg_p (i := 0) rfl (by kernel_rfl) (fun _ _ _ _ h => h) HH.out (fun K hK => ?_)
      go_simp
      (first | refine hK _ ?_ | (apply Exists.intro; refine ⟨?_, hK _ ?_⟩; focus intro wx; first | (go_simp; rfl) | rfl)); clear hK K
      refine mixk_q (i := 1) rfl (by kernel_rfl) (fun _ _ _ _ h => h) HH.out (fun K hK => ?_)
      go_simp
      (first | refine hK _ ?_ | (apply Exists.intro; refine ⟨?_, hK _ ?_⟩; focus intro wx hx; have x1_ := hx.cells; first | (go_simp; first | rfl | exact ⟨rfl, rfl⟩) | rfl | exact ⟨rfl, rfl⟩)); clear hK K
      refine reg_p (i := 2) rfl (by kernel_rfl) (fun _ _ _ _ h => h) HH.out (fun K hK => ?_)
      go_simp
      (first | refine hK _ ?_ | (apply Exists.intro; refine ⟨?_, hK _ ?_⟩; focus intro wx; first | (go_simp; rfl) | rfl)); clear hK K
      refine mixk_q (i := 3) rfl (by kernel_rfl) (fun _ _ _ _ h => h) HH.out (fun K hK => ?_)
      go_simp
      (first | refine hK _ ?_ | (apply Exists.intro; refine ⟨?_, hK _ ?_⟩; focus intro wx hx; have x1_ := hx.cells; first | (go_simp; first | rfl | exact ⟨rfl, rfl⟩) | rfl | exact ⟨rfl, rfl⟩)); clear hK K
      refine reg_p (i := 4) rfl (by kernel_rfl) (fun _ _ _ _ h => h) HH.out (fun K hK => ?_)
      go_simp
      (first | refine hK _ ?_ | (apply Exists.intro; refine ⟨?_, hK _ ?_⟩; focus intro wx; first | (go_simp; rfl) | rfl)); clear hK K
      refine reg_p (i := 5) rfl (by kernel_rfl) (fun _ _ _ _ h => h) HH.out (fun K hK => ?_)
      go_simp
      (first | refine hK _ ?_ | (apply Exists.intro; refine ⟨?_, hK _ ?_⟩; focus intro wx; first | (go_simp; rfl) | rfl)); clear hK K
      refine reg_p (i := 6) rfl (by kernel_rfl) (fun _ _ _ _ h => h) HH.out (fun K hK => ?_)
      go_simp
      (first | refine hK _ ?_ | (apply Exists.intro; refine ⟨?_, hK _ ?_⟩; focus intro wx; first | (go_simp; rfl) | rfl)); clear hK K
      refine reg_p (i := 7) rfl (by kernel_rfl) (fun _ _ _ _ h => h) HH.out (fun K hK => ?_)
      go_simp
      (first | refine hK _ ?_ | (apply Exists.intro; refine ⟨?_, hK _ ?_⟩; focus intro wx; first | (go_simp; rfl) | rfl)); clear hK K
      refine mixk_done (by kernel_rfl) (fun w15_ hk => ?_) _
      replace HH := Lib.hid (hk _ _ HH.out)
      clear hk
      go_wp2_with fail
      go_ret3
      refine ⟨rfl, ?_⟩
      exact (Own.pm (HH.out) (by with_reducible repeat (first | exact .refl _ | exact .nil _ | refine .here ?_ | refine .at2 ?_ | refine .at3 ?_ | refine .at4 ?_ | refine .at5 ?_ | refine .at6 ?_ | refine .at7 ?_ | refine .at8 ?_ | refine .skip ?_)))
def rctrE (X : Nat → Value) (b : Nat) (s : Ctr) : Asn := pts b (.cells #[X 0, X 1, X 2, X 3, X 4, X 5, X 6, X 7, X 8, X 9, X 10, X 11, X 12, X 13, .int .u64 s.mark, .int .u64 s.n, X 16, X 17, X 18, X 19, X 20, X 21, X 22, X 23, X 24, X 25] 76 (0, 0))
def rpipE (X : Nat → Value) (b : Nat) (s : Pip) : Asn := pts b (.cells #[X 0, X 1, X 2, X 3, X 4, X 5, X 6, X 7, X 8, X 9, X 10, X 11, X 12, X 13, X 14, X 15, .int .u64 s.best, .int .i64 s.n, X 18, X 19, X 20, X 21, X 22, X 23, X 24, X 25] 76 (0, 0))
set_option maxHeartbeats 400000 in
theorem rctrEAck_c (s : Ctr) (x y : Int) (H : Own ε w (rctrE X b s :: R)) :
    Calls Tryz.prog 92 #[.pointer (some ⟨b, 14, none⟩), .int .u64 x, .int .u64 y] w fun e w' => e = .returned (.bool (s.ack x y).1) ∧ Own ε w' (rctrE X b (s.ack x y).2 :: R) := by
  obtain ⟨m, n⟩ := s
  have c0 := H.cells
  have HH := Lib.hid H; clear H
  by_cases h : x < m
  · rw [show (⟨m, n⟩ : Ctr).ack x y = (false, ⟨m, n⟩) by simp [Ctr.ack, h]]
    go_enter Tryz.func92, Tryz.ntmps92
    go_wp2_with fail
    go_ret
    exact ⟨rfl, HH.out⟩
  · rw [show (⟨m, n⟩ : Ctr).ack x y = (true, ⟨y, IntKind.u64.wrap (n + 1)⟩) by simp [Ctr.ack, h]]
    go_enter Tryz.func92, Tryz.ntmps92
    go_wp2_with fail
    go_ret
    exact ⟨rfl, (HH.out.set 14 (.int .u64 y)).set 15 (.int .u64 (IntKind.u64.wrap (n + 1)))⟩
set_option maxHeartbeats 800000 in
theorem rpipEPut_c (s : Pip) (x : Int) (r l : Bool) (hx : U x) (hs : s.Ok) (H : Own ε w (rpipE X b s :: R)) :
    Calls Tryz.prog 96 #[.pointer (some ⟨b, 16, none⟩), .int .u64 x, .bool r, .bool l] w fun e w' => e = .returned (.tuple #[]) ∧ Own ε w' (rpipE X b (s.put x r l) :: R) := by
  obtain ⟨m, n⟩ := s
  obtain ⟨hu, hn0, hn3⟩ := hs
  simp only at hu hn0 hn3
  have c0 := H.cells
  have HH := Lib.hid H; clear H
  by_cases h3 : 3 ≤ n
  · rw [show (⟨m, n⟩ : Pip).put x r l = ⟨m, n⟩ by simp [Pip.put, h3]]
    go_enter Tryz.func96, Tryz.ntmps96
    go_wp2_with fail
    first | go_end0 | ((try simp only [Exit.inBlock, Exit.then]); refine bodyPost_ret (results_none rfl _ _ _) rfl ?_)
    exact ⟨rfl, HH.out⟩
  cases r
  · rw [show (⟨m, n⟩ : Pip).put x false l = ⟨m, n⟩ by simp [Pip.put]]
    go_enter Tryz.func96, Tryz.ntmps96
    go_wp2_with fail
    first | go_end0 | ((try simp only [Exit.inBlock, Exit.then]); refine bodyPost_ret (results_none rfl _ _ _) rfl ?_)
    exact ⟨rfl, HH.out⟩
  cases l
  · have k4 := fun w => refMul_c w x 4 hx ⟨by decide, by decide⟩
    have k5 := fun w => refMul_c w m 5 hu ⟨by decide, by decide⟩
    by_cases hg : smul m 5 ≤ smul x 4
    · rw [show (⟨m, n⟩ : Pip).put x true false = ⟨x, 0⟩ by unfold Pip.put; rw [if_neg (by rintro (q | q | q); exact h3 q; cases q; cases q)]; first | rw [if_pos hg] | rw [if_neg hg]]
      go_enter Tryz.func96, Tryz.ntmps96
      go_wp2_with fail
      go_quiet ((go_at_call 95; first | (with_reducible exact quiet_c (k4 _)) | (with_reducible exact quiet_c (k5 _))))
      go_wp2_with fail
      first | go_end0 | ((try simp only [Exit.inBlock, Exit.then]); refine bodyPost_ret (results_none rfl _ _ _) rfl ?_)
      exact ⟨rfl, ((HH.out.drewN _).set 16 (.int .u64 x)).set 17 (.int .i64 0)⟩
    · rw [show (⟨m, n⟩ : Pip).put x true false = ⟨m, n + 1⟩ by unfold Pip.put; rw [if_neg (by rintro (q | q | q); exact h3 q; cases q; cases q)]; first | rw [if_pos hg] | rw [if_neg hg]]
      go_enter Tryz.func96, Tryz.ntmps96
      go_wp2_with fail
      go_quiet ((go_at_call 95; first | (with_reducible exact quiet_c (k4 _)) | (with_reducible exact quiet_c (k5 _))))
      go_wp2_with fail
      first | go_end0 | ((try simp only [Exit.inBlock, Exit.then]); refine bodyPost_ret (results_none rfl _ _ _) rfl ?_)
      exact ⟨rfl, (HH.out.drewN _).set 17 (.int .i64 (n + 1))⟩
  · rw [show (⟨m, n⟩ : Pip).put x true true = ⟨m, n⟩ by simp [Pip.put]]
    go_enter Tryz.func96, Tryz.ntmps96
    go_wp2_with fail
    first | go_end0 | ((try simp only [Exit.inBlock, Exit.then]); refine bodyPost_ret (results_none rfl _ _ _) rfl ?_)
    exact ⟨rfl, HH.out⟩
end
end Go.Proofs.YtpfbbpiidhhkbaaGreat
