/- filt: the best of a window. -/
import Derived.Test.YtpfbbpiidhhkbaaGreatFiltD
import Derived.Test.YtpfbbpiidhhkbaaGreatFix
import Derived.Deep.LoopGhost
namespace Go.Proofs.YtpfbbpiidhhkbaaGreat
open Go.RowKit
def fil (b : Nat) (s : Fil) : Asn := exA fun rb : Nat => sep (pts b (.cells #[.pointer (some ⟨rb, 0, none⟩), .int .u64 s.win, .int .u64 s.now, .bool s.least] 108 (0, 0))) (rgRing rb (s.l.map encR))
section
variable (ε w : World) (R : List Asn) (b : Nat)
theorem Own.fil_open {s : Fil} (H : Own ε w (fil b s :: R)) : ∃ rb, Own ε w (pts b (.cells #[.pointer (some ⟨rb, 0, none⟩), .int .u64 s.win, .int .u64 s.now, .bool s.least] 108 (0, 0)) :: rgRing rb (s.l.map encR) :: R) := by
  obtain ⟨rb, H⟩ := H.ex
  exact ⟨rb, H.split⟩
theorem Own.fil_mk {s : Fil} {rb : Nat} (H : Own ε w (pts b (.cells #[.pointer (some ⟨rb, 0, none⟩), .int .u64 s.win, .int .u64 s.now, .bool s.least] 108 (0, 0)) :: rgRing rb (s.l.map encR) :: R)) : Own ε w (fil b s :: R) := Own.ex_mk rb H.join
theorem filMost_c (win : Int) (H : Own ε w R) :
    Calls Tryz.prog 58 #[.int .u64 win] w fun e w' => ∃ b, e = .returned (.pointer (some ⟨b, 0, none⟩)) ∧ Own ε w' (fil b ⟨win, 0, false, []⟩ :: R) := by
  have HH := Lib.hid H; clear H
  go_enter Tryz.func58, Tryz.ntmps58
  go_wp2_with fail
  refine (rgNew_c ε w _ HH.out).mono ?_
  rintro e w2 ⟨rb, rfl, H2⟩
  replace H2 := Lib.hid H2
  go_wp2_with (with_reducible first | refine stop_bs ?_ | refine stop_bx ?_ | refine stop_al ?_ | refine stop_ms ?_ | refine stop_app ?_ | refine stop_copy ?_)
  refine Stop.go ?_
  go_step
  go_simp
  have H3 := Lib.hid (H2.out.alloc (.cells #[.pointer (some ⟨rb, 0, none⟩), .int .u64 win, .int .u64 0, .bool false] 108))
  generalize w2.alloc (.cells #[.pointer (some ⟨rb, 0, none⟩), .int .u64 win, .int .u64 0, .bool false] 108) = w3 at *
  generalize w2.heap.size = b at *
  go_wp2_with fail
  go_ret
  exact ⟨_, rfl, Own.fil_mk ε w3 R b H3.out⟩
theorem filLeast_c (win : Int) (H : Own ε w R) :
    Calls Tryz.prog 21 #[.int .u64 win] w fun e w' => ∃ b, e = .returned (.pointer (some ⟨b, 0, none⟩)) ∧ Own ε w' (fil b ⟨win, 0, true, []⟩ :: R) := by
  have HH := Lib.hid H; clear H
  go_enter Tryz.func21, Tryz.ntmps21
  go_wp2_with fail
  refine (filMost_c ε w _ win HH.out).mono ?_
  rintro e w2 ⟨b, rfl, H2⟩
  replace H2 := Lib.hid H2
  obtain ⟨rb, H3⟩ := H2.out.fil_open
  replace H3 := Lib.hid H3
  have k0 := H3.out.cells
  clear H2
  go_wp2_with fail
  go_ret
  exact ⟨_, rfl, Own.fil_mk ε _ R b (H3.out.set 3 (.bool true))⟩
set_option maxHeartbeats 3200000 in
theorem filTo_c (s : Fil) (t : Int) (hs : s.Ok) (H : Own ε w (fil b s :: R)) :
    Calls Tryz.prog 34 #[.pointer (some ⟨b, 0, none⟩), .int .u64 t] w fun e w' => e = .returned (.int .i64 (s.to t).1) ∧ Own ε w' (fil b (s.to t).2 :: R) := by
  obtain ⟨win, now, least, l⟩ := s
  obtain ⟨hU1, hU2, hU3⟩ := hs
  simp only at hU1 hU2 hU3
  obtain ⟨rb, H⟩ := H.fil_open
  have k0 := H.cells
  have HH := Lib.hid H; clear H
  by_cases hlt : t < now
  · rw [show (⟨win, now, least, l⟩ : Fil).to t = (2, ⟨win, now, least, l⟩) from if_pos hlt]
    go_enter Tryz.func34, Tryz.ntmps34
    go_wp2_with fail
    go_ret
    exact ⟨rfl, Own.fil_mk ε w R b HH.out⟩
  · rw [show (⟨win, now, least, l⟩ : Fil).to t = (0, ⟨win, t, least, Fil.old win t l⟩) from if_neg hlt]
    go_enter Tryz.func34, Tryz.ntmps34
    go_wp2_with (with_reducible refine stop_st ?_)
    refine Stop.go ?_
    go_step
    go_simp
    have H2 := Lib.hid (HH.out.set 2 (.int .u64 t))
    generalize w.setCell ⟨b, 2, none⟩ (.int .u64 t) = w2 at *
    clear k0
    replace hU3 := Lib.hid hU3
    go_wp2_with fail
    go_loopg [] l.length (fun k wr => ∃ l' : List (Int × Int), l'.length = k ∧ (∀ r ∈ l', U r.1 ∧ U r.2) ∧ Fil.old win t l' = Fil.old win t l ∧ Own ε wr (pts b (.cells #[.pointer (some ⟨rb, 0, none⟩), .int .u64 win, .int .u64 t, .bool least] 108 (0, 0)) :: rgRing rb (l'.map encR) :: R))
    case atStart => exact ⟨l, rfl, hU3.out, rfl, H2.out⟩
    case round =>
      obtain ⟨l', hk, hUl, hold, HR⟩ := hrel
      replace HR := Lib.hid HR
      replace hold := Lib.hid hold
      replace hk := Lib.hid hk
      have k0 := HR.out.cells
      cases l' with
      | nil =>
        have c1 := rgAt_c ε wr _ rb [] 0 HR.out.r2
        rw [show atC [.int .u64 0, .int .u64 0] [] 0 = ([.int .u64 0, .int .u64 0], false) by simp [atC]] at c1
        go_wp2_with fail
        refine (c1).mono ?_
        rintro e w3 ⟨rfl, H3⟩
        replace H3 := Lib.hid H3
        clear c1 k0
        go_wp2_with (with_reducible first | refine stop_bs ?_ | refine stop_bx ?_ | refine stop_al ?_ | refine stop_ms ?_ | refine stop_app ?_ | refine stop_copy ?_)
        refine Stop.go ?_
        go_step
        go_simp
        have H4 := Lib.hid (H3.out.alloc (.cells #[.int .u64 0, .int .u64 0] 123))
        generalize w3.alloc (.cells #[.int .u64 0, .int .u64 0] 123) = w4 at *
        generalize w3.heap.size = bx at *
        have k1 := H4.out.cells
        go_wp2_with (with_reducible refine stop_st ?_)
        refine Stop.go ?_
        go_step
        go_simp
        have H5 := Lib.hid ((show Own _ ((w4.setCell ⟨bx, 0, none⟩ (.int .u64 0)).setCell ⟨bx, 1, none⟩ (.int .u64 0)) _ from Own.slc_setsB H4.out [.int .u64 0, .int .u64 0]))
        generalize ((w4.setCell ⟨bx, 0, none⟩ (.int .u64 0)).setCell ⟨bx, 1, none⟩ (.int .u64 0)) = w5 at *
        clear k1
        go_wp2_with fail
        go_quiet (fail)
        replace H5 := Lib.hid (H5.out.drewN nq)
        go_wp2_with fail
        go_ret
        have e0 := hold.out
        rw [show Fil.old win t [] = [] from rfl] at e0
        refine ⟨rfl, Own.fil_mk ε _ R b (rb := rb) ?_⟩
        rw [← e0]
        exact H5.out.tail.r2
      | cons r l'' =>
        obtain ⟨r1, r2⟩ := r
        have hUr := hUl (r1, r2) (by simp)
        simp only at hUr
        have hUl2 : ∀ r ∈ l'', U r.1 ∧ U r.2 := fun r hr => hUl r (by simp [hr])
        clear hUl
        have c1 := rgAt_c ε wr _ rb (((r1, r2) :: l'').map encR) 0 HR.out.r2
        rw [show atC [.int .u64 0, .int .u64 0] (((r1, r2) :: l'').map encR) 0 = ([.int .u64 r1, .int .u64 r2], true) by rw [show (0 : Int) = ((0 : Nat) : Int) from rfl, atC_in (by simp)]; rfl] at c1
        go_wp2_with fail
        refine (c1).mono ?_
        rintro e w3 ⟨rfl, H3⟩
        replace H3 := Lib.hid H3
        clear c1 k0
        go_wp2_with (with_reducible first | refine stop_bs ?_ | refine stop_bx ?_ | refine stop_al ?_ | refine stop_ms ?_ | refine stop_app ?_ | refine stop_copy ?_)
        refine Stop.go ?_
        go_step
        go_simp
        have H4 := Lib.hid (H3.out.alloc (.cells #[.int .u64 0, .int .u64 0] 123))
        generalize w3.alloc (.cells #[.int .u64 0, .int .u64 0] 123) = w4 at *
        generalize w3.heap.size = bx at *
        have k1 := H4.out.cells
        go_wp2_with (with_reducible refine stop_st ?_)
        refine Stop.go ?_
        go_step
        go_simp
        have H5 := Lib.hid ((show Own _ ((w4.setCell ⟨bx, 0, none⟩ (.int .u64 r1)).setCell ⟨bx, 1, none⟩ (.int .u64 r2)) _ from Own.slc_setsB H4.out [.int .u64 r1, .int .u64 r2]))
        generalize ((w4.setCell ⟨bx, 0, none⟩ (.int .u64 r1)).setCell ⟨bx, 1, none⟩ (.int .u64 r2)) = w5 at *
        clear k1 H3 H4
        replace hUl2 := Lib.hid hUl2
        rcases Int.lt_or_le (sadd r1 win) t with hold2 | hold2
        · have e9 : Fil.old win t ((r1, r2) :: l'') = Fil.old win t l'' := by rw [Fil.old_cons, if_pos hold2]
          replace e9 := Lib.hid e9
          go_wp2_with fail
          refine wp_region_mix (fun w' => w'.cell? ⟨bx, 0, none⟩ = some (.int .u64 r1) ∧ w'.cell? ⟨b, 1, none⟩ = some (.int .u64 win)) none (by kernel_rfl) ?_
          change wpMix _ _ _ _ _ _ _ _ _ w5.drew
          replace H5 := Lib.hid H5.out.drew
          generalize w5.drew = w6 at *
          have HS : (fun w' : World => w'.cell? ⟨bx, 0, none⟩ = some (.int .u64 r1) ∧ w'.cell? ⟨b, 1, none⟩ = some (.int .u64 win)) w6 := ⟨H5.out.cells.1 0, H5.out.r3.cells.1 1⟩
          refine mix_q (i := 0) rfl (by kernel_rfl) (fun _ _ _ _ h => h) HS (fun K hK => ?_)
          go_simp
          (first | refine hK _ ?_ | (apply Exists.intro; refine ⟨?_, hK _ ?_⟩; focus intros; first | rfl | exact ⟨rfl, rfl⟩ | (go_simp; first | rfl | exact ⟨rfl, rfl⟩))); clear hK K
          refine mix_q (i := 1) rfl (by kernel_rfl) (fun _ _ _ _ h => h) HS (fun K hK => ?_)
          go_simp
          (first | refine hK _ ?_ | (apply Exists.intro; refine ⟨?_, hK _ ?_⟩; focus intros; first | rfl | exact ⟨rfl, rfl⟩ | (go_simp; first | rfl | exact ⟨rfl, rfl⟩))); clear hK K
          refine mix_q (i := 2) rfl (by kernel_rfl) (fun _ _ _ _ h => h) HS (fun K hK => ?_)
          go_simp
          (first | refine hK _ ?_ | (apply Exists.intro; refine ⟨?_, hK _ ?_⟩; focus intros; first | rfl | exact ⟨rfl, rfl⟩ | (go_simp; first | rfl | exact ⟨rfl, rfl⟩))); clear hK K
          refine mix_q (i := 3) rfl (by kernel_rfl) (fun _ _ _ _ h => h) HS (fun K hK => ?_)
          go_simp
          (first | refine hK _ ?_ | (apply Exists.intro; refine ⟨?_, hK _ ?_⟩; focus intros; first | rfl | exact ⟨rfl, rfl⟩ | (go_simp; first | rfl | exact ⟨rfl, rfl⟩))); clear hK K
          refine mix_q (i := 4) rfl (by kernel_rfl) (fun _ _ _ _ h => h) HS (fun K hK => ?_)
          go_simp
          (first | refine hK _ ?_ | (apply Exists.intro; refine ⟨?_, hK _ ?_⟩; focus intros; first | rfl | exact ⟨rfl, rfl⟩ | (go_simp; first | rfl | exact ⟨rfl, rfl⟩))); clear hK K
          refine mix_q (i := 5) rfl (by kernel_rfl) (fun _ _ _ _ h => h) HS (fun K hK => ?_)
          go_simp
          (first | refine hK _ ?_ | (apply Exists.intro; refine ⟨?_, hK _ ?_⟩; focus intros; first | rfl | exact ⟨rfl, rfl⟩ | (go_simp; first | rfl | exact ⟨rfl, rfl⟩))); clear hK K
          refine mix_q (i := 6) rfl (by kernel_rfl) (fun _ _ _ _ h => h) HS (fun K hK => ?_)
          go_simp
          (first | refine hK _ ?_ | (apply Exists.intro; refine ⟨?_, hK _ ?_⟩; focus intros; first | rfl | exact ⟨rfl, rfl⟩ | (go_simp; first | rfl | exact ⟨rfl, rfl⟩))); clear hK K
          refine mix_q (i := 7) rfl (by kernel_rfl) (fun _ _ _ _ h => h) HS (fun K hK => ?_)
          go_simp
          (first | refine hK _ ?_ | (apply Exists.intro; refine ⟨?_, hK _ ?_⟩; focus intros; first | rfl | exact ⟨rfl, rfl⟩ | (go_simp; first | rfl | exact ⟨rfl, rfl⟩))); clear hK K
          refine mix_q (i := 8) rfl (by kernel_rfl) (fun _ _ _ _ h => h) HS (fun K hK => ?_)
          go_simp
          (first | refine hK _ ?_ | (apply Exists.intro; refine ⟨?_, hK _ ?_⟩; focus intros; first | rfl | exact ⟨rfl, rfl⟩ | (go_simp; first | rfl | exact ⟨rfl, rfl⟩))); clear hK K
          refine mix_q (i := 11) rfl (by kernel_rfl) (fun _ _ _ _ h => h) HS (fun K hK => ?_)
          go_simp
          (first | refine hK _ ?_ | (apply Exists.intro; refine ⟨?_, hK _ ?_⟩; focus intros; first | rfl | exact ⟨rfl, rfl⟩ | (go_simp; first | rfl | exact ⟨rfl, rfl⟩))); clear hK K
          refine mix_l (i := 9) rfl (by kernel_rfl) (fun K hK => ?_)
          go_simp
          have H7 := Lib.hid (H5.out.alloc (.cells #[.int .u64 r1, .int .u64 win] 22))
          generalize w6.alloc (.cells #[.int .u64 r1, .int .u64 win] 22) = w7 at *
          generalize w6.heap.size = sb at *
          clear HS
          have HS : (fun w' : World => w'.cell? ⟨bx, 0, none⟩ = some (.int .u64 r1) ∧ w'.cell? ⟨b, 1, none⟩ = some (.int .u64 win)) w7 := ⟨H7.out.r2.cells.1 0, H7.out.r4.cells.1 1⟩
          refine hK _ _ HS ?_
          clear hK K
          obtain ⟨c1, _⟩ := H7.out.cells
          refine mix_l (i := 10) rfl (by kernel_rfl) (fun K hK => ?_)
          go_simp
          refine (fixAdd2_c _ _ r1 win hUr.1 hU1 (c1 0) (c1 1)).mono ?_
          rintro e w' ⟨rfl, rfl⟩
          refine hK _ _ HS ?_
          clear hK K
          refine mix_q (i := 12) rfl (by kernel_rfl) (fun _ _ _ _ h => h) HS (fun K hK => ?_)
          go_simp
          (first | refine hK _ ?_ | (apply Exists.intro; refine ⟨?_, hK _ ?_⟩; focus intros; first | rfl | exact ⟨rfl, rfl⟩ | (go_simp; first | rfl | exact ⟨rfl, rfl⟩))); clear hK K
          refine mix_q (i := 13) rfl (by kernel_rfl) (fun _ _ _ _ h => h) HS (fun K hK => ?_)
          go_simp
          (first | refine hK _ ?_ | (apply Exists.intro; refine ⟨?_, hK _ ?_⟩; focus intros; first | rfl | exact ⟨rfl, rfl⟩ | (go_simp; first | rfl | exact ⟨rfl, rfl⟩))); clear hK K
          refine mix_done (by kernel_rfl) ?_ _
          clear HS
          clear c1
          have k0 := H7.out.r4.cells
          have c1 := rgShift_c ε w7 _ rb (((r1, r2) :: l'').map encR) H7.out.r3
          rw [show atC [.int .u64 0, .int .u64 0] (((r1, r2) :: l'').map encR) 0 = ([.int .u64 r1, .int .u64 r2], true) by rw [show (0 : Int) = ((0 : Nat) : Int) from rfl, atC_in (by simp)]; rfl] at c1
          go_wp2_with fail
          refine (c1).mono ?_
          rintro e w8 ⟨rfl, H8⟩
          replace H8 := Lib.hid H8
          clear c1 k0
          go_wp2_with fail
          go_roundg l''.length
          case measure => have := hk.out; simp at this; omega
          case rel => exact ⟨l'', rfl, hUl2.out, by rw [← hold.out, e9.out], H8.out.r2.tail.r2.tail.r2⟩
        · have e9 : Fil.old win t ((r1, r2) :: l'') = (r1, r2) :: l'' := by rw [Fil.old_cons, if_neg (by simp only; omega)]
          replace e9 := Lib.hid e9
          go_wp2_with fail
          refine wp_region_mix (fun w' => w'.cell? ⟨bx, 0, none⟩ = some (.int .u64 r1) ∧ w'.cell? ⟨b, 1, none⟩ = some (.int .u64 win)) none (by kernel_rfl) ?_
          change wpMix _ _ _ _ _ _ _ _ _ w5.drew
          replace H5 := Lib.hid H5.out.drew
          generalize w5.drew = w6 at *
          have HS : (fun w' : World => w'.cell? ⟨bx, 0, none⟩ = some (.int .u64 r1) ∧ w'.cell? ⟨b, 1, none⟩ = some (.int .u64 win)) w6 := ⟨H5.out.cells.1 0, H5.out.r3.cells.1 1⟩
          refine mix_q (i := 0) rfl (by kernel_rfl) (fun _ _ _ _ h => h) HS (fun K hK => ?_)
          go_simp
          (first | refine hK _ ?_ | (apply Exists.intro; refine ⟨?_, hK _ ?_⟩; focus intros; first | rfl | exact ⟨rfl, rfl⟩ | (go_simp; first | rfl | exact ⟨rfl, rfl⟩))); clear hK K
          refine mix_q (i := 1) rfl (by kernel_rfl) (fun _ _ _ _ h => h) HS (fun K hK => ?_)
          go_simp
          (first | refine hK _ ?_ | (apply Exists.intro; refine ⟨?_, hK _ ?_⟩; focus intros; first | rfl | exact ⟨rfl, rfl⟩ | (go_simp; first | rfl | exact ⟨rfl, rfl⟩))); clear hK K
          refine mix_q (i := 2) rfl (by kernel_rfl) (fun _ _ _ _ h => h) HS (fun K hK => ?_)
          go_simp
          (first | refine hK _ ?_ | (apply Exists.intro; refine ⟨?_, hK _ ?_⟩; focus intros; first | rfl | exact ⟨rfl, rfl⟩ | (go_simp; first | rfl | exact ⟨rfl, rfl⟩))); clear hK K
          refine mix_q (i := 3) rfl (by kernel_rfl) (fun _ _ _ _ h => h) HS (fun K hK => ?_)
          go_simp
          (first | refine hK _ ?_ | (apply Exists.intro; refine ⟨?_, hK _ ?_⟩; focus intros; first | rfl | exact ⟨rfl, rfl⟩ | (go_simp; first | rfl | exact ⟨rfl, rfl⟩))); clear hK K
          refine mix_q (i := 4) rfl (by kernel_rfl) (fun _ _ _ _ h => h) HS (fun K hK => ?_)
          go_simp
          (first | refine hK _ ?_ | (apply Exists.intro; refine ⟨?_, hK _ ?_⟩; focus intros; first | rfl | exact ⟨rfl, rfl⟩ | (go_simp; first | rfl | exact ⟨rfl, rfl⟩))); clear hK K
          refine mix_q (i := 5) rfl (by kernel_rfl) (fun _ _ _ _ h => h) HS (fun K hK => ?_)
          go_simp
          (first | refine hK _ ?_ | (apply Exists.intro; refine ⟨?_, hK _ ?_⟩; focus intros; first | rfl | exact ⟨rfl, rfl⟩ | (go_simp; first | rfl | exact ⟨rfl, rfl⟩))); clear hK K
          refine mix_q (i := 6) rfl (by kernel_rfl) (fun _ _ _ _ h => h) HS (fun K hK => ?_)
          go_simp
          (first | refine hK _ ?_ | (apply Exists.intro; refine ⟨?_, hK _ ?_⟩; focus intros; first | rfl | exact ⟨rfl, rfl⟩ | (go_simp; first | rfl | exact ⟨rfl, rfl⟩))); clear hK K
          refine mix_q (i := 7) rfl (by kernel_rfl) (fun _ _ _ _ h => h) HS (fun K hK => ?_)
          go_simp
          (first | refine hK _ ?_ | (apply Exists.intro; refine ⟨?_, hK _ ?_⟩; focus intros; first | rfl | exact ⟨rfl, rfl⟩ | (go_simp; first | rfl | exact ⟨rfl, rfl⟩))); clear hK K
          refine mix_q (i := 8) rfl (by kernel_rfl) (fun _ _ _ _ h => h) HS (fun K hK => ?_)
          go_simp
          (first | refine hK _ ?_ | (apply Exists.intro; refine ⟨?_, hK _ ?_⟩; focus intros; first | rfl | exact ⟨rfl, rfl⟩ | (go_simp; first | rfl | exact ⟨rfl, rfl⟩))); clear hK K
          refine mix_q (i := 11) rfl (by kernel_rfl) (fun _ _ _ _ h => h) HS (fun K hK => ?_)
          go_simp
          (first | refine hK _ ?_ | (apply Exists.intro; refine ⟨?_, hK _ ?_⟩; focus intros; first | rfl | exact ⟨rfl, rfl⟩ | (go_simp; first | rfl | exact ⟨rfl, rfl⟩))); clear hK K
          refine mix_l (i := 9) rfl (by kernel_rfl) (fun K hK => ?_)
          go_simp
          have H7 := Lib.hid (H5.out.alloc (.cells #[.int .u64 r1, .int .u64 win] 22))
          generalize w6.alloc (.cells #[.int .u64 r1, .int .u64 win] 22) = w7 at *
          generalize w6.heap.size = sb at *
          clear HS
          have HS : (fun w' : World => w'.cell? ⟨bx, 0, none⟩ = some (.int .u64 r1) ∧ w'.cell? ⟨b, 1, none⟩ = some (.int .u64 win)) w7 := ⟨H7.out.r2.cells.1 0, H7.out.r4.cells.1 1⟩
          refine hK _ _ HS ?_
          clear hK K
          obtain ⟨c1, _⟩ := H7.out.cells
          refine mix_l (i := 10) rfl (by kernel_rfl) (fun K hK => ?_)
          go_simp
          refine (fixAdd2_c _ _ r1 win hUr.1 hU1 (c1 0) (c1 1)).mono ?_
          rintro e w' ⟨rfl, rfl⟩
          refine hK _ _ HS ?_
          clear hK K
          refine mix_q (i := 12) rfl (by kernel_rfl) (fun _ _ _ _ h => h) HS (fun K hK => ?_)
          go_simp
          (first | refine hK _ ?_ | (apply Exists.intro; refine ⟨?_, hK _ ?_⟩; focus intros; first | rfl | exact ⟨rfl, rfl⟩ | (go_simp; first | rfl | exact ⟨rfl, rfl⟩))); clear hK K
          refine mix_q (i := 13) rfl (by kernel_rfl) (fun _ _ _ _ h => h) HS (fun K hK => ?_)
          go_simp
          (first | refine hK _ ?_ | (apply Exists.intro; refine ⟨?_, hK _ ?_⟩; focus intros; first | rfl | exact ⟨rfl, rfl⟩ | (go_simp; first | rfl | exact ⟨rfl, rfl⟩))); clear hK K
          refine mix_done (by kernel_rfl) ?_ _
          clear HS
          clear c1
          go_wp2_with fail
          go_ret
          refine ⟨rfl, Own.fil_mk ε _ R b (rb := rb) ?_⟩
          rw [← hold.out, e9.out]
          exact H7.out.tail.tail.r2
end
end Go.Proofs.YtpfbbpiidhhkbaaGreat
