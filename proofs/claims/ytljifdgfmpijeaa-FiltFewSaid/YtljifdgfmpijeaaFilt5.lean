/- filt: FiltFew. -/
import Derived.Test.YtljifdgfmpijeaaFilt4
namespace Go.Proofs.Ytljifdgfmpijeaa
open Go.RowKit
section
variable (w : World)
/-- What a round of the law leaves. -/
def FewRel (b : Nat) (win : Int) (least : Bool) (w : World) (v : Value) (k : Nat) (wr : World) : Prop := ∃ (s : Fil) (all : List (Int × Int)), s.win = win ∧ s.least = least ∧ s.Ok ∧ FInv win s.now least all s.l ∧ s.l.length ≤ k ∧ all.length ≤ k ∧ (∀ r ∈ all, U r.1 ∧ U r.2) ∧ Own w wr (fil b s :: slc 34 2 v (encs encR all) :: [old w])
set_option maxRecDepth 100000 in
set_option maxHeartbeats 12800000 in
theorem filtFew_c (win : Int) (hw0 : (Lit.int .u64 win).wf = true) (least : Bool) (A : Option Addr) (len cap : Nat) (xs : List ActF) (hr : rdSlice rdActF 3 w [.slice A len cap] xs) :
    Calls Try.prog 3 #[.int .u64 win, .bool least, .slice A len cap] w fun e w' => e = .returned (.bool true) ∧ Own w w' [old w] := by
  have HH := Lib.hid (Own.init w)
  have hwin := Lib.hid (U_of_wf hw0)
  clear hw0
  obtain ⟨hlen, hm, hx⟩ := rdSlice_cases hr
  clear hr
  by_cases hbig : 150 < len
  · go_enter Try.func3, Try.ntmps3
    go_wp2_with fail
    refine (alive05_k _).mono ?_
    rintro e w1_ ⟨rfl, hbel⟩
    replace HH := Lib.hid ((by first | exact Kp.same hbel | exact Kp.drew hbel | exact Kp.below hbel : Kp _ w1_) _ _ (by first | exact HH.out | exact HH.out.drewN _ | exact (HH.out.alloc _).tail | exact ((HH.out.alloc _).drewN _).tail | exact ((HH.out.alloc _).alloc _).tail.tail))
    clear hbel
    go_wp2_with fail
    go_ret
    exact ⟨rfl, HH.out⟩
  have hacts : ∀ k, k < len → ∃ ab off pu t x, A = some ⟨ab, off, none⟩ ∧ U t ∧ U x ∧ w.cell? ⟨ab, off + k * 3, none⟩ = some (.bool pu) ∧ w.cell? ⟨ab, off + k * 3 + 1, none⟩ = some (.int .u64 t) ∧ w.cell? ⟨ab, off + k * 3 + 2, none⟩ = some (.int .u64 x) := by
    intro k hk
    rcases hx with hz | ⟨ab, off, rfl, hx⟩
    · omega
    · obtain ⟨c, _, hcell, hR⟩ := hx k (by omega)
      obtain ⟨rfl, h1, h2⟩ := rdActF_open hR
      exact ⟨ab, off, _, _, _, rfl, h1, h2, hcell 0 _ rfl, hcell 1 _ rfl, hcell 2 _ rfl⟩
  clear hx
  replace hacts := Lib.hid hacts
  replace hlen := Lib.hid hlen
  have hbig2 : len ≤ 150 := by omega
  go_enter Try.func3, Try.ntmps3
  go_wp2_with fail
  refine (of05_c w _ _ win least HH.out).mono ?_
  rintro e w2_ ⟨b, rfl, H9_⟩
  replace HH := Lib.hid H9_
  clear H9_
  have H9 : Own w _ (slc 34 2 (.slice none 0 0) (encs encR []) :: fil b ⟨win, 0, least, []⟩ :: [old w]) := HH.out.slc_none
  replace HH := Lib.hid H9.r2
  clear H9
  go_wp2_with fail
  go_loopw [8, 9] (fun v i wr => ∃ k : Nat, k ≤ len ∧ i = .int .i64 k ∧ FewRel b win least w v k wr) (fun _ i _ => len - (intOf i).toNat)
  case atStart => exact ⟨0, Nat.zero_le _, rfl, ⟨win, 0, least, []⟩, [], rfl, rfl, ⟨hwin.out, U_zero, by simp⟩, FInv.zero _ _, Nat.le_refl _, Nat.le_refl _, by simp, HH.out⟩
  case round =>
    clear HH
    obtain ⟨k, hk, rfl, ⟨sw, now, sl, row⟩, all, rfl, rfl, hs, hF, hrow, hall, hUa, HR⟩ := hrel
    simp only at hF hrow
    have HH := Lib.hid HR
    clear HR
    replace hs := Lib.hid hs
    replace hF := Lib.hid hF
    replace hUa := Lib.hid hUa
    by_cases hlt : k < len
    · obtain ⟨ab, off, pu, t, x, rfl, ht, hx, c0, c1, c2⟩ := hacts.out k hlt
      have o0 := ((Own.pm (HH.out) (by repeat (first | with_reducible exact Pm.refl _ | with_reducible exact Pm.nil _ | with_reducible refine Pm.here ?_ | with_reducible refine Pm.at2 ?_ | with_reducible refine Pm.at3 ?_ | with_reducible refine Pm.at4 ?_ | with_reducible refine Pm.at5 ?_ | with_reducible refine Pm.at6 ?_ | with_reducible refine Pm.at7 ?_ | with_reducible refine Pm.at8 ?_ | with_reducible refine Pm.skip ?_))) : Own w _ [old w]).old_cell c0
      have o1 := ((Own.pm (HH.out) (by repeat (first | with_reducible exact Pm.refl _ | with_reducible exact Pm.nil _ | with_reducible refine Pm.here ?_ | with_reducible refine Pm.at2 ?_ | with_reducible refine Pm.at3 ?_ | with_reducible refine Pm.at4 ?_ | with_reducible refine Pm.at5 ?_ | with_reducible refine Pm.at6 ?_ | with_reducible refine Pm.at7 ?_ | with_reducible refine Pm.at8 ?_ | with_reducible refine Pm.skip ?_))) : Own w _ [old w]).old_cell c1
      replace ht := Lib.hid ht
      replace hx := Lib.hid hx
      cases pu with
      | false =>
        have hto := filTo_c w wr (slc 34 2 _ (encs encR all) :: [old w]) b ⟨sw, now, sl, row⟩ t hs.out HH.out
        have hst := Fil.ok_to hs.out ht.out
        by_cases hlt2 : t < now
        · rw [show (⟨sw, now, sl, row⟩ : Fil).to t = (2, ⟨sw, now, sl, row⟩) from if_pos hlt2] at hto
          go_wp2_with fail
          refine (hto).mono ?_
          rintro e w3_ ⟨rfl, H9_⟩
          replace HH := Lib.hid H9_
          clear H9_
          clear o0 o1 hst
          go_wp2_with fail
          go_roundw
          case rel => exact ⟨k + 1, by omega, by go_num, _, all, rfl, rfl, hs.out, hF.out, by simp only; omega, by omega, hUa.out, HH.out⟩
          case measure => simp [intOf]; omega
        · rw [show (⟨sw, now, sl, row⟩ : Fil).to t = (0, ⟨sw, t, sl, Fil.old sw t row⟩) from if_neg hlt2] at hto hst
          replace hst := Lib.hid hst
          go_wp2_with fail
          refine (hto).mono ?_
          rintro e w4_ ⟨rfl, H9_⟩
          replace HH := Lib.hid H9_
          clear H9_
          clear o0 o1
          go_wp2_with fail
          go_roundw
          case rel => exact ⟨k + 1, by omega, by go_num, _, all, rfl, rfl, hst.out, hF.out.to (by omega), by simp only; have := old_len sw t row; omega, by omega, hUa.out, HH.out⟩
          case measure => simp [intOf]; omega
      | true =>
        have hlen2 : (encs encR all).length = all.length * 2 := encs_len encR_len all
        have hp := Fil.ok_put hs.out ht.out hx.out
        have hrl : row.length ≤ 1000000 := by omega
        replace hlen2 := Lib.hid hlen2
        go_wp2_with fail
        clear o0 o1
        by_cases hlt2 : t < now
        · have e9 : (⟨sw, now, sl, row⟩ : Fil).put t x = (2, ⟨sw, now, sl, row⟩) := if_pos hlt2
          clear hp
          go_wp2_with fail
          refine wp_region_reg (some 11) HH.out (by kernel_rfl) ?_
          intro wm H9_
          replace HH := Lib.hid H9_
          clear H9_
          refine reg_p (i := 0) rfl (by kernel_rfl) (fun _ _ _ _ h => h) HH.out (fun K hK => ?_)
          go_simp
          first | (refine hK _ ?_; clear hK K) | (apply Exists.intro; refine ⟨?_, hK _ ?_⟩; (focus (intro wx; first | (go_simp; first | rfl) | rfl)); clear hK K)
          refine reg_p (i := 1) rfl (by kernel_rfl) (fun _ _ _ _ h => h) HH.out (fun K hK => ?_)
          go_simp
          first | (refine hK _ ?_; clear hK K) | (apply Exists.intro; refine ⟨?_, hK _ ?_⟩; (focus (intro wx; first | (go_simp; first | rfl) | rfl)); clear hK K)
          refine reg_p (i := 2) rfl (by kernel_rfl) (fun _ _ _ _ h => h) HH.out (fun K hK => ?_)
          go_simp
          first | (refine hK _ ?_; clear hK K) | (apply Exists.intro; refine ⟨?_, hK _ ?_⟩; (focus (intro wx; first | (go_simp; first | rfl) | rfl)); clear hK K)
          refine reg_p (i := 3) rfl (by kernel_rfl) (fun _ _ _ _ h => h) HH.out (fun K hK => ?_)
          go_simp
          first | (refine hK _ ?_; clear hK K) | (apply Exists.intro; refine ⟨?_, hK _ ?_⟩; (focus (intro wx; first | (go_simp; first | rfl) | rfl)); clear hK K)
          refine reg_p (i := 4) rfl (by kernel_rfl) (fun _ _ _ _ h => h) HH.out (fun K hK => ?_)
          go_simp
          first | (refine hK _ ?_; clear hK K) | (apply Exists.intro; refine ⟨?_, hK _ ?_⟩; (focus (intro wx; first | (go_simp; first | rfl) | rfl)); clear hK K)
          refine mixk_q (i := 5) rfl (by kernel_rfl) (fun _ _ _ _ h => h) HH.out (fun K hK => ?_)
          go_simp
          first | (refine hK _ ?_; clear hK K) | (apply Exists.intro; refine ⟨?_, hK _ ?_⟩; (focus (intro wx hx; have y1_ := hx.r3.old_cell c1; have y2_ := hx.r3.old_cell c2; first | (go_simp; first | rfl | exact ⟨rfl, rfl⟩) | rfl | exact ⟨rfl, rfl⟩)); clear hK K)
          refine reg_p (i := 6) rfl (by kernel_rfl) (fun _ _ _ _ h => h) HH.out (fun K hK => ?_)
          go_simp
          first | (refine hK _ ?_; clear hK K) | (apply Exists.intro; refine ⟨?_, hK _ ?_⟩; (focus (intro wx; first | (go_simp; first | rfl) | rfl)); clear hK K)
          refine reg_p (i := 7) rfl (by kernel_rfl) (fun _ _ _ _ h => h) HH.out (fun K hK => ?_)
          go_simp
          first | (refine hK _ ?_; clear hK K) | (apply Exists.intro; refine ⟨?_, hK _ ?_⟩; (focus (intro wx; first | (go_simp; first | rfl) | rfl)); clear hK K)
          refine reg_p (i := 8) rfl (by kernel_rfl) (fun _ _ _ _ h => h) HH.out (fun K hK => ?_)
          go_simp
          first | (refine hK _ ?_; clear hK K) | (apply Exists.intro; refine ⟨?_, hK _ ?_⟩; (focus (intro wx; first | (go_simp; first | rfl) | rfl)); clear hK K)
          refine reg_p (i := 9) rfl (by kernel_rfl) (fun _ _ _ _ h => h) HH.out (fun K hK => ?_)
          go_simp
          first | (refine hK _ ?_; clear hK K) | (apply Exists.intro; refine ⟨?_, hK _ ?_⟩; (focus (intro wx; first | (go_simp; first | rfl) | rfl)); clear hK K)
          refine mixk_q (i := 10) rfl (by kernel_rfl) (fun _ _ _ _ h => h) HH.out (fun K hK => ?_)
          go_simp
          first | (refine hK _ ?_; clear hK K) | (apply Exists.intro; refine ⟨?_, hK _ ?_⟩; (focus (intro wx hx; have y1_ := hx.r3.old_cell c1; have y2_ := hx.r3.old_cell c2; first | (go_simp; first | rfl | exact ⟨rfl, rfl⟩) | rfl | exact ⟨rfl, rfl⟩)); clear hK K)
          refine reg_l none (i := 11) rfl (by kernel_rfl) (fun wn hk K hK => ?_)
          replace HH := Lib.hid (hk _ _ HH.out)
          clear hk
          go_simp
          refine (filPut_c w wn _ b ⟨sw, now, sl, row⟩ t x hs.out hrl HH.out).mono ?_
          rw [e9]
          rintro e wm ⟨rfl, H9_⟩
          replace HH := Lib.hid H9_
          clear H9_
          refine hK _ _ _ HH.out (.inl (by kernel_rfl)) ?_
          clear hK K
          refine reg_p (i := 12) rfl (by kernel_rfl) (fun _ _ _ _ h => h) HH.out (fun K hK => ?_)
          go_simp
          first | (refine hK _ ?_; clear hK K) | (apply Exists.intro; refine ⟨?_, hK _ ?_⟩; (focus (intro wx; first | (go_simp; first | rfl) | rfl)); clear hK K)
          refine mixk_done (by kernel_rfl) (fun w5_ hk => ?_) _
          replace HH := Lib.hid (hk _ _ HH.out)
          clear hk
          go_wp2_with fail
          go_roundw
          case rel => exact ⟨k + 1, by omega, by go_num, _, all, rfl, rfl, hs.out, hF.out, by simp only; omega, by omega, hUa.out, (Own.pm (HH.out) (by repeat (first | with_reducible exact Pm.refl _ | with_reducible exact Pm.nil _ | with_reducible refine Pm.here ?_ | with_reducible refine Pm.at2 ?_ | with_reducible refine Pm.at3 ?_ | with_reducible refine Pm.at4 ?_ | with_reducible refine Pm.at5 ?_ | with_reducible refine Pm.at6 ?_ | with_reducible refine Pm.at7 ?_ | with_reducible refine Pm.at8 ?_ | with_reducible refine Pm.skip ?_)))⟩
          case measure => simp [intOf]; omega
        · have e9 : (⟨sw, now, sl, row⟩ : Fil).put t x = (0, ⟨sw, t, sl, Fil.worse sl x (Fil.old sw t row) ++ [(t, x)]⟩) := if_neg hlt2
          rw [e9] at hp
          replace hp := Lib.hid hp
          have hrw : (Fil.worse sl x (Fil.old sw t row) ++ [(t, x)]).length ≤ k + 1 := by
            have h1 := worse_len sl x (Fil.old sw t row)
            have h2 := old_len sw t row
            rw [List.length_append, List.length_singleton]; omega
          have hF2 : FInv sw t sl (all ++ [(t, x)]) (Fil.worse sl x (Fil.old sw t row) ++ [(t, x)]) := (hF.out.to (by omega)).put (sadd_ge ht.out hwin.out)
          replace hF2 := Lib.hid hF2
          replace hrw := Lib.hid hrw
          generalize Fil.worse sl x (Fil.old sw t row) ++ [(t, x)] = row2 at e9 hp hrw hF2
          go_wp2_with fail
          refine wp_region_reg (some 11) HH.out (by kernel_rfl) ?_
          intro wm H9_
          replace HH := Lib.hid H9_
          clear H9_
          refine reg_p (i := 0) rfl (by kernel_rfl) (fun _ _ _ _ h => h) HH.out (fun K hK => ?_)
          go_simp
          first | (refine hK _ ?_; clear hK K) | (apply Exists.intro; refine ⟨?_, hK _ ?_⟩; (focus (intro wx; first | (go_simp; first | rfl) | rfl)); clear hK K)
          refine reg_p (i := 1) rfl (by kernel_rfl) (fun _ _ _ _ h => h) HH.out (fun K hK => ?_)
          go_simp
          first | (refine hK _ ?_; clear hK K) | (apply Exists.intro; refine ⟨?_, hK _ ?_⟩; (focus (intro wx; first | (go_simp; first | rfl) | rfl)); clear hK K)
          refine reg_p (i := 2) rfl (by kernel_rfl) (fun _ _ _ _ h => h) HH.out (fun K hK => ?_)
          go_simp
          first | (refine hK _ ?_; clear hK K) | (apply Exists.intro; refine ⟨?_, hK _ ?_⟩; (focus (intro wx; first | (go_simp; first | rfl) | rfl)); clear hK K)
          refine reg_p (i := 3) rfl (by kernel_rfl) (fun _ _ _ _ h => h) HH.out (fun K hK => ?_)
          go_simp
          first | (refine hK _ ?_; clear hK K) | (apply Exists.intro; refine ⟨?_, hK _ ?_⟩; (focus (intro wx; first | (go_simp; first | rfl) | rfl)); clear hK K)
          refine reg_p (i := 4) rfl (by kernel_rfl) (fun _ _ _ _ h => h) HH.out (fun K hK => ?_)
          go_simp
          first | (refine hK _ ?_; clear hK K) | (apply Exists.intro; refine ⟨?_, hK _ ?_⟩; (focus (intro wx; first | (go_simp; first | rfl) | rfl)); clear hK K)
          refine mixk_q (i := 5) rfl (by kernel_rfl) (fun _ _ _ _ h => h) HH.out (fun K hK => ?_)
          go_simp
          first | (refine hK _ ?_; clear hK K) | (apply Exists.intro; refine ⟨?_, hK _ ?_⟩; (focus (intro wx hx; have y1_ := hx.r3.old_cell c1; have y2_ := hx.r3.old_cell c2; first | (go_simp; first | rfl | exact ⟨rfl, rfl⟩) | rfl | exact ⟨rfl, rfl⟩)); clear hK K)
          refine reg_p (i := 6) rfl (by kernel_rfl) (fun _ _ _ _ h => h) HH.out (fun K hK => ?_)
          go_simp
          first | (refine hK _ ?_; clear hK K) | (apply Exists.intro; refine ⟨?_, hK _ ?_⟩; (focus (intro wx; first | (go_simp; first | rfl) | rfl)); clear hK K)
          refine reg_p (i := 7) rfl (by kernel_rfl) (fun _ _ _ _ h => h) HH.out (fun K hK => ?_)
          go_simp
          first | (refine hK _ ?_; clear hK K) | (apply Exists.intro; refine ⟨?_, hK _ ?_⟩; (focus (intro wx; first | (go_simp; first | rfl) | rfl)); clear hK K)
          refine reg_p (i := 8) rfl (by kernel_rfl) (fun _ _ _ _ h => h) HH.out (fun K hK => ?_)
          go_simp
          first | (refine hK _ ?_; clear hK K) | (apply Exists.intro; refine ⟨?_, hK _ ?_⟩; (focus (intro wx; first | (go_simp; first | rfl) | rfl)); clear hK K)
          refine reg_p (i := 9) rfl (by kernel_rfl) (fun _ _ _ _ h => h) HH.out (fun K hK => ?_)
          go_simp
          first | (refine hK _ ?_; clear hK K) | (apply Exists.intro; refine ⟨?_, hK _ ?_⟩; (focus (intro wx; first | (go_simp; first | rfl) | rfl)); clear hK K)
          refine mixk_q (i := 10) rfl (by kernel_rfl) (fun _ _ _ _ h => h) HH.out (fun K hK => ?_)
          go_simp
          first | (refine hK _ ?_; clear hK K) | (apply Exists.intro; refine ⟨?_, hK _ ?_⟩; (focus (intro wx hx; have y1_ := hx.r3.old_cell c1; have y2_ := hx.r3.old_cell c2; first | (go_simp; first | rfl | exact ⟨rfl, rfl⟩) | rfl | exact ⟨rfl, rfl⟩)); clear hK K)
          refine reg_l none (i := 11) rfl (by kernel_rfl) (fun wn hk K hK => ?_)
          replace HH := Lib.hid (hk _ _ HH.out)
          clear hk
          go_simp
          refine (filPut_c w wn _ b ⟨sw, now, sl, row⟩ t x hs.out hrl HH.out).mono ?_
          rw [e9]
          rintro e wm ⟨rfl, H9_⟩
          replace HH := Lib.hid H9_
          clear H9_
          refine hK _ _ _ HH.out (.inl (by kernel_rfl)) ?_
          clear hK K
          refine reg_p (i := 12) rfl (by kernel_rfl) (fun _ _ _ _ h => h) HH.out (fun K hK => ?_)
          go_simp
          first | (refine hK _ ?_; clear hK K) | (apply Exists.intro; refine ⟨?_, hK _ ?_⟩; (focus (intro wx; first | (go_simp; first | rfl) | rfl)); clear hK K)
          refine mixk_done (by kernel_rfl) (fun w6_ hk => ?_) _
          replace HH := Lib.hid (hk _ _ HH.out)
          clear hk
          replace HH := Lib.hid ((Own.pm (HH.out) (by repeat (first | with_reducible exact Pm.refl _ | with_reducible exact Pm.nil _ | with_reducible refine Pm.here ?_ | with_reducible refine Pm.at2 ?_ | with_reducible refine Pm.at3 ?_ | with_reducible refine Pm.at4 ?_ | with_reducible refine Pm.at5 ?_ | with_reducible refine Pm.at6 ?_ | with_reducible refine Pm.at7 ?_ | with_reducible refine Pm.at8 ?_ | with_reducible refine Pm.skip ?_))) : Own w _ (fil b ⟨sw, t, sl, row2⟩ :: slc 34 2 _ (encs encR all) :: [old w]))
          go_wp2_with fail
          go_wp2_with fail
          refine wp_region_reg (some 13) HH.out (by kernel_rfl) ?_
          intro wm H9_
          replace HH := Lib.hid H9_
          clear H9_
          refine reg_p (i := 0) rfl (by kernel_rfl) (fun _ _ _ _ h => h) HH.out (fun K hK => ?_)
          go_simp
          first | (refine hK _ ?_; clear hK K) | (apply Exists.intro; refine ⟨?_, hK _ ?_⟩; (focus (intro wx; first | (go_simp; first | rfl) | rfl)); clear hK K)
          refine reg_p (i := 1) rfl (by kernel_rfl) (fun _ _ _ _ h => h) HH.out (fun K hK => ?_)
          go_simp
          first | (refine hK _ ?_; clear hK K) | (apply Exists.intro; refine ⟨?_, hK _ ?_⟩; (focus (intro wx; first | (go_simp; first | rfl) | rfl)); clear hK K)
          refine reg_p (i := 2) rfl (by kernel_rfl) (fun _ _ _ _ h => h) HH.out (fun K hK => ?_)
          go_simp
          first | (refine hK _ ?_; clear hK K) | (apply Exists.intro; refine ⟨?_, hK _ ?_⟩; (focus (intro wx; first | (go_simp; first | rfl) | rfl)); clear hK K)
          refine reg_p (i := 3) rfl (by kernel_rfl) (fun _ _ _ _ h => h) HH.out (fun K hK => ?_)
          go_simp
          first | (refine hK _ ?_; clear hK K) | (apply Exists.intro; refine ⟨?_, hK _ ?_⟩; (focus (intro wx; first | (go_simp; first | rfl) | rfl)); clear hK K)
          refine reg_p (i := 4) rfl (by kernel_rfl) (fun _ _ _ _ h => h) HH.out (fun K hK => ?_)
          go_simp
          first | (refine hK _ ?_; clear hK K) | (apply Exists.intro; refine ⟨?_, hK _ ?_⟩; (focus (intro wx; first | (go_simp; first | rfl) | rfl)); clear hK K)
          refine mixk_q (i := 5) rfl (by kernel_rfl) (fun _ _ _ _ h => h) HH.out (fun K hK => ?_)
          go_simp
          first | (refine hK _ ?_; clear hK K) | (apply Exists.intro; refine ⟨?_, hK _ ?_⟩; (focus (intro wx hx; have y1_ := hx.r3.old_cell c1; have y2_ := hx.r3.old_cell c2; first | (go_simp; first | rfl | exact ⟨rfl, rfl⟩) | rfl | exact ⟨rfl, rfl⟩)); clear hK K)
          refine reg_p (i := 6) rfl (by kernel_rfl) (fun _ _ _ _ h => h) HH.out (fun K hK => ?_)
          go_simp
          first | (refine hK _ ?_; clear hK K) | (apply Exists.intro; refine ⟨?_, hK _ ?_⟩; (focus (intro wx; first | (go_simp; first | rfl) | rfl)); clear hK K)
          refine reg_p (i := 7) rfl (by kernel_rfl) (fun _ _ _ _ h => h) HH.out (fun K hK => ?_)
          go_simp
          first | (refine hK _ ?_; clear hK K) | (apply Exists.intro; refine ⟨?_, hK _ ?_⟩; (focus (intro wx; first | (go_simp; first | rfl) | rfl)); clear hK K)
          refine reg_p (i := 8) rfl (by kernel_rfl) (fun _ _ _ _ h => h) HH.out (fun K hK => ?_)
          go_simp
          first | (refine hK _ ?_; clear hK K) | (apply Exists.intro; refine ⟨?_, hK _ ?_⟩; (focus (intro wx; first | (go_simp; first | rfl) | rfl)); clear hK K)
          refine reg_p (i := 9) rfl (by kernel_rfl) (fun _ _ _ _ h => h) HH.out (fun K hK => ?_)
          go_simp
          first | (refine hK _ ?_; clear hK K) | (apply Exists.intro; refine ⟨?_, hK _ ?_⟩; (focus (intro wx; first | (go_simp; first | rfl) | rfl)); clear hK K)
          refine mixk_q (i := 10) rfl (by kernel_rfl) (fun _ _ _ _ h => h) HH.out (fun K hK => ?_)
          go_simp
          first | (refine hK _ ?_; clear hK K) | (apply Exists.intro; refine ⟨?_, hK _ ?_⟩; (focus (intro wx hx; have y1_ := hx.r3.old_cell c1; have y2_ := hx.r3.old_cell c2; first | (go_simp; first | rfl | exact ⟨rfl, rfl⟩) | rfl | exact ⟨rfl, rfl⟩)); clear hK K)
          refine reg_p (i := 11) rfl (by kernel_rfl) (fun _ _ _ _ h => h) HH.out (fun K hK => ?_)
          go_simp
          first | (refine hK _ ?_; clear hK K) | (apply Exists.intro; refine ⟨?_, hK _ ?_⟩; (focus (intro wx; first | (go_simp; first | rfl) | rfl)); clear hK K)
          refine reg_l (some 13) (i := 12) rfl (by kernel_rfl) (fun wn hk K hK => ?_)
          replace HH := Lib.hid (hk _ _ HH.out)
          clear hk
          go_simp
          replace HH := Lib.hid (HH.out.alloc (.cells #[.int .u64 t, .int .u64 x] 34))
          generalize wn.alloc (.cells #[.int .u64 t, .int .u64 x] 34) = wm at *
          generalize wn.heap.size = sb at *
          refine hK _ _ _ HH.out (.inr ⟨rfl, fun _ h => h.tail⟩) ?_
          clear hK K
          refine reg_l none (i := 13) rfl (by kernel_rfl) (fun wn hk K hK => ?_)
          replace HH := Lib.hid (hk _ _ HH.out)
          clear hk
          refine want rfl (wp_append_slc _ _ 27 rfl 34 2 16 Try.underlying27 (by kernel_rfl) (by decide) rfl (HH.out.r3) rfl (hlen2.out) ((show srcAt wn (some ⟨sb, 0, none⟩) 1 2 [.int .u64 t, .int .u64 x] from ⟨rfl, .inr ⟨sb, 0, rfl, fun j u hj => by rw [Nat.zero_add, HH.out.cells.1 j]; simpa using hj⟩⟩)) ((by repeat (first | (refine List.forall_mem_cons.2 ⟨(by first | with_reducible assumption | rfl), ?_⟩) | exact fun _ h => absurd h List.not_mem_nil))) (by simp only [maxLen]; omega) (by omega) ?_)
          intro v1 wm H9_
          obtain ⟨A_v1, n_v1, c_v1, rfl⟩ := H9_.slc_isv
          replace HH := Lib.hid H9_
          clear H9_
          refine hK _ _ _ HH.out (.inl (by kernel_rfl)) ?_
          clear hK K
          refine reg_p (i := 14) rfl (by kernel_rfl) (fun _ _ _ _ h => h) HH.out (fun K hK => ?_)
          go_simp
          first | (refine hK _ ?_; clear hK K) | (apply Exists.intro; refine ⟨?_, hK _ ?_⟩; (focus (intro wx; first | (go_simp; first | rfl) | rfl)); clear hK K)
          refine mixk_done (by kernel_rfl) (fun w7_ hk => ?_) _
          replace HH := Lib.hid (hk _ _ HH.out)
          clear hk
          go_wp2_with fail
          go_roundw
          case rel =>
            refine ⟨k + 1, by omega, by go_num, ⟨sw, t, sl, row2⟩, all ++ [(t, x)], rfl, rfl, hp.out, hF2.out, hrw.out, by simp; omega, ?_, ?_⟩
            · intro r hr
              rcases List.mem_append.1 hr with hr | hr
              · exact hUa.out r hr
              · rw [List.mem_singleton.1 hr]; exact ⟨ht.out, hx.out⟩
            · rw [encs_snoc]
              have H9 := ((Own.pm (HH.out) (by repeat (first | with_reducible exact Pm.refl _ | with_reducible exact Pm.nil _ | with_reducible refine Pm.here ?_ | with_reducible refine Pm.at2 ?_ | with_reducible refine Pm.at3 ?_ | with_reducible refine Pm.at4 ?_ | with_reducible refine Pm.at5 ?_ | with_reducible refine Pm.at6 ?_ | with_reducible refine Pm.at7 ?_ | with_reducible refine Pm.at8 ?_ | with_reducible refine Pm.skip ?_))) : Own w _ (fil b ⟨sw, t, sl, row2⟩ :: slc _ 2 _ (encs encR all ++ [.int .u64 t, .int .u64 x]) :: [old w]))
              exact H9
          case measure => simp [intOf]; omega
    · have hkl : k = len := by omega
      clear hacts
      obtain ⟨A1, n1, c1, rfl, _, hcm1, hit1⟩ := HH.out.r2.slc_it encR_len (by decide)
      have hn1 := hit1.1
      clear hit1
      obtain ⟨⟨⟨bt, bx⟩, some'⟩, hb⟩ : ∃ r, (⟨sw, now, sl, row⟩ : Fil).best = r := ⟨_, rfl⟩
      have hbad : ∀ r ∈ all, cntB sw now r = true → aheadOf sl r.2 bx = false := by
        intro r hr hc
        cases row with
        | nil =>
          have := hF.out.none_any
          rw [List.any_eq_false] at this
          exact absurd hc (this r hr)
        | cons q row =>
          cases hb
          exact hF.out.best.2.2 r hr (by simpa [cntB] using hc)
      have hcounts : all.any (cntB sw now) = some' := by
        cases row with
        | nil => cases hb; exact hF.out.none_any
        | cons q row => cases hb; exact hF.out.best_any.1
      have his : all.any (fun r => cntB sw now r && (decide (r.1 = bt) && decide (r.2 = bx))) = some' := by
        cases row with
        | nil =>
          cases hb
          have := hF.out.none_any
          rw [List.any_eq_false] at this ⊢
          intro r hr
          simp [this r hr]
        | cons q row => cases hb; exact hF.out.best_any.2
      have hsum : some' = true ∨ some' = false ∧ bx = 0 ∧ bt = 0 := by
        cases row with
        | nil => cases hb; exact .inr ⟨rfl, rfl, rfl⟩
        | cons q row => cases hb; exact .inl rfl
      have hle := hF.out.le
      have hnU : U now := hs.out.2.1
      replace hbad := Lib.hid hbad
      replace hcounts := Lib.hid hcounts
      replace his := Lib.hid his
      replace hsum := Lib.hid hsum
      replace hle := Lib.hid hle
      replace hnU := Lib.hid hnU
      go_wp2_with fail
      refine (filBest_c w _ _ b ⟨sw, now, sl, row⟩ HH.out).mono ?_
      rw [hb]
      rintro e w8_ ⟨rfl, H9_⟩
      replace HH := Lib.hid H9_
      clear H9_
      clear hb
      go_wp2_with fail
      go_loopw [14, 15, 16] (fun c s i wr => ∃ k : Nat, k ≤ n1 ∧ i = .int .i64 k ∧ c = .bool ((all.take k).any (cntB sw now)) ∧ s = .bool ((all.take k).any (fun r => cntB sw now r && (decide (r.1 = bt) && decide (r.2 = bx)))) ∧ Own w wr (fil b ⟨sw, now, sl, row⟩ :: slc 34 2 (.slice A1 n1 c1) (encs encR all) :: [old w])) (fun _ _ i _ => n1 - (intOf i).toNat)
      case atStart => exact ⟨0, Nat.zero_le _, rfl, rfl, rfl, HH.out⟩
      case round =>
        clear HH
        obtain ⟨j, hj, rfl, rfl, rfl, HR⟩ := hrel
        have HH := Lib.hid HR
        clear HR
        by_cases hlt3 : j < n1
        · obtain ⟨g, off, r, rfl, hrj, hc⟩ := (slc_rdF encR_len (by decide) HH.out.r2).get hlt3
          have hmem : r ∈ all := List.mem_of_getElem? hrj
          have hcs : ∀ wx, Own w wx (fil b ⟨sw, now, sl, row⟩ :: slc 34 2 (.slice (some ⟨g, off, none⟩) n1 c1) (encs encR all) :: [old w]) → wx.cell? ⟨g, off + j * 2, none⟩ = some (.int .u64 r.1) ∧ wx.cell? ⟨g, off + j * 2 + 1, none⟩ = some (.int .u64 r.2) := fun wx Hx => by
            obtain ⟨g2, off2, b2, e, hb2, hc2⟩ := (slc_rdF encR_len (by decide) Hx.r2).get hlt3
            cases e
            rw [hrj] at hb2
            cases hb2
            exact ⟨hc2 0 _ rfl, hc2 1 _ rfl⟩
          have a1 := any_step (p := cntB sw now) hrj
          have a2 := any_step (p := fun r => cntB sw now r && (decide (r.1 = bt) && decide (r.2 = bx))) hrj
          have hbd := hbad.out r hmem
          have hle1 := hle.out r hmem
          have hU1 := (hUa.out r hmem).1
          generalize (all.take j).any (cntB sw now) = cb at a1 ⊢
          generalize (all.take j).any (fun r => cntB sw now r && (decide (r.1 = bt) && decide (r.2 = bx))) = ib at a2 ⊢
          obtain ⟨r1, r2⟩ := r
          simp only at hcs a1 a2 hbd hle1 hU1
          have hwr : IntKind.u64.wrap (now - r1) = now - r1 := by have := hnU.out; unfold U at this hU1; rw [IntKind.wrap_u64]; omega
          have hcw : sadd r1 sw < now ↔ sw < now - r1 := by
            have := hnU.out; have h2 := hwin.out; unfold U at this hU1 h2; unfold sadd; split <;> omega
          clear hc hrj hmem hU1 hle1
          replace hcs := Lib.hid hcs
          by_cases hcc : sw < now - r1
          · have hc0 : cntB sw now (r1, r2) = false := by simp [cntB, hcw.2 hcc]
            rw [hc0, Bool.or_false] at a1
            simp only [hc0, Bool.false_and, Bool.or_false] at a2
            clear hbd hcw hc0
            replace a1 := Lib.hid a1
            replace a2 := Lib.hid a2
            go_wp2_with fail
            go_wp2_with fail
            refine wp_region_reg none HH.out (by kernel_rfl) ?_
            intro wm H9_
            replace HH := Lib.hid H9_
            clear H9_
            refine reg_p (i := 0) rfl (by kernel_rfl) (fun _ _ _ _ h => h) HH.out (fun K hK => ?_)
            go_simp
            first | (refine hK _ ?_; clear hK K) | (apply Exists.intro; refine ⟨?_, hK _ ?_⟩; (focus (intro wx; first | (go_simp; first | rfl) | rfl)); clear hK K)
            refine mixk_q (i := 1) rfl (by kernel_rfl) (fun _ _ _ _ h => h) HH.out (fun K hK => ?_)
            go_simp
            first | (refine hK _ ?_; clear hK K) | (apply Exists.intro; refine ⟨?_, hK _ ?_⟩; (focus (intro wx hx; have y1_ := (hcs.out wx hx).1; first | (first | (go_at_call 10; refine (filTime_c w wx _ b ⟨sw, now, sl, row⟩ hx).mono ?_; rintro e wy ⟨rfl, hbel⟩; exact ⟨rfl, (by first | exact Kp.same hbel | exact Kp.drew hbel | exact Kp.below hbel : Kp wx wy)⟩)) | (go_simp; first | rfl | exact ⟨rfl, rfl⟩) | rfl | exact ⟨rfl, rfl⟩)); clear hK K)
            refine reg_p (i := 2) rfl (by kernel_rfl) (fun _ _ _ _ h => h) HH.out (fun K hK => ?_)
            go_simp
            first | (refine hK _ ?_; clear hK K) | (apply Exists.intro; refine ⟨?_, hK _ ?_⟩; (focus (intro wx; first | (go_simp; first | rfl) | rfl)); clear hK K)
            refine reg_p (i := 3) rfl (by kernel_rfl) (fun _ _ _ _ h => h) HH.out (fun K hK => ?_)
            go_simp
            first | (refine hK _ ?_; clear hK K) | (apply Exists.intro; refine ⟨?_, hK _ ?_⟩; (focus (intro wx; first | (go_simp; first | rfl) | rfl)); clear hK K)
            refine reg_p (i := 4) rfl (by kernel_rfl) (fun _ _ _ _ h => h) HH.out (fun K hK => ?_)
            go_simp
            first | (refine hK _ ?_; clear hK K) | (apply Exists.intro; refine ⟨?_, hK _ ?_⟩; (focus (intro wx; first | (go_simp; first | rfl) | rfl)); clear hK K)
            refine reg_p (i := 5) rfl (by kernel_rfl) (fun _ _ _ _ h => h) HH.out (fun K hK => ?_)
            go_simp
            first | (refine hK _ ?_; clear hK K) | (apply Exists.intro; refine ⟨?_, hK _ ?_⟩; (focus (intro wx; first | (go_simp; first | rfl) | rfl)); clear hK K)
            refine mixk_q (i := 6) rfl (by kernel_rfl) (fun _ _ _ _ h => h) HH.out (fun K hK => ?_)
            go_simp
            first | (refine hK _ ?_; clear hK K) | (apply Exists.intro; refine ⟨?_, hK _ ?_⟩; (focus (intro wx hx; have y1_ := (hcs.out wx hx).1; first | (first | (go_at_call 10; refine (filTime_c w wx _ b ⟨sw, now, sl, row⟩ hx).mono ?_; rintro e wy ⟨rfl, hbel⟩; exact ⟨rfl, (by first | exact Kp.same hbel | exact Kp.drew hbel | exact Kp.below hbel : Kp wx wy)⟩)) | (go_simp; first | rfl | exact ⟨rfl, rfl⟩) | rfl | exact ⟨rfl, rfl⟩)); clear hK K)
            refine reg_p (i := 7) rfl (by kernel_rfl) (fun _ _ _ _ h => h) HH.out (fun K hK => ?_)
            go_simp
            first | (refine hK _ ?_; clear hK K) | (apply Exists.intro; refine ⟨?_, hK _ ?_⟩; (focus (intro wx; first | (go_simp; first | rfl) | rfl)); clear hK K)
            refine reg_p (i := 8) rfl (by kernel_rfl) (fun _ _ _ _ h => h) HH.out (fun K hK => ?_)
            go_simp
            first | (refine hK _ ?_; clear hK K) | (apply Exists.intro; refine ⟨?_, hK _ ?_⟩; (focus (intro wx; first | (go_simp; first | rfl) | rfl)); clear hK K)
            refine reg_p (i := 9) rfl (by kernel_rfl) (fun _ _ _ _ h => h) HH.out (fun K hK => ?_)
            go_simp
            first | (refine hK _ ?_; clear hK K) | (apply Exists.intro; refine ⟨?_, hK _ ?_⟩; (focus (intro wx; first | (go_simp; first | rfl) | rfl)); clear hK K)
            refine mixk_done (by kernel_rfl) (fun w9_ hk => ?_) _
            replace HH := Lib.hid (hk _ _ HH.out)
            clear hk
            go_wp2_with fail
            go_roundw
            case rel => exact ⟨j + 1, by omega, by go_num, by rw [a1.out], by rw [a2.out], HH.out⟩
            case measure => simp [intOf]; omega
          · have hc0 : cntB sw now (r1, r2) = true := by simp [cntB]; omega
            have hbd := hbd hc0
            rw [hc0, Bool.or_true] at a1
            simp only [hc0, Bool.true_and] at a2
            clear hcw hc0
            replace a1 := Lib.hid a1
            replace a2 := Lib.hid a2
            go_wp2_with fail
            go_wp2_with fail
            refine wp_region_reg none HH.out (by kernel_rfl) ?_
            intro wm H9_
            replace HH := Lib.hid H9_
            clear H9_
            refine reg_p (i := 0) rfl (by kernel_rfl) (fun _ _ _ _ h => h) HH.out (fun K hK => ?_)
            go_simp
            first | (refine hK _ ?_; clear hK K) | (apply Exists.intro; refine ⟨?_, hK _ ?_⟩; (focus (intro wx; first | (go_simp; first | rfl) | rfl)); clear hK K)
            refine mixk_q (i := 1) rfl (by kernel_rfl) (fun _ _ _ _ h => h) HH.out (fun K hK => ?_)
            go_simp
            first | (refine hK _ ?_; clear hK K) | (apply Exists.intro; refine ⟨?_, hK _ ?_⟩; (focus (intro wx hx; have y1_ := (hcs.out wx hx).1; first | (first | (go_at_call 10; refine (filTime_c w wx _ b ⟨sw, now, sl, row⟩ hx).mono ?_; rintro e wy ⟨rfl, hbel⟩; exact ⟨rfl, (by first | exact Kp.same hbel | exact Kp.drew hbel | exact Kp.below hbel : Kp wx wy)⟩)) | (go_simp; first | rfl | exact ⟨rfl, rfl⟩) | rfl | exact ⟨rfl, rfl⟩)); clear hK K)
            refine reg_p (i := 2) rfl (by kernel_rfl) (fun _ _ _ _ h => h) HH.out (fun K hK => ?_)
            go_simp
            first | (refine hK _ ?_; clear hK K) | (apply Exists.intro; refine ⟨?_, hK _ ?_⟩; (focus (intro wx; first | (go_simp; first | rfl) | rfl)); clear hK K)
            refine reg_p (i := 3) rfl (by kernel_rfl) (fun _ _ _ _ h => h) HH.out (fun K hK => ?_)
            go_simp
            first | (refine hK _ ?_; clear hK K) | (apply Exists.intro; refine ⟨?_, hK _ ?_⟩; (focus (intro wx; first | (go_simp; first | rfl) | rfl)); clear hK K)
            refine reg_p (i := 4) rfl (by kernel_rfl) (fun _ _ _ _ h => h) HH.out (fun K hK => ?_)
            go_simp
            first | (refine hK _ ?_; clear hK K) | (apply Exists.intro; refine ⟨?_, hK _ ?_⟩; (focus (intro wx; first | (go_simp; first | rfl) | rfl)); clear hK K)
            refine reg_p (i := 5) rfl (by kernel_rfl) (fun _ _ _ _ h => h) HH.out (fun K hK => ?_)
            go_simp
            first | (refine hK _ ?_; clear hK K) | (apply Exists.intro; refine ⟨?_, hK _ ?_⟩; (focus (intro wx; first | (go_simp; first | rfl) | rfl)); clear hK K)
            refine mixk_q (i := 6) rfl (by kernel_rfl) (fun _ _ _ _ h => h) HH.out (fun K hK => ?_)
            go_simp
            first | (refine hK _ ?_; clear hK K) | (apply Exists.intro; refine ⟨?_, hK _ ?_⟩; (focus (intro wx hx; have y1_ := (hcs.out wx hx).1; first | (first | (go_at_call 10; refine (filTime_c w wx _ b ⟨sw, now, sl, row⟩ hx).mono ?_; rintro e wy ⟨rfl, hbel⟩; exact ⟨rfl, (by first | exact Kp.same hbel | exact Kp.drew hbel | exact Kp.below hbel : Kp wx wy)⟩)) | (go_simp; first | rfl | exact ⟨rfl, rfl⟩) | rfl | exact ⟨rfl, rfl⟩)); clear hK K)
            refine reg_p (i := 7) rfl (by kernel_rfl) (fun _ _ _ _ h => h) HH.out (fun K hK => ?_)
            go_simp
            first | (refine hK _ ?_; clear hK K) | (apply Exists.intro; refine ⟨?_, hK _ ?_⟩; (focus (intro wx; first | (go_simp; first | rfl) | rfl)); clear hK K)
            refine reg_p (i := 8) rfl (by kernel_rfl) (fun _ _ _ _ h => h) HH.out (fun K hK => ?_)
            go_simp
            first | (refine hK _ ?_; clear hK K) | (apply Exists.intro; refine ⟨?_, hK _ ?_⟩; (focus (intro wx; first | (go_simp; first | rfl) | rfl)); clear hK K)
            refine reg_p (i := 9) rfl (by kernel_rfl) (fun _ _ _ _ h => h) HH.out (fun K hK => ?_)
            go_simp
            first | (refine hK _ ?_; clear hK K) | (apply Exists.intro; refine ⟨?_, hK _ ?_⟩; (focus (intro wx; first | (go_simp; first | rfl) | rfl)); clear hK K)
            refine mixk_done (by kernel_rfl) (fun w10_ hk => ?_) _
            replace HH := Lib.hid (hk _ _ HH.out)
            clear hk
            clear hwr
            obtain ⟨y1, y2⟩ := hcs.out _ HH.out
            cases sl
            case' false =>
              have hbd2 : ¬ bx < r2 := by simpa [aheadOf] using hbd
            case' true =>
              have hbd2 : ¬ r2 < bx := by simpa [aheadOf] using hbd
            all_goals
              clear hbd
              cases ib
              case' false =>
                by_cases hrt : r1 = bt
                case' pos =>
                  have hq : (r1 == bt) = true := by simpa using hrt
                  have a2' : (false || (decide (r1 = bt) && decide (r2 = bx))) = (r2 == bx) := by simp [hrt]; rfl
                case' neg =>
                  have hq : (r1 == bt) = false := by simpa using hrt
                  have a2' : (false || (decide (r1 = bt) && decide (r2 = bx))) = false := by simp [hrt]
                all_goals
                  clear hrt
              case' true =>
                have a2' : (true || (decide (r1 = bt) && decide (r2 = bx))) = true := rfl
              all_goals
                replace a2' := Lib.hid a2'
                go_wp2_with fail
                go_roundw
                case rel => exact ⟨j + 1, by omega, by go_num, by rw [a1.out], by rw [a2.out, a2'.out], HH.out⟩
                case measure => simp [intOf]; omega
        · have hkn : j = n1 := by omega
          subst hkn
          rw [List.take_of_length_le (show all.length ≤ j by omega), hcounts.out, his.out]
          replace HH := Lib.hid ((Own.pm (HH.out) (by repeat (first | with_reducible exact Pm.refl _ | with_reducible exact Pm.nil _ | with_reducible refine Pm.here ?_ | with_reducible refine Pm.at2 ?_ | with_reducible refine Pm.at3 ?_ | with_reducible refine Pm.at4 ?_ | with_reducible refine Pm.at5 ?_ | with_reducible refine Pm.at6 ?_ | with_reducible refine Pm.at7 ?_ | with_reducible refine Pm.at8 ?_ | with_reducible refine Pm.skip ?_))) : Own w wr [old w])
          rcases hsum.out with rfl | ⟨rfl, rfl, rfl⟩
          · go_wp2_with fail
            refine (alive05_k _).mono ?_
            rintro e w11_ ⟨rfl, hbel⟩
            replace HH := Lib.hid ((by first | exact Kp.same hbel | exact Kp.drew hbel | exact Kp.below hbel : Kp _ w11_) _ _ (by first | exact HH.out | exact HH.out.drewN _ | exact (HH.out.alloc _).tail | exact ((HH.out.alloc _).drewN _).tail | exact ((HH.out.alloc _).alloc _).tail.tail))
            clear hbel
            go_wp2_with fail
            go_ret
            exact ⟨rfl, HH.out⟩
          · go_wp2_with fail
            refine (alive05_k _).mono ?_
            rintro e w12_ ⟨rfl, hbel⟩
            replace HH := Lib.hid ((by first | exact Kp.same hbel | exact Kp.drew hbel | exact Kp.below hbel : Kp _ w12_) _ _ (by first | exact HH.out | exact HH.out.drewN _ | exact (HH.out.alloc _).tail | exact ((HH.out.alloc _).drewN _).tail | exact ((HH.out.alloc _).alloc _).tail.tail))
            clear hbel
            go_wp2_with fail
            go_ret
            exact ⟨rfl, HH.out⟩
end
end Go.Proofs.Ytljifdgfmpijeaa
