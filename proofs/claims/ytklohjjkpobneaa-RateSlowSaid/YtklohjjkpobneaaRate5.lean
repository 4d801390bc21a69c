/- rate: RateSlow. -/
import Derived.Test.YtklohjjkpobneaaRate4
namespace Go.Proofs.Ytklohjjkpobneaa
open Go.RowKit
section
variable (w : World)
set_option maxRecDepth 100000 in
set_option maxHeartbeats 12800000 in
theorem rateSlow_c (A : Option Addr) (len cap : Nat) (xs : List ActR) (hr : rdSlice rdActR 4 w [.slice A len cap] xs) :
    Calls Try.prog 3 #[.slice A len cap] w fun e w' => e = .returned (.bool true) ∧ Own w w' [old w] := by
  have HH := Lib.hid (Own.init w)
  obtain ⟨hlen, hm, hx⟩ := rdSlice_cases hr
  clear hr
  have hacts : ∃ f : Nat → Nat, ∀ k, k < len → ∃ ab off kd nw n A' cp l, A = some ⟨ab, off, none⟩ ∧ 0 ≤ kd ∧ kd < 256 ∧ U nw ∧ U n ∧ pkAt w A' (f k) l ∧ f k ≤ 9223372036854775807 ∧ (∀ p ∈ l, p.Ok) ∧
      w.cell? ⟨ab, off + k * 4, none⟩ = some (.int .u8 kd) ∧ w.cell? ⟨ab, off + k * 4 + 1, none⟩ = some (.int .u64 nw) ∧ w.cell? ⟨ab, off + k * 4 + 2, none⟩ = some (.int .u64 n) ∧ w.cell? ⟨ab, off + k * 4 + 3, none⟩ = some (.slice A' (f k) cp) := by
    refine ⟨fun k => (xs.getD k default).2.2.2.1.length, ?_⟩
    intro k hk
    rcases hx with hz | ⟨ab, off, rfl, hx⟩
    · omega
    · obtain ⟨c, _, hcell, hR⟩ := hx k (by omega)
      obtain ⟨A', n', cp, rfl, h1, h2, h3, h4, h5, h6⟩ := rdActR_open hR
      obtain ⟨h7, h8, h9⟩ := rdPks h6
      have e : xs.getD k default = xs[k]'(by omega) := by simp [List.getD, List.getElem?_eq_getElem (show k < xs.length by omega)]
      have e2 : n' = (xs.getD k default).2.2.2.1.length := by rw [e]; exact h5
      subst e2
      exact ⟨ab, off, _, _, _, A', cp, _, rfl, h1, h2, h3, h4, h7, h8, h9, hcell 0 _ rfl, hcell 1 _ rfl, hcell 2 _ rfl, hcell 3 _ rfl⟩
  obtain ⟨f, hacts⟩ := hacts
  clear hx
  have hfit := fits10_c w A len cap f hm (fun k hk => by
    obtain ⟨ab, off, kd, nw, n, A', cp, l, h1, _, _, _, _, _, h2, _, _, _, _, h3⟩ := hacts k hk
    exact ⟨ab, off, A', cp, h1, h2, h3⟩)
  replace hacts := Lib.hid hacts
  replace hlen := Lib.hid hlen
  replace hfit := Lib.hid hfit
  have q0 := run_eql_spl0
  have q1 := run_eql_stp0
  go_enter Try.func3, Try.ntmps3
  go_wp2_with fail
  refine hfit.out.mono ?_
  rintro e w9 ⟨bl, rfl, rfl, hbl⟩
  clear hfit
  cases bl with
  | false =>
    clear hbl
    go_wp2_with fail
    refine (alive10_k _).mono ?_
    rintro e w1_ ⟨rfl, hbel⟩
    replace HH := Lib.hid ((by first | exact Kp.same hbel | exact Kp.drew hbel | exact Kp.below hbel : Kp _ w1_) _ _ (by first | exact HH.out | exact HH.out.drewN _ | exact (HH.out.alloc _).tail | exact ((HH.out.alloc _).drewN _).tail | exact ((HH.out.alloc _).alloc _).tail.tail))
    clear hbel
    go_wp2_with fail
    go_ret
    exact ⟨rfl, HH.out⟩
  | true =>
    obtain ⟨hl100, hf100⟩ := hbl rfl
    clear hbl
    replace hf100 := Lib.hid hf100
    go_wp2_with fail
    refine (rateNew_c w _ _ HH.out).mono ?_
    rintro e w2_ ⟨b, rfl, H9_⟩
    replace HH := Lib.hid H9_
    clear H9_
    go_wp2_with fail
    go_loopw [5] (fun i wr => ∃ (k : Nat) (s : Smp), k ≤ len ∧ i = .int .i64 k ∧ s.Ok ∧ Own w wr (smp b s :: [old w])) (fun i _ => len - (intOf i).toNat)
    case atStart => exact ⟨0, Smp.zero, Nat.zero_le _, rfl, ⟨U_zero, U_zero, U_zero, U_zero⟩, HH.out⟩
    case round =>
      clear HH
      obtain ⟨k, s, hk, rfl, hs, HR⟩ := hrel
      have HH := Lib.hid HR
      clear HR
      replace hs := Lib.hid hs
      by_cases hlt : k < len
      · obtain ⟨ab, off, kd, nw, n, A', cp, l, rfl, hk0, hk1, hnw, hn, hpk, _, hpo, c0, c1, c2, c3⟩ := hacts.out k hlt
        have hf := hf100.out k hlt
        have o0 := ((Own.pm (HH.out) (by repeat (first | with_reducible exact Pm.refl _ | with_reducible exact Pm.nil _ | with_reducible refine Pm.here ?_ | with_reducible refine Pm.at2 ?_ | with_reducible refine Pm.at3 ?_ | with_reducible refine Pm.at4 ?_ | with_reducible refine Pm.at5 ?_ | with_reducible refine Pm.at6 ?_ | with_reducible refine Pm.at7 ?_ | with_reducible refine Pm.at8 ?_ | with_reducible refine Pm.skip ?_))) : Own w _ [old w]).old_cell c0
        replace hnw := Lib.hid hnw
        replace hn := Lib.hid hn
        replace hpk := Lib.hid hpk
        replace hpo := Lib.hid hpo
        rcases (show kd % 3 = 0 ∨ kd % 3 = 1 ∨ kd % 3 = 2 by omega) with h3 | h3 | h3
        · go_wp2_with fail
          clear o0
          go_wp2_with fail
          refine wp_region_reg (some 11) HH.out (by kernel_rfl) ?_
          intro wm H9_
          replace HH := Lib.hid H9_
          clear H9_
          refine reg_p (i := 0) rfl (by kernel_rfl) (fun _ _ _ _ h => h) HH.out (fun K hK => ?_)
          go_simp
          first | (refine hK _ ?_; clear hK K) | (apply Exists.intro; refine ⟨?_, hK _ ?_⟩; (focus (intro wx; first | (go_simp; first | rfl) | rfl)); clear hK K)
          refine reg_p (i := 1) rfl (by kernel_rfl) (fun _ _ _ _ h => h) HH.out (fun K hK => ?_)
          go_simp
          first | (refine hK _ ?_; clear hK K) | (apply Exists.intro; refine ⟨?_, hK _ ?_⟩; (focus (intro wx; first | (go_simp; first | rfl) | rfl)); clear hK K)
          refine reg_p (i := 2) rfl (by kernel_rfl) (fun _ _ _ _ h => h) HH.out (fun K hK => ?_)
          go_simp
          first | (refine hK _ ?_; clear hK K) | (apply Exists.intro; refine ⟨?_, hK _ ?_⟩; (focus (intro wx; first | (go_simp; first | rfl) | rfl)); clear hK K)
          refine reg_p (i := 3) rfl (by kernel_rfl) (fun _ _ _ _ h => h) HH.out (fun K hK => ?_)
          go_simp
          first | (refine hK _ ?_; clear hK K) | (apply Exists.intro; refine ⟨?_, hK _ ?_⟩; (focus (intro wx; first | (go_simp; first | rfl) | rfl)); clear hK K)
          refine reg_p (i := 4) rfl (by kernel_rfl) (fun _ _ _ _ h => h) HH.out (fun K hK => ?_)
          go_simp
          first | (refine hK _ ?_; clear hK K) | (apply Exists.intro; refine ⟨?_, hK _ ?_⟩; (focus (intro wx; first | (go_simp; first | rfl) | rfl)); clear hK K)
          refine mixk_q (i := 5) rfl (by kernel_rfl) (fun _ _ _ _ h => h) HH.out (fun K hK => ?_)
          go_simp
          first | (refine hK _ ?_; clear hK K) | (apply Exists.intro; refine ⟨?_, hK _ ?_⟩; (focus (intro wx hx; have y1_ := hx.r2.old_cell c1; have y2_ := hx.r2.old_cell c2; first | (go_simp; first | rfl | exact ⟨rfl, rfl⟩) | rfl | exact ⟨rfl, rfl⟩)); clear hK K)
          refine reg_p (i := 6) rfl (by kernel_rfl) (fun _ _ _ _ h => h) HH.out (fun K hK => ?_)
          go_simp
          first | (refine hK _ ?_; clear hK K) | (apply Exists.intro; refine ⟨?_, hK _ ?_⟩; (focus (intro wx; first | (go_simp; first | rfl) | rfl)); clear hK K)
          refine reg_p (i := 7) rfl (by kernel_rfl) (fun _ _ _ _ h => h) HH.out (fun K hK => ?_)
          go_simp
          first | (refine hK _ ?_; clear hK K) | (apply Exists.intro; refine ⟨?_, hK _ ?_⟩; (focus (intro wx; first | (go_simp; first | rfl) | rfl)); clear hK K)
          refine reg_p (i := 8) rfl (by kernel_rfl) (fun _ _ _ _ h => h) HH.out (fun K hK => ?_)
          go_simp
          first | (refine hK _ ?_; clear hK K) | (apply Exists.intro; refine ⟨?_, hK _ ?_⟩; (focus (intro wx; first | (go_simp; first | rfl) | rfl)); clear hK K)
          refine reg_p (i := 9) rfl (by kernel_rfl) (fun _ _ _ _ h => h) HH.out (fun K hK => ?_)
          go_simp
          first | (refine hK _ ?_; clear hK K) | (apply Exists.intro; refine ⟨?_, hK _ ?_⟩; (focus (intro wx; first | (go_simp; first | rfl) | rfl)); clear hK K)
          refine mixk_q (i := 10) rfl (by kernel_rfl) (fun _ _ _ _ h => h) HH.out (fun K hK => ?_)
          go_simp
          first | (refine hK _ ?_; clear hK K) | (apply Exists.intro; refine ⟨?_, hK _ ?_⟩; (focus (intro wx hx; have y1_ := hx.r2.old_cell c1; have y2_ := hx.r2.old_cell c2; first | (go_simp; first | rfl | exact ⟨rfl, rfl⟩) | rfl | exact ⟨rfl, rfl⟩)); clear hK K)
          refine reg_l none (i := 11) rfl (by kernel_rfl) (fun wn hk K hK => ?_)
          replace HH := Lib.hid (hk _ _ HH.out)
          clear hk
          go_simp
          refine (rateStamp_c w wn _ b s nw n HH.out).mono ?_
          rintro e wm ⟨rfl, H9_⟩
          replace HH := Lib.hid H9_
          clear H9_
          refine hK _ _ _ HH.out (.inl (by kernel_rfl)) ?_
          clear hK K
          refine mixk_done (by kernel_rfl) (fun w3_ hk => ?_) _
          replace HH := Lib.hid (hk _ _ HH.out)
          clear hk
          go_wp2_with fail
          go_roundw
          case rel => exact ⟨k + 1, s.stamp nw n, by omega, by go_num, Smp.ok_stamp hs.out hnw.out, HH.out⟩
          case measure => simp [intOf]; omega
        · have o2 := ((Own.pm (HH.out) (by repeat (first | with_reducible exact Pm.refl _ | with_reducible exact Pm.nil _ | with_reducible refine Pm.here ?_ | with_reducible refine Pm.at2 ?_ | with_reducible refine Pm.at3 ?_ | with_reducible refine Pm.at4 ?_ | with_reducible refine Pm.at5 ?_ | with_reducible refine Pm.at6 ?_ | with_reducible refine Pm.at7 ?_ | with_reducible refine Pm.at8 ?_ | with_reducible refine Pm.skip ?_))) : Own w _ [old w]).old_cell c2
          go_wp2_with fail
          refine (rateLimit_c w _ _ b s hs.out n hn.out HH.out).mono ?_
          rintro e w4_ ⟨rfl, H9_⟩
          replace HH := Lib.hid H9_
          clear H9_
          clear o0 o2
          go_wp2_with fail
          go_roundw
          case rel => exact ⟨k + 1, s.limit n, by omega, by go_num, Smp.ok_limit hs.out hn.out, HH.out⟩
          case measure => simp [intOf]; omega
        · obtain ⟨⟨xd, xiv, xr, xrtt, xl⟩, bl2, s2, hs2, g1, g2, g3, g4, g5, hack⟩ := rateAck_any w b s hs.out nw hnw.out A' (f k) cp l hpo.out hpk.out.1 (by omega)
          simp only [Spl.cells] at g1 g2 g3 g4 g5 hack
          have e3 : decide (s2.d < xd) = false := decide_eq_false (by omega)
          have e4 : decide (nw < xrtt) = false := decide_eq_false (by omega)
          replace hack := Lib.hid hack
          replace hs2 := Lib.hid hs2
          replace g3 := Lib.hid g3
          replace g4 := Lib.hid g4
          replace g5 := Lib.hid g5
          clear g1 g2
          go_wp2_with fail
          clear o0
          go_wp2_with fail
          refine wp_region_reg (some 11) HH.out (by kernel_rfl) ?_
          intro wm H9_
          replace HH := Lib.hid H9_
          clear H9_
          refine reg_p (i := 0) rfl (by kernel_rfl) (fun _ _ _ _ h => h) HH.out (fun K hK => ?_)
          go_simp
          first | (refine hK _ ?_; clear hK K) | (apply Exists.intro; refine ⟨?_, hK _ ?_⟩; (focus (intro wx; first | (go_simp; first | rfl) | rfl)); clear hK K)
          refine reg_p (i := 1) rfl (by kernel_rfl) (fun _ _ _ _ h => h) HH.out (fun K hK => ?_)
          go_simp
          first | (refine hK _ ?_; clear hK K) | (apply Exists.intro; refine ⟨?_, hK _ ?_⟩; (focus (intro wx; first | (go_simp; first | rfl) | rfl)); clear hK K)
          refine reg_p (i := 2) rfl (by kernel_rfl) (fun _ _ _ _ h => h) HH.out (fun K hK => ?_)
          go_simp
          first | (refine hK _ ?_; clear hK K) | (apply Exists.intro; refine ⟨?_, hK _ ?_⟩; (focus (intro wx; first | (go_simp; first | rfl) | rfl)); clear hK K)
          refine reg_p (i := 3) rfl (by kernel_rfl) (fun _ _ _ _ h => h) HH.out (fun K hK => ?_)
          go_simp
          first | (refine hK _ ?_; clear hK K) | (apply Exists.intro; refine ⟨?_, hK _ ?_⟩; (focus (intro wx; first | (go_simp; first | rfl) | rfl)); clear hK K)
          refine reg_p (i := 4) rfl (by kernel_rfl) (fun _ _ _ _ h => h) HH.out (fun K hK => ?_)
          go_simp
          first | (refine hK _ ?_; clear hK K) | (apply Exists.intro; refine ⟨?_, hK _ ?_⟩; (focus (intro wx; first | (go_simp; first | rfl) | rfl)); clear hK K)
          refine mixk_q (i := 5) rfl (by kernel_rfl) (fun _ _ _ _ h => h) HH.out (fun K hK => ?_)
          go_simp
          first | (refine hK _ ?_; clear hK K) | (apply Exists.intro; refine ⟨?_, hK _ ?_⟩; (focus (intro wx hx; have y1_ := hx.r2.old_cell c1; have y3_ := hx.r2.old_cell c3; first | (go_simp; first | rfl | exact ⟨rfl, rfl⟩) | rfl | exact ⟨rfl, rfl⟩)); clear hK K)
          refine reg_p (i := 6) rfl (by kernel_rfl) (fun _ _ _ _ h => h) HH.out (fun K hK => ?_)
          go_simp
          first | (refine hK _ ?_; clear hK K) | (apply Exists.intro; refine ⟨?_, hK _ ?_⟩; (focus (intro wx; first | (go_simp; first | rfl) | rfl)); clear hK K)
          refine reg_p (i := 7) rfl (by kernel_rfl) (fun _ _ _ _ h => h) HH.out (fun K hK => ?_)
          go_simp
          first | (refine hK _ ?_; clear hK K) | (apply Exists.intro; refine ⟨?_, hK _ ?_⟩; (focus (intro wx; first | (go_simp; first | rfl) | rfl)); clear hK K)
          refine reg_p (i := 8) rfl (by kernel_rfl) (fun _ _ _ _ h => h) HH.out (fun K hK => ?_)
          go_simp
          first | (refine hK _ ?_; clear hK K) | (apply Exists.intro; refine ⟨?_, hK _ ?_⟩; (focus (intro wx; first | (go_simp; first | rfl) | rfl)); clear hK K)
          refine reg_p (i := 9) rfl (by kernel_rfl) (fun _ _ _ _ h => h) HH.out (fun K hK => ?_)
          go_simp
          first | (refine hK _ ?_; clear hK K) | (apply Exists.intro; refine ⟨?_, hK _ ?_⟩; (focus (intro wx; first | (go_simp; first | rfl) | rfl)); clear hK K)
          refine mixk_q (i := 10) rfl (by kernel_rfl) (fun _ _ _ _ h => h) HH.out (fun K hK => ?_)
          go_simp
          first | (refine hK _ ?_; clear hK K) | (apply Exists.intro; refine ⟨?_, hK _ ?_⟩; (focus (intro wx hx; have y1_ := hx.r2.old_cell c1; have y3_ := hx.r2.old_cell c3; first | (go_simp; first | rfl | exact ⟨rfl, rfl⟩) | rfl | exact ⟨rfl, rfl⟩)); clear hK K)
          refine reg_two (some 16) (some 11) (i := 11) (j := 15) rfl rfl (by kernel_rfl) (fun wn hk K hK => ?g1_) (fun wn hk K hK => ?g2_)
          case' g1_ =>
            replace HH := Lib.hid (hk _ _ HH.out)
            clear hk
            go_simp
            refine (hack.out wn _ (fun wx Hx => (itAt.old (enc := Pk.cells) (sz := 7) hpk.out (Own.pm (Hx) (by repeat (first | with_reducible exact Pm.refl _ | with_reducible exact Pm.nil _ | with_reducible refine Pm.here ?_ | with_reducible refine Pm.at2 ?_ | with_reducible refine Pm.at3 ?_ | with_reducible refine Pm.at4 ?_ | with_reducible refine Pm.at5 ?_ | with_reducible refine Pm.at6 ?_ | with_reducible refine Pm.at7 ?_ | with_reducible refine Pm.at8 ?_ | with_reducible refine Pm.skip ?_))) : itAt Pk.cells 7 wx A' (f k) l)) HH.out).mono ?_
            rintro e wm ⟨rfl, H9_⟩
            replace HH := Lib.hid H9_
            clear H9_
            refine hK _ _ _ HH.out (.inl (by kernel_rfl)) ?_
            clear hK K
            refine reg_p (i := 12) rfl (by kernel_rfl) (fun _ _ _ _ h => h) HH.out (fun K hK => ?_)
            go_simp
            first | (refine hK _ ?_; clear hK K) | (apply Exists.intro; refine ⟨?_, hK _ ?_⟩; (focus (intro wx; first | (go_simp; first | rfl) | rfl)); clear hK K)
            refine reg_p (i := 13) rfl (by kernel_rfl) (fun _ _ _ _ h => h) HH.out (fun K hK => ?_)
            go_simp
            first | (refine hK _ ?_; clear hK K) | (apply Exists.intro; refine ⟨?_, hK _ ?_⟩; (focus (intro wx; first | (go_simp; first | rfl) | rfl)); clear hK K)
            refine reg_p (i := 14) rfl (by kernel_rfl) (fun _ _ _ _ h => h) HH.out (fun K hK => ?_)
            go_simp
            first | (refine hK _ ?_; clear hK K) | (apply Exists.intro; refine ⟨?_, hK _ ?_⟩; (focus (intro wx; first | (go_simp; first | rfl) | rfl)); clear hK K)
            refine reg_l (some 16) (i := 15) rfl (by kernel_rfl) (fun wn hk K hK => ?_)
            replace HH := Lib.hid (hk _ _ HH.out)
            clear hk
            go_simp
            replace HH := Lib.hid (HH.out.alloc (.cells #[.int .u64 0, .int .u64 0, .int .u64 0, .int .u64 0, .bool false] 36))
            generalize wn.alloc (.cells #[.int .u64 0, .int .u64 0, .int .u64 0, .int .u64 0, .bool false] 36) = wm at *
            generalize wn.heap.size = sx at *
            refine hK _ _ _ HH.out (.inr ⟨rfl, fun _ h => h.tail⟩) ?_
            clear hK K
            refine reg_l none (i := 16) rfl (by kernel_rfl) (fun wn hk K hK => ?_)
            replace HH := Lib.hid (hk _ _ HH.out)
            clear hk
            refine want rfl (wp_store_own _ #[_, _, _, _, _] rfl rfl rfl HH.out (by kernel_rfl) rfl (by repeat (first | (refine List.forall_mem_cons.2 ⟨(by first | with_reducible assumption | rfl), ?_⟩) | exact fun _ h => absurd h List.not_mem_nil)) ?_)
            intro wm H9_
            replace HH := Lib.hid H9_
            clear H9_
            refine hK _ _ _ HH.out (.inl (by kernel_rfl)) ?_
            clear hK K
            refine reg_p (i := 17) rfl (by kernel_rfl) (fun _ _ _ _ h => h) HH.out (fun K hK => ?_)
            go_simp
            first | (refine hK _ ?_; clear hK K) | (apply Exists.intro; refine ⟨?_, hK _ ?_⟩; (focus (intro wx; first | (go_simp; first | rfl) | rfl)); clear hK K)
            refine mixk_done (by kernel_rfl) (fun w5_ hk => ?_) _
            replace HH := Lib.hid (hk _ _ HH.out)
            clear hk
            replace HH := Lib.hid ((Own.pm (HH.out) (by repeat (first | with_reducible exact Pm.refl _ | with_reducible exact Pm.nil _ | with_reducible refine Pm.here ?_ | with_reducible refine Pm.at2 ?_ | with_reducible refine Pm.at3 ?_ | with_reducible refine Pm.at4 ?_ | with_reducible refine Pm.at5 ?_ | with_reducible refine Pm.at6 ?_ | with_reducible refine Pm.at7 ?_ | with_reducible refine Pm.at8 ?_ | with_reducible refine Pm.skip ?_))) : Own _ _ (pts sx _ :: smp b s2 :: [old w]))
          case' g2_ =>
            replace HH := Lib.hid (hk _ _ HH.out)
            clear hk
            go_simp
            replace HH := Lib.hid (HH.out.alloc (.cells #[.int .u64 0, .int .u64 0, .int .u64 0, .int .u64 0, .bool false] 36))
            generalize wn.alloc (.cells #[.int .u64 0, .int .u64 0, .int .u64 0, .int .u64 0, .bool false] 36) = wm at *
            generalize wn.heap.size = sx at *
            refine hK _ _ _ HH.out (.inr ⟨rfl, fun _ h => h.tail⟩) ?_
            clear hK K
            refine reg_l (some 16) (i := 11) rfl (by kernel_rfl) (fun wn hk K hK => ?_)
            replace HH := Lib.hid (hk _ _ HH.out)
            clear hk
            go_simp
            refine (hack.out wn _ (fun wx Hx => (itAt.old (enc := Pk.cells) (sz := 7) hpk.out (Own.pm (Hx) (by repeat (first | with_reducible exact Pm.refl _ | with_reducible exact Pm.nil _ | with_reducible refine Pm.here ?_ | with_reducible refine Pm.at2 ?_ | with_reducible refine Pm.at3 ?_ | with_reducible refine Pm.at4 ?_ | with_reducible refine Pm.at5 ?_ | with_reducible refine Pm.at6 ?_ | with_reducible refine Pm.at7 ?_ | with_reducible refine Pm.at8 ?_ | with_reducible refine Pm.skip ?_))) : itAt Pk.cells 7 wx A' (f k) l)) HH.out.r2).mono ?_
            rintro e wm ⟨rfl, H9_⟩
            replace HH := Lib.hid H9_
            clear H9_
            refine hK _ _ _ HH.out (.inl (by kernel_rfl)) ?_
            clear hK K
            refine reg_p (i := 12) rfl (by kernel_rfl) (fun _ _ _ _ h => h) HH.out (fun K hK => ?_)
            go_simp
            first | (refine hK _ ?_; clear hK K) | (apply Exists.intro; refine ⟨?_, hK _ ?_⟩; (focus (intro wx; first | (go_simp; first | rfl) | rfl)); clear hK K)
            refine reg_p (i := 13) rfl (by kernel_rfl) (fun _ _ _ _ h => h) HH.out (fun K hK => ?_)
            go_simp
            first | (refine hK _ ?_; clear hK K) | (apply Exists.intro; refine ⟨?_, hK _ ?_⟩; (focus (intro wx; first | (go_simp; first | rfl) | rfl)); clear hK K)
            refine reg_p (i := 14) rfl (by kernel_rfl) (fun _ _ _ _ h => h) HH.out (fun K hK => ?_)
            go_simp
            first | (refine hK _ ?_; clear hK K) | (apply Exists.intro; refine ⟨?_, hK _ ?_⟩; (focus (intro wx; first | (go_simp; first | rfl) | rfl)); clear hK K)
            refine reg_l none (i := 16) rfl (by kernel_rfl) (fun wn hk K hK => ?_)
            replace HH := Lib.hid (hk _ _ HH.out)
            clear hk
            refine want rfl (wp_store_own _ #[_, _, _, _, _] rfl rfl rfl HH.out.r2 (by kernel_rfl) rfl (by repeat (first | (refine List.forall_mem_cons.2 ⟨(by first | with_reducible assumption | rfl), ?_⟩) | exact fun _ h => absurd h List.not_mem_nil)) ?_)
            intro wm H9_
            replace HH := Lib.hid H9_
            clear H9_
            refine hK _ _ _ HH.out (.inl (by kernel_rfl)) ?_
            clear hK K
            refine reg_p (i := 17) rfl (by kernel_rfl) (fun _ _ _ _ h => h) HH.out (fun K hK => ?_)
            go_simp
            first | (refine hK _ ?_; clear hK K) | (apply Exists.intro; refine ⟨?_, hK _ ?_⟩; (focus (intro wx; first | (go_simp; first | rfl) | rfl)); clear hK K)
            refine mixk_done (by kernel_rfl) (fun w5_ hk => ?_) _
            replace HH := Lib.hid (hk _ _ HH.out)
            clear hk
            replace HH := Lib.hid ((Own.pm (HH.out) (by repeat (first | with_reducible exact Pm.refl _ | with_reducible exact Pm.nil _ | with_reducible refine Pm.here ?_ | with_reducible refine Pm.at2 ?_ | with_reducible refine Pm.at3 ?_ | with_reducible refine Pm.at4 ?_ | with_reducible refine Pm.at5 ?_ | with_reducible refine Pm.at6 ?_ | with_reducible refine Pm.at7 ?_ | with_reducible refine Pm.at8 ?_ | with_reducible refine Pm.skip ?_))) : Own _ _ (pts sx _ :: smp b s2 :: [old w]))
          all_goals
            by_cases hxr : xr < 18446744073709551615
            case' pos =>
              have e1 : decide (xr < 18446744073709551615) = true := decide_eq_true hxr
              have e2 : decide (xd < sshare xr xiv 1000000) = false := decide_eq_false (by have := g3.out hxr; omega)
            case' neg =>
              have e1 : decide (xr < 18446744073709551615) = false := decide_eq_false hxr
            all_goals
              clear hxr
              go_wp2_with fail
              refine wp_region_reg none HH.out (by kernel_rfl) ?_
              intro wm H9_
              replace HH := Lib.hid H9_
              clear H9_
              refine reg_p (i := 0) rfl (by kernel_rfl) (fun _ _ _ _ h => h) HH.out (fun K hK => ?_)
              go_simp
              first | (refine hK _ ?_; clear hK K) | (apply Exists.intro; refine ⟨?_, hK _ ?_⟩; (focus (intro wx; first | (go_simp; first | rfl) | rfl)); clear hK K)
              refine mixk_q (i := 1) rfl (by kernel_rfl) (fun _ _ _ _ h => h) HH.out (fun K hK => ?_)
              go_simp
              first | (refine hK _ ?_; clear hK K) | (apply Exists.intro; refine ⟨?_, hK _ ?_⟩; (focus (intro wx hx; have x1_ := hx.cells; have y1_ := hx.r3.old_cell c1; first | (first | (go_at_call 19; refine (fixShare_c wx xr xiv 1000000 g4.out g5.out (by decide)).mono ?_; rintro e wy ⟨rfl, hbel⟩; exact ⟨rfl, (by first | exact Kp.same hbel | exact Kp.drew hbel | exact Kp.below hbel : Kp wx wy)⟩) | (go_at_call 20; refine (rateDelivered_c w wx _ b s2 hx.r2).mono ?_; rintro e wy ⟨rfl, hbel⟩; exact ⟨rfl, (by first | exact Kp.same hbel | exact Kp.drew hbel | exact Kp.below hbel : Kp wx wy)⟩)) | (go_simp; first | rfl | exact ⟨rfl, rfl⟩) | rfl | exact ⟨rfl, rfl⟩)); clear hK K)
              refine reg_p (i := 2) rfl (by kernel_rfl) (fun _ _ _ _ h => h) HH.out (fun K hK => ?_)
              go_simp
              first | (refine hK _ ?_; clear hK K) | (apply Exists.intro; refine ⟨?_, hK _ ?_⟩; (focus (intro wx; first | (go_simp; first | rfl) | rfl)); clear hK K)
              refine reg_p (i := 3) rfl (by kernel_rfl) (fun _ _ _ _ h => h) HH.out (fun K hK => ?_)
              go_simp
              first | (refine hK _ ?_; clear hK K) | (apply Exists.intro; refine ⟨?_, hK _ ?_⟩; (focus (intro wx; first | (go_simp; first | rfl) | rfl)); clear hK K)
              refine reg_p (i := 4) rfl (by kernel_rfl) (fun _ _ _ _ h => h) HH.out (fun K hK => ?_)
              go_simp
              first | (refine hK _ ?_; clear hK K) | (apply Exists.intro; refine ⟨?_, hK _ ?_⟩; (focus (intro wx; first | (go_simp; first | rfl) | rfl)); clear hK K)
              refine mixk_q (i := 5) rfl (by kernel_rfl) (fun _ _ _ _ h => h) HH.out (fun K hK => ?_)
              go_simp
              first | (refine hK _ ?_; clear hK K) | (apply Exists.intro; refine ⟨?_, hK _ ?_⟩; (focus (intro wx hx; have x1_ := hx.cells; have y1_ := hx.r3.old_cell c1; first | (first | (go_at_call 19; refine (fixShare_c wx xr xiv 1000000 g4.out g5.out (by decide)).mono ?_; rintro e wy ⟨rfl, hbel⟩; exact ⟨rfl, (by first | exact Kp.same hbel | exact Kp.drew hbel | exact Kp.below hbel : Kp wx wy)⟩) | (go_at_call 20; refine (rateDelivered_c w wx _ b s2 hx.r2).mono ?_; rintro e wy ⟨rfl, hbel⟩; exact ⟨rfl, (by first | exact Kp.same hbel | exact Kp.drew hbel | exact Kp.below hbel : Kp wx wy)⟩)) | (go_simp; first | rfl | exact ⟨rfl, rfl⟩) | rfl | exact ⟨rfl, rfl⟩)); clear hK K)
              refine reg_p (i := 6) rfl (by kernel_rfl) (fun _ _ _ _ h => h) HH.out (fun K hK => ?_)
              go_simp
              first | (refine hK _ ?_; clear hK K) | (apply Exists.intro; refine ⟨?_, hK _ ?_⟩; (focus (intro wx; first | (go_simp; first | rfl) | rfl)); clear hK K)
              refine mixk_q (i := 7) rfl (by kernel_rfl) (fun _ _ _ _ h => h) HH.out (fun K hK => ?_)
              go_simp
              first | (refine hK _ ?_; clear hK K) | (apply Exists.intro; refine ⟨?_, hK _ ?_⟩; (focus (intro wx hx; have x1_ := hx.cells; have y1_ := hx.r3.old_cell c1; first | (first | (go_at_call 19; refine (fixShare_c wx xr xiv 1000000 g4.out g5.out (by decide)).mono ?_; rintro e wy ⟨rfl, hbel⟩; exact ⟨rfl, (by first | exact Kp.same hbel | exact Kp.drew hbel | exact Kp.below hbel : Kp wx wy)⟩) | (go_at_call 20; refine (rateDelivered_c w wx _ b s2 hx.r2).mono ?_; rintro e wy ⟨rfl, hbel⟩; exact ⟨rfl, (by first | exact Kp.same hbel | exact Kp.drew hbel | exact Kp.below hbel : Kp wx wy)⟩)) | (go_simp; first | rfl | exact ⟨rfl, rfl⟩) | rfl | exact ⟨rfl, rfl⟩)); clear hK K)
              refine mixk_q (i := 8) rfl (by kernel_rfl) (fun _ _ _ _ h => h) HH.out (fun K hK => ?_)
              go_simp
              first | (refine hK _ ?_; clear hK K) | (apply Exists.intro; refine ⟨?_, hK _ ?_⟩; (focus (intro wx hx; have x1_ := hx.cells; have y1_ := hx.r3.old_cell c1; first | (first | (go_at_call 19; refine (fixShare_c wx xr xiv 1000000 g4.out g5.out (by decide)).mono ?_; rintro e wy ⟨rfl, hbel⟩; exact ⟨rfl, (by first | exact Kp.same hbel | exact Kp.drew hbel | exact Kp.below hbel : Kp wx wy)⟩) | (go_at_call 20; refine (rateDelivered_c w wx _ b s2 hx.r2).mono ?_; rintro e wy ⟨rfl, hbel⟩; exact ⟨rfl, (by first | exact Kp.same hbel | exact Kp.drew hbel | exact Kp.below hbel : Kp wx wy)⟩)) | (go_simp; first | rfl | exact ⟨rfl, rfl⟩) | rfl | exact ⟨rfl, rfl⟩)); clear hK K)
              refine reg_p (i := 9) rfl (by kernel_rfl) (fun _ _ _ _ h => h) HH.out (fun K hK => ?_)
              go_simp
              first | (refine hK _ ?_; clear hK K) | (apply Exists.intro; refine ⟨?_, hK _ ?_⟩; (focus (intro wx; first | (go_simp; first | rfl) | rfl)); clear hK K)
              refine mixk_q (i := 10) rfl (by kernel_rfl) (fun _ _ _ _ h => h) HH.out (fun K hK => ?_)
              go_simp
              first | (refine hK _ ?_; clear hK K) | (apply Exists.intro; refine ⟨?_, hK _ ?_⟩; (focus (intro wx hx; have x1_ := hx.cells; have y1_ := hx.r3.old_cell c1; first | (first | (go_at_call 19; refine (fixShare_c wx xr xiv 1000000 g4.out g5.out (by decide)).mono ?_; rintro e wy ⟨rfl, hbel⟩; exact ⟨rfl, (by first | exact Kp.same hbel | exact Kp.drew hbel | exact Kp.below hbel : Kp wx wy)⟩) | (go_at_call 20; refine (rateDelivered_c w wx _ b s2 hx.r2).mono ?_; rintro e wy ⟨rfl, hbel⟩; exact ⟨rfl, (by first | exact Kp.same hbel | exact Kp.drew hbel | exact Kp.below hbel : Kp wx wy)⟩)) | (go_simp; first | rfl | exact ⟨rfl, rfl⟩) | rfl | exact ⟨rfl, rfl⟩)); clear hK K)
              refine reg_p (i := 11) rfl (by kernel_rfl) (fun _ _ _ _ h => h) HH.out (fun K hK => ?_)
              go_simp
              first | (refine hK _ ?_; clear hK K) | (apply Exists.intro; refine ⟨?_, hK _ ?_⟩; (focus (intro wx; first | (go_simp; first | rfl) | rfl)); clear hK K)
              refine reg_p (i := 12) rfl (by kernel_rfl) (fun _ _ _ _ h => h) HH.out (fun K hK => ?_)
              go_simp
              first | (refine hK _ ?_; clear hK K) | (apply Exists.intro; refine ⟨?_, hK _ ?_⟩; (focus (intro wx; first | (go_simp; first | rfl) | rfl)); clear hK K)
              refine reg_p (i := 13) rfl (by kernel_rfl) (fun _ _ _ _ h => h) HH.out (fun K hK => ?_)
              go_simp
              first | (refine hK _ ?_; clear hK K) | (apply Exists.intro; refine ⟨?_, hK _ ?_⟩; (focus (intro wx; first | (go_simp; first | rfl) | rfl)); clear hK K)
              refine reg_p (i := 14) rfl (by kernel_rfl) (fun _ _ _ _ h => h) HH.out (fun K hK => ?_)
              go_simp
              first | (refine hK _ ?_; clear hK K) | (apply Exists.intro; refine ⟨?_, hK _ ?_⟩; (focus (intro wx; first | (go_simp; first | rfl) | rfl)); clear hK K)
              refine mixk_q (i := 15) rfl (by kernel_rfl) (fun _ _ _ _ h => h) HH.out (fun K hK => ?_)
              go_simp
              first | (refine hK _ ?_; clear hK K) | (apply Exists.intro; refine ⟨?_, hK _ ?_⟩; (focus (intro wx hx; have x1_ := hx.cells; have y1_ := hx.r3.old_cell c1; first | (first | (go_at_call 19; refine (fixShare_c wx xr xiv 1000000 g4.out g5.out (by decide)).mono ?_; rintro e wy ⟨rfl, hbel⟩; exact ⟨rfl, (by first | exact Kp.same hbel | exact Kp.drew hbel | exact Kp.below hbel : Kp wx wy)⟩) | (go_at_call 20; refine (rateDelivered_c w wx _ b s2 hx.r2).mono ?_; rintro e wy ⟨rfl, hbel⟩; exact ⟨rfl, (by first | exact Kp.same hbel | exact Kp.drew hbel | exact Kp.below hbel : Kp wx wy)⟩)) | (go_simp; first | rfl | exact ⟨rfl, rfl⟩) | rfl | exact ⟨rfl, rfl⟩)); clear hK K)
              refine reg_p (i := 16) rfl (by kernel_rfl) (fun _ _ _ _ h => h) HH.out (fun K hK => ?_)
              go_simp
              first | (refine hK _ ?_; clear hK K) | (apply Exists.intro; refine ⟨?_, hK _ ?_⟩; (focus (intro wx; first | (go_simp; first | rfl) | rfl)); clear hK K)
              refine mixk_q (i := 17) rfl (by kernel_rfl) (fun _ _ _ _ h => h) HH.out (fun K hK => ?_)
              go_simp
              first | (refine hK _ ?_; clear hK K) | (apply Exists.intro; refine ⟨?_, hK _ ?_⟩; (focus (intro wx hx; have x1_ := hx.cells; have y1_ := hx.r3.old_cell c1; first | (first | (go_at_call 19; refine (fixShare_c wx xr xiv 1000000 g4.out g5.out (by decide)).mono ?_; rintro e wy ⟨rfl, hbel⟩; exact ⟨rfl, (by first | exact Kp.same hbel | exact Kp.drew hbel | exact Kp.below hbel : Kp wx wy)⟩) | (go_at_call 20; refine (rateDelivered_c w wx _ b s2 hx.r2).mono ?_; rintro e wy ⟨rfl, hbel⟩; exact ⟨rfl, (by first | exact Kp.same hbel | exact Kp.drew hbel | exact Kp.below hbel : Kp wx wy)⟩)) | (go_simp; first | rfl | exact ⟨rfl, rfl⟩) | rfl | exact ⟨rfl, rfl⟩)); clear hK K)
              refine reg_p (i := 18) rfl (by kernel_rfl) (fun _ _ _ _ h => h) HH.out (fun K hK => ?_)
              go_simp
              first | (refine hK _ ?_; clear hK K) | (apply Exists.intro; refine ⟨?_, hK _ ?_⟩; (focus (intro wx; first | (go_simp; first | rfl) | rfl)); clear hK K)
              refine reg_p (i := 19) rfl (by kernel_rfl) (fun _ _ _ _ h => h) HH.out (fun K hK => ?_)
              go_simp
              first | (refine hK _ ?_; clear hK K) | (apply Exists.intro; refine ⟨?_, hK _ ?_⟩; (focus (intro wx; first | (go_simp; first | rfl) | rfl)); clear hK K)
              refine reg_p (i := 20) rfl (by kernel_rfl) (fun _ _ _ _ h => h) HH.out (fun K hK => ?_)
              go_simp
              first | (refine hK _ ?_; clear hK K) | (apply Exists.intro; refine ⟨?_, hK _ ?_⟩; (focus (intro wx; first | (go_simp; first | rfl) | rfl)); clear hK K)
              refine reg_p (i := 21) rfl (by kernel_rfl) (fun _ _ _ _ h => h) HH.out (fun K hK => ?_)
              go_simp
              first | (refine hK _ ?_; clear hK K) | (apply Exists.intro; refine ⟨?_, hK _ ?_⟩; (focus (intro wx; first | (go_simp; first | rfl) | rfl)); clear hK K)
              refine mixk_q (i := 22) rfl (by kernel_rfl) (fun _ _ _ _ h => h) HH.out (fun K hK => ?_)
              go_simp
              first | (refine hK _ ?_; clear hK K) | (apply Exists.intro; refine ⟨?_, hK _ ?_⟩; (focus (intro wx hx; have x1_ := hx.cells; have y1_ := hx.r3.old_cell c1; first | (first | (go_at_call 19; refine (fixShare_c wx xr xiv 1000000 g4.out g5.out (by decide)).mono ?_; rintro e wy ⟨rfl, hbel⟩; exact ⟨rfl, (by first | exact Kp.same hbel | exact Kp.drew hbel | exact Kp.below hbel : Kp wx wy)⟩) | (go_at_call 20; refine (rateDelivered_c w wx _ b s2 hx.r2).mono ?_; rintro e wy ⟨rfl, hbel⟩; exact ⟨rfl, (by first | exact Kp.same hbel | exact Kp.drew hbel | exact Kp.below hbel : Kp wx wy)⟩)) | (go_simp; first | rfl | exact ⟨rfl, rfl⟩) | rfl | exact ⟨rfl, rfl⟩)); clear hK K)
              refine reg_p (i := 23) rfl (by kernel_rfl) (fun _ _ _ _ h => h) HH.out (fun K hK => ?_)
              go_simp
              first | (refine hK _ ?_; clear hK K) | (apply Exists.intro; refine ⟨?_, hK _ ?_⟩; (focus (intro wx; first | (go_simp; first | rfl) | rfl)); clear hK K)
              refine reg_p (i := 24) rfl (by kernel_rfl) (fun _ _ _ _ h => h) HH.out (fun K hK => ?_)
              go_simp
              first | (refine hK _ ?_; clear hK K) | (apply Exists.intro; refine ⟨?_, hK _ ?_⟩; (focus (intro wx; first | (go_simp; first | rfl) | rfl)); clear hK K)
              refine reg_p (i := 25) rfl (by kernel_rfl) (fun _ _ _ _ h => h) HH.out (fun K hK => ?_)
              go_simp
              first | (refine hK _ ?_; clear hK K) | (apply Exists.intro; refine ⟨?_, hK _ ?_⟩; (focus (intro wx; first | (go_simp; first | rfl) | rfl)); clear hK K)
              refine reg_p (i := 26) rfl (by kernel_rfl) (fun _ _ _ _ h => h) HH.out (fun K hK => ?_)
              go_simp
              first | (refine hK _ ?_; clear hK K) | (apply Exists.intro; refine ⟨?_, hK _ ?_⟩; (focus (intro wx; first | (go_simp; first | rfl) | rfl)); clear hK K)
              refine mixk_q (i := 27) rfl (by kernel_rfl) (fun _ _ _ _ h => h) HH.out (fun K hK => ?_)
              go_simp
              first | (refine hK _ ?_; clear hK K) | (apply Exists.intro; refine ⟨?_, hK _ ?_⟩; (focus (intro wx hx; have x1_ := hx.cells; have y1_ := hx.r3.old_cell c1; first | (first | (go_at_call 19; refine (fixShare_c wx xr xiv 1000000 g4.out g5.out (by decide)).mono ?_; rintro e wy ⟨rfl, hbel⟩; exact ⟨rfl, (by first | exact Kp.same hbel | exact Kp.drew hbel | exact Kp.below hbel : Kp wx wy)⟩) | (go_at_call 20; refine (rateDelivered_c w wx _ b s2 hx.r2).mono ?_; rintro e wy ⟨rfl, hbel⟩; exact ⟨rfl, (by first | exact Kp.same hbel | exact Kp.drew hbel | exact Kp.below hbel : Kp wx wy)⟩)) | (go_simp; first | rfl | exact ⟨rfl, rfl⟩) | rfl | exact ⟨rfl, rfl⟩)); clear hK K)
              refine reg_p (i := 28) rfl (by kernel_rfl) (fun _ _ _ _ h => h) HH.out (fun K hK => ?_)
              go_simp
              first | (refine hK _ ?_; clear hK K) | (apply Exists.intro; refine ⟨?_, hK _ ?_⟩; (focus (intro wx; first | (go_simp; first | rfl) | rfl)); clear hK K)
              refine reg_p (i := 29) rfl (by kernel_rfl) (fun _ _ _ _ h => h) HH.out (fun K hK => ?_)
              go_simp
              first | (refine hK _ ?_; clear hK K) | (apply Exists.intro; refine ⟨?_, hK _ ?_⟩; (focus (intro wx; first | (go_simp; first | rfl) | rfl)); clear hK K)
              refine mixk_done (by kernel_rfl) (fun w6_ hk => ?_) _
              replace HH := Lib.hid (hk _ _ HH.out)
              clear hk
              go_wp2_with fail
              go_roundw
              case rel => exact ⟨k + 1, s2, by omega, by go_num, hs2.out, (Own.pm (HH.out) (by repeat (first | with_reducible exact Pm.refl _ | with_reducible exact Pm.nil _ | with_reducible refine Pm.here ?_ | with_reducible refine Pm.at2 ?_ | with_reducible refine Pm.at3 ?_ | with_reducible refine Pm.at4 ?_ | with_reducible refine Pm.at5 ?_ | with_reducible refine Pm.at6 ?_ | with_reducible refine Pm.at7 ?_ | with_reducible refine Pm.at8 ?_ | with_reducible refine Pm.skip ?_)))⟩
              case measure => simp [intOf]; omega
      · have hkl : k = len := by omega
        clear hacts hf100
        go_wp2_with fail
        refine (rateLimit_nil _ 1).mono ?_
        rintro e w7_ ⟨rfl, hbel⟩
        replace HH := Lib.hid ((by first | exact Kp.same hbel | exact Kp.drew hbel | exact Kp.below hbel : Kp _ w7_) _ _ (by first | exact HH.out | exact HH.out.drewN _ | exact (HH.out.alloc _).tail | exact ((HH.out.alloc _).drewN _).tail | exact ((HH.out.alloc _).alloc _).tail.tail))
        clear hbel
        go_wp2_with (with_reducible refine stop_bs ?_)
        refine Stop.go ?_
        refine wpList_bsv_own HH.out [.int .u64 0, .int .u64 1, .int .u64 0, .int .u64 0, .int .u64 0, .int .u64 0, .bool false] 7 56 [.int .u64 0, .int .u64 0, .int .u64 0, .int .u64 0, .int .u64 0, .int .u64 0, .bool false] Try.underlying28 (by kernel_rfl) (by kernel_rfl) (by decide) (by decide) (by kernel_rfl) ?_
        intro g9 w8_ H9_
        replace HH := Lib.hid H9_
        clear H9_
        go_wp2_with fail
        refine (rateAck_nil w _ _ 1 _ 1 1 HH.out).mono ?_
        rintro e w9_ ⟨rfl, H9_⟩
        replace HH := Lib.hid H9_
        clear H9_
        go_wp2_with (with_reducible refine stop_al ?_)
        refine Stop.go ?_
        refine wpList_alloc_own HH.out [.int .u64 0, .int .u64 0, .int .u64 0, .int .u64 0, .bool false] (by kernel_rfl) ?_
        intro x9 w10_ H9_
        replace HH := Lib.hid H9_
        clear H9_
        go_wp2_with (with_reducible refine stop_st ?_)
        refine Stop.go ?_
        refine wpList_store_own _ #[_, _, _, _, _] rfl rfl HH.out (by kernel_rfl) rfl (by repeat (first | (refine List.forall_mem_cons.2 ⟨(by first | with_reducible assumption | rfl), ?_⟩) | exact fun _ h => absurd h List.not_mem_nil)) ?_
        intro w11_ H9_
        replace HH := Lib.hid H9_
        clear H9_
        go_wp2_with fail
        refine (alive10_k _).mono ?_
        rintro e w12_ ⟨rfl, hbel⟩
        replace HH := Lib.hid ((by first | exact Kp.same hbel | exact Kp.drew hbel | exact Kp.below hbel : Kp _ w12_) _ _ (by first | exact HH.out | exact HH.out.drewN _ | exact (HH.out.alloc _).tail | exact ((HH.out.alloc _).drewN _).tail | exact ((HH.out.alloc _).alloc _).tail.tail))
        clear hbel
        (try clear cc1_); (try clear cc2_); (try clear cc3_); (try clear cc4_); (try clear cc5_); (try clear cc6_); (try clear cc7_)
        have cc1_ := HH.out.cells
        go_wp2_with fail
        refine (rateDelivered_nil _).mono ?_
        rintro e w13_ ⟨rfl, hbel⟩
        replace HH := Lib.hid ((by first | exact Kp.same hbel | exact Kp.drew hbel | exact Kp.below hbel : Kp _ w13_) _ _ (by first | exact HH.out | exact HH.out.drewN _ | exact (HH.out.alloc _).tail | exact ((HH.out.alloc _).drewN _).tail | exact ((HH.out.alloc _).alloc _).tail.tail))
        clear hbel
        (try clear cc1_); (try clear cc2_); (try clear cc3_); (try clear cc4_); (try clear cc5_); (try clear cc6_); (try clear cc7_)
        have cc1_ := HH.out.cells
        go_wp2_with fail
        refine (rateStamp_nil w _ _ 1 0 HH.out).mono ?_
        rintro e w14_ ⟨rfl, H9_⟩
        replace HH := Lib.hid H9_
        clear H9_
        (try clear cc1_); (try clear cc2_); (try clear cc3_); (try clear cc4_); (try clear cc5_); (try clear cc6_); (try clear cc7_)
        have cc1_ := HH.out.cells
        go_wp2_with fail
        go_ret
        exact ⟨rfl, (Own.pm (HH.out) (by repeat (first | with_reducible exact Pm.refl _ | with_reducible exact Pm.nil _ | with_reducible refine Pm.here ?_ | with_reducible refine Pm.at2 ?_ | with_reducible refine Pm.at3 ?_ | with_reducible refine Pm.at4 ?_ | with_reducible refine Pm.at5 ?_ | with_reducible refine Pm.at6 ?_ | with_reducible refine Pm.at7 ?_ | with_reducible refine Pm.at8 ?_ | with_reducible refine Pm.skip ?_)))⟩
end
end Go.Proofs.Ytklohjjkpobneaa
