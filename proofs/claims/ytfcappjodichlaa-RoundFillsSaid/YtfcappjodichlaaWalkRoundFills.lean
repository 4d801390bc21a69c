/- The walk of RoundFills: whatever rates come, the law returns true, and nothing that was there is written. -/
import Derived.Test.YtfcappjodichlaaAlive11
namespace Go.Proofs.Ytfcappjodichlaa
open Go.RowKit
abbrev RateR := Int × Bool × Bool × Unit
def rdRate : Rd RateR := rdPair (rdInt .u64) (rdPair rdBool (rdPair rdBool rdUnit))
theorem rdRate_open {w : World} {c : List Value} {x : RateR} (h : rdRate w c x) : c = [.int .u64 x.1, .bool x.2.1, .bool x.2.2.1] ∧ U x.1 := by
  obtain ⟨c1, c2, rfl, ⟨rfl, hv⟩, c3, c4, rfl, rfl, c5, c6, rfl, rfl, rfl⟩ := h
  exact ⟨rfl, U_of_wf hv⟩
theorem Pip.put_full {s : Pip} {x : Int} {r l : Bool} (h : 3 ≤ s.n) : s.put x r l = s := by unfold Pip.put; rw [if_pos (.inl h)]
set_option maxRecDepth 100000 in
set_option maxHeartbeats 3200000 in
theorem roundFills_c (w : World) (A : Option Addr) (len cap : Nat) (xs : List RateR) (hr : rdSlice rdRate 3 w [.slice A len cap] xs) :
    Calls Try.prog 6 #[.slice A len cap] w fun e w' => e = .returned (.bool true) ∧ Own w w' [old w] := by
  obtain ⟨hl, hm, hx⟩ := rdSlice_cases hr
  clear hr
  by_cases hbig : 200 < len
  · go_enter Try.func6, Try.ntmps6
    go_wp2_with fail
    refine (alive11_c w _ _ (Own.init w)).mono ?_
    rintro e w1 ⟨rfl, H1⟩
    replace H1 := Lib.hid H1
    go_wp2_with fail
    go_ret
    exact ⟨rfl, H1.out⟩
  rcases hx with hz | ⟨ab, off, rfl, hx⟩
  all_goals
    go_enter Try.func6, Try.ntmps6
    go_wp2_with fail
    refine (pipNew_c w _ (Own.init w)).mono ?_
    rintro e w1 ⟨b1, rfl, H1⟩
    replace H1 := Lib.hid H1
    go_wp2_with fail
    have H2 : Own w (w1.alloc (.cells #[.int .u64 0, .int .i64 0] 49)) (pip b1 Pip.zero :: rpip w1.heap.size Pip.zero :: [old w]) := (H1.out.alloc _).r2
    replace H2 := Lib.hid H2
    generalize hb2 : w1.heap.size = b2 at *
    go_loopw [5] (fun i wr => ∃ (k : Nat) (s : Pip), k ≤ len ∧ i = .int .i64 k ∧ s.Ok ∧ Own w wr (pip b1 s :: rpip b2 s :: [old w])) (fun i _ => len - (intOf i).toNat)
    case atStart => exact ⟨0, Pip.zero, Nat.zero_le _, rfl, Pip.ok_zero, H2.out⟩
    case round =>
      obtain ⟨k, s, hk, rfl, hs, HR⟩ := hrel
      replace HR := Lib.hid HR
      clear H1 H2
      by_cases hlt : k < len
      · first
        | (exfalso; omega)
        | (obtain ⟨c, _, hcell, hR⟩ := hx k (by omega)
           obtain ⟨rfl, hU⟩ := rdRate_open hR
           have hw0 : w.cell? ⟨ab, off + k * 3, none⟩ = some (.int .u64 xs[k].1) := hcell 0 _ rfl
           have hw1 : w.cell? ⟨ab, off + k * 3 + 1, none⟩ = some (.bool xs[k].2.1) := hcell 1 _ rfl
           have hw2 : w.cell? ⟨ab, off + k * 3 + 2, none⟩ = some (.bool xs[k].2.2.1) := hcell 2 _ rfl
           clear hcell hR hx
           generalize xs[k] = x at *
           obtain ⟨x, r, l, u⟩ := x
           simp only at hU hw0 hw1 hw2
           replace hw0 := Lib.hid hw0
           replace hw1 := Lib.hid hw1
           replace hw2 := Lib.hid hw2
           have hs3 := Pip.ok_put (r := r) (l := l) hU hs
           replace hs3 := Lib.hid hs3
           have hfull := Lib.hid (fun h => Pip.put_full (s := s) (x := x) (r := r) (l := l) h)
           have HS := Lib.hid hs
           clear hs
           go_wp2_with fail
           refine (pipFull_c w _ _ b1 s HR.out).mono ?_
           rintro e w' ⟨rfl, rfl⟩
           go_wp2_with fail
           refine (pipBest_c w _ _ b1 s HR.out).mono ?_
           rintro e w' ⟨rfl, rfl⟩
           have g0 := HR.out.r3.old_cell hw0.out
           have g1 := HR.out.r3.old_cell hw1.out
           have g2 := HR.out.r3.old_cell hw2.out
           go_wp2_with fail
           go_still_tail 16, (by kernel_rfl)
           change wpList _ _ _ _ _ wr.drew
           replace HR := Lib.hid HR.out.drew
           generalize wr.drew = w2 at *
           clear g0 g1 g2
           go_wp2_with fail
           refine (pipPut_c w w2 _ b1 s x r l hU HS.out HR.out).mono ?_
           rintro e w3 ⟨rfl, H3⟩
           replace H3 := Lib.hid H3
           have g0 := H3.out.r3.old_cell hw0.out
           have g1 := H3.out.r3.old_cell hw1.out
           have g2 := H3.out.r3.old_cell hw2.out
           go_wp2_with fail
           go_still_tail 16, (by kernel_rfl)
           change wpList _ _ _ _ _ w3.drew
           replace H3 := Lib.hid H3.out.drew
           generalize w3.drew = w4 at *
           clear g0 g1 g2
           go_wp2_with fail
           refine (rpipPut_c w w4 _ b2 s x r l hU HS.out H3.out.r2).mono ?_
           rintro e w5 ⟨rfl, H5⟩
           replace H5 := Lib.hid H5
           clear HR H3
           by_cases hf : 3 ≤ s.n
           · rw [hfull.out hf] at H5
             clear hs3 hfull
             obtain ⟨m, n⟩ := s
             simp only at hf
             obtain ⟨c3, _⟩ := H5.out.cells
             go_wp2_with fail
             go_quiet ((first | (go_at_call 32; exact quiet_c (pipFull_c w _ _ b1 _ (H5.out.r2.drewN _))) | (go_at_call 33; exact quiet_c (pipBest_c w _ _ b1 _ (H5.out.r2.drewN _)))))
             go_wp2_with fail
             go_roundw
             case rel => exact ⟨k + 1, _, by omega, by go_num, HS.out, H5.out.r2.drewN _⟩
             case measure => simp [intOf]; omega
           · generalize s.put x r l = s3 at *
             clear hfull HS
             obtain ⟨m, n⟩ := s
             obtain ⟨m3, n3⟩ := s3
             simp only at hf
             obtain ⟨c3, _⟩ := H5.out.cells
             have hd : decide (3 ≤ n) = false := decide_eq_false hf
             have hq : decide (3 ≤ n3) = true ∨ decide (3 ≤ n3) = false := by cases decide (3 ≤ n3) <;> simp
             rcases hq with hq | hq
             all_goals
               go_wp2_with fail
               go_quiet ((first | (go_at_call 32; exact quiet_c (pipFull_c w _ _ b1 _ (H5.out.r2.drewN _))) | (go_at_call 33; exact quiet_c (pipBest_c w _ _ b1 _ (H5.out.r2.drewN _)))))
               go_wp2_with fail
               go_roundw
               case rel => exact ⟨k + 1, _, by omega, by go_num, hs3.out, H5.out.r2.drewN _⟩
               case measure => simp [intOf]; omega)
      · go_wp2_with fail
        refine (pipPut_nil wr 1 true false).mono ?_
        rintro e w' ⟨rfl, rfl⟩
        go_wp2_with fail
        refine (alive11_c w _ _ HR.out).mono ?_
        rintro e w3 ⟨rfl, H3⟩
        replace H3 := Lib.hid H3
        go_wp2_with fail
        refine (pipFull_nil w3).mono ?_
        rintro e w' ⟨rfl, rfl⟩
        go_wp2_with fail
        refine (pipBest_nil w3).mono ?_
        rintro e w' ⟨rfl, rfl⟩
        go_wp2_with fail
        go_ret
        exact ⟨rfl, H3.out.tail.tail⟩
end Go.Proofs.Ytfcappjodichlaa
