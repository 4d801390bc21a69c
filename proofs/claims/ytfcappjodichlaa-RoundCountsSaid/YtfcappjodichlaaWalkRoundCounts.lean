/- The walk of RoundCounts: whatever deliveries come, the law returns true, and nothing that was there is written. -/
import Derived.Test.YtfcappjodichlaaAlive11
namespace Go.Proofs.Ytfcappjodichlaa
open Go.RowKit
abbrev TwoU := Int × Int × Unit
def rdTwoU : Rd TwoU := rdPair (rdInt .u64) (rdPair (rdInt .u64) rdUnit)
theorem rdTwoU_open {w : World} {c : List Value} {x : TwoU} (h : rdTwoU w c x) : c = [.int .u64 x.1, .int .u64 x.2.1] ∧ U x.1 ∧ U x.2.1 := by
  obtain ⟨c1, c2, rfl, ⟨rfl, hv⟩, c3, c4, rfl, ⟨rfl, hw⟩, rfl⟩ := h
  exact ⟨rfl, U_of_wf hv, U_of_wf hw⟩
set_option maxRecDepth 100000 in
set_option maxHeartbeats 1600000 in
theorem roundCounts_c (w : World) (A : Option Addr) (len cap : Nat) (xs : List TwoU) (hr : rdSlice rdTwoU 2 w [.slice A len cap] xs) :
    Calls Try.prog 5 #[.slice A len cap] w fun e w' => e = .returned (.bool true) ∧ Own w w' [old w] := by
  obtain ⟨hl, hm, hx⟩ := rdSlice_cases hr
  clear hr
  by_cases hbig : 200 < len
  · go_enter Try.func5, Try.ntmps5
    go_wp2_with fail
    refine (alive11_c w _ _ (Own.init w)).mono ?_
    rintro e w1 ⟨rfl, H1⟩
    replace H1 := Lib.hid H1
    go_wp2_with fail
    go_ret
    exact ⟨rfl, H1.out⟩
  rcases hx with hz | ⟨ab, off, rfl, hx⟩
  all_goals
    go_enter Try.func5, Try.ntmps5
    go_wp2_with fail
    refine (ctrNew_c w _ (Own.init w)).mono ?_
    rintro e w1 ⟨b1, rfl, H1⟩
    replace H1 := Lib.hid H1
    go_wp2_with fail
    have H2 : Own w (w1.alloc (.cells #[.int .u64 0, .int .u64 0] 40)) (ctr b1 Ctr.zero :: rctr w1.heap.size Ctr.zero :: [old w]) := (H1.out.alloc _).r2
    replace H2 := Lib.hid H2
    generalize hb2 : w1.heap.size = b2 at *
    go_loopw [5] (fun i wr => ∃ (k : Nat) (s : Ctr), k ≤ len ∧ i = .int .i64 k ∧ Own w wr (ctr b1 s :: rctr b2 s :: [old w])) (fun i _ => len - (intOf i).toNat)
    case atStart => exact ⟨0, Ctr.zero, Nat.zero_le _, rfl, H2.out⟩
    case round =>
      obtain ⟨k, s, hk, rfl, HR⟩ := hrel
      replace HR := Lib.hid HR
      clear H1 H2
      by_cases hlt : k < len
      · first
        | (exfalso; omega)
        | (obtain ⟨c, _, hcell, hR⟩ := hx k (by omega)
           obtain ⟨rfl, hU1, hU2⟩ := rdTwoU_open hR
           have hw0 : w.cell? ⟨ab, off + k * 2, none⟩ = some (.int .u64 xs[k].1) := hcell 0 _ rfl
           have hw1 : w.cell? ⟨ab, off + k * 2 + 1, none⟩ = some (.int .u64 xs[k].2.1) := hcell 1 _ rfl
           have g0 := HR.out.r3.old_cell hw0
           have g1 := HR.out.r3.old_cell hw1
           clear hcell hR hx
           generalize xs[k] = x at *
           obtain ⟨x, y, u⟩ := x
           simp only at g0 g1 hU1 hU2 hw0 hw1
           replace hw0 := Lib.hid hw0
           replace hw1 := Lib.hid hw1
           go_wp2_with fail
           go_still_tail 11, (by kernel_rfl)
           change wpList _ _ _ _ _ wr.drew
           replace HR := Lib.hid HR.out.drew
           generalize wr.drew = w2 at *
           clear g0 g1
           go_wp2_with fail
           refine (ctrAck_c w w2 _ b1 s x y HR.out).mono ?_
           rintro e w3 ⟨rfl, H3⟩
           replace H3 := Lib.hid H3
           have g0 := H3.out.r3.old_cell hw0.out
           have g1 := H3.out.r3.old_cell hw1.out
           go_wp2_with fail
           go_still_tail 11, (by kernel_rfl)
           change wpList _ _ _ _ _ w3.drew
           replace H3 := Lib.hid H3.out.drew
           generalize w3.drew = w4 at *
           clear g0 g1
           go_wp2_with fail
           refine (rctrAck_c w w4 _ b2 s x y H3.out.r2).mono ?_
           rintro e w5 ⟨rfl, H5⟩
           replace H5 := Lib.hid H5
           generalize (s.ack x y).1 = er at *
           generalize (s.ack x y).2 = s3 at *
           obtain ⟨c3, _⟩ := H5.out.cells
           go_wp2_with fail
           go_quiet ((go_at_call 30; exact quiet_c (ctrCount_c w _ _ b1 s3 (H5.out.r2.drewN _))))
           go_wp2_with fail
           go_roundw
           case rel => exact ⟨k + 1, s3, by omega, by go_num, H5.out.r2.drewN _⟩
           case measure => simp [intOf]; omega)
      · go_wp2_with fail
        refine (alive11_c w _ _ HR.out).mono ?_
        rintro e w3 ⟨rfl, H3⟩
        replace H3 := Lib.hid H3
        go_wp2_with fail
        refine (ctrAck_nil w3 1 1).mono ?_
        rintro e w' ⟨rfl, rfl⟩
        go_wp2_with fail
        refine (ctrCount_nil w3).mono ?_
        rintro e w' ⟨rfl, rfl⟩
        go_wp2_with fail
        go_ret
        exact ⟨rfl, H3.out.tail.tail⟩
end Go.Proofs.Ytfcappjodichlaa
