/- The walk of ClockPlays: whatever acts come, the law returns true, and nothing that was there is written. -/
import Derived.Test.YtfcappjodichlaaAlive02
namespace Go.Proofs.Ytfcappjodichlaa
open Go.RowKit
set_option maxRecDepth 100000 in
set_option maxHeartbeats 1600000 in
theorem clockPlays_c (w : World) (A : Option Addr) (len cap : Nat) (xs : List ActC) (hr : rdSlice rdActC 2 w [.slice A len cap] xs) :
    Calls Try.prog 8 #[.slice A len cap] w fun e w' => e = .returned (.bool true) ∧ Own w w' [old w] := by
  obtain ⟨hl, hm, hx⟩ := rdSlice_cases hr
  clear hr
  by_cases hbig : 200 < len
  · go_enter Try.func8, Try.ntmps8
    go_wp2_with fail
    refine (alive02_c w _ _ (Own.init w)).mono ?_
    rintro e w1 ⟨rfl, H1⟩
    go_wp2_with fail
    go_ret
    exact ⟨rfl, H1⟩
  rcases hx with hz | ⟨ab, off, rfl, hx⟩
  all_goals
    go_enter Try.func8, Try.ntmps8
    go_wp2_with fail
    refine (clkNew_c w _ (Own.init w)).mono ?_
    rintro e w1 ⟨b1, rfl, H1⟩
    replace H1 := Lib.hid H1
    go_wp2_with fail
    have H2 : Own w (w1.alloc (.cells #[.int .u64 0, .int .u64 0, .bool false] 72)) (clk b1 Clk.zero :: rclk w1.heap.size Clk.zero :: [old w]) := (H1.out.alloc _).r2
    replace H2 := Lib.hid H2
    generalize hb2 : w1.heap.size = b2 at *
    go_loopw [5] (fun i wr => ∃ (k : Nat) (s : Clk), k ≤ len ∧ i = .int .i64 k ∧ s.Ok ∧ Own w wr (clk b1 s :: rclk b2 s :: [old w])) (fun i _ => len - (intOf i).toNat)
    case atStart => exact ⟨0, Clk.zero, Nat.zero_le _, rfl, Clk.ok_zero, H2.out⟩
    case round =>
      obtain ⟨k, s, hk, rfl, hs, HR⟩ := hrel
      replace HR := Lib.hid HR
      clear H1 H2
      by_cases hlt : k < len
      · first
        | (exfalso; omega)
        | (have hxk := hx k (by omega)
           obtain ⟨c, _, hcell, hR⟩ := hxk
           obtain ⟨rfl, hU⟩ := rdActC_open hR
           have g0 : wr.cell? ⟨ab, off + k * 2, none⟩ = some (.bool xs[k].1) := HR.out.r3.old_cell (hcell 0 _ rfl)
           have g1 : wr.cell? ⟨ab, off + k * 2 + 1, none⟩ = some (.int .u64 xs[k].2.1) := HR.out.r3.old_cell (hcell 1 _ rfl)
           have hw1 : w.cell? ⟨ab, off + k * 2 + 1, none⟩ = some (.int .u64 xs[k].2.1) := hcell 1 _ rfl
           clear hcell hR hx
           have hw1 : Hid (w.cell? ⟨ab, off + k * 2 + 1, none⟩ = some (.int .u64 xs[k].2.1)) := hw1
           generalize xs[k] = x at *
           obtain ⟨c, n, u⟩ := x
           simp only at g0 g1 hU
           cases c
           · go_wp2_with fail
             refine (clkTo_c w wr _ b1 s n HR.out).mono ?_
             rintro e w2 ⟨rfl, H2⟩
             have g2 := H2.r3.old_cell hw1.out
             replace H2 := Lib.hid H2
             go_wp2_with fail
             refine (rclkTo_c w w2 _ b2 s n H2.out.r2).mono ?_
             rintro e w3 ⟨rfl, H3⟩
             have hs3 := Clk.ok_to (t := n) hs
             generalize (s.to n).1 = er at *
             generalize (s.to n).2 = s3 at *
             obtain ⟨c3, _⟩ := H3.cells
             replace H3 := Lib.hid H3
             go_wp2_with fail
             go_quiet ((first | (go_at_call 48; exact Calls.quiet_of_same ((clkTime_c w _ _ b1 s3 (H3.out.r2.drewN _)).mono fun _ _ h => ⟨h.1, h.2.symm⟩)) | (go_at_call 49; exact Calls.quiet_of_same ((clkBytes_c w _ _ b1 s3 (H3.out.r2.drewN _)).mono fun _ _ h => ⟨h.1, h.2.symm⟩)) | (go_at_call 50; exact Calls.quiet_of_same ((clkPast_c w _ _ b1 s3 (H3.out.r2.drewN _)).mono fun _ _ h => ⟨h.1, h.2.symm⟩))))
             go_wp2_with fail
             go_roundw
             case rel => exact ⟨k + 1, s3, by omega, by go_num, hs3, H3.out.r2.drewN _⟩
             case measure => simp [intOf]; omega
           · go_wp2_with fail
             refine (clkCount_c w wr _ b1 s n hU hs HR.out).mono ?_
             rintro e w2 ⟨rfl, H2⟩
             have g2 := H2.r3.old_cell hw1.out
             replace H2 := Lib.hid H2
             go_wp2_with fail
             refine (rclkCount_c w w2 _ b2 s n hU hs H2.out.r2).mono ?_
             rintro e w3 ⟨rfl, H3⟩
             have hs3 := Clk.ok_count hU.1 hs
             generalize (s.count n).1 = er at *
             generalize (s.count n).2 = s3 at *
             obtain ⟨c3, _⟩ := H3.cells
             replace H3 := Lib.hid H3
             go_wp2_with fail
             go_quiet ((first | (go_at_call 48; exact Calls.quiet_of_same ((clkTime_c w _ _ b1 s3 (H3.out.r2.drewN _)).mono fun _ _ h => ⟨h.1, h.2.symm⟩)) | (go_at_call 49; exact Calls.quiet_of_same ((clkBytes_c w _ _ b1 s3 (H3.out.r2.drewN _)).mono fun _ _ h => ⟨h.1, h.2.symm⟩)) | (go_at_call 50; exact Calls.quiet_of_same ((clkPast_c w _ _ b1 s3 (H3.out.r2.drewN _)).mono fun _ _ h => ⟨h.1, h.2.symm⟩))))
             go_wp2_with fail
             go_roundw
             case rel => exact ⟨k + 1, s3, by omega, by go_num, hs3, H3.out.r2.drewN _⟩
             case measure => simp [intOf]; omega)
      · go_wp2_with fail
        refine (alive02_c w _ _ HR.out.r3).mono ?_
        rintro e w3 ⟨rfl, H3⟩
        go_wp2_with fail
        go_ret
        exact ⟨rfl, H3.r2.tail.r2.tail⟩
end Go.Proofs.Ytfcappjodichlaa
