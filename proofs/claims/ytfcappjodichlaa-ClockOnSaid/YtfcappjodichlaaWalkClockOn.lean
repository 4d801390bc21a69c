/- The walk of ClockOn: whatever acts come, the law returns true, and nothing that was there is written. -/
import Derived.Test.YtfcappjodichlaaAlive02
namespace Go.Proofs.Ytfcappjodichlaa
open Go.RowKit
def Grows (s s' : Clk) : Prop := s.t ≤ s'.t ∧ s.n ≤ s'.n ∧ (s.past = true → s' = s)
theorem grows_to {s : Clk} {t : Int} : Grows s (s.to t).2 := by
  unfold Grows Clk.to; repeat' split
  all_goals (refine ⟨?_, ?_, ?_⟩ <;> simp_all)
theorem grows_count {s : Clk} {n : Int} (hn : 0 ≤ n) : Grows s (s.count n).2 := by
  unfold Grows Clk.count; repeat' split
  all_goals (refine ⟨?_, ?_, ?_⟩ <;> simp_all <;> omega)
set_option maxRecDepth 100000 in
set_option maxHeartbeats 1600000 in
theorem clockOn_c (w : World) (A : Option Addr) (len cap : Nat) (xs : List ActC) (hr : rdSlice rdActC 2 w [.slice A len cap] xs) :
    Calls Try.prog 9 #[.slice A len cap] w fun e w' => e = .returned (.bool true) ∧ Own w w' [old w] := by
  obtain ⟨hl, hm, hx⟩ := rdSlice_cases hr
  clear hr
  by_cases hbig : 200 < len
  · go_enter Try.func9, Try.ntmps9
    go_wp2_with fail
    refine (alive02_c w _ _ (Own.init w)).mono ?_
    rintro e w1 ⟨rfl, H1⟩
    replace H1 := Lib.hid H1
    go_wp2_with fail
    go_ret
    exact ⟨rfl, H1.out⟩
  rcases hx with hz | ⟨ab, off, rfl, hx⟩
  all_goals
    go_enter Try.func9, Try.ntmps9
    go_wp2_with fail
    refine (clkNew_c w _ (Own.init w)).mono ?_
    rintro e w1 ⟨b1, rfl, H1⟩
    replace H1 := Lib.hid H1
    go_wp2_with fail
    go_loopw [4] (fun i wr => ∃ (k : Nat) (s : Clk), k ≤ len ∧ i = .int .i64 k ∧ s.Ok ∧ Own w wr (clk b1 s :: [old w])) (fun i _ => len - (intOf i).toNat)
    case atStart => exact ⟨0, Clk.zero, Nat.zero_le _, rfl, Clk.ok_zero, H1.out⟩
    case round =>
      obtain ⟨k, s, hk, rfl, hs, HR⟩ := hrel
      replace HR := Lib.hid HR
      clear H1
      by_cases hlt : k < len
      · first
        | (exfalso; omega)
        | (obtain ⟨c, _, hcell, hR⟩ := hx k (by omega)
           obtain ⟨rfl, hU⟩ := rdActC_open hR
           have g0 : wr.cell? ⟨ab, off + k * 2, none⟩ = some (.bool xs[k].1) := HR.out.r2.old_cell (hcell 0 _ rfl)
           have g1 : wr.cell? ⟨ab, off + k * 2 + 1, none⟩ = some (.int .u64 xs[k].2.1) := HR.out.r2.old_cell (hcell 1 _ rfl)
           clear hcell hR hx
           generalize xs[k] = x at *
           obtain ⟨c, n, u⟩ := x
           simp only at g0 g1 hU
           go_wp2_with fail
           refine (clkTime_c w _ _ b1 s HR.out).mono ?_
           rintro e w' ⟨rfl, rfl⟩
           go_wp2_with fail
           refine (clkBytes_c w _ _ b1 s HR.out).mono ?_
           rintro e w' ⟨rfl, rfl⟩
           go_wp2_with fail
           refine (clkPast_c w _ _ b1 s HR.out).mono ?_
           rintro e w' ⟨rfl, rfl⟩
           cases c
           · go_wp2_with fail
             refine (clkTo_c w _ _ b1 s n HR.out).mono ?_
             rintro e w3 ⟨rfl, H3⟩
             have hg : Grows s (s.to n).2 := grows_to
             have ho : (s.to n).2.Ok := Clk.ok_to hs
             generalize (s.to n).1 = er at *
             generalize (s.to n).2 = s3 at *
             clear g0 g1 hs HR
             replace H3 := Lib.hid H3
             obtain ⟨t0, n0, p0⟩ := s
             obtain ⟨t1, n1, p1⟩ := s3
             obtain ⟨hg1, hg2, hg3⟩ := hg
             unfold Clk.Ok at ho
             simp only at hg1 hg2 hg3 ho
             obtain ⟨ho1, ho2, ho3, ho4⟩ := ho
             have HO : Clk.Ok ⟨t1, n1, p1⟩ := ⟨ho1, ho2, ho3, ho4⟩
             replace HO := Lib.hid HO
             have c1 := clkTime_c w w3 _ b1 _ H3.out
             have c2 := clkBytes_c w w3 _ b1 _ H3.out
             have c3 := clkPast_c w w3 _ b1 _ H3.out
             cases p0
             · clear hg3
               by_cases e1 : (t1 == t0) = true
               · go_wp2_with fail
                 refine (c1).mono ?_
                 rintro e w' ⟨rfl, rfl⟩
                 go_wp2_with fail
                 refine (c2).mono ?_
                 rintro e w' ⟨rfl, rfl⟩
                 go_wp2_with fail
                 refine (c1).mono ?_
                 rintro e w' ⟨rfl, rfl⟩
                 go_wp2_with fail
                 refine (c2).mono ?_
                 rintro e w' ⟨rfl, rfl⟩
                 go_wp2_with fail
                 refine (c1).mono ?_
                 rintro e w' ⟨rfl, rfl⟩
                 go_wp2_with fail
                 refine (c2).mono ?_
                 rintro e w' ⟨rfl, rfl⟩
                 go_wp2_with fail
                 go_roundw
                 case rel => exact ⟨k + 1, ⟨t1, n1, p1⟩, by omega, by go_num, HO.out, H3.out⟩
                 case measure => simp [intOf]; omega
               · have e1 : (t1 == t0) = false := by simpa using e1
                 go_wp2_with fail
                 refine (c1).mono ?_
                 rintro e w' ⟨rfl, rfl⟩
                 go_wp2_with fail
                 refine (c1).mono ?_
                 rintro e w' ⟨rfl, rfl⟩
                 go_wp2_with fail
                 refine (c2).mono ?_
                 rintro e w' ⟨rfl, rfl⟩
                 go_wp2_with fail
                 refine (c1).mono ?_
                 rintro e w' ⟨rfl, rfl⟩
                 go_wp2_with fail
                 refine (c2).mono ?_
                 rintro e w' ⟨rfl, rfl⟩
                 go_wp2_with fail
                 go_roundw
                 case rel => exact ⟨k + 1, ⟨t1, n1, p1⟩, by omega, by go_num, HO.out, H3.out⟩
                 case measure => simp [intOf]; omega
             · have e := hg3 rfl
               simp only [Clk.mk.injEq] at e
               obtain ⟨rfl, rfl, rfl⟩ := e
               clear hg3
               go_wp2_with fail
               refine (c1).mono ?_
               rintro e w' ⟨rfl, rfl⟩
               go_wp2_with fail
               refine (c2).mono ?_
               rintro e w' ⟨rfl, rfl⟩
               go_wp2_with fail
               refine (c1).mono ?_
               rintro e w' ⟨rfl, rfl⟩
               go_wp2_with fail
               refine (c2).mono ?_
               rintro e w' ⟨rfl, rfl⟩
               go_wp2_with fail
               refine (c1).mono ?_
               rintro e w' ⟨rfl, rfl⟩
               go_wp2_with fail
               refine (c2).mono ?_
               rintro e w' ⟨rfl, rfl⟩
               go_wp2_with fail
               refine (c3).mono ?_
               rintro e w' ⟨rfl, rfl⟩
               go_wp2_with fail
               go_roundw
               case rel => exact ⟨k + 1, ⟨t1, n1, true⟩, by omega, by go_num, HO.out, H3.out⟩
               case measure => simp [intOf]; omega
           · go_wp2_with fail
             refine (clkCount_c w _ _ b1 s n hU hs HR.out).mono ?_
             rintro e w3 ⟨rfl, H3⟩
             have hg : Grows s (s.count n).2 := grows_count hU.1
             have ho : (s.count n).2.Ok := Clk.ok_count hU.1 hs
             generalize (s.count n).1 = er at *
             generalize (s.count n).2 = s3 at *
             clear g0 g1 hs HR
             replace H3 := Lib.hid H3
             obtain ⟨t0, n0, p0⟩ := s
             obtain ⟨t1, n1, p1⟩ := s3
             obtain ⟨hg1, hg2, hg3⟩ := hg
             unfold Clk.Ok at ho
             simp only at hg1 hg2 hg3 ho
             obtain ⟨ho1, ho2, ho3, ho4⟩ := ho
             have HO : Clk.Ok ⟨t1, n1, p1⟩ := ⟨ho1, ho2, ho3, ho4⟩
             replace HO := Lib.hid HO
             have c1 := clkTime_c w w3 _ b1 _ H3.out
             have c2 := clkBytes_c w w3 _ b1 _ H3.out
             have c3 := clkPast_c w w3 _ b1 _ H3.out
             cases p0
             · clear hg3
               by_cases e1 : (t1 == t0) = true
               · go_wp2_with fail
                 refine (c1).mono ?_
                 rintro e w' ⟨rfl, rfl⟩
                 go_wp2_with fail
                 refine (c2).mono ?_
                 rintro e w' ⟨rfl, rfl⟩
                 go_wp2_with fail
                 refine (c1).mono ?_
                 rintro e w' ⟨rfl, rfl⟩
                 go_wp2_with fail
                 refine (c2).mono ?_
                 rintro e w' ⟨rfl, rfl⟩
                 go_wp2_with fail
                 refine (c1).mono ?_
                 rintro e w' ⟨rfl, rfl⟩
                 go_wp2_with fail
                 refine (c2).mono ?_
                 rintro e w' ⟨rfl, rfl⟩
                 go_wp2_with fail
                 go_roundw
                 case rel => exact ⟨k + 1, ⟨t1, n1, p1⟩, by omega, by go_num, HO.out, H3.out⟩
                 case measure => simp [intOf]; omega
               · have e1 : (t1 == t0) = false := by simpa using e1
                 go_wp2_with fail
                 refine (c1).mono ?_
                 rintro e w' ⟨rfl, rfl⟩
                 go_wp2_with fail
                 refine (c1).mono ?_
                 rintro e w' ⟨rfl, rfl⟩
                 go_wp2_with fail
                 refine (c2).mono ?_
                 rintro e w' ⟨rfl, rfl⟩
                 go_wp2_with fail
                 refine (c1).mono ?_
                 rintro e w' ⟨rfl, rfl⟩
                 go_wp2_with fail
                 refine (c2).mono ?_
                 rintro e w' ⟨rfl, rfl⟩
                 go_wp2_with fail
                 go_roundw
                 case rel => exact ⟨k + 1, ⟨t1, n1, p1⟩, by omega, by go_num, HO.out, H3.out⟩
                 case measure => simp [intOf]; omega
             · have e := hg3 rfl
               simp only [Clk.mk.injEq] at e
               obtain ⟨rfl, rfl, rfl⟩ := e
               clear hg3
               go_wp2_with fail
               refine (c1).mono ?_
               rintro e w' ⟨rfl, rfl⟩
               go_wp2_with fail
               refine (c2).mono ?_
               rintro e w' ⟨rfl, rfl⟩
               go_wp2_with fail
               refine (c1).mono ?_
               rintro e w' ⟨rfl, rfl⟩
               go_wp2_with fail
               refine (c2).mono ?_
               rintro e w' ⟨rfl, rfl⟩
               go_wp2_with fail
               refine (c1).mono ?_
               rintro e w' ⟨rfl, rfl⟩
               go_wp2_with fail
               refine (c2).mono ?_
               rintro e w' ⟨rfl, rfl⟩
               go_wp2_with fail
               refine (c3).mono ?_
               rintro e w' ⟨rfl, rfl⟩
               go_wp2_with fail
               go_roundw
               case rel => exact ⟨k + 1, ⟨t1, n1, true⟩, by omega, by go_num, HO.out, H3.out⟩
               case measure => simp [intOf]; omega)
      · go_wp2_with fail
        refine (alive02_c w _ _ HR.out).mono ?_
        rintro e w3 ⟨rfl, H3⟩
        replace H3 := Lib.hid H3
        go_wp2_with fail
        refine (clkTo_nil w3 0).mono ?_
        rintro e w' ⟨rfl, rfl⟩
        go_wp2_with fail
        refine (clkCount_nil w3 0).mono ?_
        rintro e w' ⟨rfl, rfl⟩
        go_wp2_with fail
        refine (clkTime_nil w3).mono ?_
        rintro e w' ⟨rfl, rfl⟩
        go_wp2_with fail
        refine (clkBytes_nil w3).mono ?_
        rintro e w' ⟨rfl, rfl⟩
        go_wp2_with fail
        refine (clkPast_nil w3).mono ?_
        rintro e w' ⟨rfl, rfl⟩
        go_wp2_with fail
        go_ret
        exact ⟨rfl, H3.out.tail⟩
end Go.Proofs.Ytfcappjodichlaa
