/- The walk of BucketTwice: whatever acts come, the law returns true, and nothing that was there is written. -/
import Derived.Test.YtfcappjodichlaaAlive18
namespace Go.Proofs.Ytfcappjodichlaa
open Go.RowKit
theorem sadd_sadd {t p q : Int} (_ht : 0 ≤ t) (_hp : 0 ≤ p) (hq : 0 ≤ q) : sadd (sadd t p) q = sadd t (p + q) := by
  unfold sadd; repeat' split
  all_goals omega
theorem Bkt.to_two {s : Bkt} {a b : Int} (hs : s.Ok) (hr : s.rate ≤ 1048576) (ha : 0 ≤ a) (ha' : a ≤ 4294967295) (hb : 0 ≤ b) (hb' : b ≤ 4294967295) :
    (s.to (s.now + a)).to (s.now + a + b) = s.to (s.now + a + b) := by
  obtain ⟨⟨h1, _⟩, _, ⟨h3, _⟩, _⟩ := hs
  by_cases h0 : a = 0
  · subst h0
    rw [Int.add_zero, show s.to s.now = s by unfold Bkt.to; rw [if_pos (Int.le_refl _)]]
  · by_cases hb0 : b = 0
    · subst hb0
      rw [Int.add_zero]
      unfold Bkt.to
      rw [if_neg (show ¬ s.now + a ≤ s.now by omega)]
      rw [if_pos (Int.le_refl _)]
    · have p1 : 0 ≤ s.rate * a := Int.mul_nonneg h1 ha
      have p2 : 0 ≤ s.rate * b := Int.mul_nonneg h1 hb
      have q1 : s.rate * a ≤ 1048576 * 4294967295 := Int.mul_le_mul hr ha' ha (by omega)
      have q2 : s.rate * b ≤ 1048576 * 4294967295 := Int.mul_le_mul hr hb' hb (by omega)
      have e1 : smul s.rate (s.now + a - s.now) = s.rate * a := by rw [show s.now + a - s.now = a by omega]; unfold smul; rw [if_neg (by omega)]
      have e2 : smul s.rate (s.now + a + b - (s.now + a)) = s.rate * b := by rw [show s.now + a + b - (s.now + a) = b by omega]; unfold smul; rw [if_neg (by omega)]
      have e3 : smul s.rate (s.now + a + b - s.now) = s.rate * a + s.rate * b := by rw [show s.now + a + b - s.now = a + b by omega, ← Int.mul_add]; unfold smul; rw [if_neg (by rw [Int.mul_add]; omega)]
      have w1 : s.to (s.now + a) = ⟨s.rate, s.now + a, sadd s.tok (s.rate * a), s.was⟩ := by unfold Bkt.to; rw [if_neg (by omega), e1]
      have w2 : s.to (s.now + a + b) = ⟨s.rate, s.now + a + b, sadd s.tok (s.rate * a + s.rate * b), s.was⟩ := by unfold Bkt.to; rw [if_neg (by omega), e3]
      rw [w1, w2]
      unfold Bkt.to
      rw [if_neg (show ¬ s.now + a + b ≤ s.now + a by omega)]
      simp only
      rw [e2, sadd_sadd h3 p1 p2]
theorem Bkt.rate_to (s : Bkt) (n : Int) : (s.to n).rate = s.rate ∧ (s.to n).now = if s.now < n then n else s.now := by
  unfold Bkt.to; split
  · rw [if_neg (by omega)]; exact ⟨rfl, rfl⟩
  · rw [if_pos (by omega)]; exact ⟨rfl, rfl⟩
theorem Bkt.rate_take (s : Bkt) (n : Int) : (s.take n).2.rate = s.rate ∧ (s.take n).2.now = s.now := by unfold Bkt.take; split <;> exact ⟨rfl, rfl⟩
theorem Bkt.rate_waste (s : Bkt) (n : Int) : (s.waste n).2.rate = s.rate ∧ (s.waste n).2.now = s.now := by unfold Bkt.waste; split <;> exact ⟨rfl, rfl⟩
set_option maxRecDepth 100000 in
set_option maxHeartbeats 3200000 in
theorem bucketTwice_c (w : World) (rate : Int) (hrate : (Lit.int .u64 rate).wf = true) (A : Option Addr) (len cap : Nat) (xs : List ActB) (hr : rdSlice rdActB 2 w [.slice A len cap] xs)
    (cs : Array Value) (hcs : cs.size = 2) (on : Int × Int × Unit) (hon : (rdPair (rdInt .u32) (rdPair (rdInt .u32) rdUnit)) w cs.toList on) :
    Calls Try.prog 13 #[.int .u64 rate, .slice A len cap, .agg cs] w fun e w' => e = .returned (.bool true) ∧ Own w w' [old w] := by
  obtain ⟨hl, hm, hx⟩ := rdSlice_cases hr
  clear hr
  replace hrate := U_of_wf hrate
  obtain ⟨p, q, u⟩ := on
  obtain ⟨c1, c2, e, ⟨rfl, hp⟩, c3, c4, rfl, ⟨rfl, hq⟩, rfl⟩ := hon
  obtain rfl := arr_of_list e
  clear e hcs
  have hp0 : 0 ≤ p ∧ p ≤ 4294967295 := by simpa [Lit.wf, IntKind.min, IntKind.max, IntKind.signed, IntKind.bits] using hp
  have hq0 : 0 ≤ q ∧ q ≤ 4294967295 := by simpa [Lit.wf, IntKind.min, IntKind.max, IntKind.signed, IntKind.bits] using hq
  obtain ⟨hp0, hp1⟩ := hp0
  obtain ⟨hq0, hq1⟩ := hq0
  clear hp hq
  simp only [List.append_nil, List.cons_append, List.nil_append]
  have HB := Lib.hid ((Own.init w).alloc (.cells #[.int .u32 p, .int .u32 q] 95))
  by_cases hbig : 200 < len
  · go_enter Try.func13, Try.ntmps13
    go_wp2_with fail
    refine (alive18_c w _ _ HB.out.tail).mono ?_
    rintro e w1 ⟨rfl, H1⟩
    go_wp2_with fail
    go_ret
    exact ⟨rfl, H1⟩
  have hbf : decide ((200 : Int) < (len : Int)) = false := decide_eq_false (by omega)
  by_cases hbr : 1048576 < rate
  · go_enter Try.func13, Try.ntmps13
    go_wp2_with fail
    refine (alive18_c w _ _ HB.out.tail).mono ?_
    rintro e w1 ⟨rfl, H1⟩
    go_wp2_with fail
    go_ret
    exact ⟨rfl, H1⟩
  have hr0 := hrate.1
  have hr1 : rate ≤ 1048576 := by omega
  rcases hx with hz | ⟨ab, off, rfl, hx⟩
  all_goals
    go_enter Try.func13, Try.ntmps13
    go_wp2_with fail
    generalize w.alloc (.cells #[.int .u32 p, .int .u32 q] 95) = wb at *
    generalize w.heap.size = ob at *
    go_wp2_with fail
    refine (bktNew_c w wb rate HB.out).mono ?_
    rintro e w1 ⟨b1, rfl, H1⟩
    replace H1 := Lib.hid H1
    go_wp2_with fail
    refine (bktNew_c w w1 rate H1.out).mono ?_
    rintro e w2 ⟨b2, rfl, H2⟩
    replace H2 := Lib.hid H2
    go_wp2_with fail
    go_loopw [9, 10] (fun nw i wr => ∃ (k : Nat) (s : Bkt), k ≤ len ∧ i = .int .i64 k ∧ nw = .int .u64 s.now ∧ s.Ok ∧ s.rate = rate ∧ s.now ≤ 1099511627776 ∧
      Own w wr (bkt b1 s :: bkt b2 s :: pts ob (.cells #[.int .u32 p, .int .u32 q] 95) :: [old w])) (fun _ i _ => len - (intOf i).toNat)
    case atStart => exact ⟨0, Bkt.new rate, Nat.zero_le _, rfl, rfl, Bkt.ok_new hrate, rfl, by show (0 : Int) ≤ 1099511627776; omega, H2.out.r2⟩
    case round =>
      obtain ⟨k, s, hk, rfl, rfl, hs, hsr, hsn, HR⟩ := hrel
      replace HR := Lib.hid HR
      replace hsr := Lib.hid hsr
      clear H1 H2
      by_cases hlt : k < len
      · first
        | (exfalso; omega)
        | (obtain ⟨c, _, hcell, hR⟩ := hx k (by omega)
           obtain ⟨rfl, hK, hU⟩ := rdActB_open hR
           have hw0 : w.cell? ⟨ab, off + k * 2, none⟩ = some (.int .u8 xs[k].1) := hcell 0 _ rfl
           have hw1 : w.cell? ⟨ab, off + k * 2 + 1, none⟩ = some (.int .u64 xs[k].2.1) := hcell 1 _ rfl
           clear hcell hR hx
           generalize xs[k] = x at *
           obtain ⟨x, n, u⟩ := x
           simp only at hU hK hw0 hw1
           obtain ⟨hK0, hK1⟩ := hK
           replace hw1 := Lib.hid hw1
           have g0 := HR.out.r4.old_cell hw0
           have g1 := HR.out.r4.old_cell hw1.out
           clear hw0
           have hn0 := hU.1
           have h3 : x % 3 = 0 ∨ x % 3 = 1 ∨ x % 3 = 2 := by omega
           rcases h3 with h3 | h3 | h3
           · by_cases hn : 1099511627776 < n
             · go_wp2_with fail
               go_wp2_with fail
               refine (alive18_c w _ _ HR.out).mono ?_
               rintro e w3 ⟨rfl, H3⟩
               replace H3 := Lib.hid H3
               go_wp2_with fail
               go_ret
               exact ⟨rfl, H3.out.tail.tail.tail⟩
             have hs3 := Bkt.ok_to hU hs
             have hrt := Bkt.rate_to s n
             replace hrt := Lib.hid hrt
             go_wp2_with fail
             refine (bktTo_c w wr _ b1 s n hs hU HR.out).mono ?_
             rintro e w3 ⟨rfl, H3⟩
             replace H3 := Lib.hid H3
             have g1 := H3.out.r4.old_cell hw1.out
             go_wp2_with fail
             refine (bktTo_c w w3 _ b2 s n hs hU H3.out.r2).mono ?_
             rintro e w4 ⟨rfl, H4⟩
             replace H4 := Lib.hid H4
             have g1 := H4.out.r4.old_cell hw1.out
             generalize s.to n = s3 at *
             obtain ⟨r3, n3, t3, a3⟩ := s3
             by_cases hc : s.now < n
             · have hn3 : n3 = n := by have := hrt.out.2; rw [if_pos hc] at this; exact this
               have hr3 : r3 = rate := hrt.out.1.trans hsr.out
               generalize s.now = nw at *
               clear hrt hs hsr HR
               subst hn3
               go_wp2_with fail
               go_roundw
               case rel => exact ⟨k + 1, ⟨r3, n3, t3, a3⟩, by omega, by go_num, rfl, hs3, hr3, by simp only; omega, H4.out.r2⟩
               case measure => simp [intOf]; omega
             · have hn3 : n3 = s.now := by have := hrt.out.2; rw [if_neg hc] at this; exact this
               have hr3 : r3 = rate := hrt.out.1.trans hsr.out
               generalize s.now = nw at *
               clear hrt hs hsr HR
               subst hn3
               go_wp2_with fail
               go_roundw
               case rel => exact ⟨k + 1, ⟨r3, n3, t3, a3⟩, by omega, by go_num, rfl, hs3, hr3, by simp only; omega, H4.out.r2⟩
               case measure => simp [intOf]; omega
           · have hs3 := Bkt.ok_take hU hs
             have hrt := Lib.hid (Bkt.rate_take s n)
             go_wp2_with fail
             refine (bktTake_c w wr _ b1 s n hs hU HR.out).mono ?_
             rintro e w3 ⟨rfl, H3⟩
             replace H3 := Lib.hid H3
             have g1 := H3.out.r4.old_cell hw1.out
             go_wp2_with fail
             refine (bktTake_c w w3 _ b2 s n hs hU H3.out.r2).mono ?_
             rintro e w4 ⟨rfl, H4⟩
             replace H4 := Lib.hid H4
             generalize (s.take n).1 = er at *
             generalize (s.take n).2 = s3 at *
             go_wp2_with fail
             go_roundw
             case rel => exact ⟨k + 1, s3, by omega, by go_num, by rw [hrt.out.2], hs3, hrt.out.1.trans hsr.out, by rw [hrt.out.2]; exact hsn, H4.out.r2⟩
             case measure => simp [intOf]; omega
           · have hs3 := Bkt.ok_waste hU hs
             have hrt := Lib.hid (Bkt.rate_waste s n)
             go_wp2_with fail
             refine (bktWaste_c w wr _ b1 s n hs hU HR.out).mono ?_
             rintro e w3 ⟨rfl, H3⟩
             replace H3 := Lib.hid H3
             have g1 := H3.out.r4.old_cell hw1.out
             go_wp2_with fail
             refine (bktWaste_c w w3 _ b2 s n hs hU H3.out.r2).mono ?_
             rintro e w4 ⟨rfl, H4⟩
             replace H4 := Lib.hid H4
             generalize (s.waste n).1 = er at *
             generalize (s.waste n).2 = s3 at *
             go_wp2_with fail
             go_roundw
             case rel => exact ⟨k + 1, s3, by omega, by go_num, by rw [hrt.out.2], hs3, hrt.out.1.trans hsr.out, by rw [hrt.out.2]; exact hsn, H4.out.r2⟩
             case measure => simp [intOf]; omega)
      · have hnow0 := hs.2.1.1
        have htwo := Lib.hid (Bkt.to_two (a := p) (b := q) hs (by rw [hsr.out]; exact hr1) hp0 hp1 hq0 hq1)
        have hok1 := Bkt.ok_to (s := s) (t := s.now + p) ⟨by omega, by omega⟩ hs
        have u1 : U (s.now + p + q) := ⟨by omega, by omega⟩
        have u2 : U (s.now + p) := ⟨by omega, by omega⟩
        obtain ⟨c0, f0⟩ := HR.out.r3.cells
        go_wp2_with fail
        refine (bktTo_c w _ _ b1 s (s.now + p + q) hs u1 HR.out).mono ?_
        rintro e w3 ⟨rfl, H3⟩
        clear c0 f0
        obtain ⟨c0, f0⟩ := H3.r3.cells
        replace H3 := Lib.hid H3
        go_wp2_with fail
        refine (bktTo_c w _ _ b2 s (s.now + p) hs u2 H3.out.r2).mono ?_
        rintro e w4 ⟨rfl, H4⟩
        clear c0 f0
        obtain ⟨c0, f0⟩ := H4.r3.cells
        replace H4 := Lib.hid H4
        go_wp2_with fail
        refine (bktTo_c w _ _ b2 (s.to (s.now + p)) (s.now + p + q) hok1 u1 H4.out).mono ?_
        rintro e w5 ⟨rfl, H5⟩
        rw [htwo.out] at H5
        replace H5 := Lib.hid H5
        clear c0 f0
        go_wp2_with fail
        refine (alive18_c w w5 _ H5.out).mono ?_
        rintro e w6 ⟨rfl, H6⟩
        replace H6 := Lib.hid H6
        generalize s.to (s.now + p + q) = s5 at *
        go_wp2_with fail
        refine (bktTokens_c w _ _ b1 s5 H6.out.r2).mono ?_
        rintro e w' ⟨rfl, rfl⟩
        go_wp2_with fail
        refine (bktTokens_c w _ _ b2 s5 H6.out).mono ?_
        rintro e w' ⟨rfl, rfl⟩
        go_wp2_with fail
        refine (bktWasted_c w _ _ b1 s5 H6.out.r2).mono ?_
        rintro e w' ⟨rfl, rfl⟩
        go_wp2_with fail
        refine (bktWasted_c w _ _ b2 s5 H6.out).mono ?_
        rintro e w' ⟨rfl, rfl⟩
        go_wp2_with fail
        go_ret
        exact ⟨rfl, H6.out.tail.tail.tail⟩
end Go.Proofs.Ytfcappjodichlaa
