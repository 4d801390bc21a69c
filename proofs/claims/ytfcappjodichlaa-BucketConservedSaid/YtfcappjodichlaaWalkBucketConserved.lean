/- The walk of BucketConserved: whatever acts come, the law returns true, and nothing that was there is written. -/
import Derived.Test.YtfcappjodichlaaAlive18
namespace Go.Proofs.Ytfcappjodichlaa
open Go.RowKit
def BInv (rate used : Int) (s : Bkt) : Prop := s.rate = rate ∧ 0 ≤ used ∧ 0 ≤ s.was ∧ 0 ≤ s.tok ∧ 0 ≤ s.now ∧ s.now ≤ 1048576 ∧ used + s.was + s.tok = rate * s.now
theorem rate_bound {rate now : Int} (h0 : 0 ≤ rate) (h1 : rate ≤ 1048576) (h2 : 0 ≤ now) (h3 : now ≤ 1048576) : 0 ≤ rate * now ∧ rate * now ≤ 1099511627776 :=
  ⟨Int.mul_nonneg h0 h2, Int.le_trans (Int.mul_le_mul h1 h3 h2 (by omega)) (by omega)⟩
theorem BInv.new (rate : Int) : BInv rate 0 (Bkt.new rate) := ⟨rfl, Int.le_refl _, Int.le_refl _, Int.le_refl _, Int.le_refl _, by show (0 : Int) ≤ 1048576; omega, by simp [Bkt.new]⟩
theorem BInv.ok {rate used : Int} {s : Bkt} (hr : 0 ≤ rate) (hr' : rate ≤ 1048576) (h : BInv rate used s) : s.Ok := by
  obtain ⟨h1, h2, h3, h4, h5, h6, h7⟩ := h
  have := rate_bound hr hr' h5 h6
  refine ⟨⟨by omega, by omega⟩, ⟨by omega, by omega⟩, ⟨h4, by omega⟩, ⟨h3, by omega⟩⟩
theorem BInv.to {rate used n : Int} {s : Bkt} (hr : 0 ≤ rate) (hr' : rate ≤ 1048576) (hn0 : 0 ≤ n) (hn : n ≤ 1048576) (h : BInv rate used s) :
    BInv rate used (s.to n) ∧ (s.to n).now = if s.now < n then n else s.now := by
  obtain ⟨h1, h2, h3, h4, h5, h6, h7⟩ := h
  unfold Bkt.to
  by_cases hc : n ≤ s.now
  · rw [if_pos hc, if_neg (by omega)]; exact ⟨⟨h1, h2, h3, h4, h5, h6, h7⟩, rfl⟩
  · rw [if_neg hc, if_pos (by omega)]
    have hb := rate_bound hr hr' h5 h6
    have hb2 := rate_bound hr hr' hn0 hn
    have hb3 := rate_bound hr hr' (show 0 ≤ n - s.now by omega) (by omega)
    have e : rate * (n - s.now) = rate * n - rate * s.now := Int.mul_sub _ _ _
    have e1 : smul s.rate (n - s.now) = rate * (n - s.now) := by rw [h1]; unfold smul; rw [if_neg (by omega)]
    have e2 : sadd s.tok (rate * (n - s.now)) = s.tok + rate * (n - s.now) := by unfold sadd; rw [if_neg (by omega)]
    refine ⟨⟨h1, h2, h3, ?_, ?_, ?_, ?_⟩, rfl⟩
    · show 0 ≤ sadd s.tok (smul s.rate (n - s.now)); rw [e1, e2]; omega
    · exact hn0
    · exact hn
    · show used + s.was + sadd s.tok (smul s.rate (n - s.now)) = rate * n; rw [e1, e2, e]; omega
theorem BInv.take {rate used n : Int} {s : Bkt} (hn0 : 0 ≤ n) (hn : n ≤ 1048576) (h : BInv rate used s) :
    ((s.take n).1 = true ∧ BInv rate (used + n * 1000000) (s.take n).2 ∨ (s.take n).1 = false ∧ BInv rate used (s.take n).2) ∧ (s.take n).2.now = s.now := by
  obtain ⟨h1, h2, h3, h4, h5, h6, h7⟩ := h
  have e1 : smul n 1000000 = n * 1000000 := by unfold smul; rw [if_neg (by omega)]
  unfold Bkt.take
  rw [e1]
  by_cases hc : s.tok < n * 1000000
  · rw [if_pos hc]; exact ⟨.inr ⟨rfl, h1, h2, h3, h4, h5, h6, h7⟩, rfl⟩
  · rw [if_neg hc]
    exact ⟨.inl ⟨rfl, h1, by omega, h3, by show 0 ≤ s.tok - n * 1000000; omega, h5, h6, by show used + n * 1000000 + s.was + (s.tok - n * 1000000) = rate * s.now; omega⟩, rfl⟩
theorem BInv.waste {rate used n : Int} {s : Bkt} (hr : 0 ≤ rate) (hr' : rate ≤ 1048576) (hn0 : 0 ≤ n) (h : BInv rate used s) : BInv rate used (s.waste n).2 ∧ (s.waste n).1 ≤ n ∧ (s.waste n).2.now = s.now := by
  obtain ⟨h1, h2, h3, h4, h5, h6, h7⟩ := h
  have hb := rate_bound hr hr' h5 h6
  unfold Bkt.waste
  by_cases hc : n ≤ s.tok
  · rw [if_pos hc]
    have e : sadd s.was n = s.was + n := by unfold sadd; rw [if_neg (by omega)]
    rw [e]
    exact ⟨⟨h1, h2, by show 0 ≤ s.was + n; omega, by show 0 ≤ s.tok - n; omega, h5, h6, by show used + (s.was + n) + (s.tok - n) = rate * s.now; omega⟩, Int.le_refl _, rfl⟩
  · rw [if_neg hc]
    have e : sadd s.was s.tok = s.was + s.tok := by unfold sadd; rw [if_neg (by omega)]
    rw [e]
    exact ⟨⟨h1, h2, by show 0 ≤ s.was + s.tok; omega, Int.le_refl _, h5, h6, by show used + (s.was + s.tok) + 0 = rate * s.now; omega⟩, by show s.tok ≤ n; omega, rfl⟩
set_option maxRecDepth 100000 in
set_option maxHeartbeats 3200000 in
theorem bucketConserved_c (w : World) (rate : Int) (hrate : (Lit.int .u64 rate).wf = true) (A : Option Addr) (len cap : Nat) (xs : List ActB) (hr : rdSlice rdActB 2 w [.slice A len cap] xs) :
    Calls Try.prog 12 #[.int .u64 rate, .slice A len cap] w fun e w' => e = .returned (.bool true) ∧ Own w w' [old w] := by
  obtain ⟨hl, hm, hx⟩ := rdSlice_cases hr
  clear hr
  replace hrate := U_of_wf hrate
  by_cases hbig : 200 < len
  · go_enter Try.func12, Try.ntmps12
    go_wp2_with fail
    refine (alive18_c w _ _ (Own.init w)).mono ?_
    rintro e w1 ⟨rfl, H1⟩
    replace H1 := Lib.hid H1
    go_wp2_with fail
    go_ret
    exact ⟨rfl, H1.out⟩
  have hbf : decide ((200 : Int) < (len : Int)) = false := decide_eq_false (by omega)
  by_cases hbr : 1048576 < rate
  · go_enter Try.func12, Try.ntmps12
    go_wp2_with fail
    refine (alive18_c w _ _ (Own.init w)).mono ?_
    rintro e w1 ⟨rfl, H1⟩
    replace H1 := Lib.hid H1
    go_wp2_with fail
    go_ret
    exact ⟨rfl, H1.out⟩
  have hr0 := hrate.1
  have hr1 : rate ≤ 1048576 := by omega
  rcases hx with hz | ⟨ab, off, rfl, hx⟩
  all_goals
    go_enter Try.func12, Try.ntmps12
    go_wp2_with fail
    refine (bktNew_c w _ rate (Own.init w)).mono ?_
    rintro e w1 ⟨b1, rfl, H1⟩
    replace H1 := Lib.hid H1
    go_wp2_with fail
    go_loopw [6, 7, 8] (fun nw us i wr => ∃ (k : Nat) (s : Bkt) (used : Int), k ≤ len ∧ i = .int .i64 k ∧ nw = .int .u64 s.now ∧ us = .int .u64 used ∧ BInv rate used s ∧ Own w wr (bkt b1 s :: [old w])) (fun _ _ i _ => len - (intOf i).toNat)
    case atStart => exact ⟨0, Bkt.new rate, 0, Nat.zero_le _, rfl, rfl, rfl, BInv.new rate, H1.out⟩
    case round =>
      obtain ⟨k, s, used, hk, rfl, rfl, rfl, hI, HR⟩ := hrel
      replace HR := Lib.hid HR
      clear H1
      by_cases hlt : k < len
      · first
        | (exfalso; omega)
        | (obtain ⟨c, _, hcell, hR⟩ := hx k (by omega)
           obtain ⟨rfl, hK, hU⟩ := rdActB_open hR
           have hw0 : w.cell? ⟨ab, off + k * 2, none⟩ = some (.int .u8 xs[k].1) := hcell 0 _ rfl
           have hw1 : w.cell? ⟨ab, off + k * 2 + 1, none⟩ = some (.int .u64 xs[k].2.1) := hcell 1 _ rfl
           clear hcell hR hx
           generalize xs[k] = x at *
           obtain ⟨x, n, u⟩ := x
           simp only at hU hK hw0 hw1
           obtain ⟨hK0, hK1⟩ := hK
           replace hw1 := Lib.hid hw1
           have g0 := HR.out.r2.old_cell hw0
           have g1 := HR.out.r2.old_cell hw1.out
           clear hw0
           have hn0 := hU.1
           by_cases hn : 1048576 < n
           · go_wp2_with fail
             go_wp2_with fail
             refine (alive18_c w _ _ HR.out).mono ?_
             rintro e w3 ⟨rfl, H3⟩
             replace H3 := Lib.hid H3
             go_wp2_with fail
             go_ret
             exact ⟨rfl, H3.out.tail⟩
           have hn1 : n ≤ 1048576 := by omega
           have hs := hI.ok hr0 hr1
           have h3 : x % 3 = 0 ∨ x % 3 = 1 ∨ x % 3 = 2 := by omega
           rcases h3 with h3 | h3 | h3
           · obtain ⟨hI3, hnow⟩ := hI.to hr0 hr1 hn0 hn1
             have hI5 := hI
             obtain ⟨_, _, _, _, p5, p6, _⟩ := hI5
             by_cases hc : s.now < n
             · rw [if_pos hc] at hnow
               replace hnow := Lib.hid hnow
               go_wp2_with fail
               refine (bktTo_c w wr _ b1 s n hs hU HR.out).mono ?_
               rintro e w3 ⟨rfl, H3⟩
               replace H3 := Lib.hid H3
               have g1 := H3.out.r2.old_cell hw1.out
               clear hI
               generalize s.to n = s3 at *
               generalize s.now = nw at *
               obtain ⟨r, now, tok, was⟩ := s3
               have hnow2 : now = n := hnow.out
               subst hnow2
               obtain ⟨rfl, q2, q3, q4, q5, q6, q7⟩ := hI3
               simp only at q2 q3 q4 q5 q6 q7 hr0 hr1
               have hb := rate_bound hr0 hr1 q5 q6
               have hb1 := hb.1
               have hb2 := hb.2
               have hne : (used + was + tok != r * now) = false := by rw [q7]; simp
               have hI4 : BInv r (used) ⟨r, now, tok, was⟩ := ⟨rfl, q2, q3, q4, q5, q6, q7⟩
               replace hI4 := Lib.hid hI4
               have HQ := Lib.hid q7
               have hu1 : used ≤ 1099511627776 := by omega
               have hu2 : was ≤ 1099511627776 := by omega
               have hu3 : tok ≤ 1099511627776 := by omega
               have hu4 : used + was ≤ 1099511627776 := by omega
               have hu5 : used + was + tok ≤ 1099511627776 := by omega
               clear q7
               go_wp2_with fail
               refine (bktWasted_c w _ _ b1 _ H3.out).mono ?_
               rintro e w' ⟨rfl, rfl⟩
               go_wp2_with fail
               refine (bktTokens_c w _ _ b1 _ H3.out).mono ?_
               rintro e w' ⟨rfl, rfl⟩
               go_wp2_with fail
               go_roundw
               case rel => exact ⟨k + 1, ⟨r, now, tok, was⟩, used, by omega, by go_num, rfl, rfl, hI4.out, H3.out⟩
               case measure => simp [intOf]; omega
             · rw [if_neg hc] at hnow
               replace hnow := Lib.hid hnow
               go_wp2_with fail
               refine (bktTo_c w wr _ b1 s n hs hU HR.out).mono ?_
               rintro e w3 ⟨rfl, H3⟩
               replace H3 := Lib.hid H3
               have g1 := H3.out.r2.old_cell hw1.out
               clear hI
               generalize s.to n = s3 at *
               generalize s.now = nw at *
               obtain ⟨r, now, tok, was⟩ := s3
               have hnow2 : now = nw := hnow.out
               subst hnow2
               obtain ⟨rfl, q2, q3, q4, q5, q6, q7⟩ := hI3
               simp only at q2 q3 q4 q5 q6 q7 hr0 hr1
               have hb := rate_bound hr0 hr1 q5 q6
               have hb1 := hb.1
               have hb2 := hb.2
               have hne : (used + was + tok != r * now) = false := by rw [q7]; simp
               have hI4 : BInv r (used) ⟨r, now, tok, was⟩ := ⟨rfl, q2, q3, q4, q5, q6, q7⟩
               replace hI4 := Lib.hid hI4
               have HQ := Lib.hid q7
               have hu1 : used ≤ 1099511627776 := by omega
               have hu2 : was ≤ 1099511627776 := by omega
               have hu3 : tok ≤ 1099511627776 := by omega
               have hu4 : used + was ≤ 1099511627776 := by omega
               have hu5 : used + was + tok ≤ 1099511627776 := by omega
               clear q7
               go_wp2_with fail
               refine (bktWasted_c w _ _ b1 _ H3.out).mono ?_
               rintro e w' ⟨rfl, rfl⟩
               go_wp2_with fail
               refine (bktTokens_c w _ _ b1 _ H3.out).mono ?_
               rintro e w' ⟨rfl, rfl⟩
               go_wp2_with fail
               go_roundw
               case rel => exact ⟨k + 1, ⟨r, now, tok, was⟩, used, by omega, by go_num, rfl, rfl, hI4.out, H3.out⟩
               case measure => simp [intOf]; omega
           · obtain ⟨hI3, hnow⟩ := hI.take hn0 hn1
             have hu0 := hI.2.1
             go_wp2_with fail
             refine (bktTake_c w wr _ b1 s n hs hU HR.out).mono ?_
             rintro e w3 ⟨rfl, H3⟩
             replace H3 := Lib.hid H3
             have g1 := H3.out.r2.old_cell hw1.out
             clear hI
             generalize (s.take n).1 = er at *
             generalize (s.take n).2 = s3 at *
             obtain ⟨r, now, tok, was⟩ := s3
             generalize s.now = nw at *
             have hnow2 : now = nw := hnow
             subst hnow2
             rcases hI3 with ⟨rfl, hI3⟩ | ⟨rfl, hI3⟩
             · clear hnow
               obtain ⟨rfl, q2, q3, q4, q5, q6, q7⟩ := hI3
               simp only at q2 q3 q4 q5 q6 q7 hr0 hr1
               have hb := rate_bound hr0 hr1 q5 q6
               have hb1 := hb.1
               have hb2 := hb.2
               have hne : (used + n * 1000000 + was + tok != r * now) = false := by rw [q7]; simp
               have hI4 : BInv r (used + n * 1000000) ⟨r, now, tok, was⟩ := ⟨rfl, q2, q3, q4, q5, q6, q7⟩
               replace hI4 := Lib.hid hI4
               have HQ := Lib.hid q7
               have hu1 : used + n * 1000000 ≤ 1099511627776 := by omega
               have hu2 : was ≤ 1099511627776 := by omega
               have hu3 : tok ≤ 1099511627776 := by omega
               have hu4 : used + n * 1000000 + was ≤ 1099511627776 := by omega
               have hu5 : used + n * 1000000 + was + tok ≤ 1099511627776 := by omega
               clear q7
               go_wp2_with fail
               refine (bktWasted_c w _ _ b1 _ H3.out).mono ?_
               rintro e w' ⟨rfl, rfl⟩
               go_wp2_with fail
               refine (bktTokens_c w _ _ b1 _ H3.out).mono ?_
               rintro e w' ⟨rfl, rfl⟩
               go_wp2_with fail
               go_roundw
               case rel => exact ⟨k + 1, ⟨r, now, tok, was⟩, used + n * 1000000, by omega, by go_num, rfl, rfl, hI4.out, H3.out⟩
               case measure => simp [intOf]; omega
             · clear hnow
               obtain ⟨rfl, q2, q3, q4, q5, q6, q7⟩ := hI3
               simp only at q2 q3 q4 q5 q6 q7 hr0 hr1
               have hb := rate_bound hr0 hr1 q5 q6
               have hb1 := hb.1
               have hb2 := hb.2
               have hne : (used + was + tok != r * now) = false := by rw [q7]; simp
               have hI4 : BInv r (used) ⟨r, now, tok, was⟩ := ⟨rfl, q2, q3, q4, q5, q6, q7⟩
               replace hI4 := Lib.hid hI4
               have HQ := Lib.hid q7
               have hu1 : used ≤ 1099511627776 := by omega
               have hu2 : was ≤ 1099511627776 := by omega
               have hu3 : tok ≤ 1099511627776 := by omega
               have hu4 : used + was ≤ 1099511627776 := by omega
               have hu5 : used + was + tok ≤ 1099511627776 := by omega
               clear q7
               go_wp2_with fail
               refine (bktWasted_c w _ _ b1 _ H3.out).mono ?_
               rintro e w' ⟨rfl, rfl⟩
               go_wp2_with fail
               refine (bktTokens_c w _ _ b1 _ H3.out).mono ?_
               rintro e w' ⟨rfl, rfl⟩
               go_wp2_with fail
               go_roundw
               case rel => exact ⟨k + 1, ⟨r, now, tok, was⟩, used, by omega, by go_num, rfl, rfl, hI4.out, H3.out⟩
               case measure => simp [intOf]; omega
           · obtain ⟨hI3, hle, hnow⟩ := hI.waste hr0 hr1 hn0
             go_wp2_with fail
             refine (bktWaste_c w wr _ b1 s n hs hU HR.out).mono ?_
             rintro e w3 ⟨rfl, H3⟩
             replace H3 := Lib.hid H3
             have g1 := H3.out.r2.old_cell hw1.out
             clear hI
             generalize (s.waste n).1 = er at *
             generalize (s.waste n).2 = s3 at *
             obtain ⟨r, now, tok, was⟩ := s3
             generalize s.now = nw at *
             have hnow2 : now = nw := hnow
             subst hnow2
             clear hnow
             obtain ⟨rfl, q2, q3, q4, q5, q6, q7⟩ := hI3
             simp only at q2 q3 q4 q5 q6 q7 hr0 hr1
             have hb := rate_bound hr0 hr1 q5 q6
             have hb1 := hb.1
             have hb2 := hb.2
             have hne : (used + was + tok != r * now) = false := by rw [q7]; simp
             have hI4 : BInv r (used) ⟨r, now, tok, was⟩ := ⟨rfl, q2, q3, q4, q5, q6, q7⟩
             replace hI4 := Lib.hid hI4
             have HQ := Lib.hid q7
             have hu1 : used ≤ 1099511627776 := by omega
             have hu2 : was ≤ 1099511627776 := by omega
             have hu3 : tok ≤ 1099511627776 := by omega
             have hu4 : used + was ≤ 1099511627776 := by omega
             have hu5 : used + was + tok ≤ 1099511627776 := by omega
             clear q7
             go_wp2_with fail
             refine (bktWasted_c w _ _ b1 _ H3.out).mono ?_
             rintro e w' ⟨rfl, rfl⟩
             go_wp2_with fail
             refine (bktTokens_c w _ _ b1 _ H3.out).mono ?_
             rintro e w' ⟨rfl, rfl⟩
             go_wp2_with fail
             go_roundw
             case rel => exact ⟨k + 1, ⟨r, now, tok, was⟩, used, by omega, by go_num, rfl, rfl, hI4.out, H3.out⟩
             case measure => simp [intOf]; omega)
      · go_wp2_with fail
        refine (bktTo_nil wr 1).mono ?_
        rintro e w' ⟨rfl, rfl⟩
        go_wp2_with fail
        refine (alive18_c w _ _ HR.out).mono ?_
        rintro e w3 ⟨rfl, H3⟩
        replace H3 := Lib.hid H3
        go_wp2_with fail
        refine (bktTake_nil w3 0 U_zero).mono ?_
        rintro e w' ⟨rfl, rfl⟩
        go_wp2_with fail
        refine (bktWaste_nil w3 1).mono ?_
        rintro e w' ⟨rfl, rfl⟩
        go_wp2_with fail
        refine (bktTokens_nil w3).mono ?_
        rintro e w' ⟨rfl, rfl⟩
        go_wp2_with fail
        refine (bktWasted_nil w3).mono ?_
        rintro e w' ⟨rfl, rfl⟩
        go_wp2_with fail
        go_ret
        exact ⟨rfl, H3.out.tail⟩
end Go.Proofs.Ytfcappjodichlaa
