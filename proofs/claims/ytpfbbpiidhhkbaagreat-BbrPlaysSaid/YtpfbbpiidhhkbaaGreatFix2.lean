/- fix.Share, fix.Over and what their reference computes. -/
import Derived.Test.YtpfbbpiidhhkbaaGreatDiv64
import Derived.Test.YtpfbbpiidhhkbaaGreatRingC
namespace Go.Proofs.YtpfbbpiidhhkbaaGreat
open Go.RowKit
def sshare (a b c : Int) : Int := if c ≤ hi64 a b then 18446744073709551615 else a * b / c
def sover (a b c : Int) : Int := if c ≤ hi64 a b then 18446744073709551615 else if 0 < a * b % c then sadd (a * b / c) 1 else a * b / c
theorem hi_lo (a b : Int) : hi64 a b * 18446744073709551616 + lo64 a b = a * b := by unfold hi64 lo64; omega
theorem quo_U {a b c : Int} (ha : U a) (hb : U b) (h : hi64 a b < c) : U (a * b / c) ∧ 0 ≤ a * b % c ∧ a * b % c < c := by
  have h0 := (U_hi64 ha hb).1
  have hm := Int.mul_nonneg ha.1 hb.1
  have hc : 0 < c := by omega
  refine ⟨⟨Int.ediv_nonneg hm (by omega), ?_⟩, Int.emod_nonneg _ (by omega), Int.emod_lt_of_pos _ hc⟩
  have h1 := hi_lo a b
  have h2 := U_lo64 a b
  unfold U at h2
  have : a * b < c * 18446744073709551616 := by
    rw [← h1]; omega
  have := Int.ediv_lt_of_lt_mul hc (show a * b < 18446744073709551616 * c by rw [Int.mul_comm 18446744073709551616]; exact this)
  omega
theorem U_sshare {a b c : Int} (ha : U a) (hb : U b) : U (sshare a b c) := by
  unfold sshare
  split
  · unfold U; omega
  · exact (quo_U ha hb (by omega)).1
theorem U_sover {a b c : Int} (ha : U a) (hb : U b) : U (sover a b c) := by
  unfold sover
  split
  · unfold U; omega
  · have := (quo_U ha hb (show hi64 a b < c by omega)).1
    split
    · exact U_sadd this (by unfold U; omega)
    · exact this
section
variable (w : World) (a b c : Int) (ha : U a) (hb : U b) (hc : U c)
include ha hb hc
omit hc in
theorem fixDivide_no (h : c ≤ hi64 a b) :
    Calls Tryz.prog 106 #[.int .u64 a, .int .u64 b, .int .u64 c] w fun e w' => e = .returned (.tuple #[.int .u64 0, .int .u64 0, .bool false]) ∧ w = w' := by
  go_enter Tryz.func106, Tryz.ntmps106
  go_wp2_with fail
  refine (mul64_c _ a b ha hb).mono ?_
  rintro e w' ⟨rfl, rfl⟩
  go_wp2
  go_ret3
  exact ⟨rfl, rfl⟩
theorem fixDivide_yes (h : hi64 a b < c) :
    Calls Tryz.prog 106 #[.int .u64 a, .int .u64 b, .int .u64 c] w fun e w' => e = .returned (.tuple #[.int .u64 (a * b / c), .int .u64 (a * b % c), .bool true]) ∧ ∃ n, w' = w.drewN n := by
  have hd := div64_c w (hi64 a b) (lo64 a b) c (U_lo64 a b) hc (U_hi64 ha hb).1 h
  rw [hi_lo] at hd
  go_enter Tryz.func106, Tryz.ntmps106
  go_wp2_with fail
  refine (mul64_c _ a b ha hb).mono ?_
  rintro e w' ⟨rfl, rfl⟩
  go_wp2_with fail
  refine hd.mono ?_
  rintro e w' ⟨rfl, n, rfl⟩
  go_wp2
  go_ret3
  exact ⟨rfl, n, rfl⟩
theorem fixShare_c :
    Calls Tryz.prog 51 #[.int .u64 a, .int .u64 b, .int .u64 c] w fun e w' => e = .returned (.int .u64 (sshare a b c)) ∧ ∃ n, w' = w.drewN n := by
  by_cases h : c ≤ hi64 a b
  · unfold sshare
    rw [if_pos h]
    go_enter Tryz.func51, Tryz.ntmps51
    go_wp2_with fail
    refine (fixDivide_no _ a b c ha hb h).mono ?_
    rintro e w' ⟨rfl, rfl⟩
    go_wp2_with fail
    go_ret
    exact ⟨rfl, 0, rfl⟩
  · unfold sshare
    rw [if_neg h]
    have hd := fixDivide_yes w a b c ha hb hc (by omega)
    go_enter Tryz.func51, Tryz.ntmps51
    go_wp2_with fail
    refine hd.mono ?_
    rintro e w' ⟨rfl, n, rfl⟩
    go_wp2_with fail
    go_ret
    exact ⟨rfl, n, rfl⟩
theorem fixOver_c :
    Calls Tryz.prog 122 #[.int .u64 a, .int .u64 b, .int .u64 c] w fun e w' => e = .returned (.int .u64 (sover a b c)) ∧ Below w.heap.size w w' := by
  by_cases h : c ≤ hi64 a b
  · unfold sover
    rw [if_pos h]
    go_enter Tryz.func122, Tryz.ntmps122
    go_wp2_with fail
    refine (fixDivide_no _ a b c ha hb h).mono ?_
    rintro e w' ⟨rfl, rfl⟩
    go_wp2_with fail
    go_ret
    exact ⟨rfl, Below.refl _ _⟩
  · unfold sover
    rw [if_neg h]
    have hd := fixDivide_yes w a b c ha hb hc (by omega)
    have hq := quo_U ha hb (show hi64 a b < c by omega)
    have hqU := Lib.hid hq.1
    clear hq
    by_cases hr : 0 < a * b % c
    · rw [if_pos hr]
      go_enter Tryz.func122, Tryz.ntmps122
      go_wp2_with fail
      refine hd.mono ?_
      rintro e w' ⟨rfl, n, rfl⟩
      go_wp2_with fail
      refine (fixAdd2_c _ _ (a * b / c) 1 hqU.out (by unfold U; omega) (cell_new _ _ _ 0) (cell_new _ _ _ 1)).mono ?_
      rintro e w' ⟨rfl, rfl⟩
      go_wp2_with fail
      go_ret
      exact ⟨rfl, Below.of_drewN_alloc w n _⟩
    · rw [if_neg hr]
      go_enter Tryz.func122, Tryz.ntmps122
      go_wp2_with fail
      refine hd.mono ?_
      rintro e w' ⟨rfl, n, rfl⟩
      go_wp2_with fail
      go_ret
      exact ⟨rfl, Below.of_drewN w n⟩
end
set_option maxHeartbeats 4000000 in
theorem refDivide_nat (w : World) (hi lo c : Nat) (hlo : lo < 18446744073709551616) (hc : c < 18446744073709551616) (h : hi < c) :
    Calls Tryz.prog 115 #[.int .u64 hi, .int .u64 lo, .int .u64 c] w fun e w' => e = .returned (.tuple #[.int .u64 ((hi * 18446744073709551616 + lo) / c : Nat), .int .u64 ((hi * 18446744073709551616 + lo) % c : Nat)]) ∧ w = w' := by
  have H0 := Lib.hid (Dv.BitsAt.start h hlo)
  obtain ⟨N, hN⟩ : ∃ N, hi * 18446744073709551616 + lo = N := ⟨_, rfl⟩
  obtain ⟨NQ, hNQ⟩ : ∃ NQ, N / c = NQ := ⟨_, rfl⟩
  obtain ⟨NR, hNR⟩ : ∃ NR, N % c = NR := ⟨_, rfl⟩
  have hNlt : Hid (N < c * 18446744073709551616) := Lib.hid (by omega)
  rw [hN] at H0 ⊢
  rw [hNQ, hNR]
  replace hNQ := Lib.hid hNQ
  replace hNR := Lib.hid hNR
  have hcH := Lib.hid hc
  clear hN hlo hc h
  go_enter Tryz.func115, Tryz.ntmps115
  go_wp2
  go_loop [1, 8, 9, 10] (fun l q r i => ∃ k ln qn rn : Nat, k ≤ 64 ∧ i = .int .i64 k ∧ l = .int .u64 ln ∧ q = .int .u64 qn ∧ r = .int .u64 rn ∧ Hid (Dv.BitsAt N c k qn rn ln)) (fun _ _ _ i => 64 - (intOf i).toNat)
  case atStart => exact ⟨0, lo, 0, hi, by omega, rfl, rfl, rfl, rfl, H0⟩
  case round =>
    obtain ⟨k, l, q, r, hk, rfl, rfl, rfl, rfl, HB⟩ := hrel
    by_cases hlt : k < 64
    · have hq := HB.out.q_lt hNlt.out
      have hll := HB.out.lo_lt
      have hr : r < c := HB.out.r_lt
      have hcc := hcH.out
      have hq1b : q < 9223372036854775808 := Nat.lt_of_lt_of_le hq (Nat.pow_le_pow_right (n := 2) (by omega) (show k ≤ 63 by omega))
      clear hq
      generalize hri : (r : Int) = ri
      generalize hli : (l : Int) = li
      generalize hqi : (q : Int) = qi
      obtain ⟨r1, e1, hr1⟩ : ∃ r1 : Int, IntKind.u64.wrap (2 * ri) = r1 ∧ r1 = (2 * ri) % 18446744073709551616 := ⟨_, rfl, by rw [IntKind.wrap_u64]⟩
      obtain ⟨l1, e2, hl1⟩ : ∃ l1 : Int, IntKind.u64.wrap (2 * li) = l1 ∧ l1 = (2 * li) % 18446744073709551616 := ⟨_, rfl, by rw [IntKind.wrap_u64]⟩
      obtain ⟨q1, e3, hq1⟩ : ∃ q1 : Int, IntKind.u64.wrap (2 * qi) = q1 ∧ q1 = 2 * qi := ⟨_, rfl, by rw [IntKind.wrap_u64]; omega⟩
      by_cases over : 9223372036854775808 ≤ ri
      · by_cases bit : 9223372036854775808 ≤ li
        · obtain ⟨r2, e4, hr2⟩ : ∃ r2 : Int, IntKind.u64.wrap (r1 + 1) = r2 ∧ r2 = r1 + 1 := ⟨_, rfl, by rw [IntKind.wrap_u64]; omega⟩
          obtain ⟨r3, e5, hr3⟩ : ∃ r3 : Int, IntKind.u64.wrap (r2 - (c : Int)) = r3 ∧ r3 = 2 * ri + 1 - c := ⟨_, rfl, by rw [IntKind.wrap_u64]; omega⟩
          obtain ⟨q2, e6, hq2⟩ : ∃ q2 : Int, IntKind.u64.wrap (q1 + 1) = q2 ∧ q2 = q1 + 1 := ⟨_, rfl, by rw [IntKind.wrap_u64]; omega⟩
          have HB2 : Dv.BitsAt N c (k + 1) q2.toNat r3.toNat l1.toNat := by
            have h1 := HB.out.next (by omega)
            have h0 : l / 9223372036854775808 = 1 := by omega
            rw [h0, if_pos (by omega), if_pos (by omega)] at h1
            have a1 : q2.toNat = 2 * q + 1 := by omega
            have a2 : r3.toNat = 2 * r + 1 - c := by omega
            have a3 : l1.toNat = 2 * l % 18446744073709551616 := by omega
            rw [a1, a2, a3]
            exact h1
          replace HB2 := Lib.hid HB2
          have b1 : 0 ≤ q2 ∧ 0 ≤ r3 ∧ 0 ≤ l1 := by omega
          replace b1 := Lib.hid b1
          clear hr3 hq2
          clear hr2
          clear hl1 hq1 hr1 hli hqi hri hk HB hcc hr hq1b hll
          go_wp2
          go_round
          case rel => exact ⟨k + 1, l1.toNat, q2.toNat, r3.toNat, by omega, by go_num, by rw [Int.toNat_of_nonneg b1.out.2.2], by rw [Int.toNat_of_nonneg b1.out.1], by rw [Int.toNat_of_nonneg b1.out.2.1], HB2⟩
          case measure => simp [intOf]; omega
        · obtain ⟨r3, e5, hr3⟩ : ∃ r3 : Int, IntKind.u64.wrap (r1 - (c : Int)) = r3 ∧ r3 = 2 * ri + 0 - c := ⟨_, rfl, by rw [IntKind.wrap_u64]; omega⟩
          obtain ⟨q2, e6, hq2⟩ : ∃ q2 : Int, IntKind.u64.wrap (q1 + 1) = q2 ∧ q2 = q1 + 1 := ⟨_, rfl, by rw [IntKind.wrap_u64]; omega⟩
          have HB2 : Dv.BitsAt N c (k + 1) q2.toNat r3.toNat l1.toNat := by
            have h1 := HB.out.next (by omega)
            have h0 : l / 9223372036854775808 = 0 := by omega
            rw [h0, if_pos (by omega), if_pos (by omega)] at h1
            have a1 : q2.toNat = 2 * q + 1 := by omega
            have a2 : r3.toNat = 2 * r + 0 - c := by omega
            have a3 : l1.toNat = 2 * l % 18446744073709551616 := by omega
            rw [a1, a2, a3]
            exact h1
          replace HB2 := Lib.hid HB2
          have b1 : 0 ≤ q2 ∧ 0 ≤ r3 ∧ 0 ≤ l1 := by omega
          replace b1 := Lib.hid b1
          clear hr3 hq2
          clear hl1 hq1 hr1 hli hqi hri hk HB hcc hr hq1b hll
          go_wp2
          go_round
          case rel => exact ⟨k + 1, l1.toNat, q2.toNat, r3.toNat, by omega, by go_num, by rw [Int.toNat_of_nonneg b1.out.2.2], by rw [Int.toNat_of_nonneg b1.out.1], by rw [Int.toNat_of_nonneg b1.out.2.1], HB2⟩
          case measure => simp [intOf]; omega
      · by_cases bit : 9223372036854775808 ≤ li
        · by_cases sub : (c : Int) ≤ 2 * ri + 1
          · obtain ⟨r2, e4, hr2⟩ : ∃ r2 : Int, IntKind.u64.wrap (r1 + 1) = r2 ∧ r2 = r1 + 1 := ⟨_, rfl, by rw [IntKind.wrap_u64]; omega⟩
            obtain ⟨r3, e5, hr3⟩ : ∃ r3 : Int, IntKind.u64.wrap (r2 - (c : Int)) = r3 ∧ r3 = 2 * ri + 1 - c := ⟨_, rfl, by rw [IntKind.wrap_u64]; omega⟩
            obtain ⟨q2, e6, hq2⟩ : ∃ q2 : Int, IntKind.u64.wrap (q1 + 1) = q2 ∧ q2 = q1 + 1 := ⟨_, rfl, by rw [IntKind.wrap_u64]; omega⟩
            have HB2 : Dv.BitsAt N c (k + 1) q2.toNat r3.toNat l1.toNat := by
              have h1 := HB.out.next (by omega)
              have h0 : l / 9223372036854775808 = 1 := by omega
              rw [h0, if_pos (by omega), if_pos (by omega)] at h1
              have a1 : q2.toNat = 2 * q + 1 := by omega
              have a2 : r3.toNat = 2 * r + 1 - c := by omega
              have a3 : l1.toNat = 2 * l % 18446744073709551616 := by omega
              rw [a1, a2, a3]
              exact h1
            replace HB2 := Lib.hid HB2
            have b1 : 0 ≤ q2 ∧ 0 ≤ r3 ∧ 0 ≤ l1 := by omega
            replace b1 := Lib.hid b1
            have g3 : (c : Int) ≤ r2 := by omega
            clear sub
            clear hr3 hq2
            clear hr2
            clear hl1 hq1 hr1 hli hqi hri hk HB hcc hr hq1b hll
            go_wp2
            go_round
            case rel => exact ⟨k + 1, l1.toNat, q2.toNat, r3.toNat, by omega, by go_num, by rw [Int.toNat_of_nonneg b1.out.2.2], by rw [Int.toNat_of_nonneg b1.out.1], by rw [Int.toNat_of_nonneg b1.out.2.1], HB2⟩
            case measure => simp [intOf]; omega
          · obtain ⟨r2, e4, hr2⟩ : ∃ r2 : Int, IntKind.u64.wrap (r1 + 1) = r2 ∧ r2 = r1 + 1 := ⟨_, rfl, by rw [IntKind.wrap_u64]; omega⟩
            have HB2 : Dv.BitsAt N c (k + 1) q1.toNat r2.toNat l1.toNat := by
              have h1 := HB.out.next (by omega)
              have h0 : l / 9223372036854775808 = 1 := by omega
              rw [h0, if_neg (by omega), if_neg (by omega)] at h1
              have a1 : q1.toNat = 2 * q := by omega
              have a2 : r2.toNat = 2 * r + 1 := by omega
              have a3 : l1.toNat = 2 * l % 18446744073709551616 := by omega
              rw [a1, a2, a3]
              exact h1
            replace HB2 := Lib.hid HB2
            have b1 : 0 ≤ q1 ∧ 0 ≤ r2 ∧ 0 ≤ l1 := by omega
            replace b1 := Lib.hid b1
            have g3 : ¬ (c : Int) ≤ r2 := by omega
            clear sub
            clear hr2
            clear hl1 hq1 hr1 hli hqi hri hk HB hcc hr hq1b hll
            go_wp2
            go_round
            case rel => exact ⟨k + 1, l1.toNat, q1.toNat, r2.toNat, by omega, by go_num, by rw [Int.toNat_of_nonneg b1.out.2.2], by rw [Int.toNat_of_nonneg b1.out.1], by rw [Int.toNat_of_nonneg b1.out.2.1], HB2⟩
            case measure => simp [intOf]; omega
        · by_cases sub : (c : Int) ≤ 2 * ri + 0
          · obtain ⟨r3, e5, hr3⟩ : ∃ r3 : Int, IntKind.u64.wrap (r1 - (c : Int)) = r3 ∧ r3 = 2 * ri + 0 - c := ⟨_, rfl, by rw [IntKind.wrap_u64]; omega⟩
            obtain ⟨q2, e6, hq2⟩ : ∃ q2 : Int, IntKind.u64.wrap (q1 + 1) = q2 ∧ q2 = q1 + 1 := ⟨_, rfl, by rw [IntKind.wrap_u64]; omega⟩
            have HB2 : Dv.BitsAt N c (k + 1) q2.toNat r3.toNat l1.toNat := by
              have h1 := HB.out.next (by omega)
              have h0 : l / 9223372036854775808 = 0 := by omega
              rw [h0, if_pos (by omega), if_pos (by omega)] at h1
              have a1 : q2.toNat = 2 * q + 1 := by omega
              have a2 : r3.toNat = 2 * r + 0 - c := by omega
              have a3 : l1.toNat = 2 * l % 18446744073709551616 := by omega
              rw [a1, a2, a3]
              exact h1
            replace HB2 := Lib.hid HB2
            have b1 : 0 ≤ q2 ∧ 0 ≤ r3 ∧ 0 ≤ l1 := by omega
            replace b1 := Lib.hid b1
            have g3 : (c : Int) ≤ r1 := by omega
            clear sub
            clear hr3 hq2
            clear hl1 hq1 hr1 hli hqi hri hk HB hcc hr hq1b hll
            go_wp2
            go_round
            case rel => exact ⟨k + 1, l1.toNat, q2.toNat, r3.toNat, by omega, by go_num, by rw [Int.toNat_of_nonneg b1.out.2.2], by rw [Int.toNat_of_nonneg b1.out.1], by rw [Int.toNat_of_nonneg b1.out.2.1], HB2⟩
            case measure => simp [intOf]; omega
          · have HB2 : Dv.BitsAt N c (k + 1) q1.toNat r1.toNat l1.toNat := by
              have h1 := HB.out.next (by omega)
              have h0 : l / 9223372036854775808 = 0 := by omega
              rw [h0, if_neg (by omega), if_neg (by omega)] at h1
              have a1 : q1.toNat = 2 * q := by omega
              have a2 : r1.toNat = 2 * r + 0 := by omega
              have a3 : l1.toNat = 2 * l % 18446744073709551616 := by omega
              rw [a1, a2, a3]
              exact h1
            replace HB2 := Lib.hid HB2
            have b1 : 0 ≤ q1 ∧ 0 ≤ r1 ∧ 0 ≤ l1 := by omega
            replace b1 := Lib.hid b1
            have g3 : ¬ (c : Int) ≤ r1 := by omega
            clear sub
            clear hl1 hq1 hr1 hli hqi hri hk HB hcc hr hq1b hll
            go_wp2
            go_round
            case rel => exact ⟨k + 1, l1.toNat, q1.toNat, r1.toNat, by omega, by go_num, by rw [Int.toNat_of_nonneg b1.out.2.2], by rw [Int.toNat_of_nonneg b1.out.1], by rw [Int.toNat_of_nonneg b1.out.2.1], HB2⟩
            case measure => simp [intOf]; omega
    · obtain rfl : k = 64 := by omega
      obtain ⟨a1, a2⟩ := HB.out.done
      rw [hNQ.out] at a1
      rw [hNR.out] at a2
      replace a1 := Lib.hid a1
      replace a2 := Lib.hid a2
      clear HB
      go_wp2
      go_ret2
      refine ⟨?_, rfl⟩
      show Ending.returned (.tuple #[.int .u64 (q : Int), .int .u64 (r : Int)]) = _
      rw [a1.out, a2.out]
theorem refDivide_c (w : World) (hi lo c : Int) (hlo : U lo) (hc : U c) (h0 : 0 ≤ hi) (h : hi < c) :
    Calls Tryz.prog 115 #[.int .u64 hi, .int .u64 lo, .int .u64 c] w fun e w' => e = .returned (.tuple #[.int .u64 ((hi * 18446744073709551616 + lo) / c), .int .u64 ((hi * 18446744073709551616 + lo) % c)]) ∧ w = w' := by
  obtain ⟨a, rfl⟩ := Int.eq_ofNat_of_zero_le h0
  obtain ⟨b, rfl⟩ := Int.eq_ofNat_of_zero_le hlo.1
  obtain ⟨d, rfl⟩ := Int.eq_ofNat_of_zero_le hc.1
  unfold U at hlo hc
  refine (refDivide_nat w a b d (by omega) (by omega) (by omega)).mono fun e w' h => ⟨h.1.trans ?_, h.2⟩
  congr 3
section
variable (w : World) (a b c : Int) (ha : U a) (hb : U b) (hc : U c)
include ha hb hc
theorem refShare_c :
    Calls Tryz.prog 66 #[.int .u64 a, .int .u64 b, .int .u64 c] w fun e w' => e = .returned (.int .u64 (sshare a b c)) ∧ w = w' := by
  unfold sshare
  by_cases h : c ≤ hi64 a b
  · rw [if_pos h]
    go_enter Tryz.func66, Tryz.ntmps66
    go_wp2_with fail
    refine (product_c _ a b ha hb).mono ?_
    rintro e w' ⟨rfl, rfl⟩
    go_wp2_with fail
    go_ret
    exact ⟨rfl, rfl⟩
  · rw [if_neg h]
    have hd := refDivide_c w (hi64 a b) (lo64 a b) c (U_lo64 a b) hc (U_hi64 ha hb).1 (by omega)
    rw [hi_lo] at hd
    go_enter Tryz.func66, Tryz.ntmps66
    go_wp2_with fail
    refine (product_c _ a b ha hb).mono ?_
    rintro e w' ⟨rfl, rfl⟩
    go_wp2_with fail
    refine (hd).mono ?_
    rintro e w' ⟨rfl, rfl⟩
    go_wp2_with fail
    go_ret
    exact ⟨rfl, rfl⟩
theorem refOver_c :
    Calls Tryz.prog 126 #[.int .u64 a, .int .u64 b, .int .u64 c] w fun e w' => e = .returned (.int .u64 (sover a b c)) ∧ w = w' := by
  unfold sover
  by_cases h : c ≤ hi64 a b
  · rw [if_pos h]
    go_enter Tryz.func126, Tryz.ntmps126
    go_wp2_with fail
    refine (product_c _ a b ha hb).mono ?_
    rintro e w' ⟨rfl, rfl⟩
    go_wp2_with fail
    go_ret
    exact ⟨rfl, rfl⟩
  · rw [if_neg h]
    have hd := refDivide_c w (hi64 a b) (lo64 a b) c (U_lo64 a b) hc (U_hi64 ha hb).1 (by omega)
    rw [hi_lo] at hd
    have hqU := Lib.hid (quo_U ha hb (show hi64 a b < c by omega)).1
    by_cases hr : 0 < a * b % c
    · rw [if_pos hr]
      go_enter Tryz.func126, Tryz.ntmps126
      go_wp2_with fail
      refine (product_c _ a b ha hb).mono ?_
      rintro e w' ⟨rfl, rfl⟩
      go_wp2_with fail
      refine (hd).mono ?_
      rintro e w' ⟨rfl, rfl⟩
      go_wp2_with fail
      refine (refAdd_c _ (a * b / c) 1 hqU.out (by unfold U; omega)).mono ?_
      rintro e w' ⟨rfl, rfl⟩
      go_wp2_with fail
      go_ret
      exact ⟨rfl, rfl⟩
    · rw [if_neg hr]
      go_enter Tryz.func126, Tryz.ntmps126
      go_wp2_with fail
      refine (product_c _ a b ha hb).mono ?_
      rintro e w' ⟨rfl, rfl⟩
      go_wp2_with fail
      refine (hd).mono ?_
      rintro e w' ⟨rfl, rfl⟩
      go_wp2_with fail
      go_ret
      exact ⟨rfl, rfl⟩
end
end Go.Proofs.YtpfbbpiidhhkbaaGreat
