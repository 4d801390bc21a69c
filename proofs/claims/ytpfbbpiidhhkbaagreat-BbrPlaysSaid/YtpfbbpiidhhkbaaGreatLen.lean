/- math/bits.Len64, LeadingZeros64: how many bits a number has. -/
import Derived.Test.YtpfbbpiidhhkbaaGreatRow
import Derived.Test.YtpfbbpiidhhkbaaGreatFix
import Derived.Laws.MathBits
namespace Go.Proofs.YtpfbbpiidhhkbaaGreat
namespace Dv
theorem dlt (a b c : Nat) (h : a < c * b) : a / b < c := Nat.div_lt_of_lt_mul (by rw [Nat.mul_comm]; exact h)
structure Try (u d y1 y0 q r : Nat) : Prop where
  sum : q * y1 + r = u
  big : (u * 4294967296 + d) / (y1 * 4294967296 + y0) ≤ q
theorem mulY (q y1 y0 : Nat) : q * (y1 * 4294967296 + y0) = q * y1 * 4294967296 + q * y0 := by
  rw [Nat.mul_add, Nat.mul_assoc]
section
variable {u d y1 y0 q r : Nat}
theorem Try.first (h1 : 0 < y1) (hd : d < 4294967296) : Try u d y1 y0 (u / y1) (u % y1) := by
  refine ⟨Nat.div_add_mod' u y1, ?_⟩
  refine (Nat.le_div_iff_mul_le h1).2 ?_
  have hq : (u * 4294967296 + d) / (y1 * 4294967296 + y0) * (y1 * 4294967296 + y0) ≤ u * 4294967296 + d := Nat.div_mul_le_self _ _
  rw [mulY] at hq
  generalize (u * 4294967296 + d) / (y1 * 4294967296 + y0) = k at *
  generalize k * y1 = a at *
  generalize k * y0 = b at *
  omega
theorem Try.lt (hu : u < y1 * 4294967296 + y0) (hd : d < 4294967296) : (u * 4294967296 + d) / (y1 * 4294967296 + y0) < 4294967296 := by
  apply dlt
  omega
theorem Try.next (h : Try u d y1 y0 q r) (hu : u < y1 * 4294967296 + y0) (hd : d < 4294967296) (ht : 4294967296 ≤ q ∨ 4294967296 * r + d < q * y0) : 0 < q ∧ Try u d y1 y0 (q - 1) (r + y1) := by
  have hl := Try.lt (y1 := y1) (y0 := y0) hu hd
  have hq : (u * 4294967296 + d) / (y1 * 4294967296 + y0) < q := by
    rcases ht with ht | ht
    · exact Nat.lt_of_lt_of_le hl ht
    · apply dlt
      rw [mulY]
      have := h.sum
      generalize q * y1 = a at *
      generalize q * y0 = b at *
      omega
  have h0 : 0 < q := Nat.lt_of_le_of_lt (Nat.zero_le _) hq
  refine ⟨h0, ?_, by omega⟩
  obtain ⟨k, rfl⟩ : ∃ k, q = k + 1 := ⟨q - 1, by omega⟩
  have := h.sum
  rw [Nat.succ_mul] at this
  simp only [Nat.add_sub_cancel]
  omega
theorem Try.done (h : Try u d y1 y0 q r) (hu : u < y1 * 4294967296 + y0) (ht : q * y0 ≤ 4294967296 * r + d) : q = (u * 4294967296 + d) / (y1 * 4294967296 + y0) := by
  refine Nat.le_antisymm ((Nat.le_div_iff_mul_le (by omega)).2 ?_) h.big
  rw [mulY]
  have := h.sum
  generalize q * y1 = a at *
  generalize q * y0 = b at *
  omega
theorem Try.out (h : Try u d y1 y0 q r) (hu : u < y1 * 4294967296 + y0) (hq : q ≤ 4294967296) (hy : y0 < 4294967296) (hr : 4294967296 ≤ r) : q = (u * 4294967296 + d) / (y1 * 4294967296 + y0) := by
  refine h.done hu ?_
  have h1 : q * y0 ≤ 4294967296 * y0 := Nat.mul_le_mul_right _ hq
  omega
theorem Try.most (h1 : 2147483648 ≤ y1) (hy : y0 < 4294967296) (hu : u < y1 * 4294967296 + y0) : u / y1 ≤ 4294967297 := by
  have : u / y1 < 4294967298 := by
    apply dlt
    omega
  omega
end
theorem two_steps {N y p u d1 d0 : Nat} (hp : 0 < p) (hy : 0 < y) (hM : N * p = (u * 4294967296 + d1) * 4294967296 + d0) :
    N / y = (u * 4294967296 + d1) / (y * p) * 4294967296 + ((u * 4294967296 + d1) % (y * p) * 4294967296 + d0) / (y * p) ∧ N % y * p = ((u * 4294967296 + d1) % (y * p) * 4294967296 + d0) % (y * p) := by
  have hyp : 0 < y * p := Nat.mul_pos hy hp
  rw [← Nat.mul_div_mul_right N y hp, ← Nat.mul_mod_mul_right p N y, hM]
  clear hM
  obtain ⟨a, ha⟩ : ∃ a, u * 4294967296 + d1 = a := ⟨_, rfl⟩
  obtain ⟨z, hz⟩ : ∃ z, y * p = z := ⟨_, rfl⟩
  rw [ha, hz]
  rw [hz] at hyp
  clear ha hz
  have e : a * 4294967296 + d0 = z * (a / z * 4294967296) + (a % z * 4294967296 + d0) := by
    have := Nat.div_add_mod a z
    have e2 : z * (a / z * 4294967296) = z * (a / z) * 4294967296 := by rw [Nat.mul_assoc]
    rw [e2]
    generalize z * (a / z) = t at *
    omega
  constructor
  · conv => lhs; rw [e]
    rw [Nat.mul_add_div hyp]
  · conv => lhs; rw [e]
    rw [Nat.mul_add_mod]
theorem shifted {hi lo y p r : Nat} (hpr : p * r = 18446744073709551616) (hlo : lo < 18446744073709551616) (hhi : hi < y) :
    (hi * 18446744073709551616 + lo) * p = (hi * p + lo / r) * 18446744073709551616 + lo * p % 18446744073709551616 ∧ hi * p + lo / r < y * p := by
  have hr : 0 < r := by rcases Nat.eq_zero_or_pos r with h | h; · subst h; simp at hpr
                        exact h
  have e : lo / r = lo * p / 18446744073709551616 := by
    have hp : 0 < p := by rcases Nat.eq_zero_or_pos p with h | h; · subst h; simp at hpr
                          exact h
    rw [← hpr, Nat.mul_comm lo p, Nat.mul_div_mul_left _ _ hp]
  have hl : lo / r < p := by
    apply dlt; rw [hpr]; exact hlo
  refine ⟨?_, ?_⟩
  · rw [e, Nat.add_mul, Nat.add_mul]
    have := Nat.div_add_mod (lo * p) 18446744073709551616
    rw [Nat.mul_right_comm]
    generalize lo * p = t at *
    omega
  · have : (hi + 1) * p ≤ y * p := Nat.mul_le_mul_right _ hhi
    rw [Nat.succ_mul] at this
    omega
def BitsAt (N c i q r lo : Nat) : Prop := ∃ P R L, P * R = 18446744073709551616 ∧ R = 2 ^ i ∧ L < P ∧ lo = L * R ∧ (q * c + r) * P + L = N ∧ r < c
theorem BitsAt.start {hi lo c : Nat} (h : hi < c) (hlo : lo < 18446744073709551616) : BitsAt (hi * 18446744073709551616 + lo) c 0 0 hi lo :=
  ⟨18446744073709551616, 1, lo, by omega, rfl, hlo, by omega, by rw [Nat.zero_mul, Nat.zero_add], h⟩
theorem BitsAt.q_lt {N c i q r lo : Nat} (h : BitsAt N c i q r lo) (hN : N < c * 18446744073709551616) : q < 2 ^ i := by
  obtain ⟨P, R, L, hPR, hR, hL, _, hN2, _⟩ := h
  rw [← hR]
  rcases Nat.lt_or_ge q R with h | h
  · exact h
  · exfalso
    have h1 : R * c * P ≤ (q * c + r) * P := Nat.mul_le_mul_right _ (Nat.le_trans (Nat.mul_le_mul_right _ h) (Nat.le_add_right _ _))
    have h2 : R * c * P = c * (P * R) := by rw [Nat.mul_comm R c, Nat.mul_assoc, Nat.mul_comm R P]
    rw [h2, hPR] at h1
    omega
theorem BitsAt.lo_lt {N c i q r lo : Nat} (h : BitsAt N c i q r lo) : lo < 18446744073709551616 := by
  obtain ⟨P, R, L, hPR, hR, hL, hlo, _, _⟩ := h
  have h0 : 0 < R := by rw [hR]; exact Nat.pow_pos (by omega)
  have : L * R < P * R := Nat.mul_lt_mul_of_pos_right hL h0
  omega
theorem BitsAt.r_lt {N c i q r lo : Nat} (h : BitsAt N c i q r lo) : r < c := by
  obtain ⟨_, _, _, _, _, _, _, _, hr⟩ := h
  exact hr
theorem BitsAt.next {N c i q r lo : Nat} (h : BitsAt N c i q r lo) (hi : i < 64) :
    BitsAt N c (i + 1) (if c ≤ 2 * r + lo / 9223372036854775808 then 2 * q + 1 else 2 * q) (if c ≤ 2 * r + lo / 9223372036854775808 then 2 * r + lo / 9223372036854775808 - c else 2 * r + lo / 9223372036854775808) (2 * lo % 18446744073709551616) := by
  obtain ⟨P, R, L, hPR, hR, hL, hlo, hN, hr⟩ := h
  obtain ⟨P', hP'⟩ : ∃ P', P = 2 * P' := by
    refine ⟨2 ^ (63 - i), ?_⟩
    have h1 : 2 ^ (64 - i) * R = 18446744073709551616 := by rw [hR, ← Nat.pow_add, Nat.sub_add_cancel (by omega)]
    have h0 : 0 < R := by rw [hR]; exact Nat.pow_pos (by omega)
    have h2 : P = 2 ^ (64 - i) := Nat.eq_of_mul_eq_mul_right h0 (hPR.trans h1.symm)
    rw [h2, show 64 - i = (63 - i) + 1 from by omega, Nat.pow_succ, Nat.mul_comm]
  subst hP'
  have h0 : 0 < R := by rw [hR]; exact Nat.pow_pos (by omega)
  have hPR' : P' * R = 9223372036854775808 := by have := hPR; rw [Nat.mul_assoc] at this; omega
  have hP0 : 0 < P' := by rcases Nat.eq_zero_or_pos P' with h | h; · subst h; simp at hPR'
                          exact h
  have hb : lo / 9223372036854775808 = L / P' := by rw [hlo, ← hPR', Nat.mul_div_mul_right _ _ h0]
  have hb1 : L / P' < 2 := Nat.div_lt_of_lt_mul (by rw [Nat.mul_comm]; exact hL)
  have hLd := Nat.div_add_mod L P'
  rw [hb]
  have hlo2 : 2 * lo % 18446744073709551616 = L % P' * (2 * R) := by
    rw [hlo, ← hPR, show 2 * (L * R) = L * (2 * R) from by rw [Nat.mul_left_comm], show 2 * P' * R = P' * (2 * R) from by rw [Nat.mul_assoc, Nat.mul_left_comm], Nat.mul_mod_mul_right]
  refine ⟨P', 2 * R, L % P', by rw [Nat.mul_left_comm]; omega, by rw [hR, Nat.pow_succ, Nat.mul_comm], Nat.mod_lt _ hP0, hlo2, ?_, ?_⟩
  · have key : (2 * (q * c + r) + L / P') * P' + L % P' = N := by
      rw [← hN, Nat.add_mul, Nat.mul_comm (L / P') P']
      have e : (q * c + r) * (2 * P') = 2 * ((q * c + r) * P') := by rw [Nat.mul_left_comm]
      have e2 : 2 * (q * c + r) * P' = 2 * ((q * c + r) * P') := by rw [Nat.mul_assoc]
      rw [e, e2]
      omega
    rw [← key]
    congr 2
    split
    · rw [Nat.add_mul, Nat.one_mul, Nat.mul_assoc]; omega
    · rw [Nat.mul_assoc]; omega
  · split <;> omega
theorem BitsAt.done {N c q r lo : Nat} (h : BitsAt N c 64 q r lo) : q = N / c ∧ r = N % c := by
  obtain ⟨P, R, L, hPR, hR, hL, hlo, hN, hr⟩ := h
  have hR' : R = 18446744073709551616 := by rw [hR]
  have hP : P = 1 := by rw [hR'] at hPR; omega
  subst hP
  obtain rfl : L = 0 := by omega
  have hN' : N = c * q + r := by rw [← hN, Nat.mul_comm c]; omega
  constructor
  · rw [hN', Nat.mul_add_div (by omega), Nat.div_eq_of_lt hr]; rfl
  · rw [hN', Nat.mul_add_mod, Nat.mod_eq_of_lt hr]
end Dv
end Go.Proofs.YtpfbbpiidhhkbaaGreat
namespace Go.Proofs.YtpfbbpiidhhkbaaGreat
open Go.RowKit
def lenI (x : Int) : Int := (bitLen x.toNat : Nat)
theorem lenI_step (x p : Int) (b : Nat) (hp : p = ((2 ^ b : Nat) : Int)) (h0 : 0 < p) (h : p ≤ x) : lenI x = b + lenI (x / p) := by
  obtain ⟨n, rfl⟩ := Int.eq_ofNat_of_zero_le (show 0 ≤ x by omega)
  subst hp
  have hpn : 0 < 2 ^ b := Nat.two_pow_pos b
  have hn : 2 ^ b ≤ n := by omega
  have h1 : 1 ≤ n / 2 ^ b := (Nat.le_div_iff_mul_le hpn).2 (by omega)
  have := bitLen_shift n b (by omega)
  unfold lenI
  rw [show ((n : Int) / ((2 ^ b : Nat) : Int)).toNat = n / 2 ^ b from by rw [← Int.natCast_ediv]; rfl, show (n : Int).toNat = n from rfl, this]
  omega
theorem lenI_small (x : Int) (h : x ≤ 255) : 0 ≤ lenI x ∧ lenI x ≤ 8 := by
  have := bitLen_le8 x.toNat (by omega)
  unfold lenI; omega
theorem len_ret {k : IntKind} {a b : Int} (h : a = b) : Ending.returned (.int k a) = .returned (.int k b) := by rw [h]
set_option maxRecDepth 100000 in
set_option maxHeartbeats 1000000 in
theorem len64_c (w : World) (x : Int) (h0 : 0 ≤ x) (hx : x ≤ 18446744073709551615) :
    Calls Tryz.prog 137 #[.int .u64 x] w fun e w' => e = .returned (.int .i64 (lenI x)) ∧ w = w' := by
  have f1 := Lib.hid (lenI_step x 4294967296 32 rfl (by omega))
  have f2 := Lib.hid (lenI_step x 65536 16 rfl (by omega))
  have f3 := Lib.hid (lenI_step (x / 4294967296) 65536 16 rfl (by omega))
  have f4 := Lib.hid (fun y => lenI_step y 256 8 rfl (by omega))
  go_enter Tryz.func137, Tryz.ntmps137
  go_wp2
  all_goals
    simp only [len8tab_get]
    go_ret
    refine ⟨len_ret ?_, rfl⟩
    replace f1 := f1.out
    replace f2 := f2.out
    replace f3 := f3.out
    have g1 := f4.out x
    have g2 := f4.out (x / 4294967296)
    have g3 := f4.out (x / 65536)
    have g4 := f4.out (x / 4294967296 / 65536)
    clear f4
    have s0 := lenI_small x
    have s1 := lenI_small (x / 4294967296)
    have s2 := lenI_small (x / 65536)
    have s3 := lenI_small (x / 4294967296 / 65536)
    have s4 := lenI_small (x / 256)
    have s5 := lenI_small (x / 4294967296 / 256)
    have s6 := lenI_small (x / 65536 / 256)
    have s7 := lenI_small (x / 4294967296 / 65536 / 256)
    simp only [lenI, wrap64] at *
    omega
theorem lenI_le (x : Int) (h0 : 0 ≤ x) (hx : x ≤ 18446744073709551615) : 0 ≤ lenI x ∧ lenI x ≤ 64 := by
  have f1 := lenI_step x 4294967296 32 rfl (by omega)
  have f2 := lenI_step x 65536 16 rfl (by omega)
  have f3 := lenI_step (x / 4294967296) 65536 16 rfl (by omega)
  have f4 := fun y => lenI_step y 256 8 rfl (by omega)
  have g1 := f4 x
  have g2 := f4 (x / 4294967296)
  have g3 := f4 (x / 65536)
  have g4 := f4 (x / 4294967296 / 65536)
  have s0 := lenI_small x
  have s1 := lenI_small (x / 4294967296)
  have s2 := lenI_small (x / 65536)
  have s3 := lenI_small (x / 4294967296 / 65536)
  have s4 := lenI_small (x / 256)
  have s5 := lenI_small (x / 4294967296 / 256)
  have s6 := lenI_small (x / 65536 / 256)
  have s7 := lenI_small (x / 4294967296 / 65536 / 256)
  omega
theorem lead_pow (y : Nat) (h0 : 0 < y) (hy : y < 18446744073709551616) : ∃ s : Nat, 64 - lenI y = (s : Int) ∧ s < 64 ∧ 2 ^ s * 2 ^ (64 - s) = 18446744073709551616 ∧ 9223372036854775808 ≤ y * 2 ^ s ∧ y * 2 ^ s < 18446744073709551616 := by
  obtain ⟨h1, h2⟩ := bitLen_spec y
  have h3 := h2 (by omega)
  have hle := (lenI_le y (by omega) (by omega)).2
  unfold lenI at hle ⊢
  simp only [Int.toNat_natCast] at hle ⊢
  have hb : 0 < bitLen y := by
    rcases Nat.eq_zero_or_pos (bitLen y) with h | h
    · rw [h] at h1; simp at h1; omega
    · exact h
  have hpow : ∀ a b : Nat, a + b = 64 → 2 ^ a * 2 ^ b = 18446744073709551616 := fun a b h => by rw [← Nat.pow_add, h]
  have hpow' : ∀ a b : Nat, a + b = 63 → 2 ^ a * 2 ^ b = 9223372036854775808 := fun a b h => by rw [← Nat.pow_add, h]
  refine ⟨64 - bitLen y, by omega, by omega, hpow _ _ (by omega), ?_, ?_⟩
  · rw [← hpow' (bitLen y - 1) (64 - bitLen y) (by omega)]
    exact Nat.mul_le_mul_right _ h3
  · rw [← hpow (bitLen y) (64 - bitLen y) (by omega)]
    exact Nat.mul_lt_mul_of_pos_right h1 (Nat.two_pow_pos _)
theorem leadingZeros64_c (w : World) (x : Int) (h0 : 0 ≤ x) (hx : x ≤ 18446744073709551615) :
    Calls Tryz.prog 135 #[.int .u64 x] w fun e w' => e = .returned (.int .i64 (64 - lenI x)) ∧ w = w' := by
  have hl := lenI_le x h0 hx
  go_enter Tryz.func135, Tryz.ntmps135
  go_wp2_with fail
  refine (len64_c _ x h0 hx).mono ?_
  rintro e w' ⟨rfl, rfl⟩
  go_wp2_with fail
  go_ret
  exact ⟨rfl, rfl⟩
end Go.Proofs.YtpfbbpiidhhkbaaGreat
