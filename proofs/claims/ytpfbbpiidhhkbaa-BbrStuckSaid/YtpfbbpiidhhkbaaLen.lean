/- math/bits.Len64, LeadingZeros64: how many bits a number has. -/
import Derived.Test.YtpfbbpiidhhkbaaFix
import Derived.Test.YtpfbbpiidhhkbaaDivN
import Derived.Laws.MathBits
namespace Go.Proofs.Ytpfbbpiidhhkbaa
open Go.RowKit
def lenI (x : Int) : Int := (bitLen x.toNat : Nat)
theorem lenI_step (x p : Int) (b : Nat) (hp : p = ((2 ^ b : Nat) : Int)) (h0 : 0 < p) (h : p ≤ x) : lenI x = b + lenI (x / p) := by
  obtain ⟨n, rfl⟩ := Int.eq_ofNat_of_zero_le (show 0 ≤ x by omega)
  subst hp
  have hpn : 0 < 2 ^ b := Nat.two_pow_pos b
  have hn : 2 ^ b ≤ n := by omega
  have h1 : 1 ≤ n / 2 ^ b := (Nat.le_div_iff_mul_le hpn).2 (by omega)
  have := bitLen_shift n b (by omega)
  unfold lenI
  rw [show ((n : Int) / ((2 ^ b : Nat) : Int)).toNat = n / 2 ^ b from by rw [← Int.natCast_ediv]; rfl, show (n : Int).toNat = n from rfl, this]
  omega
theorem lenI_small (x : Int) (h : x ≤ 255) : 0 ≤ lenI x ∧ lenI x ≤ 8 := by
  have := bitLen_le8 x.toNat (by omega)
  unfold lenI; omega
theorem len_ret {k : IntKind} {a b : Int} (h : a = b) : Ending.returned (.int k a) = .returned (.int k b) := by rw [h]
set_option maxRecDepth 100000 in
set_option maxHeartbeats 1000000 in
theorem len64_c (w : World) (x : Int) (h0 : 0 ≤ x) (hx : x ≤ 18446744073709551615) :
    Calls Try.prog 90 #[.int .u64 x] w fun e w' => e = .returned (.int .i64 (lenI x)) ∧ w = w' := by
  have f1 := Lib.hid (lenI_step x 4294967296 32 rfl (by omega))
  have f2 := Lib.hid (lenI_step x 65536 16 rfl (by omega))
  have f3 := Lib.hid (lenI_step (x / 4294967296) 65536 16 rfl (by omega))
  have f4 := Lib.hid (fun y => lenI_step y 256 8 rfl (by omega))
  go_enter Try.func90, Try.ntmps90
  go_wp2
  all_goals
    simp only [len8tab_get]
    go_ret
    refine ⟨len_ret ?_, rfl⟩
    replace f1 := f1.out
    replace f2 := f2.out
    replace f3 := f3.out
    have g1 := f4.out x
    have g2 := f4.out (x / 4294967296)
    have g3 := f4.out (x / 65536)
    have g4 := f4.out (x / 4294967296 / 65536)
    clear f4
    have s0 := lenI_small x
    have s1 := lenI_small (x / 4294967296)
    have s2 := lenI_small (x / 65536)
    have s3 := lenI_small (x / 4294967296 / 65536)
    have s4 := lenI_small (x / 256)
    have s5 := lenI_small (x / 4294967296 / 256)
    have s6 := lenI_small (x / 65536 / 256)
    have s7 := lenI_small (x / 4294967296 / 65536 / 256)
    simp only [lenI, wrap64] at *
    omega
theorem lenI_le (x : Int) (h0 : 0 ≤ x) (hx : x ≤ 18446744073709551615) : 0 ≤ lenI x ∧ lenI x ≤ 64 := by
  have f1 := lenI_step x 4294967296 32 rfl (by omega)
  have f2 := lenI_step x 65536 16 rfl (by omega)
  have f3 := lenI_step (x / 4294967296) 65536 16 rfl (by omega)
  have f4 := fun y => lenI_step y 256 8 rfl (by omega)
  have g1 := f4 x
  have g2 := f4 (x / 4294967296)
  have g3 := f4 (x / 65536)
  have g4 := f4 (x / 4294967296 / 65536)
  have s0 := lenI_small x
  have s1 := lenI_small (x / 4294967296)
  have s2 := lenI_small (x / 65536)
  have s3 := lenI_small (x / 4294967296 / 65536)
  have s4 := lenI_small (x / 256)
  have s5 := lenI_small (x / 4294967296 / 256)
  have s6 := lenI_small (x / 65536 / 256)
  have s7 := lenI_small (x / 4294967296 / 65536 / 256)
  omega
/-- How far a number is shifted, to have its highest bit set. -/
theorem lead_pow (y : Nat) (h0 : 0 < y) (hy : y < 18446744073709551616) : ∃ s : Nat, 64 - lenI y = (s : Int) ∧ s < 64 ∧ 2 ^ s * 2 ^ (64 - s) = 18446744073709551616 ∧ 9223372036854775808 ≤ y * 2 ^ s ∧ y * 2 ^ s < 18446744073709551616 := by
  obtain ⟨h1, h2⟩ := bitLen_spec y
  have h3 := h2 (by omega)
  have hle := (lenI_le y (by omega) (by omega)).2
  unfold lenI at hle ⊢
  simp only [Int.toNat_natCast] at hle ⊢
  have hb : 0 < bitLen y := by
    rcases Nat.eq_zero_or_pos (bitLen y) with h | h
    · rw [h] at h1; simp at h1; omega
    · exact h
  have hpow : ∀ a b : Nat, a + b = 64 → 2 ^ a * 2 ^ b = 18446744073709551616 := fun a b h => by rw [← Nat.pow_add, h]
  have hpow' : ∀ a b : Nat, a + b = 63 → 2 ^ a * 2 ^ b = 9223372036854775808 := fun a b h => by rw [← Nat.pow_add, h]
  refine ⟨64 - bitLen y, by omega, by omega, hpow _ _ (by omega), ?_, ?_⟩
  · rw [← hpow' (bitLen y - 1) (64 - bitLen y) (by omega)]
    exact Nat.mul_le_mul_right _ h3
  · rw [← hpow (bitLen y) (64 - bitLen y) (by omega)]
    exact Nat.mul_lt_mul_of_pos_right h1 (Nat.two_pow_pos _)
theorem leadingZeros64_c (w : World) (x : Int) (h0 : 0 ≤ x) (hx : x ≤ 18446744073709551615) :
    Calls Try.prog 88 #[.int .u64 x] w fun e w' => e = .returned (.int .i64 (64 - lenI x)) ∧ w = w' := by
  have hl := lenI_le x h0 hx
  go_enter Try.func88, Try.ntmps88
  go_wp2_with fail
  refine (len64_c _ x h0 hx).mono ?_
  rintro e w' ⟨rfl, rfl⟩
  go_wp2_with fail
  go_ret
  exact ⟨rfl, rfl⟩
end Go.Proofs.Ytpfbbpiidhhkbaa
