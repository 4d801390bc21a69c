/- What shares and sums are like, in plain words. -/
import Derived.Test.YtpfbbpiidhhkbaaFix2
namespace Go.Proofs.Ytpfbbpiidhhkbaa
theorem hi_lt {a b c : Int} : hi64 a b < c ↔ a * b < c * 18446744073709551616 := by
  have h1 := hi_lo a b
  have h2 := U_lo64 a b
  unfold U at h2
  generalize a * b = p at *
  omega
theorem near1 {a b c : Int} (ha : U a) (hb : U b) : sover a b c = sshare a b c ∨ (sover a b c = sshare a b c + 1 ∧ 0 ≤ sshare a b c ∧ sshare a b c < 18446744073709551615) := by
  unfold sover sshare
  split
  · exact .inl rfl
  · have := (quo_U ha hb (show hi64 a b < c by omega)).1
    unfold U at this
    split
    · unfold sadd; split <;> omega
    · exact .inl rfl
theorem mul_div_le (p c : Int) (hc : 0 < c) : p / c * c ≤ p ∧ p < (p / c + 1) * c := by
  have h1 := Int.ediv_mul_add_emod p c
  have h2 := Int.emod_nonneg p (show c ≠ 0 by omega)
  have h3 := Int.emod_lt_of_pos p hc
  rw [Int.add_mul, Int.one_mul]
  generalize p / c * c = q at *
  omega
theorem near2 {a b c : Int} (ha : U a) (hb : U b) (hc : U c) (hx : sshare a b c ≠ 18446744073709551615) (hp : smul a b ≠ 18446744073709551615) (hc0 : c ≠ 0) :
    smul (sshare a b c) c ≤ smul a b ∧ smul a b ≤ smul (sover a b c) c ∧ (sshare a b c = sover a b c ↔ smul (sshare a b c) c = smul a b) := by
  have hlt : hi64 a b < c := by
    rcases Int.lt_or_le (hi64 a b) c with h | h
    · exact h
    · exact absurd (by unfold sshare; rw [if_pos h]) hx
  have hpp : a * b < 18446744073709551615 ∧ smul a b = a * b := by
    unfold smul at hp ⊢
    by_cases h : 18446744073709551615 < a * b
    · rw [if_pos h] at hp; exact absurd rfl hp
    · rw [if_neg h] at hp ⊢; exact ⟨by omega, rfl⟩
  have hxe : sshare a b c = a * b / c := by unfold sshare; rw [if_neg (by omega)]
  rw [hxe] at hx
  have hye : sover a b c = if 0 < a * b % c then a * b / c + 1 else a * b / c := by
    have hU := (quo_U ha hb hlt).1
    unfold U at hU
    unfold sover; rw [if_neg (by omega)]
    split
    · unfold sadd; rw [if_neg (by omega)]
    · rfl
  rw [hpp.2, hxe, hye]
  have hc1 : 0 < c := by unfold U at hc; omega
  obtain ⟨h1, h2⟩ := mul_div_le (a * b) c hc1
  have hm := Int.ediv_mul_add_emod (a * b) c
  have h3 := Int.emod_nonneg (a * b) hc0
  have hx1 : smul (a * b / c) c = a * b / c * c := by unfold smul; rw [if_neg (by omega)]
  rw [hx1]
  by_cases hr : 0 < a * b % c
  · rw [if_pos hr]
    refine ⟨h1, ?_, ?_⟩
    · unfold smul; split
      · omega
      · generalize (a * b / c + 1) * c = z at *; omega
    · constructor
      · intro h; omega
      · intro h; omega
  · rw [if_neg hr]
    have e : a * b / c * c = a * b := by omega
    rw [hx1, e]
    exact ⟨Int.le_refl _, Int.le_refl _, by constructor <;> intro _ <;> rfl⟩
theorem share_comm (a b c : Int) : sshare a b c = sshare b a c := by unfold sshare hi64; rw [Int.mul_comm]
theorem over_comm (a b c : Int) : sover a b c = sover b a c := by unfold sover hi64; rw [Int.mul_comm]
theorem sadd_comm (a b : Int) : sadd a b = sadd b a := by unfold sadd; rw [Int.add_comm]
theorem whole1 {a b : Int} (ha : U a) (hb : U b) (h : b ≠ 0) : sshare a b b = a ∧ sover b a b = a := by
  have hb1 : 0 < b := by unfold U at hb; omega
  have hlt : hi64 a b < b := hi_lt.2 (by
    have : a * b ≤ 18446744073709551615 * b := Int.mul_le_mul_of_nonneg_right ha.2 (by omega)
    omega)
  have hd : a * b / b = a := Int.mul_ediv_cancel _ (by omega)
  have hm : a * b % b = 0 := Int.mul_emod_left _ _
  rw [over_comm]
  constructor
  · unfold sshare; rw [if_neg (by omega), hd]
  · unfold sover; rw [if_neg (by omega), hm, if_neg (by omega), hd]
theorem whole2 {a b : Int} (ha : U a) (hb : U b) : ssub (sadd a b) b ≤ a := by
  unfold U at *; unfold ssub sadd; split <;> split <;> omega
/-- Rises. -/
theorem share_mono {p q c d : Int} (hp : 0 ≤ p) (h : p ≤ q) (hc : 0 < d) (hcd : d ≤ c) : p / c ≤ q / d := by
  have h1 : p / c ≤ p / d := by
    refine (Int.le_ediv_iff_mul_le hc).2 ?_
    have h2 := (mul_div_le p c (by omega)).1
    have h3 : p / c * d ≤ p / c * c := Int.mul_le_mul_of_nonneg_left hcd (Int.ediv_nonneg hp (by omega))
    omega
  exact Int.le_trans h1 (Int.ediv_le_ediv hc h)
theorem over_val {a b c : Int} (ha : U a) (hb : U b) (hlt : hi64 a b < c) : (sover a b c = 18446744073709551615 ∧ 18446744073709551615 * c < a * b) ∨ (a * b ≤ sover a b c * c ∧ (sover a b c - 1) * c < a * b ∧ sover a b c ≤ 18446744073709551615) := by
  have hc : 0 < c := by have := (U_hi64 ha hb).1; omega
  have hU := (quo_U ha hb hlt).1
  unfold U at hU
  obtain ⟨h1, h2⟩ := mul_div_le (a * b) c hc
  have hm := Int.ediv_mul_add_emod (a * b) c
  have hn := Int.emod_nonneg (a * b) (show c ≠ 0 by omega)
  unfold sover
  rw [if_neg (by omega)]
  split
  · unfold sadd
    split
    · left
      refine ⟨rfl, ?_⟩
      have e : a * b / c = 18446744073709551615 := by omega
      rw [e] at hm
      omega
    · right
      refine ⟨by omega, ?_, by omega⟩
      rw [Int.add_sub_cancel]
      omega
  · right
    refine ⟨by omega, ?_, hU.2⟩
    rw [Int.sub_mul, Int.one_mul]
    omega
theorem rise_share {a b c a' b' c' : Int} (ha : U a) (hb : U b) (ha' : U a') (hb' : U b') (hc' : 0 ≤ c') (hp : a * b ≤ a' * b') (hc : c' ≤ c) : sshare a b c ≤ sshare a' b' c' := by
  by_cases h : c' ≤ hi64 a' b'
  · have : sshare a' b' c' = 18446744073709551615 := by unfold sshare; rw [if_pos h]
    rw [this]; exact (U_sshare ha hb).2
  · have h' : hi64 a' b' < c' := by omega
    have h0 := (U_hi64 ha' hb').1
    have hh : hi64 a b ≤ hi64 a' b' := by unfold hi64; exact Int.ediv_le_ediv (by omega) hp
    unfold sshare
    rw [if_neg h, if_neg (by omega)]
    exact share_mono (Int.mul_nonneg ha.1 hb.1) hp (by omega) hc
theorem rise_over {a b c a' b' c' : Int} (ha : U a) (hb : U b) (ha' : U a') (hb' : U b') (hc' : 0 ≤ c') (hp : a * b ≤ a' * b') (hc : c' ≤ c) : sover a b c ≤ sover a' b' c' := by
  by_cases h : c' ≤ hi64 a' b'
  · have : sover a' b' c' = 18446744073709551615 := by unfold sover; rw [if_pos h]
    rw [this]; exact (U_sover ha hb).2
  · have h' : hi64 a' b' < c' := by omega
    have h0 := (U_hi64 ha' hb').1
    have hh : hi64 a b ≤ hi64 a' b' := by unfold hi64; exact Int.ediv_le_ediv (by omega) hp
    have hU := U_sover (c := c) ha hb
    have hU' := U_sover (c := c') ha' hb'
    rcases over_val ha' hb' h' with ⟨e, _⟩ | ⟨h1, _, _⟩
    · rw [e]; exact hU.2
    · rcases over_val ha hb (show hi64 a b < c by omega) with ⟨e, h2⟩ | ⟨_, h2, _⟩
      · rw [e]
        rcases Int.lt_or_le (sover a' b' c') 18446744073709551615 with hl | hl
        · exfalso
          have h3 : sover a' b' c' * c' ≤ 18446744073709551615 * c' := Int.mul_le_mul_of_nonneg_right hU'.2 (by omega)
          omega
        · exact hl
      · rcases Int.lt_or_le (sover a' b' c') (sover a b c) with hl | hl
        · exfalso
          have h3 : sover a' b' c' * c' ≤ (sover a b c - 1) * c' := Int.mul_le_mul_of_nonneg_right (by omega) (by omega)
          have h4 : (sover a b c - 1) * c' ≤ (sover a b c - 1) * c := Int.mul_le_mul_of_nonneg_left hc (by have := hU'.1; omega)
          omega
        · exact hl
theorem rise_mul {p q a b : Int} (h : p * q ≤ a * b) : smul p q ≤ smul a b := by unfold smul; split <;> split <;> omega
end Go.Proofs.Ytpfbbpiidhhkbaa
