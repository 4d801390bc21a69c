/- PacerNoMore. -/
import Derived.Test.YtoimbdbajpjmjaaPacer3
namespace Go.Proofs.Ytoimbdbajpjmjaa
open Go.RowKit
/-- What holds before act k where the count begins at act f. -/
def NInv (f k : Int) (s : Pac) (bd us : Int) : Prop :=
  (0 ≤ s.now ∧ s.now ≤ 1048576) ∧ (0 ≤ s.rate ∧ s.rate ≤ 1048576) ∧ (0 ≤ s.qu ∧ s.qu ≤ 1048576) ∧ (0 ≤ s.cr ∧ s.cr ≤ s.qu * 1000000) ∧
    (k ≤ f → bd = 0 ∧ us = 0) ∧ (f < k → 0 ≤ us ∧ s.cr + us ≤ bd ∧ bd ≤ 1048576000000 + 1048576 * s.now)
theorem NInv.zero {f : Int} (h : 0 ≤ f) : NInv f 0 Pac.zero 0 0 := by
  refine ⟨by decide, by decide, by decide, by decide, fun _ => ⟨rfl, rfl⟩, fun h2 => by omega⟩
theorem NInv.ok {f k bd us : Int} {s : Pac} (h : NInv f k s bd us) : s.Ok := by
  obtain ⟨h1, h2, h3, h4, _⟩ := h
  refine ⟨?_, ?_, ?_, ?_⟩ <;> (unfold U; omega)
theorem NInv.start_at {f bd us : Int} {s : Pac} (h : NInv f f s bd us) : us = 0 ∧ bd = 0 ∧ NInv f (f + 1) s (s.qu * 1000000) us := by
  obtain ⟨h1, h2, h3, h4, h5, _⟩ := h
  obtain ⟨rfl, rfl⟩ := h5 (Int.le_refl _)
  refine ⟨rfl, rfl, h1, h2, h3, h4, fun h => by omega, fun _ => ⟨by omega, by omega, by omega⟩⟩
theorem NInv.start_not {f k bd us : Int} {s : Pac} (h : NInv f k s bd us) (hk : k ≠ f) : NInv f (k + 1) s bd us := by
  obtain ⟨h1, h2, h3, h4, h5, h6⟩ := h
  exact ⟨h1, h2, h3, h4, fun h => h5 (by omega), fun h => h6 (by omega)⟩
theorem NInv.take {f k bd us n : Int} {s : Pac} (hn0 : 0 ≤ n) (hn : n ≤ 1048576) (h : NInv f k s bd us) :
    (s.take n).2.now = s.now ∧ (s.take n).2.qu = s.qu ∧
    (((s.take n).1 = true ∧ (f < k → NInv f k (s.take n).2 bd (us + n * 1000000)) ∧ (k ≤ f → NInv f k (s.take n).2 bd us)) ∨ ((s.take n).1 = false ∧ NInv f k (s.take n).2 bd us)) := by
  have hm : smul n 1000000 = n * 1000000 := by unfold smul; rw [if_neg (by omega)]
  unfold Pac.take
  rw [hm]
  by_cases hc : s.cr < n * 1000000
  · rw [if_pos hc]; exact ⟨rfl, rfl, .inr ⟨rfl, h⟩⟩
  · rw [if_neg hc]
    obtain ⟨h1, h2, h3, h4, h5, h6⟩ := h
    refine ⟨rfl, rfl, .inl ⟨rfl, fun hk => ?_, fun hk => ?_⟩⟩
    · obtain ⟨g1, g2, g3⟩ := h6 hk
      refine ⟨h1, h2, h3, ⟨by show 0 ≤ s.cr - n * 1000000; omega, by show s.cr - n * 1000000 ≤ _; exact Int.le_trans (by omega) h4.2⟩, fun hh => by omega, fun _ => ⟨by omega, ?_, g3⟩⟩
      show s.cr - n * 1000000 + (us + n * 1000000) ≤ bd
      omega
    · exact ⟨h1, h2, h3, ⟨by show 0 ≤ s.cr - n * 1000000; omega, by show s.cr - n * 1000000 ≤ _; exact Int.le_trans (by omega) h4.2⟩, h5, fun hh => by omega⟩
theorem mul_bound {a b : Int} (h0 : 0 ≤ a) (h1 : a ≤ 1048576) (h2 : 0 ≤ b) (h3 : b ≤ 1048576) : 0 ≤ a * b ∧ a * b ≤ 1048576 * b ∧ a * b ≤ 1099511627776 := by
  have e1 := Int.mul_nonneg h0 h2
  have e2 : a * b ≤ 1048576 * b := Int.mul_le_mul_of_nonneg_right h1 h2
  exact ⟨e1, e2, by omega⟩
theorem NInv.tick {f k bd us nw rt qn : Int} {s : Pac} (hw : 0 ≤ nw ∧ nw ≤ 1048576) (hr : 0 ≤ rt ∧ rt ≤ 1048576) (hq : 0 ≤ qn ∧ qn ≤ 1048576) (h : NInv f k s bd us) :
    (nw < s.now ∧ s.tick nw rt qn = (2, s)) ∨
    (s.now ≤ nw ∧ (s.tick nw rt qn).1 = 0 ∧ (s.tick nw rt qn).2.now = nw ∧ (s.tick nw rt qn).2.qu = qn ∧ (f < k → NInv f k (s.tick nw rt qn).2 (bd + rt * (nw - s.now)) us) ∧ (k ≤ f → NInv f k (s.tick nw rt qn).2 bd us)) := by
  unfold Pac.tick
  by_cases hc : nw < s.now
  · rw [if_pos hc]; exact .inl ⟨hc, rfl⟩
  · rw [if_neg hc]
    obtain ⟨h1, h2, h3, h4, h5, h6⟩ := h
    obtain ⟨b0, b1, b2⟩ := mul_bound hr.1 hr.2 (show 0 ≤ nw - s.now by omega) (by omega)
    have e1 : smul rt (nw - s.now) = rt * (nw - s.now) := by unfold smul; rw [if_neg (by omega)]
    have e2 : smul qn 1000000 = qn * 1000000 := by unfold smul; rw [if_neg (by omega)]
    have e3 : sadd s.cr (rt * (nw - s.now)) = s.cr + rt * (nw - s.now) := by unfold sadd; rw [if_neg (by omega)]
    rw [e1, e2, e3]
    refine .inr ⟨by omega, rfl, rfl, rfl, fun hk => ?_, fun hk => ?_⟩
    · obtain ⟨g1, g2, g3⟩ := h6 hk
      refine ⟨hw, hr, hq, ⟨?_, ?_⟩, fun hh => by omega, fun _ => ⟨g1, ?_, ?_⟩⟩
      · show 0 ≤ min _ _; omega
      · show min _ _ ≤ qn * 1000000; omega
      · show min (s.cr + rt * (nw - s.now)) (qn * 1000000) + us ≤ _; omega
      · show _ ≤ 1048576000000 + 1048576 * nw; omega
    · refine ⟨hw, hr, hq, ⟨?_, ?_⟩, h5, fun hh => by omega⟩
      · show 0 ≤ min _ _; omega
      · show min _ _ ≤ qn * 1000000; omega
end Go.Proofs.Ytoimbdbajpjmjaa
