/- pacer: the nil pacer; what Next says, then holds. -/
import Derived.Test.YtoimbdbajpjmjaaPacer5
namespace Go.Proofs.Ytoimbdbajpjmjaa
open Go.RowKit
def TInv (s : Pac) : Prop := (0 ≤ s.now ∧ s.now ≤ 1048576) ∧ (0 ≤ s.rate ∧ s.rate ≤ 1048576) ∧ (0 ≤ s.qu ∧ s.qu ≤ 1048576) ∧ (0 ≤ s.cr ∧ s.cr ≤ s.qu * 1000000)
theorem TInv.zero : TInv Pac.zero := ⟨by decide, by decide, by decide, by decide⟩
theorem TInv.ok {s : Pac} (h : TInv s) : s.Ok := by
  obtain ⟨h1, h2, h3, h4⟩ := h
  refine ⟨?_, ?_, ?_, ?_⟩ <;> (unfold U; omega)
theorem TInv.inv {s : Pac} (h : TInv s) : NInv 0 0 s 0 0 := ⟨h.1, h.2.1, h.2.2.1, h.2.2.2, fun _ => ⟨rfl, rfl⟩, fun h => by omega⟩
theorem TInv.take {n : Int} {s : Pac} (hn0 : 0 ≤ n) (hn : n ≤ 1048576) (h : TInv s) : TInv (s.take n).2 ∧ (s.take n).2.now = s.now ∧ (s.take n).2.rate = s.rate ∧ (s.take n).2.qu = s.qu := by
  obtain ⟨e1, e2, h3⟩ := h.inv.take hn0 hn
  refine ⟨?_, e1, ?_, e2⟩
  · rcases h3 with ⟨_, _, h3⟩ | ⟨_, h3⟩
    · obtain ⟨h1, h2, h3, h4, _⟩ := h3 (Int.le_refl _)
      exact ⟨h1, h2, h3, h4⟩
    · obtain ⟨h1, h2, h3, h4, _⟩ := h3
      exact ⟨h1, h2, h3, h4⟩
  · unfold Pac.take; split <;> rfl
theorem TInv.tick {nw rt qn : Int} {s : Pac} (hw : 0 ≤ nw ∧ nw ≤ 1048576) (hr : 0 ≤ rt ∧ rt ≤ 1048576) (hq : 0 ≤ qn ∧ qn ≤ 1048576) (h : TInv s) :
    s.tick nw rt qn = (2, s) ∨ (∃ s3, s.tick nw rt qn = (0, s3) ∧ TInv s3 ∧ s3.now = nw ∧ s3.rate = rt ∧ s3.qu = qn) := by
  rcases NInv.tick hw hr hq h.inv with ⟨_, h⟩ | ⟨h0, _, _, _, _, h1⟩
  · exact .inl h
  · obtain ⟨h1, h2, h3, h4, _⟩ := h1 (Int.le_refl _)
    refine .inr ⟨(s.tick nw rt qn).2, ?_, ⟨h1, h2, h3, h4⟩, ?_⟩
    · unfold Pac.tick; rw [if_neg (by omega)]
    · unfold Pac.tick; rw [if_neg (by omega)]; exact ⟨rfl, rfl, rfl⟩
theorem sover_ceil {a c : Int} (ha : 0 ≤ a) (ha' : a ≤ 1048576000000) (hc : 0 < c) : ∃ d, sover a 1 c = d ∧ 0 ≤ d ∧ d ≤ 1048576000000 ∧ a ≤ c * d ∧ (c * (d - 1) < a) ∧ c * d < a + c := by
  have hh : hi64 a 1 = 0 := by unfold hi64; omega
  have e := Int.mul_ediv_add_emod a c
  have q0 : 0 ≤ a / c := Int.ediv_nonneg ha (by omega)
  have r0 := Int.emod_nonneg a (show c ≠ 0 by omega)
  have r1 := Int.emod_lt_of_pos a hc
  have q1 : a / c ≤ a := Int.ediv_le_self c ha
  unfold sover
  rw [hh, if_neg (by omega), Int.mul_one]
  by_cases hr : 0 < a % c
  · rw [if_pos hr]
    have hq2 : a / c + 1 ≤ a := by
      have : a / c < a := by
        have : c * (a / c) ≥ 1 * (a / c) := Int.mul_le_mul_of_nonneg_right (by omega) q0
        omega
      omega
    have es : sadd (a / c) 1 = a / c + 1 := by unfold sadd; rw [if_neg (by omega)]
    rw [es]
    refine ⟨_, rfl, by omega, by omega, ?_, ?_, ?_⟩
    · rw [Int.mul_add]; omega
    · rw [Int.add_sub_cancel]; omega
    · rw [Int.mul_add]; omega
  · rw [if_neg hr]
    refine ⟨_, rfl, by omega, by omega, by omega, ?_, by omega⟩
    rw [Int.mul_sub]; omega
theorem next_then {s : Pac} {n : Int} (h : TInv s) (hok : (s.next n).2 = true) :
    s.now ≤ (s.next n).1 ∧ (s.next n).1 ≤ 1048578000000 ∧ ((s.tick (s.next n).1 s.rate s.qu).2.take n).1 = true ∧ (s.now < (s.next n).1 → ((s.tick ((s.next n).1 - 1) s.rate s.qu).2.take n).1 = false) := by
  obtain ⟨⟨a1, a2⟩, ⟨a3, a4⟩, ⟨a5, a6⟩, ⟨a7, a8⟩⟩ := h
  unfold Pac.next at *
  by_cases c1 : s.qu < n
  · rw [if_pos c1] at hok; exact absurd hok (by decide)
  · rw [if_neg c1] at hok ⊢
    have em : smul n 1000000 = n * 1000000 := by unfold smul; rw [if_neg (by omega)]
    have eq : smul s.qu 1000000 = s.qu * 1000000 := by unfold smul; rw [if_neg (by omega)]
    rw [em] at hok ⊢
    by_cases c2 : ssub (n * 1000000) s.cr = 0
    · rw [if_pos c2]
      refine ⟨Int.le_refl _, by show s.now ≤ _; omega, ?_, fun hh => absurd hh (Int.lt_irrefl _)⟩
      have c3 : n * 1000000 ≤ s.cr := by
        unfold ssub at c2; split at c2 <;> omega
      unfold Pac.tick
      rw [if_neg (Int.lt_irrefl _), Int.sub_self]
      have e0 : smul s.rate 0 = 0 := by unfold smul; simp
      have e1 : sadd s.cr 0 = s.cr := by unfold sadd; rw [if_neg (by omega)]; omega
      rw [e0, e1, eq]
      unfold Pac.take
      rw [em, if_neg (by show ¬ min s.cr (s.qu * 1000000) < n * 1000000; omega)]
    · rw [if_neg c2] at hok ⊢
      have e2 : ssub (n * 1000000) s.cr = n * 1000000 - s.cr := by
        unfold ssub at c2 ⊢; split at c2
        · exact absurd rfl c2
        · rw [if_neg (by omega)]
      rw [e2] at c2 hok ⊢
      have c3 : s.cr < n * 1000000 := by
        rcases Int.lt_or_le s.cr (n * 1000000) with h | h
        · exact h
        · exfalso
          unfold ssub at e2; split at e2 <;> omega
      by_cases c4 : s.rate = 0
      · rw [if_pos c4] at hok; exact absurd hok (by decide)
      · rw [if_neg c4]
        obtain ⟨d, ed, d0, d1, d2, d3, d4⟩ := sover_ceil (a := n * 1000000 - s.cr) (c := s.rate) (by omega) (by omega) (by omega)
        rw [ed]
        have es : sadd s.now d = s.now + d := by unfold sadd; rw [if_neg (by omega)]
        rw [es]
        refine ⟨by show s.now ≤ s.now + d; omega, by show s.now + d ≤ _; omega, ?_, fun hh => ?_⟩
        · show ((s.tick (s.now + d) s.rate s.qu).2.take n).1 = true
          unfold Pac.tick
          rw [if_neg (by omega), show s.now + d - s.now = d by omega]
          have e3 : smul s.rate d = s.rate * d := by unfold smul; rw [if_neg (by omega)]
          have e4 : sadd s.cr (s.rate * d) = s.cr + s.rate * d := by unfold sadd; rw [if_neg (by omega)]
          rw [e3, e4, eq]
          unfold Pac.take
          rw [em, if_neg (by show ¬ min (s.cr + s.rate * d) (s.qu * 1000000) < n * 1000000; omega)]
        · have hd : s.now < s.now + d := hh
          show ((s.tick (s.now + d - 1) s.rate s.qu).2.take n).1 = false
          unfold Pac.tick
          rw [if_neg (by omega), show s.now + d - 1 - s.now = d - 1 by omega]
          have e5 : 0 ≤ s.rate * (d - 1) := Int.mul_nonneg a3 (by omega)
          have e3 : smul s.rate (d - 1) = s.rate * (d - 1) := by unfold smul; rw [if_neg (by omega)]
          have e4 : sadd s.cr (s.rate * (d - 1)) = s.cr + s.rate * (d - 1) := by unfold sadd; rw [if_neg (by omega)]
          rw [e3, e4, eq]
          unfold Pac.take
          rw [em, if_pos (by show min (s.cr + s.rate * (d - 1)) (s.qu * 1000000) < n * 1000000; omega)]
section
variable (w : World)
theorem pacFill_nil : Calls Try.prog 54 #[.pointer none] w fun e w' => e = .returned (.tuple #[]) ∧ w = w' := by
  go_enter Try.func54, Try.ntmps54
  go_wp2_with fail
  first | go_end0 | ((try simp only [Exit.inBlock, Exit.then]); refine bodyPost_ret (results_none rfl _ _ _) rfl ?_)
  exact ⟨rfl, rfl⟩
theorem pacNext_nil (n : Int) : Calls Try.prog 56 #[.pointer none, .int .u64 n] w fun e w' => e = .returned (.tuple #[.int .u64 0, .bool false]) ∧ w = w' := by
  go_enter Try.func56, Try.ntmps56
  go_wp2_with fail
  go_ret2
  exact ⟨rfl, rfl⟩
theorem pacTick_nil (a b c : Int) : Calls Try.prog 50 #[.pointer none, .int .u64 a, .int .u64 b, .int .u64 c] w fun e w' => e = .returned (.int .i64 1) ∧ w = w' := by
  go_enter Try.func50, Try.ntmps50
  go_wp2_with fail
  go_ret
  exact ⟨rfl, rfl⟩
theorem pacCredit_nil : Calls Try.prog 58 #[.pointer none] w fun e w' => e = .returned (.int .u64 0) ∧ w = w' := by
  go_enter Try.func58, Try.ntmps58
  go_wp2_with fail
  go_ret
  exact ⟨rfl, rfl⟩
theorem pacTake_nil {ε : World} {R : List Asn} (n : Int) (H : Own ε w R) : Calls Try.prog 52 #[.pointer none, .int .u64 n] w fun e w' => e = .returned (.bool false) ∧ Own ε w' R := by
  have HH := Lib.hid H
  clear H
  go_enter Try.func52, Try.ntmps52
  go_wp2_with fail
  refine wp_region_calm ε R (by kernel_rfl) (by kernel_rfl) HH.out ?_
  repeat
    first
    | go_big_quiet_skip
    | (go_big_quiet_want; go_big_quiet_op; first | go_big_quiet_on | (apply Exists.intro; refine ⟨?_, ?_⟩; (focus (intro wx hx; first | (go_simp; first | rfl | exact ⟨rfl, rfl⟩) | rfl | exact ⟨rfl, rfl⟩)); go_big_quiet_on))
    | (refine wpQuiet_step (fun K hK => ?_)
       go_simp
       first
       | (refine hK _ ?_; clear hK K)
       | (apply Exists.intro
          refine ⟨?_, hK _ ?_⟩
          (focus (intro wx hx; first | (go_simp; first | rfl | exact ⟨rfl, rfl⟩) | rfl | exact ⟨rfl, rfl⟩))
          clear hK K))
  refine wpQuiet_nil ?_
  intro w2 H9_
  replace HH := Lib.hid H9_
  clear H9_
  go_wp2_with fail
  go_ret
  exact ⟨rfl, HH.out⟩
end
end Go.Proofs.Ytoimbdbajpjmjaa
