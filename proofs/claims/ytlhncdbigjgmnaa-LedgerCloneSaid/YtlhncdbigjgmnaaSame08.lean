/- Whether two lists of packets are one. -/
import Derived.Test.YtlhncdbigjgmnaaPk
import Derived.Test.YtlhncdbigjgmnaaReg
namespace Go.Proofs.Ytlhncdbigjgmnaa
open Go.RowKit
theorem drewN_drewN (w : World) (j k : Nat) : (w.drewN j).drewN k = w.drewN (j + k) := by simp [World.drewN, Nat.add_assoc]
theorem take_eq_step {α : Type} {l m : List α} {k : Nat} {a b : α} (h : l.take k = m.take k) (ha : l[k]? = some a) (hb : m[k]? = some b) : l.take (k + 1) = m.take (k + 1) ↔ a = b := by
  rw [List.take_add_one, List.take_add_one, ha, hb, h]
  simp
set_option maxHeartbeats 3200000 in
theorem same08_c (w : World) (A B : Option Addr) (n m c d : Nat) (l l' : List Pk) (hA : pkAt w A n l) (hB : pkAt w B m l') (hn : n ≤ maxLen) :
    Calls Try.prog 42 #[.slice A n c, .slice B m d] w fun e w' => e = .returned (.bool (decide (l = l'))) ∧ ∃ k, w' = w.drewN k := by
  by_cases hnm : ¬ n = m
  · have hne : decide (l = l') = false := by
      simp only [decide_eq_false_iff_not]
      intro e; apply hnm; rw [← hA.1, ← hB.1, e]
    rw [hne]
    have hb : ((n : Int) == (m : Int)) = false := by simp; omega
    have hb2 : ((n : Int) != (m : Int)) = true := by simp only [bne, hb, Bool.not_false]
    clear hA hB
    go_enter Try.func42, Try.ntmps42
    go_wp2_with fail
    go_ret
    exact ⟨rfl, 0, rfl⟩
  obtain rfl := Decidable.not_not.1 hnm
  clear hnm
  have hls : l.length = l'.length := by rw [hA.1, hB.1]
  have hl1 := hA.1
  replace hA := Lib.hid hA
  replace hB := Lib.hid hB
  unfold maxLen at hn
  go_enter Try.func42, Try.ntmps42
  go_wp2_with fail
  go_loopw [5] (fun i wr => ∃ k j : Nat, k ≤ n ∧ i = .int .i64 k ∧ l.take k = l'.take k ∧ wr = w.drewN j) (fun i _ => n - (intOf i).toNat)
  case atStart => exact ⟨0, 0, Nat.zero_le _, rfl, rfl, rfl⟩
  case round =>
    obtain ⟨k, j, hk, rfl, hT, hwr⟩ := hrel
    have hA2 : pkAt wr A n l := by rw [hwr]; exact hA.out.drewN j
    have hB2 : pkAt wr B n l' := by rw [hwr]; exact hB.out.drewN j
    replace hwr := Lib.hid hwr
    replace hT := Lib.hid hT
    by_cases hlt : k < n
    · obtain ⟨g, off, p, rfl, hp, k0, k1, k2, k3, k4, k5, k6⟩ := hA2.cells hlt
      obtain ⟨g', off', q, rfl, hq, m0, m1, m2, m3, m4, m5, m6⟩ := hB2.cells hlt
      have hstep := take_eq_step hT.out hp hq
      obtain ⟨p0, p1, p2, p3, p4, p5, p6⟩ := p
      obtain ⟨q0, q1, q2, q3, q4, q5, q6⟩ := q
      simp only at k0 k1 k2 k3 k4 k5 k6 m0 m1 m2 m3 m4 m5 m6
      clear hA2 hB2
      replace hp := Lib.hid hp
      replace hq := Lib.hid hq
      by_cases he : (⟨p0, p1, p2, p3, p4, p5, p6⟩ : Pk) = ⟨q0, q1, q2, q3, q4, q5, q6⟩
      · have hx : Pk.beq ⟨p0, p1, p2, p3, p4, p5, p6⟩ ⟨q0, q1, q2, q3, q4, q5, q6⟩ = true := Pk.beq_true he
        have hs := Lib.hid (hstep.2 he)
        clear hstep he
        go_wp2_with fail
        go_quiet (fail)
        clear k0 k1 k2 k3 k4 k5 k6 m0 m1 m2 m3 m4 m5 m6 hx
        go_wp2_with fail
        go_roundw
        case rel => exact ⟨k + 1, j + nq, by omega, by go_num, hs.out, by rw [hwr.out, drewN_drewN]⟩
        case measure => simp [intOf]; omega
      · have hx : Pk.beq ⟨p0, p1, p2, p3, p4, p5, p6⟩ ⟨q0, q1, q2, q3, q4, q5, q6⟩ = false := Pk.beq_false he
        have hne : decide (l = l') = false := by
          simp only [decide_eq_false_iff_not]
          intro e; exact he (hstep.1 (by rw [e]))
        clear hstep he
        go_wp2_with fail
        go_quiet (fail)
        clear k0 k1 k2 k3 k4 k5 k6 m0 m1 m2 m3 m4 m5 m6 hx
        go_wp2_with fail
        go_ret
        exact ⟨congrArg (fun x => Ending.returned (Value.bool x)) hne.symm, j + nq, by rw [hwr.out, drewN_drewN]⟩
    · clear hA2 hB2
      have hkn : k = n := by omega
      subst hkn
      have he : decide (l = l') = true := by
        simp only [decide_eq_true_eq]
        have := hT.out
        rwa [List.take_of_length_le (by omega), List.take_of_length_le (by omega)] at this
      go_wp2_with fail
      go_ret
      exact ⟨congrArg (fun x => Ending.returned (Value.bool x)) he.symm, j, hwr.out⟩
end Go.Proofs.Ytlhncdbigjgmnaa
