/- link: the live question, and LinkWait. -/
import Derived.Test.YtklohjjkpobneaaLink3
namespace Go.Proofs.Ytklohjjkpobneaa
open Go.RowKit
theorem run_eql_cnt1 (w : World) : (binOp .eql 93 (.agg #[.int .u64 2100, .int .u64 600, .int .u64 500, .int .u64 1000, .int .u64 0, .int .u64 1000]) (.agg #[.int .u64 2100, .int .u64 600, .int .u64 500, .int .u64 1000, .int .u64 0, .int .u64 1000])).run Try.prog w = .ok (.bool true) w := by kernel_rfl
section
variable (w : World)
set_option maxRecDepth 100000 in
set_option maxHeartbeats 12800000 in
theorem alive21_k : Calls Try.prog 44 #[] w fun e w' => e = .returned (.bool true) ∧ Below w.heap.size w w' := by
  have HH := Lib.hid (Own.init w)
  have hp : ∀ p ∈ [Pk.bare 1 1000, Pk.bare 2 600, Pk.bare 3 500], p.Ok := by
    intro p hp
    simp only [List.mem_cons, List.not_mem_nil, or_false] at hp
    rcases hp with rfl | rfl | rfl <;> decide
  have ok0 : (Lnk.new 1000000 100 10 1500).Ok := Lnk.ok_new (by decide) (by decide) (by decide) (by decide)
  have ok1 := Lnk.ok_send ok0 hp
  have hc3 : ∀ c ∈ [(3 : Int)], U c := by simp; decide
  have ok2 := Lnk.ok_tick (t := 1000) (w := 9) (ch := [3]) ok1 (by decide) (by decide) hc3
  have ok3 := Lnk.ok_tick (t := 1103) (w := 0) (ch := []) ok2 (by decide) (by decide) (by simp)
  obtain ⟨s1, hs1⟩ : ∃ s1, (Lnk.new 1000000 100 10 1500).send [Pk.bare 1 1000, Pk.bare 2 600, Pk.bare 3 500] = (s1, 2) := ⟨_, rfl⟩
  have d1 : s1.now = 0 ∧ s1.len = 2 := by have : s1 = ((Lnk.new 1000000 100 10 1500).send [Pk.bare 1 1000, Pk.bare 2 600, Pk.bare 3 500]).1 := by rw [hs1]
                                          rw [this]; exact ⟨rfl, rfl⟩
  obtain ⟨s2, hs2⟩ : ∃ s2, s1.tick 1000 9 [3] = s2 := ⟨_, rfl⟩
  have es1 : s1 = ((Lnk.new 1000000 100 10 1500).send [Pk.bare 1 1000, Pk.bare 2 600, Pk.bare 3 500]).1 := by rw [hs1]
  have d2 : s2.now = 1000 ∧ s2.len = 2 ∧ s1.outs 1000 9 [3] = [] ∧ headD s2.x.l = (⟨Pk.bare 1 1000, 1103⟩, true) := by rw [← hs2, es1]; exact ⟨rfl, rfl, rfl, rfl⟩
  obtain ⟨s3, hs3⟩ : ∃ s3, s2.tick 1103 0 [] = s3 := ⟨_, rfl⟩
  have d3 : s3.now = 1103 ∧ s3.len = 1 ∧ s2.outs 1103 0 [] = [Pk.bare 1 1000] ∧ s3.came = 2100 ∧ s3.q.gone = 600 ∧ s3.q.bytes = 500 ∧ s3.served = 1000 ∧ s3.under = 0 ∧ s3.deliv = 1000 := by rw [← hs3, ← hs2, es1]; exact ⟨rfl, rfl, rfl, rfl, rfl, rfl, rfl, rfl, rfl⟩
  rw [hs1] at ok1 ok2 ok3
  simp only at ok1 ok2 ok3
  rw [hs2] at ok2 ok3
  rw [hs3] at ok3
  clear es1
  obtain ⟨a1, a2⟩ := d1
  obtain ⟨b1, b2, b3, b4⟩ := d2
  obtain ⟨e1, e2, e3, e4, e5, e6, e7, e8, e9⟩ := d3
  have l1 : s1.len ≤ 1000000 := by omega
  have l2 : s2.len ≤ 1000000 := by omega
  have l3 : s3.len ≤ 1000000 := by omega
  have n1 : s1.now ≤ 1000 := by omega
  have n2 : s2.now ≤ 1103 := by omega
  have n3 : 5 < s3.now := by omega
  have hq := run_eql_cnt1
  replace hp := Lib.hid hp
  replace ok0 := Lib.hid ok0
  replace ok1 := Lib.hid ok1
  replace ok2 := Lib.hid ok2
  replace ok3 := Lib.hid ok3
  replace hc3 := Lib.hid hc3
  replace hs1 := Lib.hid hs1
  replace hs2 := Lib.hid hs2
  replace hs3 := Lib.hid hs3
  replace l1 := Lib.hid l1
  replace l2 := Lib.hid l2
  replace l3 := Lib.hid l3
  replace n1 := Lib.hid n1
  replace n2 := Lib.hid n2
  replace n3 := Lib.hid n3
  replace b3 := Lib.hid b3
  replace b4 := Lib.hid b4
  replace e3 := Lib.hid e3
  replace e4 := Lib.hid e4
  replace e5 := Lib.hid e5
  replace e6 := Lib.hid e6
  replace e7 := Lib.hid e7
  replace e8 := Lib.hid e8
  replace e9 := Lib.hid e9
  clear a1 a2 b1 b2 e1 e2
  go_enter Try.func44, Try.ntmps44
  go_wp2_with fail
  refine (linkNew_c w _ _ 1000000 100 10 1500 rfl HH.out).mono ?_
  rintro e w1_ ⟨b, rfl, H9_⟩
  replace HH := Lib.hid H9_
  clear H9_
  go_wp2_with (with_reducible refine stop_bs ?_)
  refine Stop.go ?_
  refine wpList_bsv_own HH.out [.int .u64 1, .int .u64 1000, .int .u64 0, .int .u64 0, .int .u64 0, .int .u64 0, .bool false, .int .u64 2, .int .u64 600, .int .u64 0, .int .u64 0, .int .u64 0, .int .u64 0, .bool false, .int .u64 3, .int .u64 500, .int .u64 0, .int .u64 0, .int .u64 0, .int .u64 0, .bool false] 7 56 [.int .u64 0, .int .u64 0, .int .u64 0, .int .u64 0, .int .u64 0, .int .u64 0, .bool false] Try.underlying28 (by kernel_rfl) (by kernel_rfl) (by decide) (by decide) (by kernel_rfl) ?_
  intro g w2_ H9_
  replace HH := Lib.hid H9_
  clear H9_
  have H8 : Own w _ (slcP (.slice (some ⟨g, 0, none⟩) 3 3) [Pk.bare 1 1000, Pk.bare 2 600, Pk.bare 3 500] :: lnk b (Lnk.new 1000000 100 10 1500) :: [old w]) := HH.out.slc_all (sz := 7) (n := 3) (by decide) rfl
  replace HH := Lib.hid H8
  clear H8
  go_wp2_with fail
  refine (linkSend_c w _ _ b (Lnk.new 1000000 100 10 1500) ok0.out (some ⟨g, 0, none⟩) 3 3 [Pk.bare 1 1000, Pk.bare 2 600, Pk.bare 3 500] hp.out (fun wx Hx => by obtain ⟨_, _, _, e, _, _, h⟩ := Hx.slcP_val; cases e; exact h) (by decide) HH.out.r2).mono ?_
  rw [hs1.out]
  rintro e w3_ ⟨rfl, H9_⟩
  replace HH := Lib.hid H9_
  clear H9_
  go_wp2_with (with_reducible refine stop_bs ?_)
  refine Stop.go ?_
  refine wpList_bsv_own HH.out [.int .u64 3] 1 8 [.int .u64 0] Try.underlying80 (by kernel_rfl) (by kernel_rfl) (by decide) (by decide) (by kernel_rfl) ?_
  intro g2 w4_ H9_
  replace HH := Lib.hid H9_
  clear H9_
  have H8 : Own w _ (slc 27 1 (.slice (some ⟨g2, 0, none⟩) 1 1) [.int .u64 3] :: lnk b s1 :: _) := HH.out.slc_all (sz := 1) (n := 1) (by decide) rfl
  replace HH := Lib.hid H8
  clear H8
  go_wp2_with fail
  refine (linkTick_c w _ _ b 0 s1 ok1.out 1000 9 (by decide) (by decide) n1.out (some ⟨g2, 0, none⟩) 1 1 [3] hc3.out (by decide) (Nat.le_refl _) (fun wx Hx => by obtain ⟨_, _, _, e, _, _, h⟩ := Hx.slc_it (enc := fun x : Int => [Value.int .u64 x]) (l := [3]) (fun _ => rfl) (by decide); cases e; exact h) l1.out HH.out.r2).mono ?_
  rintro e w5_ ⟨v1, rfl, H9_⟩
  replace HH := Lib.hid H9_
  clear H9_
  rw [hs2.out, b3.out] at HH
  obtain ⟨A1, m1, c1, rfl, _, _, hpk⟩ := HH.out.slcP_val
  obtain rfl : m1 = 0 := hpk.1.symm
  clear hpk
  replace HH := Lib.hid ((Own.pm (HH.out) (by repeat (first | with_reducible exact Pm.refl _ | with_reducible exact Pm.nil _ | with_reducible refine Pm.here ?_ | with_reducible refine Pm.at2 ?_ | with_reducible refine Pm.at3 ?_ | with_reducible refine Pm.at4 ?_ | with_reducible refine Pm.at5 ?_ | with_reducible refine Pm.at6 ?_ | with_reducible refine Pm.at7 ?_ | with_reducible refine Pm.at8 ?_ | with_reducible refine Pm.skip ?_))) : Own w _ (lnk b s2 :: [old w]))
  go_wp2_with fail
  refine (linkNext_c w _ _ b s2 HH.out).mono ?_
  rw [b4.out]
  rintro e w6_ ⟨rfl, H9_⟩
  replace HH := Lib.hid H9_
  clear H9_
  go_wp2_with fail
  refine (linkTick_c w _ _ b 0 s2 ok2.out 1103 0 (by decide) (by decide) n2.out none 0 0 [] (by simp) (by decide) (Nat.le_refl _) (fun wx _ => nsAt.zero wx _) l2.out HH.out).mono ?_
  rintro e w7_ ⟨v2, rfl, H9_⟩
  replace HH := Lib.hid H9_
  clear H9_
  rw [hs3.out, e3.out] at HH
  obtain ⟨A2, m2, c2, rfl, _, _, hpk⟩ := HH.out.slcP_val
  obtain rfl : m2 = 1 := hpk.1.symm
  obtain ⟨g3, off, p, rfl, hp1, k0, _⟩ := hpk.cells (Nat.zero_lt_one)
  cases hp1
  clear hpk
  replace HH := Lib.hid ((Own.pm (HH.out) (by repeat (first | with_reducible exact Pm.refl _ | with_reducible exact Pm.nil _ | with_reducible refine Pm.here ?_ | with_reducible refine Pm.at2 ?_ | with_reducible refine Pm.at3 ?_ | with_reducible refine Pm.at4 ?_ | with_reducible refine Pm.at5 ?_ | with_reducible refine Pm.at6 ?_ | with_reducible refine Pm.at7 ?_ | with_reducible refine Pm.at8 ?_ | with_reducible refine Pm.skip ?_))) : Own w _ (lnk b s3 :: slcP (.slice (some ⟨g3, off, none⟩) 1 c2) [Pk.bare 1 1000] :: [old w]))
  go_wp2_with fail
  refine (linkTick_late w _ _ b s3 5 0 _ n3.out HH.out).mono ?_
  rintro e w8_ ⟨rfl, hbel⟩
  replace HH := Lib.hid ((by first | exact Kp.same hbel | exact Kp.drew hbel | exact Kp.below hbel : Kp _ w8_) _ _ (by first | exact HH.out | exact HH.out.drewN _ | exact (HH.out.alloc _).tail | exact ((HH.out.alloc _).drewN _).tail | exact ((HH.out.alloc _).alloc _).tail.tail))
  clear hbel
  obtain ⟨_, _, _, ee, _, _, hpk⟩ := HH.out.r2.slcP_val
  cases ee
  obtain ⟨g3', off', p, ee, hp1, k0, _⟩ := hpk.cells (Nat.zero_lt_one)
  cases ee
  cases hp1
  clear hpk
  rw [Nat.zero_mul, Nat.add_zero] at k0
  replace k0 := Lib.hid k0
  have k0 := k0.out
  go_wp2_with fail
  refine (linkCount_c w _ _ b s3 ok3.out l3.out HH.out).mono ?_
  rw [e4.out]
  rw [e5.out]
  rw [e6.out]
  rw [e7.out]
  rw [e8.out]
  rw [e9.out]
  rintro e w9_ ⟨rfl, H9_⟩
  replace HH := Lib.hid H9_
  clear H9_
  go_wp2_with fail
  go_ret
  exact ⟨rfl, ((Own.pm (HH.out) (by repeat (first | with_reducible exact Pm.refl _ | with_reducible exact Pm.nil _ | with_reducible refine Pm.here ?_ | with_reducible refine Pm.at2 ?_ | with_reducible refine Pm.at3 ?_ | with_reducible refine Pm.at4 ?_ | with_reducible refine Pm.at5 ?_ | with_reducible refine Pm.at6 ?_ | with_reducible refine Pm.at7 ?_ | with_reducible refine Pm.at8 ?_ | with_reducible refine Pm.skip ?_))) : Own w _ [old w]).old_below⟩
end
end Go.Proofs.Ytklohjjkpobneaa
