/- mode's laws. -/
import Derived.Test.YtnffoiocejfppaaMode4
import Derived.Test.YtnffoiocejfppaaRow
namespace Go.Proofs.Ytnffoiocejfppaa
open Go.RowKit
section
variable (w : World)
theorem modeWait_c (s c p : Int) (hc : U c) : Calls Try.prog 56 #[.int .i64 s, .int .u64 c, .int .u64 p] w fun e w' => e = .returned (.int .u64 (waitI s c p)) ∧ w = w' := by
  unfold U at hc
  unfold waitI
  by_cases h2 : s = 2
  · subst h2
    go_enter Try.func56, Try.ntmps56
    go_wp2_with fail
    go_ret
    exact ⟨rfl, rfl⟩
  by_cases h3 : s = 3
  · subst h3
    go_enter Try.func56, Try.ntmps56
    go_wp2_with fail
    go_ret
    exact ⟨rfl, rfl⟩
  rw [if_neg (by omega)]
  have b2 : (s == 2) = false := by simpa using h2
  have b3 : (s == 3) = false := by simpa using h3
  by_cases h6 : s = 6
  · subst h6
    rw [if_pos rfl]
    go_enter Try.func56, Try.ntmps56
    go_wp2_with fail
    go_ret
    exact ⟨rfl, rfl⟩
  · rw [if_neg h6]
    have b6 : (s == 6) = false := by simpa using h6
    go_enter Try.func56, Try.ntmps56
    go_wp2_with fail
    go_ret
    exact ⟨rfl, rfl⟩
theorem refWait_c (s c p : Int) (hc : U c) : Calls Try.prog 57 #[.int .i64 s, .int .u64 c, .int .u64 p] w fun e w' => e = .returned (.int .u64 (waitI s c p)) ∧ w = w' := by
  unfold U at hc
  unfold waitI
  by_cases h2 : s = 2
  · subst h2
    go_enter Try.func57, Try.ntmps57
    go_wp2_with fail
    go_ret
    exact ⟨rfl, rfl⟩
  by_cases h3 : s = 3
  · subst h3
    go_enter Try.func57, Try.ntmps57
    go_wp2_with fail
    go_ret
    exact ⟨rfl, rfl⟩
  rw [if_neg (by omega)]
  have b2 : (s == 2) = false := by simpa using h2
  have b3 : (s == 3) = false := by simpa using h3
  by_cases h6 : s = 6
  · subst h6
    rw [if_pos rfl]
    go_enter Try.func57, Try.ntmps57
    go_wp2_with fail
    go_ret
    exact ⟨rfl, rfl⟩
  · rw [if_neg h6]
    have b6 : (s == 6) = false := by simpa using h6
    go_enter Try.func57, Try.ntmps57
    go_wp2_with fail
    go_ret
    exact ⟨rfl, rfl⟩
theorem arrows_ok (s t : Int) (h : (arrows s).contains t = true) : 0 ≤ t ∧ t ≤ 6 := by
  unfold arrows at h
  repeat' split at h
  all_goals (simp at h; try omega)
set_option maxHeartbeats 3200000 in
theorem refFollows_c (s t : Int) : Calls Try.prog 60 #[.int .i64 s, .int .i64 t] w fun e w' => e = .returned (.bool (follows s t)) ∧ w = w' := by
  by_cases hs : 0 ≤ s ∧ s ≤ 6
  · by_cases ht : 0 ≤ t ∧ t ≤ 6
    · have e1 : stOk s = true := decide_eq_true hs
      have e2 : stOk t = true := decide_eq_true ht
      have h1 : s = 0 ∨ s = 1 ∨ s = 2 ∨ s = 3 ∨ s = 4 ∨ s = 5 ∨ s = 6 := by omega
      have h2 : t = 0 ∨ t = 1 ∨ t = 2 ∨ t = 3 ∨ t = 4 ∨ t = 5 ∨ t = 6 := by omega
      clear hs ht
      rcases h1 with rfl | rfl | rfl | rfl | rfl | rfl | rfl <;> rcases h2 with rfl | rfl | rfl | rfl | rfl | rfl | rfl
      all_goals
        go_enter Try.func60, Try.ntmps60
        go_wp2_with fail
        refine (refRight14_c _ _).mono ?_
        rintro e w' ⟨rfl, rfl⟩
        rw [e1]
        go_wp2_with fail
        refine (refRight14_c _ _).mono ?_
        rintro e w' ⟨rfl, rfl⟩
        rw [e2]
        go_wp2_with fail
        go_ret
        exact ⟨rfl, rfl⟩
    · have e1 : stOk s = true := decide_eq_true hs
      have e2 : stOk t = false := decide_eq_false ht
      have e3 : follows s t = false := by
        unfold follows
        have g1 : (s == t) = false := by simp; intro h; subst h; exact ht hs
        have g2 : (t == 6) = false := by simp; omega
        have g3 : (arrows s).contains t = false := by
          cases h : (arrows s).contains t with
          | true => exact absurd (arrows_ok s t h) ht
          | false => rfl
        rw [g1, g2, g3]; simp
      rw [e3]
      clear e3
      go_enter Try.func60, Try.ntmps60
      go_wp2_with fail
      refine (refRight14_c _ _).mono ?_
      rintro e w' ⟨rfl, rfl⟩
      rw [e1]
      go_wp2_with fail
      refine (refRight14_c _ _).mono ?_
      rintro e w' ⟨rfl, rfl⟩
      rw [e2]
      go_wp2_with fail
      go_ret
      exact ⟨rfl, rfl⟩
  · have e1 : stOk s = false := decide_eq_false hs
    have e3 : follows s t = false := by unfold follows; rw [e1]; rfl
    rw [e3]
    clear e3
    go_enter Try.func60, Try.ntmps60
    go_wp2_with fail
    refine (refRight14_c _ _).mono ?_
    rintro e w' ⟨rfl, rfl⟩
    rw [e1]
    go_wp2_with fail
    refine (refRight14_c _ _).mono ?_
    rintro e w' ⟨rfl, rfl⟩
    go_wp2_with fail
    go_ret
    exact ⟨rfl, rfl⟩
set_option maxHeartbeats 1600000 in
theorem alive14_k : Calls Try.prog 53 #[] w fun e w' => e = .returned (.bool true) ∧ Below w.heap.size w w' := by
  have HH := Lib.hid (Own.init w)
  go_enter Try.func53, Try.ntmps53
  go_wp2_with fail
  refine (modeNext_c _ 0 ⟨true, false, false, false, 0, 0, 0, 0, 0, 0⟩ (by decide)).mono ?_
  rw [show nextI 0 ⟨true, false, false, false, 0, 0, 0, 0, 0, 0⟩ = 1 from by first | rfl | decide]
  rintro e w1 ⟨rfl, hbel⟩
  replace HH := Lib.hid ((by first | exact Kp.same hbel | exact Kp.drew hbel | exact Kp.below hbel : Kp _ w1) _ _ (by first | exact HH.out | exact HH.out.drewN _ | exact (HH.out.alloc _).tail | exact ((HH.out.alloc _).drewN _).tail | exact ((HH.out.alloc _).alloc _).tail.tail))
  clear hbel
  go_wp2_with fail
  refine (modeNext_c _ 2 ⟨false, false, false, false, 5, 5, 4, 0, 3, 3⟩ (by decide)).mono ?_
  rw [show nextI 2 ⟨false, false, false, false, 5, 5, 4, 0, 3, 3⟩ = 4 from by first | rfl | decide]
  rintro e w2 ⟨rfl, hbel⟩
  replace HH := Lib.hid ((by first | exact Kp.same hbel | exact Kp.drew hbel | exact Kp.below hbel : Kp _ w2) _ _ (by first | exact HH.out | exact HH.out.drewN _ | exact (HH.out.alloc _).tail | exact ((HH.out.alloc _).drewN _).tail | exact ((HH.out.alloc _).alloc _).tail.tail))
  clear hbel
  go_wp2_with fail
  refine (modeNext_c _ 5 ⟨false, false, false, false, 11, 9, 0, 1, 0, 0⟩ (by decide)).mono ?_
  rw [show nextI 5 ⟨false, false, false, false, 11, 9, 0, 1, 0, 0⟩ = 2 from by first | rfl | decide]
  rintro e w3 ⟨rfl, hbel⟩
  replace HH := Lib.hid ((by first | exact Kp.same hbel | exact Kp.drew hbel | exact Kp.below hbel : Kp _ w3) _ _ (by first | exact HH.out | exact HH.out.drewN _ | exact (HH.out.alloc _).tail | exact ((HH.out.alloc _).drewN _).tail | exact ((HH.out.alloc _).alloc _).tail.tail))
  clear hbel
  go_wp2_with fail
  refine (modeNext_c _ 3 ⟨false, false, false, true, 0, 0, 0, 0, 0, 0⟩ (by decide)).mono ?_
  rw [show nextI 3 ⟨false, false, false, true, 0, 0, 0, 0, 0, 0⟩ = 6 from by first | rfl | decide]
  rintro e w4 ⟨rfl, hbel⟩
  replace HH := Lib.hid ((by first | exact Kp.same hbel | exact Kp.drew hbel | exact Kp.below hbel : Kp _ w4) _ _ (by first | exact HH.out | exact HH.out.drewN _ | exact (HH.out.alloc _).tail | exact ((HH.out.alloc _).drewN _).tail | exact ((HH.out.alloc _).alloc _).tail.tail))
  clear hbel
  go_wp2_with fail
  refine (modeWait_c _ 3 9 0 (by decide)).mono ?_
  rw [show waitI 3 9 0 = 2125000 from by first | rfl | decide]
  rintro e w5 ⟨rfl, hbel⟩
  replace HH := Lib.hid ((by first | exact Kp.same hbel | exact Kp.drew hbel | exact Kp.below hbel : Kp _ w5) _ _ (by first | exact HH.out | exact HH.out.drewN _ | exact (HH.out.alloc _).tail | exact ((HH.out.alloc _).drewN _).tail | exact ((HH.out.alloc _).alloc _).tail.tail))
  clear hbel
  go_wp2_with fail
  refine (modeFollows_c _ 5 2).mono ?_
  rw [show follows 5 2 = true from by first | rfl | decide]
  rintro e w6 ⟨rfl, hbel⟩
  replace HH := Lib.hid ((by first | exact Kp.same hbel | exact Kp.drew hbel | exact Kp.below hbel : Kp _ w6) _ _ (by first | exact HH.out | exact HH.out.drewN _ | exact (HH.out.alloc _).tail | exact ((HH.out.alloc _).drewN _).tail | exact ((HH.out.alloc _).alloc _).tail.tail))
  clear hbel
  go_wp2_with fail
  refine (modeFollows_c _ 5 3).mono ?_
  rw [show follows 5 3 = false from by first | rfl | decide]
  rintro e w7 ⟨rfl, hbel⟩
  replace HH := Lib.hid ((by first | exact Kp.same hbel | exact Kp.drew hbel | exact Kp.below hbel : Kp _ w7) _ _ (by first | exact HH.out | exact HH.out.drewN _ | exact (HH.out.alloc _).tail | exact ((HH.out.alloc _).drewN _).tail | exact ((HH.out.alloc _).alloc _).tail.tail))
  clear hbel
  go_wp2_with fail
  go_ret
  exact ⟨rfl, HH.out.old_below⟩
abbrev SigC := Bool × Bool × Bool × Bool × Int × Int × Int × Int × Int × Int × Unit
def rdSig : Rd SigC := rdPair rdBool (rdPair rdBool (rdPair rdBool (rdPair rdBool (rdPair (rdInt .u64) (rdPair (rdInt .u64) (rdPair (rdInt .u64) (rdPair (rdInt .u64) (rdPair (rdInt .u64) (rdPair (rdInt .u64) rdUnit)))))))))
theorem rdSig_open {w : World} {cs : Array Value} {x : SigC} (h : rdSig w cs.toList x) : ∃ s : Sig, Value.agg cs = s.v ∧ s.Ok := by
  obtain ⟨c1, d1, e, rfl, c2, d2, rfl, rfl, c3, d3, rfl, rfl, c4, d4, rfl, rfl, c5, d5, rfl, ⟨rfl, h5⟩, c6, d6, rfl, ⟨rfl, h6⟩, c7, d7, rfl, ⟨rfl, h7⟩, c8, d8, rfl, ⟨rfl, h8⟩, c9, d9, rfl, ⟨rfl, h9⟩, c10, d10, rfl, ⟨rfl, h10⟩, rfl⟩ := h
  refine ⟨⟨x.1, x.2.1, x.2.2.1, x.2.2.2.1, x.2.2.2.2.1, x.2.2.2.2.2.1, x.2.2.2.2.2.2.1, x.2.2.2.2.2.2.2.1, x.2.2.2.2.2.2.2.2.1, x.2.2.2.2.2.2.2.2.2.1⟩, ?_, U_of_wf h5, U_of_wf h6, U_of_wf h7, U_of_wf h8, U_of_wf h9, U_of_wf h10⟩
  rw [arr_of_list e]
  rfl
set_option maxHeartbeats 3200000 in
theorem modeNextLaw_c (s : Int) (_hs : (Lit.int .i64 s).wf = true) (xs : Array Value) (_hz : xs.size = 10) (x : SigC) (hx : rdSig w xs.toList x) (c : Int) (hc : (Lit.int .u64 c).wf = true) :
    Calls Try.prog 13 #[.int .i64 s, .agg xs, .int .u64 c] w fun e w' => e = .returned (.bool true) ∧ Own w w' [old w] := by
  have HH := Lib.hid (Own.init w)
  obtain ⟨g, hg, hok⟩ := rdSig_open hx
  rw [hg]
  clear hx hg _hs _hz
  replace hc := Lib.hid (U_of_wf hc)
  replace hok := Lib.hid hok
  have n1 := fun w => modeNext_c w s g hok.out
  have n2 := fun w => refNext_c w s g hok.out
  generalize nextI s g = n at *
  obtain ⟨full, round, lossy, stale, fl, tg, cp, rd, el, wt⟩ := g
  unfold Sig.v at *
  simp only at n1 n2 ⊢
  replace n1 := Lib.hid n1
  replace n2 := Lib.hid n2
  go_enter Try.func13, Try.ntmps13
  go_wp2_with (first | with_reducible refine stop_bs ?_ | with_reducible refine stop_bx ?_ | with_reducible refine stop_al ?_ | with_reducible refine stop_ms ?_ | with_reducible refine stop_app ?_ | with_reducible refine stop_copy ?_)
  refine Stop.go ?_
  go_step
  go_simp
  have H1 := Lib.hid (HH.out.alloc (.cells #[.bool full, .bool round, .bool lossy, .bool stale, .int .u64 fl, .int .u64 tg, .int .u64 cp, .int .u64 rd, .int .u64 el, .int .u64 wt] 64))
  generalize w.alloc (.cells #[.bool full, .bool round, .bool lossy, .bool stale, .int .u64 fl, .int .u64 tg, .int .u64 cp, .int .u64 rd, .int .u64 el, .int .u64 wt] 64) = w1 at *
  generalize w.heap.size = b at *
  go_wp2_with fail
  refine wp_region_calm w [pts b (.cells #[.bool full, .bool round, .bool lossy, .bool stale, .int .u64 fl, .int .u64 tg, .int .u64 cp, .int .u64 rd, .int .u64 el, .int .u64 wt] 64 (0, 0)), old w] (by kernel_rfl) (by kernel_rfl) H1.out ?_
  repeat
    first
    | go_big_quiet_skip
    | (go_big_quiet_want; go_big_quiet_op; first | go_big_quiet_on | (apply Exists.intro; refine ⟨?_, ?_⟩; (focus (intro wx hx; have x1' := hx.cells; first | (first | (go_at_call 53; refine (alive14_k wx).mono ?_; rintro e wy ⟨rfl, hbel⟩; exact ⟨rfl, (by first | exact Kp.same hbel | exact Kp.drew hbel | exact Kp.below hbel : Kp wx wy) _ _ hx⟩) | (go_at_call 54; refine (n1.out wx).mono ?_; rintro e wy ⟨rfl, hbel⟩; exact ⟨rfl, (by first | exact Kp.same hbel | exact Kp.drew hbel | exact Kp.below hbel : Kp wx wy) _ _ hx⟩) | (go_at_call 55; refine (n2.out wx).mono ?_; rintro e wy ⟨rfl, hbel⟩; exact ⟨rfl, (by first | exact Kp.same hbel | exact Kp.drew hbel | exact Kp.below hbel : Kp wx wy) _ _ hx⟩) | (go_at_call 56; refine (modeWait_c wx s c wt hc.out).mono ?_; rintro e wy ⟨rfl, hbel⟩; exact ⟨rfl, (by first | exact Kp.same hbel | exact Kp.drew hbel | exact Kp.below hbel : Kp wx wy) _ _ hx⟩) | (go_at_call 57; refine (refWait_c wx s c wt hc.out).mono ?_; rintro e wy ⟨rfl, hbel⟩; exact ⟨rfl, (by first | exact Kp.same hbel | exact Kp.drew hbel | exact Kp.below hbel : Kp wx wy) _ _ hx⟩)) | (go_simp; first | rfl | exact ⟨rfl, rfl⟩) | rfl | exact ⟨rfl, rfl⟩)); go_big_quiet_on))
    | (refine wpQuiet_step (fun K hK => ?_)
       go_simp
       first
       | (refine hK _ ?_; clear hK K)
       | (apply Exists.intro
          refine ⟨?_, hK _ ?_⟩
          (focus (intro wx hx; have x1' := hx.cells; first | (first | (go_at_call 53; refine (alive14_k wx).mono ?_; rintro e wy ⟨rfl, hbel⟩; exact ⟨rfl, (by first | exact Kp.same hbel | exact Kp.drew hbel | exact Kp.below hbel : Kp wx wy) _ _ hx⟩) | (go_at_call 54; refine (n1.out wx).mono ?_; rintro e wy ⟨rfl, hbel⟩; exact ⟨rfl, (by first | exact Kp.same hbel | exact Kp.drew hbel | exact Kp.below hbel : Kp wx wy) _ _ hx⟩) | (go_at_call 55; refine (n2.out wx).mono ?_; rintro e wy ⟨rfl, hbel⟩; exact ⟨rfl, (by first | exact Kp.same hbel | exact Kp.drew hbel | exact Kp.below hbel : Kp wx wy) _ _ hx⟩) | (go_at_call 56; refine (modeWait_c wx s c wt hc.out).mono ?_; rintro e wy ⟨rfl, hbel⟩; exact ⟨rfl, (by first | exact Kp.same hbel | exact Kp.drew hbel | exact Kp.below hbel : Kp wx wy) _ _ hx⟩) | (go_at_call 57; refine (refWait_c wx s c wt hc.out).mono ?_; rintro e wy ⟨rfl, hbel⟩; exact ⟨rfl, (by first | exact Kp.same hbel | exact Kp.drew hbel | exact Kp.below hbel : Kp wx wy) _ _ hx⟩)) | (go_simp; first | rfl | exact ⟨rfl, rfl⟩) | rfl | exact ⟨rfl, rfl⟩))
          clear hK K))
  refine wpQuiet_nil ?_
  intro w2 H9_
  replace H1 := Lib.hid H9_
  clear H9_
  go_wp2_with fail
  go_ret
  exact ⟨rfl, (Own.pm (H1.out) (by repeat (first | with_reducible exact Pm.refl _ | with_reducible refine Pm.here ?_ | with_reducible refine Pm.at2 ?_ | with_reducible refine Pm.at3 ?_ | with_reducible refine Pm.at4 ?_ | with_reducible refine Pm.at5 ?_ | with_reducible refine Pm.at6 ?_ | with_reducible refine Pm.at7 ?_ | with_reducible refine Pm.at8 ?_ | with_reducible refine Pm.skip ?_)))⟩
set_option maxHeartbeats 3200000 in
theorem modeArrowsLaw_c (s : Int) (_hs : (Lit.int .i64 s).wf = true) (t : Int) (_ht : (Lit.int .i64 t).wf = true) (xs : Array Value) (_hz : xs.size = 10) (x : SigC) (hx : rdSig w xs.toList x) :
    Calls Try.prog 14 #[.int .i64 s, .int .i64 t, .agg xs] w fun e w' => e = .returned (.bool true) ∧ Own w w' [old w] := by
  have HH := Lib.hid (Own.init w)
  obtain ⟨g, hg, hok⟩ := rdSig_open hx
  rw [hg]
  clear hx hg _hs _ht _hz
  replace hok := Lib.hid hok
  have n1 := fun w => modeNext_c w s g hok.out
  have f1 : follows s (nextI s g) = stOk s ∧ stOk (nextI s g) = stOk s ∧ (stOk s = false → nextI s g = s) := by
    rcases st_cases s with (rfl | rfl | rfl | rfl | rfl | rfl | rfl) | hs
    all_goals first
      | (have e : nextI s g = s := by unfold nextI nextBase; rw [if_neg (fun h => hs ⟨h.2.1, by omega⟩), if_neg (by omega), if_neg (by omega), if_neg (by omega), if_neg (by omega), if_neg (by omega), if_neg (by omega), if_neg (by omega)]
         rw [e]
         have e1 : stOk s = false := decide_eq_false hs
         refine ⟨?_, rfl, fun _ => rfl⟩
         unfold follows; rw [e1]; rfl)
      | (unfold nextI nextBase
         simp
         repeat' split
         all_goals first | decide | exact ⟨by decide, by decide, fun h => absurd h (by decide)⟩)
  obtain ⟨f1, f2, f3⟩ := f1
  generalize nextI s g = n at *
  obtain ⟨full, round, lossy, stale, fl, tg, cp, rd, el, wt⟩ := g
  unfold Sig.v at *
  simp only at n1 ⊢
  replace n1 := Lib.hid n1
  replace f1 := Lib.hid f1
  replace f2 := Lib.hid f2
  cases hk : stOk s with
  | true =>
    rw [hk] at f1 f2
    clear f3
    go_enter Try.func14, Try.ntmps14
    go_wp2_with (first | with_reducible refine stop_bs ?_ | with_reducible refine stop_bx ?_ | with_reducible refine stop_al ?_ | with_reducible refine stop_ms ?_ | with_reducible refine stop_app ?_ | with_reducible refine stop_copy ?_)
    refine Stop.go ?_
    go_step
    go_simp
    have H1 := Lib.hid (HH.out.alloc (.cells #[.bool full, .bool round, .bool lossy, .bool stale, .int .u64 fl, .int .u64 tg, .int .u64 cp, .int .u64 rd, .int .u64 el, .int .u64 wt] 64))
    generalize w.alloc (.cells #[.bool full, .bool round, .bool lossy, .bool stale, .int .u64 fl, .int .u64 tg, .int .u64 cp, .int .u64 rd, .int .u64 el, .int .u64 wt] 64) = w1 at *
    generalize w.heap.size = b at *
    go_wp2_with fail
    refine (refRight14_c _ _).mono ?_
    rintro e w' ⟨rfl, rfl⟩
    rw [hk]
    (try clear k1); have k1 := H1.out.cells
    go_wp2_with fail
    refine (n1.out _).mono ?_
    rintro e w2 ⟨rfl, hbel⟩
    replace H1 := Lib.hid ((by first | exact Kp.same hbel | exact Kp.drew hbel | exact Kp.below hbel : Kp _ w2) _ _ (by first | exact H1.out | exact H1.out.drewN _ | exact (H1.out.alloc _).tail | exact ((H1.out.alloc _).drewN _).tail | exact ((H1.out.alloc _).alloc _).tail.tail))
    clear hbel
    clear k1
    go_wp2_with fail
    refine (modeFollows_c _ _ _).mono ?_
    rintro e w3 ⟨rfl, hbel⟩
    replace H1 := Lib.hid ((by first | exact Kp.same hbel | exact Kp.drew hbel | exact Kp.below hbel : Kp _ w3) _ _ (by first | exact H1.out | exact H1.out.drewN _ | exact (H1.out.alloc _).tail | exact ((H1.out.alloc _).drewN _).tail | exact ((H1.out.alloc _).alloc _).tail.tail))
    clear hbel
    rw [f1.out]
    go_wp2_with fail
    refine (alive14_k _).mono ?_
    rintro e w4 ⟨rfl, hbel⟩
    replace H1 := Lib.hid ((by first | exact Kp.same hbel | exact Kp.drew hbel | exact Kp.below hbel : Kp _ w4) _ _ (by first | exact H1.out | exact H1.out.drewN _ | exact (H1.out.alloc _).tail | exact ((H1.out.alloc _).drewN _).tail | exact ((H1.out.alloc _).alloc _).tail.tail))
    clear hbel
    go_wp2_with fail
    refine (modeFollows_c _ _ _).mono ?_
    rintro e w5 ⟨rfl, hbel⟩
    replace H1 := Lib.hid ((by first | exact Kp.same hbel | exact Kp.drew hbel | exact Kp.below hbel : Kp _ w5) _ _ (by first | exact H1.out | exact H1.out.drewN _ | exact (H1.out.alloc _).tail | exact ((H1.out.alloc _).drewN _).tail | exact ((H1.out.alloc _).alloc _).tail.tail))
    clear hbel
    go_wp2_with fail
    refine (refFollows_c _ _ _).mono ?_
    rintro e w6 ⟨rfl, hbel⟩
    replace H1 := Lib.hid ((by first | exact Kp.same hbel | exact Kp.drew hbel | exact Kp.below hbel : Kp _ w6) _ _ (by first | exact H1.out | exact H1.out.drewN _ | exact (H1.out.alloc _).tail | exact ((H1.out.alloc _).drewN _).tail | exact ((H1.out.alloc _).alloc _).tail.tail))
    clear hbel
    go_wp2_with fail
    refine (refRight14_c _ _).mono ?_
    rintro e w7 ⟨rfl, hbel⟩
    replace H1 := Lib.hid ((by first | exact Kp.same hbel | exact Kp.drew hbel | exact Kp.below hbel : Kp _ w7) _ _ (by first | exact H1.out | exact H1.out.drewN _ | exact (H1.out.alloc _).tail | exact ((H1.out.alloc _).drewN _).tail | exact ((H1.out.alloc _).alloc _).tail.tail))
    clear hbel
    rw [f2.out]
    go_wp2_with fail
    go_ret
    exact ⟨rfl, (Own.pm (H1.out) (by repeat (first | with_reducible exact Pm.refl _ | with_reducible refine Pm.here ?_ | with_reducible refine Pm.at2 ?_ | with_reducible refine Pm.at3 ?_ | with_reducible refine Pm.at4 ?_ | with_reducible refine Pm.at5 ?_ | with_reducible refine Pm.at6 ?_ | with_reducible refine Pm.at7 ?_ | with_reducible refine Pm.at8 ?_ | with_reducible refine Pm.skip ?_)))⟩
  | false =>
    rw [hk] at f1 f2
    have f4 := f3 hk
    clear f3
    subst f4
    go_enter Try.func14, Try.ntmps14
    go_wp2_with (first | with_reducible refine stop_bs ?_ | with_reducible refine stop_bx ?_ | with_reducible refine stop_al ?_ | with_reducible refine stop_ms ?_ | with_reducible refine stop_app ?_ | with_reducible refine stop_copy ?_)
    refine Stop.go ?_
    go_step
    go_simp
    have H1 := Lib.hid (HH.out.alloc (.cells #[.bool full, .bool round, .bool lossy, .bool stale, .int .u64 fl, .int .u64 tg, .int .u64 cp, .int .u64 rd, .int .u64 el, .int .u64 wt] 64))
    generalize w.alloc (.cells #[.bool full, .bool round, .bool lossy, .bool stale, .int .u64 fl, .int .u64 tg, .int .u64 cp, .int .u64 rd, .int .u64 el, .int .u64 wt] 64) = w1 at *
    generalize w.heap.size = b at *
    go_wp2_with fail
    refine (refRight14_c _ _).mono ?_
    rintro e w' ⟨rfl, rfl⟩
    rw [hk]
    (try clear k1); have k1 := H1.out.cells
    go_wp2_with fail
    refine (n1.out _).mono ?_
    rintro e w2 ⟨rfl, hbel⟩
    replace H1 := Lib.hid ((by first | exact Kp.same hbel | exact Kp.drew hbel | exact Kp.below hbel : Kp _ w2) _ _ (by first | exact H1.out | exact H1.out.drewN _ | exact (H1.out.alloc _).tail | exact ((H1.out.alloc _).drewN _).tail | exact ((H1.out.alloc _).alloc _).tail.tail))
    clear hbel
    clear k1
    go_wp2_with fail
    refine (modeFollows_c _ _ _).mono ?_
    rintro e w3 ⟨rfl, hbel⟩
    replace H1 := Lib.hid ((by first | exact Kp.same hbel | exact Kp.drew hbel | exact Kp.below hbel : Kp _ w3) _ _ (by first | exact H1.out | exact H1.out.drewN _ | exact (H1.out.alloc _).tail | exact ((H1.out.alloc _).drewN _).tail | exact ((H1.out.alloc _).alloc _).tail.tail))
    clear hbel
    rw [f1.out]
    go_wp2_with fail
    refine (alive14_k _).mono ?_
    rintro e w4 ⟨rfl, hbel⟩
    replace H1 := Lib.hid ((by first | exact Kp.same hbel | exact Kp.drew hbel | exact Kp.below hbel : Kp _ w4) _ _ (by first | exact H1.out | exact H1.out.drewN _ | exact (H1.out.alloc _).tail | exact ((H1.out.alloc _).drewN _).tail | exact ((H1.out.alloc _).alloc _).tail.tail))
    clear hbel
    go_wp2_with fail
    refine (modeFollows_c _ _ _).mono ?_
    rintro e w5 ⟨rfl, hbel⟩
    replace H1 := Lib.hid ((by first | exact Kp.same hbel | exact Kp.drew hbel | exact Kp.below hbel : Kp _ w5) _ _ (by first | exact H1.out | exact H1.out.drewN _ | exact (H1.out.alloc _).tail | exact ((H1.out.alloc _).drewN _).tail | exact ((H1.out.alloc _).alloc _).tail.tail))
    clear hbel
    go_wp2_with fail
    refine (refFollows_c _ _ _).mono ?_
    rintro e w6 ⟨rfl, hbel⟩
    replace H1 := Lib.hid ((by first | exact Kp.same hbel | exact Kp.drew hbel | exact Kp.below hbel : Kp _ w6) _ _ (by first | exact H1.out | exact H1.out.drewN _ | exact (H1.out.alloc _).tail | exact ((H1.out.alloc _).drewN _).tail | exact ((H1.out.alloc _).alloc _).tail.tail))
    clear hbel
    go_wp2_with fail
    refine (refRight14_c _ _).mono ?_
    rintro e w7 ⟨rfl, hbel⟩
    replace H1 := Lib.hid ((by first | exact Kp.same hbel | exact Kp.drew hbel | exact Kp.below hbel : Kp _ w7) _ _ (by first | exact H1.out | exact H1.out.drewN _ | exact (H1.out.alloc _).tail | exact ((H1.out.alloc _).drewN _).tail | exact ((H1.out.alloc _).alloc _).tail.tail))
    clear hbel
    rw [f2.out]
    go_wp2_with fail
    go_ret
    exact ⟨rfl, (Own.pm (H1.out) (by repeat (first | with_reducible exact Pm.refl _ | with_reducible refine Pm.here ?_ | with_reducible refine Pm.at2 ?_ | with_reducible refine Pm.at3 ?_ | with_reducible refine Pm.at4 ?_ | with_reducible refine Pm.at5 ?_ | with_reducible refine Pm.at6 ?_ | with_reducible refine Pm.at7 ?_ | with_reducible refine Pm.at8 ?_ | with_reducible refine Pm.skip ?_)))⟩
set_option maxHeartbeats 3200000 in
theorem modeQuiet_c (s : Int) (_hs : (Lit.int .i64 s).wf = true) (f : Int) (hf : (Lit.int .u64 f).wf = true) (r : Int) (hr : (Lit.int .u64 r).wf = true) :
    Calls Try.prog 15 #[.int .i64 s, .int .u64 f, .int .u64 r] w fun e w' => e = .returned (.bool true) ∧ Own w w' [old w] := by
  have HH := Lib.hid (Own.init w)
  replace hf := U_of_wf hf
  replace hr := U_of_wf hr
  have hg : (⟨false, false, false, false, f, f - min f 1, 0, r, 0, 1⟩ : Sig).Ok := by
    unfold U at hf
    refine ⟨hf, ?_, (show U 0 by decide), hr, (show U 0 by decide), (show U 1 by decide)⟩
    show U (f - min f 1)
    unfold U; omega
  replace hg := Lib.hid hg
  have n1 := fun w => modeNext_c w s ⟨false, false, false, false, f, f - min f 1, 0, r, 0, 1⟩ hg.out
  have q : (s = 0 ∨ s = 2 ∨ s = 3 ∨ s = 6 ∨ s = 1) → f ≠ 0 → nextI s ⟨false, false, false, false, f, f - min f 1, 0, r, 0, 1⟩ = s := by
    unfold U at hf
    have m1 : f ≠ 0 → ¬ f ≤ f - min f 1 := fun h => by omega
    have m2 : f ≠ 0 → ¬ f ≤ min (f - min f 1) 0 := fun h => by omega
    rintro (rfl | rfl | rfl | rfl | rfl) h <;> simp [nextI, nextBase, m1 h, m2 h]
  generalize nextI s ⟨false, false, false, false, f, f - min f 1, 0, r, 0, 1⟩ = n at *
  unfold Sig.v at n1
  simp only at n1
  replace n1 := Lib.hid n1
  replace q := Lib.hid q
  unfold U at hf
  have im := ite_min
  go_enter Try.func15, Try.ntmps15
  go_wp2_with (first | with_reducible refine stop_bs ?_ | with_reducible refine stop_bx ?_ | with_reducible refine stop_al ?_ | with_reducible refine stop_ms ?_ | with_reducible refine stop_app ?_ | with_reducible refine stop_copy ?_)
  refine Stop.go ?_
  go_step
  go_simp
  have H1_0 := Lib.hid (HH.out.alloc (.cells #[.bool false, .bool false, .bool false, .bool false, .int .u64 0, .int .u64 0, .int .u64 0, .int .u64 0, .int .u64 0, .int .u64 0] 64))
  generalize w.alloc (.cells #[.bool false, .bool false, .bool false, .bool false, .int .u64 0, .int .u64 0, .int .u64 0, .int .u64 0, .int .u64 0, .int .u64 0] 64) = w1_0 at *
  generalize w.heap.size = b at *
  go_wp2_with (with_reducible refine stop_st ?_)
  refine Stop.go ?_
  refine wpList_store_own _ #[.bool false, .bool false, .bool false, .bool false, .int .u64 f, .int .u64 (f - min f 1), .int .u64 0, .int .u64 r, .int .u64 0, .int .u64 1] rfl rfl (H1_0.out) (by kernel_rfl) rfl (by simp [Value.oneCell']) ?_
  intro w1 H1
  replace H1 := Lib.hid H1
  clear H1_0
  (try clear k1); have k1 := H1.out.cells
  go_wp2_with fail
  refine (n1.out _).mono ?_
  rintro e w2 ⟨rfl, hbel⟩
  replace H1 := Lib.hid ((by first | exact Kp.same hbel | exact Kp.drew hbel | exact Kp.below hbel : Kp _ w2) _ _ (by first | exact H1.out | exact H1.out.drewN _ | exact (H1.out.alloc _).tail | exact ((H1.out.alloc _).drewN _).tail | exact ((H1.out.alloc _).alloc _).tail.tail))
  clear hbel
  clear k1
  by_cases hw : s = 0 ∨ s = 2 ∨ s = 3 ∨ s = 6 ∨ s = 1
  · have b0 : (f = 0 ∨ n = s) := by
      by_cases h0 : f = 0
      · exact .inl h0
      · exact .inr (q.out hw h0)
    rcases hw with rfl | rfl | rfl | rfl | rfl
    all_goals
      go_wp2_with fail
      refine (alive14_k _).mono ?_
      rintro e w3 ⟨rfl, hbel⟩
      replace H1 := Lib.hid (H1.out.below hbel)
      clear hbel
      rcases b0 with rfl | rfl
      · go_wp2_with fail
        go_ret
        exact ⟨rfl, (Own.pm (H1.out) (by repeat (first | with_reducible exact Pm.refl _ | with_reducible refine Pm.here ?_ | with_reducible refine Pm.at2 ?_ | with_reducible refine Pm.at3 ?_ | with_reducible refine Pm.at4 ?_ | with_reducible refine Pm.at5 ?_ | with_reducible refine Pm.at6 ?_ | with_reducible refine Pm.at7 ?_ | with_reducible refine Pm.at8 ?_ | with_reducible refine Pm.skip ?_)))⟩
      · by_cases h0 : f = 0
        · subst h0
          go_wp2_with fail
          go_ret
          exact ⟨rfl, (Own.pm (H1.out) (by repeat (first | with_reducible exact Pm.refl _ | with_reducible refine Pm.here ?_ | with_reducible refine Pm.at2 ?_ | with_reducible refine Pm.at3 ?_ | with_reducible refine Pm.at4 ?_ | with_reducible refine Pm.at5 ?_ | with_reducible refine Pm.at6 ?_ | with_reducible refine Pm.at7 ?_ | with_reducible refine Pm.at8 ?_ | with_reducible refine Pm.skip ?_)))⟩
        · have b1 := (show (f == 0) = false by simpa using h0)
          go_wp2_with fail
          go_ret
          exact ⟨rfl, (Own.pm (H1.out) (by repeat (first | with_reducible exact Pm.refl _ | with_reducible refine Pm.here ?_ | with_reducible refine Pm.at2 ?_ | with_reducible refine Pm.at3 ?_ | with_reducible refine Pm.at4 ?_ | with_reducible refine Pm.at5 ?_ | with_reducible refine Pm.at6 ?_ | with_reducible refine Pm.at7 ?_ | with_reducible refine Pm.at8 ?_ | with_reducible refine Pm.skip ?_)))⟩
  · have d0 : (s == 0) = false := by simp; omega
    have d1 : (s == 1) = false := by simp; omega
    have d2 : (s == 2) = false := by simp; omega
    have d3 : (s == 3) = false := by simp; omega
    have d6 : (s == 6) = false := by simp; omega
    clear hw
    go_wp2_with fail
    refine (alive14_k _).mono ?_
    rintro e w3 ⟨rfl, hbel⟩
    replace H1 := Lib.hid (H1.out.below hbel)
    clear hbel
    go_wp2_with fail
    go_ret
    exact ⟨rfl, (Own.pm (H1.out) (by repeat (first | with_reducible exact Pm.refl _ | with_reducible refine Pm.here ?_ | with_reducible refine Pm.at2 ?_ | with_reducible refine Pm.at3 ?_ | with_reducible refine Pm.at4 ?_ | with_reducible refine Pm.at5 ?_ | with_reducible refine Pm.at6 ?_ | with_reducible refine Pm.at7 ?_ | with_reducible refine Pm.at8 ?_ | with_reducible refine Pm.skip ?_)))⟩
end
end Go.Proofs.Ytnffoiocejfppaa
