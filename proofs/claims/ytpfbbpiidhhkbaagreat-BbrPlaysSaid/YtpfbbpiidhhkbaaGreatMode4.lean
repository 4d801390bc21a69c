/- mode: the reference. -/
import Derived.Test.YtpfbbpiidhhkbaaGreatMode3
namespace Go.Proofs.YtpfbbpiidhhkbaaGreat
open Go.RowKit
section
variable (w : World)
theorem refRight14_c (s : Int) : Calls Tryz.prog 127 #[.int .i64 s] w fun e w' => e = .returned (.bool (stOk s)) ∧ w = w' := by
  unfold stOk
  by_cases h0 : 0 ≤ s
  · by_cases h1 : s ≤ 6
    · rw [decide_eq_true ⟨h0, h1⟩]
      go_enter Tryz.func127, Tryz.ntmps127
      go_wp2_with fail
      go_ret
      exact ⟨rfl, rfl⟩
    · rw [decide_eq_false (by omega)]
      go_enter Tryz.func127, Tryz.ntmps127
      go_wp2_with fail
      go_ret
      exact ⟨rfl, rfl⟩
  · rw [decide_eq_false (by omega)]
    go_enter Tryz.func127, Tryz.ntmps127
    go_wp2_with fail
    go_ret
    exact ⟨rfl, rfl⟩
set_option maxRecDepth 100000 in
set_option maxHeartbeats 12800000 in
theorem refNext_c (s : Int) (x : Sig) (hx : x.Ok) : Calls Tryz.prog 101 #[.int .i64 s, x.v] w fun e w' => e = .returned (.int .i64 (nextI s x)) ∧ Below w.heap.size w w' := by
  have HH := Lib.hid (Own.init w)
  obtain ⟨full, round, lossy, stale, fl, tg, cp, rd, el, wt⟩ := x
  obtain ⟨hx1, hx2, hx3, hx4, hx5, hx6⟩ := hx
  simp only at hx1 hx2 hx3 hx4 hx5 hx6
  have hrdU := hx4.1
  replace hx2 := Lib.hid hx2
  clear hx1 hx3 hx4 hx5 hx6
  unfold Sig.v
  have im := ite_minM
  rcases st_cases s with (rfl | rfl | rfl | rfl | rfl | rfl | rfl) | hs
  · cases stale with
    | true =>
      have ev : nextI 0 ⟨full, round, lossy, true, fl, tg, cp, rd, el, wt⟩ = 6 := by simp [nextI]
      rw [ev]
      clear ev
      have e1 : stOk 0 = true := by decide
      go_enter Tryz.func101, Tryz.ntmps101
      go_wp2_with (with_reducible first | refine stop_bs ?_ | refine stop_bx ?_ | refine stop_al ?_ | refine stop_ms ?_ | refine stop_app ?_ | refine stop_copy ?_)
      refine Stop.go ?_
      go_step
      go_simp
      have H1 := Lib.hid (HH.out.alloc (.cells #[.bool full, .bool round, .bool lossy, .bool true, .int .u64 fl, .int .u64 tg, .int .u64 cp, .int .u64 rd, .int .u64 el, .int .u64 wt] 136))
      generalize w.alloc (.cells #[.bool full, .bool round, .bool lossy, .bool true, .int .u64 fl, .int .u64 tg, .int .u64 cp, .int .u64 rd, .int .u64 el, .int .u64 wt] 136) = w1 at *
      generalize w.heap.size = b at *
      clear HH
      (try clear k1); have k1 := H1.out.cells
      go_wp2_with fail
      refine (refRight14_c _ _).mono ?_
      rintro e w' ⟨rfl, rfl⟩
      rw [e1]
      go_wp2_with fail
      go_ret
      exact ⟨rfl, H1.out.tail.old_below⟩
    | false =>
      cases full with
      | true =>
        have ev : nextI 0 ⟨true, round, lossy, false, fl, tg, cp, rd, el, wt⟩ = 1 := by simp [nextI, nextBase]
        rw [ev]
        clear ev
        have e1 : stOk 0 = true := by decide
        go_enter Tryz.func101, Tryz.ntmps101
        go_wp2_with (with_reducible first | refine stop_bs ?_ | refine stop_bx ?_ | refine stop_al ?_ | refine stop_ms ?_ | refine stop_app ?_ | refine stop_copy ?_)
        refine Stop.go ?_
        go_step
        go_simp
        have H1 := Lib.hid (HH.out.alloc (.cells #[.bool true, .bool round, .bool lossy, .bool false, .int .u64 fl, .int .u64 tg, .int .u64 cp, .int .u64 rd, .int .u64 el, .int .u64 wt] 136))
        generalize w.alloc (.cells #[.bool true, .bool round, .bool lossy, .bool false, .int .u64 fl, .int .u64 tg, .int .u64 cp, .int .u64 rd, .int .u64 el, .int .u64 wt] 136) = w1 at *
        generalize w.heap.size = b at *
        clear HH
        (try clear k1); have k1 := H1.out.cells
        go_wp2_with fail
        refine (refRight14_c _ _).mono ?_
        rintro e w' ⟨rfl, rfl⟩
        rw [e1]
        go_wp2_with fail
        go_ret
        exact ⟨rfl, H1.out.tail.old_below⟩
      | false =>
        cases lossy with
        | true =>
          have ev : nextI 0 ⟨false, round, true, false, fl, tg, cp, rd, el, wt⟩ = 1 := by simp [nextI, nextBase]
          rw [ev]
          clear ev
          have e1 : stOk 0 = true := by decide
          go_enter Tryz.func101, Tryz.ntmps101
          go_wp2_with (with_reducible first | refine stop_bs ?_ | refine stop_bx ?_ | refine stop_al ?_ | refine stop_ms ?_ | refine stop_app ?_ | refine stop_copy ?_)
          refine Stop.go ?_
          go_step
          go_simp
          have H1 := Lib.hid (HH.out.alloc (.cells #[.bool false, .bool round, .bool true, .bool false, .int .u64 fl, .int .u64 tg, .int .u64 cp, .int .u64 rd, .int .u64 el, .int .u64 wt] 136))
          generalize w.alloc (.cells #[.bool false, .bool round, .bool true, .bool false, .int .u64 fl, .int .u64 tg, .int .u64 cp, .int .u64 rd, .int .u64 el, .int .u64 wt] 136) = w1 at *
          generalize w.heap.size = b at *
          clear HH
          (try clear k1); have k1 := H1.out.cells
          go_wp2_with fail
          refine (refRight14_c _ _).mono ?_
          rintro e w' ⟨rfl, rfl⟩
          rw [e1]
          go_wp2_with fail
          go_ret
          exact ⟨rfl, H1.out.tail.old_below⟩
        | false =>
          have ev : nextI 0 ⟨false, round, false, false, fl, tg, cp, rd, el, wt⟩ = 0 := by simp [nextI, nextBase]
          rw [ev]
          clear ev
          have e1 : stOk 0 = true := by decide
          go_enter Tryz.func101, Tryz.ntmps101
          go_wp2_with (with_reducible first | refine stop_bs ?_ | refine stop_bx ?_ | refine stop_al ?_ | refine stop_ms ?_ | refine stop_app ?_ | refine stop_copy ?_)
          refine Stop.go ?_
          go_step
          go_simp
          have H1 := Lib.hid (HH.out.alloc (.cells #[.bool false, .bool round, .bool false, .bool false, .int .u64 fl, .int .u64 tg, .int .u64 cp, .int .u64 rd, .int .u64 el, .int .u64 wt] 136))
          generalize w.alloc (.cells #[.bool false, .bool round, .bool false, .bool false, .int .u64 fl, .int .u64 tg, .int .u64 cp, .int .u64 rd, .int .u64 el, .int .u64 wt] 136) = w1 at *
          generalize w.heap.size = b at *
          clear HH
          (try clear k1); have k1 := H1.out.cells
          go_wp2_with fail
          refine (refRight14_c _ _).mono ?_
          rintro e w' ⟨rfl, rfl⟩
          rw [e1]
          go_wp2_with fail
          go_ret
          exact ⟨rfl, H1.out.tail.old_below⟩
  · cases stale with
    | true =>
      have ev : nextI 1 ⟨full, round, lossy, true, fl, tg, cp, rd, el, wt⟩ = 6 := by simp [nextI]
      rw [ev]
      clear ev
      have e1 : stOk 1 = true := by decide
      go_enter Tryz.func101, Tryz.ntmps101
      go_wp2_with (with_reducible first | refine stop_bs ?_ | refine stop_bx ?_ | refine stop_al ?_ | refine stop_ms ?_ | refine stop_app ?_ | refine stop_copy ?_)
      refine Stop.go ?_
      go_step
      go_simp
      have H1 := Lib.hid (HH.out.alloc (.cells #[.bool full, .bool round, .bool lossy, .bool true, .int .u64 fl, .int .u64 tg, .int .u64 cp, .int .u64 rd, .int .u64 el, .int .u64 wt] 136))
      generalize w.alloc (.cells #[.bool full, .bool round, .bool lossy, .bool true, .int .u64 fl, .int .u64 tg, .int .u64 cp, .int .u64 rd, .int .u64 el, .int .u64 wt] 136) = w1 at *
      generalize w.heap.size = b at *
      clear HH
      (try clear k1); have k1 := H1.out.cells
      go_wp2_with fail
      refine (refRight14_c _ _).mono ?_
      rintro e w' ⟨rfl, rfl⟩
      rw [e1]
      go_wp2_with fail
      go_ret
      exact ⟨rfl, H1.out.tail.old_below⟩
    | false =>
      by_cases h1 : fl ≤ tg
      · have h1b := decide_eq_true h1
        have ev : nextI 1 ⟨full, round, lossy, false, fl, tg, cp, rd, el, wt⟩ = 2 := by simp [nextI, nextBase, h1]
        rw [ev]
        clear ev
        have e1 : stOk 1 = true := by decide
        go_enter Tryz.func101, Tryz.ntmps101
        go_wp2_with (with_reducible first | refine stop_bs ?_ | refine stop_bx ?_ | refine stop_al ?_ | refine stop_ms ?_ | refine stop_app ?_ | refine stop_copy ?_)
        refine Stop.go ?_
        go_step
        go_simp
        have H1 := Lib.hid (HH.out.alloc (.cells #[.bool full, .bool round, .bool lossy, .bool false, .int .u64 fl, .int .u64 tg, .int .u64 cp, .int .u64 rd, .int .u64 el, .int .u64 wt] 136))
        generalize w.alloc (.cells #[.bool full, .bool round, .bool lossy, .bool false, .int .u64 fl, .int .u64 tg, .int .u64 cp, .int .u64 rd, .int .u64 el, .int .u64 wt] 136) = w1 at *
        generalize w.heap.size = b at *
        clear HH
        (try clear k1); have k1 := H1.out.cells
        go_wp2_with fail
        refine (refRight14_c _ _).mono ?_
        rintro e w' ⟨rfl, rfl⟩
        rw [e1]
        go_wp2_with fail
        go_ret
        exact ⟨rfl, H1.out.tail.old_below⟩
      · have h1b := decide_eq_false h1
        have ev : nextI 1 ⟨full, round, lossy, false, fl, tg, cp, rd, el, wt⟩ = 1 := by simp [nextI, nextBase, h1]
        rw [ev]
        clear ev
        have e1 : stOk 1 = true := by decide
        go_enter Tryz.func101, Tryz.ntmps101
        go_wp2_with (with_reducible first | refine stop_bs ?_ | refine stop_bx ?_ | refine stop_al ?_ | refine stop_ms ?_ | refine stop_app ?_ | refine stop_copy ?_)
        refine Stop.go ?_
        go_step
        go_simp
        have H1 := Lib.hid (HH.out.alloc (.cells #[.bool full, .bool round, .bool lossy, .bool false, .int .u64 fl, .int .u64 tg, .int .u64 cp, .int .u64 rd, .int .u64 el, .int .u64 wt] 136))
        generalize w.alloc (.cells #[.bool full, .bool round, .bool lossy, .bool false, .int .u64 fl, .int .u64 tg, .int .u64 cp, .int .u64 rd, .int .u64 el, .int .u64 wt] 136) = w1 at *
        generalize w.heap.size = b at *
        clear HH
        (try clear k1); have k1 := H1.out.cells
        go_wp2_with fail
        refine (refRight14_c _ _).mono ?_
        rintro e w' ⟨rfl, rfl⟩
        rw [e1]
        go_wp2_with fail
        go_ret
        exact ⟨rfl, H1.out.tail.old_below⟩
  · cases stale with
    | true =>
      have ev : nextI 2 ⟨full, round, lossy, true, fl, tg, cp, rd, el, wt⟩ = 6 := by simp [nextI]
      rw [ev]
      clear ev
      have e1 : stOk 2 = true := by decide
      go_enter Tryz.func101, Tryz.ntmps101
      go_wp2_with (with_reducible first | refine stop_bs ?_ | refine stop_bx ?_ | refine stop_al ?_ | refine stop_ms ?_ | refine stop_app ?_ | refine stop_copy ?_)
      refine Stop.go ?_
      go_step
      go_simp
      have H1 := Lib.hid (HH.out.alloc (.cells #[.bool full, .bool round, .bool lossy, .bool true, .int .u64 fl, .int .u64 tg, .int .u64 cp, .int .u64 rd, .int .u64 el, .int .u64 wt] 136))
      generalize w.alloc (.cells #[.bool full, .bool round, .bool lossy, .bool true, .int .u64 fl, .int .u64 tg, .int .u64 cp, .int .u64 rd, .int .u64 el, .int .u64 wt] 136) = w1 at *
      generalize w.heap.size = b at *
      clear HH
      (try clear k1); have k1 := H1.out.cells
      go_wp2_with fail
      refine (refRight14_c _ _).mono ?_
      rintro e w' ⟨rfl, rfl⟩
      rw [e1]
      go_wp2_with fail
      go_ret
      exact ⟨rfl, H1.out.tail.old_below⟩
    | false =>
      by_cases h1 : fl ≤ tg
      · have h1b := decide_eq_true h1
        by_cases h2 : fl ≤ cp
        · have h2b := decide_eq_true h2
          have hm : fl ≤ min tg cp := by omega
          have hmb := decide_eq_true hm
          have ev : nextI 2 ⟨full, round, lossy, false, fl, tg, cp, rd, el, wt⟩ = 3 := by simp [nextI, nextBase, hm]
          rw [ev]
          clear ev
          have e1 : stOk 2 = true := by decide
          go_enter Tryz.func101, Tryz.ntmps101
          go_wp2_with (with_reducible first | refine stop_bs ?_ | refine stop_bx ?_ | refine stop_al ?_ | refine stop_ms ?_ | refine stop_app ?_ | refine stop_copy ?_)
          refine Stop.go ?_
          go_step
          go_simp
          have H1 := Lib.hid (HH.out.alloc (.cells #[.bool full, .bool round, .bool lossy, .bool false, .int .u64 fl, .int .u64 tg, .int .u64 cp, .int .u64 rd, .int .u64 el, .int .u64 wt] 136))
          generalize w.alloc (.cells #[.bool full, .bool round, .bool lossy, .bool false, .int .u64 fl, .int .u64 tg, .int .u64 cp, .int .u64 rd, .int .u64 el, .int .u64 wt] 136) = w1 at *
          generalize w.heap.size = b at *
          clear HH
          (try clear k1); have k1 := H1.out.cells
          go_wp2_with fail
          refine (refRight14_c _ _).mono ?_
          rintro e w' ⟨rfl, rfl⟩
          rw [e1]
          go_wp2_with fail
          go_ret
          exact ⟨rfl, H1.out.tail.old_below⟩
        · have h2b := decide_eq_false h2
          by_cases hw : wt ≤ el
          · have hwb := decide_eq_true hw
            have hm : ¬ fl ≤ min tg cp := by omega
            have hmb := decide_eq_false hm
            have ev : nextI 2 ⟨full, round, lossy, false, fl, tg, cp, rd, el, wt⟩ = 4 := by simp [nextI, nextBase, hw, hm]
            rw [ev]
            clear ev
            have e1 : stOk 2 = true := by decide
            go_enter Tryz.func101, Tryz.ntmps101
            go_wp2_with (with_reducible first | refine stop_bs ?_ | refine stop_bx ?_ | refine stop_al ?_ | refine stop_ms ?_ | refine stop_app ?_ | refine stop_copy ?_)
            refine Stop.go ?_
            go_step
            go_simp
            have H1 := Lib.hid (HH.out.alloc (.cells #[.bool full, .bool round, .bool lossy, .bool false, .int .u64 fl, .int .u64 tg, .int .u64 cp, .int .u64 rd, .int .u64 el, .int .u64 wt] 136))
            generalize w.alloc (.cells #[.bool full, .bool round, .bool lossy, .bool false, .int .u64 fl, .int .u64 tg, .int .u64 cp, .int .u64 rd, .int .u64 el, .int .u64 wt] 136) = w1 at *
            generalize w.heap.size = b at *
            clear HH
            (try clear k1); have k1 := H1.out.cells
            go_wp2_with fail
            refine (refRight14_c _ _).mono ?_
            rintro e w' ⟨rfl, rfl⟩
            rw [e1]
            go_wp2_with fail
            go_ret
            exact ⟨rfl, H1.out.tail.old_below⟩
          · have hwb := decide_eq_false hw
            have hm : ¬ fl ≤ min tg cp := by omega
            have hmb := decide_eq_false hm
            have ev : nextI 2 ⟨full, round, lossy, false, fl, tg, cp, rd, el, wt⟩ = 2 := by simp [nextI, nextBase, hw, hm]
            rw [ev]
            clear ev
            have e1 : stOk 2 = true := by decide
            go_enter Tryz.func101, Tryz.ntmps101
            go_wp2_with (with_reducible first | refine stop_bs ?_ | refine stop_bx ?_ | refine stop_al ?_ | refine stop_ms ?_ | refine stop_app ?_ | refine stop_copy ?_)
            refine Stop.go ?_
            go_step
            go_simp
            have H1 := Lib.hid (HH.out.alloc (.cells #[.bool full, .bool round, .bool lossy, .bool false, .int .u64 fl, .int .u64 tg, .int .u64 cp, .int .u64 rd, .int .u64 el, .int .u64 wt] 136))
            generalize w.alloc (.cells #[.bool full, .bool round, .bool lossy, .bool false, .int .u64 fl, .int .u64 tg, .int .u64 cp, .int .u64 rd, .int .u64 el, .int .u64 wt] 136) = w1 at *
            generalize w.heap.size = b at *
            clear HH
            (try clear k1); have k1 := H1.out.cells
            go_wp2_with fail
            refine (refRight14_c _ _).mono ?_
            rintro e w' ⟨rfl, rfl⟩
            rw [e1]
            go_wp2_with fail
            go_ret
            exact ⟨rfl, H1.out.tail.old_below⟩
      · have h1b := decide_eq_false h1
        by_cases hw : wt ≤ el
        · have hwb := decide_eq_true hw
          have hm : ¬ fl ≤ min tg cp := by omega
          have hmb := decide_eq_false hm
          have ev : nextI 2 ⟨full, round, lossy, false, fl, tg, cp, rd, el, wt⟩ = 4 := by simp [nextI, nextBase, hw, hm]
          rw [ev]
          clear ev
          have e1 : stOk 2 = true := by decide
          go_enter Tryz.func101, Tryz.ntmps101
          go_wp2_with (with_reducible first | refine stop_bs ?_ | refine stop_bx ?_ | refine stop_al ?_ | refine stop_ms ?_ | refine stop_app ?_ | refine stop_copy ?_)
          refine Stop.go ?_
          go_step
          go_simp
          have H1 := Lib.hid (HH.out.alloc (.cells #[.bool full, .bool round, .bool lossy, .bool false, .int .u64 fl, .int .u64 tg, .int .u64 cp, .int .u64 rd, .int .u64 el, .int .u64 wt] 136))
          generalize w.alloc (.cells #[.bool full, .bool round, .bool lossy, .bool false, .int .u64 fl, .int .u64 tg, .int .u64 cp, .int .u64 rd, .int .u64 el, .int .u64 wt] 136) = w1 at *
          generalize w.heap.size = b at *
          clear HH
          (try clear k1); have k1 := H1.out.cells
          go_wp2_with fail
          refine (refRight14_c _ _).mono ?_
          rintro e w' ⟨rfl, rfl⟩
          rw [e1]
          go_wp2_with fail
          go_ret
          exact ⟨rfl, H1.out.tail.old_below⟩
        · have hwb := decide_eq_false hw
          have hm : ¬ fl ≤ min tg cp := by omega
          have hmb := decide_eq_false hm
          have ev : nextI 2 ⟨full, round, lossy, false, fl, tg, cp, rd, el, wt⟩ = 2 := by simp [nextI, nextBase, hw, hm]
          rw [ev]
          clear ev
          have e1 : stOk 2 = true := by decide
          go_enter Tryz.func101, Tryz.ntmps101
          go_wp2_with (with_reducible first | refine stop_bs ?_ | refine stop_bx ?_ | refine stop_al ?_ | refine stop_ms ?_ | refine stop_app ?_ | refine stop_copy ?_)
          refine Stop.go ?_
          go_step
          go_simp
          have H1 := Lib.hid (HH.out.alloc (.cells #[.bool full, .bool round, .bool lossy, .bool false, .int .u64 fl, .int .u64 tg, .int .u64 cp, .int .u64 rd, .int .u64 el, .int .u64 wt] 136))
          generalize w.alloc (.cells #[.bool full, .bool round, .bool lossy, .bool false, .int .u64 fl, .int .u64 tg, .int .u64 cp, .int .u64 rd, .int .u64 el, .int .u64 wt] 136) = w1 at *
          generalize w.heap.size = b at *
          clear HH
          (try clear k1); have k1 := H1.out.cells
          go_wp2_with fail
          refine (refRight14_c _ _).mono ?_
          rintro e w' ⟨rfl, rfl⟩
          rw [e1]
          go_wp2_with fail
          go_ret
          exact ⟨rfl, H1.out.tail.old_below⟩
  · cases stale with
    | true =>
      have ev : nextI 3 ⟨full, round, lossy, true, fl, tg, cp, rd, el, wt⟩ = 6 := by simp [nextI]
      rw [ev]
      clear ev
      have e1 : stOk 3 = true := by decide
      go_enter Tryz.func101, Tryz.ntmps101
      go_wp2_with (with_reducible first | refine stop_bs ?_ | refine stop_bx ?_ | refine stop_al ?_ | refine stop_ms ?_ | refine stop_app ?_ | refine stop_copy ?_)
      refine Stop.go ?_
      go_step
      go_simp
      have H1 := Lib.hid (HH.out.alloc (.cells #[.bool full, .bool round, .bool lossy, .bool true, .int .u64 fl, .int .u64 tg, .int .u64 cp, .int .u64 rd, .int .u64 el, .int .u64 wt] 136))
      generalize w.alloc (.cells #[.bool full, .bool round, .bool lossy, .bool true, .int .u64 fl, .int .u64 tg, .int .u64 cp, .int .u64 rd, .int .u64 el, .int .u64 wt] 136) = w1 at *
      generalize w.heap.size = b at *
      clear HH
      (try clear k1); have k1 := H1.out.cells
      go_wp2_with fail
      refine (refRight14_c _ _).mono ?_
      rintro e w' ⟨rfl, rfl⟩
      rw [e1]
      go_wp2_with fail
      go_ret
      exact ⟨rfl, H1.out.tail.old_below⟩
    | false =>
      by_cases hw : wt ≤ el
      · have hwb := decide_eq_true hw
        have ev : nextI 3 ⟨full, round, lossy, false, fl, tg, cp, rd, el, wt⟩ = 4 := by simp [nextI, nextBase, hw]
        rw [ev]
        clear ev
        have e1 : stOk 3 = true := by decide
        go_enter Tryz.func101, Tryz.ntmps101
        go_wp2_with (with_reducible first | refine stop_bs ?_ | refine stop_bx ?_ | refine stop_al ?_ | refine stop_ms ?_ | refine stop_app ?_ | refine stop_copy ?_)
        refine Stop.go ?_
        go_step
        go_simp
        have H1 := Lib.hid (HH.out.alloc (.cells #[.bool full, .bool round, .bool lossy, .bool false, .int .u64 fl, .int .u64 tg, .int .u64 cp, .int .u64 rd, .int .u64 el, .int .u64 wt] 136))
        generalize w.alloc (.cells #[.bool full, .bool round, .bool lossy, .bool false, .int .u64 fl, .int .u64 tg, .int .u64 cp, .int .u64 rd, .int .u64 el, .int .u64 wt] 136) = w1 at *
        generalize w.heap.size = b at *
        clear HH
        (try clear k1); have k1 := H1.out.cells
        go_wp2_with fail
        refine (refRight14_c _ _).mono ?_
        rintro e w' ⟨rfl, rfl⟩
        rw [e1]
        go_wp2_with fail
        go_ret
        exact ⟨rfl, H1.out.tail.old_below⟩
      · have hwb := decide_eq_false hw
        have ev : nextI 3 ⟨full, round, lossy, false, fl, tg, cp, rd, el, wt⟩ = 3 := by simp [nextI, nextBase, hw]
        rw [ev]
        clear ev
        have e1 : stOk 3 = true := by decide
        go_enter Tryz.func101, Tryz.ntmps101
        go_wp2_with (with_reducible first | refine stop_bs ?_ | refine stop_bx ?_ | refine stop_al ?_ | refine stop_ms ?_ | refine stop_app ?_ | refine stop_copy ?_)
        refine Stop.go ?_
        go_step
        go_simp
        have H1 := Lib.hid (HH.out.alloc (.cells #[.bool full, .bool round, .bool lossy, .bool false, .int .u64 fl, .int .u64 tg, .int .u64 cp, .int .u64 rd, .int .u64 el, .int .u64 wt] 136))
        generalize w.alloc (.cells #[.bool full, .bool round, .bool lossy, .bool false, .int .u64 fl, .int .u64 tg, .int .u64 cp, .int .u64 rd, .int .u64 el, .int .u64 wt] 136) = w1 at *
        generalize w.heap.size = b at *
        clear HH
        (try clear k1); have k1 := H1.out.cells
        go_wp2_with fail
        refine (refRight14_c _ _).mono ?_
        rintro e w' ⟨rfl, rfl⟩
        rw [e1]
        go_wp2_with fail
        go_ret
        exact ⟨rfl, H1.out.tail.old_below⟩
  · cases stale with
    | true =>
      have ev : nextI 4 ⟨full, round, lossy, true, fl, tg, cp, rd, el, wt⟩ = 6 := by simp [nextI]
      rw [ev]
      clear ev
      have e1 : stOk 4 = true := by decide
      go_enter Tryz.func101, Tryz.ntmps101
      go_wp2_with (with_reducible first | refine stop_bs ?_ | refine stop_bx ?_ | refine stop_al ?_ | refine stop_ms ?_ | refine stop_app ?_ | refine stop_copy ?_)
      refine Stop.go ?_
      go_step
      go_simp
      have H1 := Lib.hid (HH.out.alloc (.cells #[.bool full, .bool round, .bool lossy, .bool true, .int .u64 fl, .int .u64 tg, .int .u64 cp, .int .u64 rd, .int .u64 el, .int .u64 wt] 136))
      generalize w.alloc (.cells #[.bool full, .bool round, .bool lossy, .bool true, .int .u64 fl, .int .u64 tg, .int .u64 cp, .int .u64 rd, .int .u64 el, .int .u64 wt] 136) = w1 at *
      generalize w.heap.size = b at *
      clear HH
      (try clear k1); have k1 := H1.out.cells
      go_wp2_with fail
      refine (refRight14_c _ _).mono ?_
      rintro e w' ⟨rfl, rfl⟩
      rw [e1]
      go_wp2_with fail
      go_ret
      exact ⟨rfl, H1.out.tail.old_below⟩
    | false =>
      by_cases hr : 1 ≤ rd
      · have hrb := decide_eq_true hr
        have hr0 : 0 < rd := by omega
        have ev : nextI 4 ⟨full, round, lossy, false, fl, tg, cp, rd, el, wt⟩ = 5 := by simp [nextI, nextBase, hr0]
        rw [ev]
        clear ev
        have e1 : stOk 4 = true := by decide
        go_enter Tryz.func101, Tryz.ntmps101
        go_wp2_with (with_reducible first | refine stop_bs ?_ | refine stop_bx ?_ | refine stop_al ?_ | refine stop_ms ?_ | refine stop_app ?_ | refine stop_copy ?_)
        refine Stop.go ?_
        go_step
        go_simp
        have H1 := Lib.hid (HH.out.alloc (.cells #[.bool full, .bool round, .bool lossy, .bool false, .int .u64 fl, .int .u64 tg, .int .u64 cp, .int .u64 rd, .int .u64 el, .int .u64 wt] 136))
        generalize w.alloc (.cells #[.bool full, .bool round, .bool lossy, .bool false, .int .u64 fl, .int .u64 tg, .int .u64 cp, .int .u64 rd, .int .u64 el, .int .u64 wt] 136) = w1 at *
        generalize w.heap.size = b at *
        clear HH
        (try clear k1); have k1 := H1.out.cells
        go_wp2_with fail
        refine (refRight14_c _ _).mono ?_
        rintro e w' ⟨rfl, rfl⟩
        rw [e1]
        go_wp2_with fail
        go_ret
        exact ⟨rfl, H1.out.tail.old_below⟩
      · have hrb := decide_eq_false hr
        have hr0 : ¬ 0 < rd := by omega
        have ev : nextI 4 ⟨full, round, lossy, false, fl, tg, cp, rd, el, wt⟩ = 4 := by simp [nextI, nextBase, hr0]
        rw [ev]
        clear ev
        have e1 : stOk 4 = true := by decide
        go_enter Tryz.func101, Tryz.ntmps101
        go_wp2_with (with_reducible first | refine stop_bs ?_ | refine stop_bx ?_ | refine stop_al ?_ | refine stop_ms ?_ | refine stop_app ?_ | refine stop_copy ?_)
        refine Stop.go ?_
        go_step
        go_simp
        have H1 := Lib.hid (HH.out.alloc (.cells #[.bool full, .bool round, .bool lossy, .bool false, .int .u64 fl, .int .u64 tg, .int .u64 cp, .int .u64 rd, .int .u64 el, .int .u64 wt] 136))
        generalize w.alloc (.cells #[.bool full, .bool round, .bool lossy, .bool false, .int .u64 fl, .int .u64 tg, .int .u64 cp, .int .u64 rd, .int .u64 el, .int .u64 wt] 136) = w1 at *
        generalize w.heap.size = b at *
        clear HH
        (try clear k1); have k1 := H1.out.cells
        go_wp2_with fail
        refine (refRight14_c _ _).mono ?_
        rintro e w' ⟨rfl, rfl⟩
        rw [e1]
        go_wp2_with fail
        go_ret
        exact ⟨rfl, H1.out.tail.old_below⟩
  · cases stale with
    | true =>
      have ev : nextI 5 ⟨full, round, lossy, true, fl, tg, cp, rd, el, wt⟩ = 6 := by simp [nextI]
      rw [ev]
      clear ev
      have e1 : stOk 5 = true := by decide
      go_enter Tryz.func101, Tryz.ntmps101
      go_wp2_with (with_reducible first | refine stop_bs ?_ | refine stop_bx ?_ | refine stop_al ?_ | refine stop_ms ?_ | refine stop_app ?_ | refine stop_copy ?_)
      refine Stop.go ?_
      go_step
      go_simp
      have H1 := Lib.hid (HH.out.alloc (.cells #[.bool full, .bool round, .bool lossy, .bool true, .int .u64 fl, .int .u64 tg, .int .u64 cp, .int .u64 rd, .int .u64 el, .int .u64 wt] 136))
      generalize w.alloc (.cells #[.bool full, .bool round, .bool lossy, .bool true, .int .u64 fl, .int .u64 tg, .int .u64 cp, .int .u64 rd, .int .u64 el, .int .u64 wt] 136) = w1 at *
      generalize w.heap.size = b at *
      clear HH
      (try clear k1); have k1 := H1.out.cells
      go_wp2_with fail
      refine (refRight14_c _ _).mono ?_
      rintro e w' ⟨rfl, rfl⟩
      rw [e1]
      go_wp2_with fail
      go_ret
      exact ⟨rfl, H1.out.tail.old_below⟩
    | false =>
      cases lossy with
      | true =>
        have ev : nextI 5 ⟨full, round, true, false, fl, tg, cp, rd, el, wt⟩ = 2 := by simp [nextI, nextBase]
        rw [ev]
        clear ev
        have e1 : stOk 5 = true := by decide
        go_enter Tryz.func101, Tryz.ntmps101
        go_wp2_with (with_reducible first | refine stop_bs ?_ | refine stop_bx ?_ | refine stop_al ?_ | refine stop_ms ?_ | refine stop_app ?_ | refine stop_copy ?_)
        refine Stop.go ?_
        go_step
        go_simp
        have H1 := Lib.hid (HH.out.alloc (.cells #[.bool full, .bool round, .bool true, .bool false, .int .u64 fl, .int .u64 tg, .int .u64 cp, .int .u64 rd, .int .u64 el, .int .u64 wt] 136))
        generalize w.alloc (.cells #[.bool full, .bool round, .bool true, .bool false, .int .u64 fl, .int .u64 tg, .int .u64 cp, .int .u64 rd, .int .u64 el, .int .u64 wt] 136) = w1 at *
        generalize w.heap.size = b at *
        clear HH
        (try clear k1); have k1 := H1.out.cells
        go_wp2_with fail
        refine (refRight14_c _ _).mono ?_
        rintro e w' ⟨rfl, rfl⟩
        rw [e1]
        go_wp2_with fail
        refine wp_region_calm w [pts b (.cells #[.bool full, .bool round, .bool true, .bool false, .int .u64 fl, .int .u64 tg, .int .u64 cp, .int .u64 rd, .int .u64 el, .int .u64 wt] 136 (0, 0)), old w] (by kernel_rfl) (by kernel_rfl) H1.out ?_
        repeat
          first
          | go_big_quiet_skip
          | (go_big_quiet_want; go_big_quiet_op; first | go_big_quiet_on | (apply Exists.intro; refine ⟨?_, ?_⟩; (focus (intro wx hx; have x1' := hx.cells; first | (first | (go_at_call 66; refine (refShare_c wx tg 5 4 hx2.out (by decide) (by decide)).mono ?_; rintro e wy ⟨rfl, hbel⟩; exact ⟨rfl, (by first | exact .same hbel | exact .drew hbel | exact .below hbel : Kp wx wy) _ _ hx⟩)) | (go_simp; first | rfl | exact ⟨rfl, rfl⟩) | rfl | exact ⟨rfl, rfl⟩)); go_big_quiet_on))
          | (refine wpQuiet_step (fun K hK => ?_)
             go_simp
             first
             | (refine hK _ ?_; clear hK K)
             | (apply Exists.intro
                refine ⟨?_, hK _ ?_⟩
                (focus (intro wx hx; have x1' := hx.cells; first | (first | (go_at_call 66; refine (refShare_c wx tg 5 4 hx2.out (by decide) (by decide)).mono ?_; rintro e wy ⟨rfl, hbel⟩; exact ⟨rfl, (by first | exact .same hbel | exact .drew hbel | exact .below hbel : Kp wx wy) _ _ hx⟩)) | (go_simp; first | rfl | exact ⟨rfl, rfl⟩) | rfl | exact ⟨rfl, rfl⟩))
                clear hK K))
        refine wpQuiet_nil ?_
        intro w4 H9_
        replace H1 := Lib.hid H9_
        clear H9_
        (try clear k1); have k1 := H1.out.cells
        go_wp2_with fail
        go_ret
        exact ⟨rfl, H1.out.tail.old_below⟩
      | false =>
        by_cases hr : 1 ≤ rd
        · have hrb := decide_eq_true hr
          have hr0 : 0 < rd := by omega
          by_cases hf : sshare tg 5 4 ≤ fl
          · have hfb := decide_eq_true hf
            have ev : nextI 5 ⟨full, round, false, false, fl, tg, cp, rd, el, wt⟩ = 2 := by simp [nextI, nextBase, hr0, hf]
            rw [ev]
            clear ev
            have e1 : stOk 5 = true := by decide
            go_enter Tryz.func101, Tryz.ntmps101
            go_wp2_with (with_reducible first | refine stop_bs ?_ | refine stop_bx ?_ | refine stop_al ?_ | refine stop_ms ?_ | refine stop_app ?_ | refine stop_copy ?_)
            refine Stop.go ?_
            go_step
            go_simp
            have H1 := Lib.hid (HH.out.alloc (.cells #[.bool full, .bool round, .bool false, .bool false, .int .u64 fl, .int .u64 tg, .int .u64 cp, .int .u64 rd, .int .u64 el, .int .u64 wt] 136))
            generalize w.alloc (.cells #[.bool full, .bool round, .bool false, .bool false, .int .u64 fl, .int .u64 tg, .int .u64 cp, .int .u64 rd, .int .u64 el, .int .u64 wt] 136) = w1 at *
            generalize w.heap.size = b at *
            clear HH
            (try clear k1); have k1 := H1.out.cells
            go_wp2_with fail
            refine (refRight14_c _ _).mono ?_
            rintro e w' ⟨rfl, rfl⟩
            rw [e1]
            go_wp2_with fail
            refine wp_region_calm w [pts b (.cells #[.bool full, .bool round, .bool false, .bool false, .int .u64 fl, .int .u64 tg, .int .u64 cp, .int .u64 rd, .int .u64 el, .int .u64 wt] 136 (0, 0)), old w] (by kernel_rfl) (by kernel_rfl) H1.out ?_
            repeat
              first
              | go_big_quiet_skip
              | (go_big_quiet_want; go_big_quiet_op; first | go_big_quiet_on | (apply Exists.intro; refine ⟨?_, ?_⟩; (focus (intro wx hx; have x1' := hx.cells; first | (first | (go_at_call 66; refine (refShare_c wx tg 5 4 hx2.out (by decide) (by decide)).mono ?_; rintro e wy ⟨rfl, hbel⟩; exact ⟨rfl, (by first | exact .same hbel | exact .drew hbel | exact .below hbel : Kp wx wy) _ _ hx⟩)) | (go_simp; first | rfl | exact ⟨rfl, rfl⟩) | rfl | exact ⟨rfl, rfl⟩)); go_big_quiet_on))
              | (refine wpQuiet_step (fun K hK => ?_)
                 go_simp
                 first
                 | (refine hK _ ?_; clear hK K)
                 | (apply Exists.intro
                    refine ⟨?_, hK _ ?_⟩
                    (focus (intro wx hx; have x1' := hx.cells; first | (first | (go_at_call 66; refine (refShare_c wx tg 5 4 hx2.out (by decide) (by decide)).mono ?_; rintro e wy ⟨rfl, hbel⟩; exact ⟨rfl, (by first | exact .same hbel | exact .drew hbel | exact .below hbel : Kp wx wy) _ _ hx⟩)) | (go_simp; first | rfl | exact ⟨rfl, rfl⟩) | rfl | exact ⟨rfl, rfl⟩))
                    clear hK K))
            refine wpQuiet_nil ?_
            intro w4 H9_
            replace H1 := Lib.hid H9_
            clear H9_
            (try clear k1); have k1 := H1.out.cells
            go_wp2_with fail
            go_ret
            exact ⟨rfl, H1.out.tail.old_below⟩
          · have hfb := decide_eq_false hf
            have ev : nextI 5 ⟨full, round, false, false, fl, tg, cp, rd, el, wt⟩ = 5 := by simp [nextI, nextBase, hr0, hf]
            rw [ev]
            clear ev
            have e1 : stOk 5 = true := by decide
            go_enter Tryz.func101, Tryz.ntmps101
            go_wp2_with (with_reducible first | refine stop_bs ?_ | refine stop_bx ?_ | refine stop_al ?_ | refine stop_ms ?_ | refine stop_app ?_ | refine stop_copy ?_)
            refine Stop.go ?_
            go_step
            go_simp
            have H1 := Lib.hid (HH.out.alloc (.cells #[.bool full, .bool round, .bool false, .bool false, .int .u64 fl, .int .u64 tg, .int .u64 cp, .int .u64 rd, .int .u64 el, .int .u64 wt] 136))
            generalize w.alloc (.cells #[.bool full, .bool round, .bool false, .bool false, .int .u64 fl, .int .u64 tg, .int .u64 cp, .int .u64 rd, .int .u64 el, .int .u64 wt] 136) = w1 at *
            generalize w.heap.size = b at *
            clear HH
            (try clear k1); have k1 := H1.out.cells
            go_wp2_with fail
            refine (refRight14_c _ _).mono ?_
            rintro e w' ⟨rfl, rfl⟩
            rw [e1]
            go_wp2_with fail
            refine wp_region_calm w [pts b (.cells #[.bool full, .bool round, .bool false, .bool false, .int .u64 fl, .int .u64 tg, .int .u64 cp, .int .u64 rd, .int .u64 el, .int .u64 wt] 136 (0, 0)), old w] (by kernel_rfl) (by kernel_rfl) H1.out ?_
            repeat
              first
              | go_big_quiet_skip
              | (go_big_quiet_want; go_big_quiet_op; first | go_big_quiet_on | (apply Exists.intro; refine ⟨?_, ?_⟩; (focus (intro wx hx; have x1' := hx.cells; first | (first | (go_at_call 66; refine (refShare_c wx tg 5 4 hx2.out (by decide) (by decide)).mono ?_; rintro e wy ⟨rfl, hbel⟩; exact ⟨rfl, (by first | exact .same hbel | exact .drew hbel | exact .below hbel : Kp wx wy) _ _ hx⟩)) | (go_simp; first | rfl | exact ⟨rfl, rfl⟩) | rfl | exact ⟨rfl, rfl⟩)); go_big_quiet_on))
              | (refine wpQuiet_step (fun K hK => ?_)
                 go_simp
                 first
                 | (refine hK _ ?_; clear hK K)
                 | (apply Exists.intro
                    refine ⟨?_, hK _ ?_⟩
                    (focus (intro wx hx; have x1' := hx.cells; first | (first | (go_at_call 66; refine (refShare_c wx tg 5 4 hx2.out (by decide) (by decide)).mono ?_; rintro e wy ⟨rfl, hbel⟩; exact ⟨rfl, (by first | exact .same hbel | exact .drew hbel | exact .below hbel : Kp wx wy) _ _ hx⟩)) | (go_simp; first | rfl | exact ⟨rfl, rfl⟩) | rfl | exact ⟨rfl, rfl⟩))
                    clear hK K))
            refine wpQuiet_nil ?_
            intro w4 H9_
            replace H1 := Lib.hid H9_
            clear H9_
            (try clear k1); have k1 := H1.out.cells
            go_wp2_with fail
            go_ret
            exact ⟨rfl, H1.out.tail.old_below⟩
        · have hrb := decide_eq_false hr
          have hr0 : ¬ 0 < rd := by omega
          have ev : nextI 5 ⟨full, round, false, false, fl, tg, cp, rd, el, wt⟩ = 5 := by simp [nextI, nextBase, hr0]
          rw [ev]
          clear ev
          have e1 : stOk 5 = true := by decide
          go_enter Tryz.func101, Tryz.ntmps101
          go_wp2_with (with_reducible first | refine stop_bs ?_ | refine stop_bx ?_ | refine stop_al ?_ | refine stop_ms ?_ | refine stop_app ?_ | refine stop_copy ?_)
          refine Stop.go ?_
          go_step
          go_simp
          have H1 := Lib.hid (HH.out.alloc (.cells #[.bool full, .bool round, .bool false, .bool false, .int .u64 fl, .int .u64 tg, .int .u64 cp, .int .u64 rd, .int .u64 el, .int .u64 wt] 136))
          generalize w.alloc (.cells #[.bool full, .bool round, .bool false, .bool false, .int .u64 fl, .int .u64 tg, .int .u64 cp, .int .u64 rd, .int .u64 el, .int .u64 wt] 136) = w1 at *
          generalize w.heap.size = b at *
          clear HH
          (try clear k1); have k1 := H1.out.cells
          go_wp2_with fail
          refine (refRight14_c _ _).mono ?_
          rintro e w' ⟨rfl, rfl⟩
          rw [e1]
          go_wp2_with fail
          refine wp_region_calm w [pts b (.cells #[.bool full, .bool round, .bool false, .bool false, .int .u64 fl, .int .u64 tg, .int .u64 cp, .int .u64 rd, .int .u64 el, .int .u64 wt] 136 (0, 0)), old w] (by kernel_rfl) (by kernel_rfl) H1.out ?_
          repeat
            first
            | go_big_quiet_skip
            | (go_big_quiet_want; go_big_quiet_op; first | go_big_quiet_on | (apply Exists.intro; refine ⟨?_, ?_⟩; (focus (intro wx hx; have x1' := hx.cells; first | (first | (go_at_call 66; refine (refShare_c wx tg 5 4 hx2.out (by decide) (by decide)).mono ?_; rintro e wy ⟨rfl, hbel⟩; exact ⟨rfl, (by first | exact .same hbel | exact .drew hbel | exact .below hbel : Kp wx wy) _ _ hx⟩)) | (go_simp; first | rfl | exact ⟨rfl, rfl⟩) | rfl | exact ⟨rfl, rfl⟩)); go_big_quiet_on))
            | (refine wpQuiet_step (fun K hK => ?_)
               go_simp
               first
               | (refine hK _ ?_; clear hK K)
               | (apply Exists.intro
                  refine ⟨?_, hK _ ?_⟩
                  (focus (intro wx hx; have x1' := hx.cells; first | (first | (go_at_call 66; refine (refShare_c wx tg 5 4 hx2.out (by decide) (by decide)).mono ?_; rintro e wy ⟨rfl, hbel⟩; exact ⟨rfl, (by first | exact .same hbel | exact .drew hbel | exact .below hbel : Kp wx wy) _ _ hx⟩)) | (go_simp; first | rfl | exact ⟨rfl, rfl⟩) | rfl | exact ⟨rfl, rfl⟩))
                  clear hK K))
          refine wpQuiet_nil ?_
          intro w4 H9_
          replace H1 := Lib.hid H9_
          clear H9_
          (try clear k1); have k1 := H1.out.cells
          go_wp2_with fail
          go_ret
          exact ⟨rfl, H1.out.tail.old_below⟩
  · cases stale with
    | true =>
      by_cases hw : wt ≤ el
      · have hwb := decide_eq_true hw
        by_cases hr : 1 ≤ rd
        · have hrb := decide_eq_true hr
          have hr0 : 0 < rd := by omega
          cases full with
          | true =>
            have ev : nextI 6 ⟨true, round, lossy, true, fl, tg, cp, rd, el, wt⟩ = 3 := by simp [nextI, nextBase, hw, hr0]
            rw [ev]
            clear ev
            have e1 : stOk 6 = true := by decide
            go_enter Tryz.func101, Tryz.ntmps101
            go_wp2_with (with_reducible first | refine stop_bs ?_ | refine stop_bx ?_ | refine stop_al ?_ | refine stop_ms ?_ | refine stop_app ?_ | refine stop_copy ?_)
            refine Stop.go ?_
            go_step
            go_simp
            have H1 := Lib.hid (HH.out.alloc (.cells #[.bool true, .bool round, .bool lossy, .bool true, .int .u64 fl, .int .u64 tg, .int .u64 cp, .int .u64 rd, .int .u64 el, .int .u64 wt] 136))
            generalize w.alloc (.cells #[.bool true, .bool round, .bool lossy, .bool true, .int .u64 fl, .int .u64 tg, .int .u64 cp, .int .u64 rd, .int .u64 el, .int .u64 wt] 136) = w1 at *
            generalize w.heap.size = b at *
            clear HH
            (try clear k1); have k1 := H1.out.cells
            go_wp2_with fail
            refine (refRight14_c _ _).mono ?_
            rintro e w' ⟨rfl, rfl⟩
            rw [e1]
            go_wp2_with fail
            go_ret
            exact ⟨rfl, H1.out.tail.old_below⟩
          | false =>
            have ev : nextI 6 ⟨false, round, lossy, true, fl, tg, cp, rd, el, wt⟩ = 0 := by simp [nextI, nextBase, hw, hr0]
            rw [ev]
            clear ev
            have e1 : stOk 6 = true := by decide
            go_enter Tryz.func101, Tryz.ntmps101
            go_wp2_with (with_reducible first | refine stop_bs ?_ | refine stop_bx ?_ | refine stop_al ?_ | refine stop_ms ?_ | refine stop_app ?_ | refine stop_copy ?_)
            refine Stop.go ?_
            go_step
            go_simp
            have H1 := Lib.hid (HH.out.alloc (.cells #[.bool false, .bool round, .bool lossy, .bool true, .int .u64 fl, .int .u64 tg, .int .u64 cp, .int .u64 rd, .int .u64 el, .int .u64 wt] 136))
            generalize w.alloc (.cells #[.bool false, .bool round, .bool lossy, .bool true, .int .u64 fl, .int .u64 tg, .int .u64 cp, .int .u64 rd, .int .u64 el, .int .u64 wt] 136) = w1 at *
            generalize w.heap.size = b at *
            clear HH
            (try clear k1); have k1 := H1.out.cells
            go_wp2_with fail
            refine (refRight14_c _ _).mono ?_
            rintro e w' ⟨rfl, rfl⟩
            rw [e1]
            go_wp2_with fail
            go_ret
            exact ⟨rfl, H1.out.tail.old_below⟩
        · have hrb := decide_eq_false hr
          have hr0 : ¬ 0 < rd := by omega
          have ev : nextI 6 ⟨full, round, lossy, true, fl, tg, cp, rd, el, wt⟩ = 6 := by simp [nextI, nextBase, hw, hr0]
          rw [ev]
          clear ev
          have e1 : stOk 6 = true := by decide
          go_enter Tryz.func101, Tryz.ntmps101
          go_wp2_with (with_reducible first | refine stop_bs ?_ | refine stop_bx ?_ | refine stop_al ?_ | refine stop_ms ?_ | refine stop_app ?_ | refine stop_copy ?_)
          refine Stop.go ?_
          go_step
          go_simp
          have H1 := Lib.hid (HH.out.alloc (.cells #[.bool full, .bool round, .bool lossy, .bool true, .int .u64 fl, .int .u64 tg, .int .u64 cp, .int .u64 rd, .int .u64 el, .int .u64 wt] 136))
          generalize w.alloc (.cells #[.bool full, .bool round, .bool lossy, .bool true, .int .u64 fl, .int .u64 tg, .int .u64 cp, .int .u64 rd, .int .u64 el, .int .u64 wt] 136) = w1 at *
          generalize w.heap.size = b at *
          clear HH
          (try clear k1); have k1 := H1.out.cells
          go_wp2_with fail
          refine (refRight14_c _ _).mono ?_
          rintro e w' ⟨rfl, rfl⟩
          rw [e1]
          go_wp2_with fail
          go_ret
          exact ⟨rfl, H1.out.tail.old_below⟩
      · have hwb := decide_eq_false hw
        have ev : nextI 6 ⟨full, round, lossy, true, fl, tg, cp, rd, el, wt⟩ = 6 := by simp [nextI, nextBase, hw]
        rw [ev]
        clear ev
        have e1 : stOk 6 = true := by decide
        go_enter Tryz.func101, Tryz.ntmps101
        go_wp2_with (with_reducible first | refine stop_bs ?_ | refine stop_bx ?_ | refine stop_al ?_ | refine stop_ms ?_ | refine stop_app ?_ | refine stop_copy ?_)
        refine Stop.go ?_
        go_step
        go_simp
        have H1 := Lib.hid (HH.out.alloc (.cells #[.bool full, .bool round, .bool lossy, .bool true, .int .u64 fl, .int .u64 tg, .int .u64 cp, .int .u64 rd, .int .u64 el, .int .u64 wt] 136))
        generalize w.alloc (.cells #[.bool full, .bool round, .bool lossy, .bool true, .int .u64 fl, .int .u64 tg, .int .u64 cp, .int .u64 rd, .int .u64 el, .int .u64 wt] 136) = w1 at *
        generalize w.heap.size = b at *
        clear HH
        (try clear k1); have k1 := H1.out.cells
        go_wp2_with fail
        refine (refRight14_c _ _).mono ?_
        rintro e w' ⟨rfl, rfl⟩
        rw [e1]
        go_wp2_with fail
        go_ret
        exact ⟨rfl, H1.out.tail.old_below⟩
    | false =>
      by_cases hw : wt ≤ el
      · have hwb := decide_eq_true hw
        by_cases hr : 1 ≤ rd
        · have hrb := decide_eq_true hr
          have hr0 : 0 < rd := by omega
          cases full with
          | true =>
            have ev : nextI 6 ⟨true, round, lossy, false, fl, tg, cp, rd, el, wt⟩ = 3 := by simp [nextI, nextBase, hw, hr0]
            rw [ev]
            clear ev
            have e1 : stOk 6 = true := by decide
            go_enter Tryz.func101, Tryz.ntmps101
            go_wp2_with (with_reducible first | refine stop_bs ?_ | refine stop_bx ?_ | refine stop_al ?_ | refine stop_ms ?_ | refine stop_app ?_ | refine stop_copy ?_)
            refine Stop.go ?_
            go_step
            go_simp
            have H1 := Lib.hid (HH.out.alloc (.cells #[.bool true, .bool round, .bool lossy, .bool false, .int .u64 fl, .int .u64 tg, .int .u64 cp, .int .u64 rd, .int .u64 el, .int .u64 wt] 136))
            generalize w.alloc (.cells #[.bool true, .bool round, .bool lossy, .bool false, .int .u64 fl, .int .u64 tg, .int .u64 cp, .int .u64 rd, .int .u64 el, .int .u64 wt] 136) = w1 at *
            generalize w.heap.size = b at *
            clear HH
            (try clear k1); have k1 := H1.out.cells
            go_wp2_with fail
            refine (refRight14_c _ _).mono ?_
            rintro e w' ⟨rfl, rfl⟩
            rw [e1]
            go_wp2_with fail
            go_ret
            exact ⟨rfl, H1.out.tail.old_below⟩
          | false =>
            have ev : nextI 6 ⟨false, round, lossy, false, fl, tg, cp, rd, el, wt⟩ = 0 := by simp [nextI, nextBase, hw, hr0]
            rw [ev]
            clear ev
            have e1 : stOk 6 = true := by decide
            go_enter Tryz.func101, Tryz.ntmps101
            go_wp2_with (with_reducible first | refine stop_bs ?_ | refine stop_bx ?_ | refine stop_al ?_ | refine stop_ms ?_ | refine stop_app ?_ | refine stop_copy ?_)
            refine Stop.go ?_
            go_step
            go_simp
            have H1 := Lib.hid (HH.out.alloc (.cells #[.bool false, .bool round, .bool lossy, .bool false, .int .u64 fl, .int .u64 tg, .int .u64 cp, .int .u64 rd, .int .u64 el, .int .u64 wt] 136))
            generalize w.alloc (.cells #[.bool false, .bool round, .bool lossy, .bool false, .int .u64 fl, .int .u64 tg, .int .u64 cp, .int .u64 rd, .int .u64 el, .int .u64 wt] 136) = w1 at *
            generalize w.heap.size = b at *
            clear HH
            (try clear k1); have k1 := H1.out.cells
            go_wp2_with fail
            refine (refRight14_c _ _).mono ?_
            rintro e w' ⟨rfl, rfl⟩
            rw [e1]
            go_wp2_with fail
            go_ret
            exact ⟨rfl, H1.out.tail.old_below⟩
        · have hrb := decide_eq_false hr
          have hr0 : ¬ 0 < rd := by omega
          have ev : nextI 6 ⟨full, round, lossy, false, fl, tg, cp, rd, el, wt⟩ = 6 := by simp [nextI, nextBase, hw, hr0]
          rw [ev]
          clear ev
          have e1 : stOk 6 = true := by decide
          go_enter Tryz.func101, Tryz.ntmps101
          go_wp2_with (with_reducible first | refine stop_bs ?_ | refine stop_bx ?_ | refine stop_al ?_ | refine stop_ms ?_ | refine stop_app ?_ | refine stop_copy ?_)
          refine Stop.go ?_
          go_step
          go_simp
          have H1 := Lib.hid (HH.out.alloc (.cells #[.bool full, .bool round, .bool lossy, .bool false, .int .u64 fl, .int .u64 tg, .int .u64 cp, .int .u64 rd, .int .u64 el, .int .u64 wt] 136))
          generalize w.alloc (.cells #[.bool full, .bool round, .bool lossy, .bool false, .int .u64 fl, .int .u64 tg, .int .u64 cp, .int .u64 rd, .int .u64 el, .int .u64 wt] 136) = w1 at *
          generalize w.heap.size = b at *
          clear HH
          (try clear k1); have k1 := H1.out.cells
          go_wp2_with fail
          refine (refRight14_c _ _).mono ?_
          rintro e w' ⟨rfl, rfl⟩
          rw [e1]
          go_wp2_with fail
          go_ret
          exact ⟨rfl, H1.out.tail.old_below⟩
      · have hwb := decide_eq_false hw
        have ev : nextI 6 ⟨full, round, lossy, false, fl, tg, cp, rd, el, wt⟩ = 6 := by simp [nextI, nextBase, hw]
        rw [ev]
        clear ev
        have e1 : stOk 6 = true := by decide
        go_enter Tryz.func101, Tryz.ntmps101
        go_wp2_with (with_reducible first | refine stop_bs ?_ | refine stop_bx ?_ | refine stop_al ?_ | refine stop_ms ?_ | refine stop_app ?_ | refine stop_copy ?_)
        refine Stop.go ?_
        go_step
        go_simp
        have H1 := Lib.hid (HH.out.alloc (.cells #[.bool full, .bool round, .bool lossy, .bool false, .int .u64 fl, .int .u64 tg, .int .u64 cp, .int .u64 rd, .int .u64 el, .int .u64 wt] 136))
        generalize w.alloc (.cells #[.bool full, .bool round, .bool lossy, .bool false, .int .u64 fl, .int .u64 tg, .int .u64 cp, .int .u64 rd, .int .u64 el, .int .u64 wt] 136) = w1 at *
        generalize w.heap.size = b at *
        clear HH
        (try clear k1); have k1 := H1.out.cells
        go_wp2_with fail
        refine (refRight14_c _ _).mono ?_
        rintro e w' ⟨rfl, rfl⟩
        rw [e1]
        go_wp2_with fail
        go_ret
        exact ⟨rfl, H1.out.tail.old_below⟩
  · cases stale with
    | true =>
      have ev : nextI s ⟨full, round, lossy, true, fl, tg, cp, rd, el, wt⟩ = s := by unfold nextI nextBase; rw [if_neg (fun h => hs ⟨h.2.1, by omega⟩), if_neg (by omega), if_neg (by omega), if_neg (by omega), if_neg (by omega), if_neg (by omega), if_neg (by omega), if_neg (by omega)]
      rw [ev]
      clear ev
      have e1 : stOk s = false := decide_eq_false hs
      have d0 : (s == 0) = false := by simp; omega
      have d1 : (s == 1) = false := by simp; omega
      have d2 : (s == 2) = false := by simp; omega
      have d3 : (s == 3) = false := by simp; omega
      have d4 : (s == 4) = false := by simp; omega
      have d5 : (s == 5) = false := by simp; omega
      have d6 : (s == 6) = false := by simp; omega
      go_enter Tryz.func101, Tryz.ntmps101
      go_wp2_with (with_reducible first | refine stop_bs ?_ | refine stop_bx ?_ | refine stop_al ?_ | refine stop_ms ?_ | refine stop_app ?_ | refine stop_copy ?_)
      refine Stop.go ?_
      go_step
      go_simp
      have H1 := Lib.hid (HH.out.alloc (.cells #[.bool full, .bool round, .bool lossy, .bool true, .int .u64 fl, .int .u64 tg, .int .u64 cp, .int .u64 rd, .int .u64 el, .int .u64 wt] 136))
      generalize w.alloc (.cells #[.bool full, .bool round, .bool lossy, .bool true, .int .u64 fl, .int .u64 tg, .int .u64 cp, .int .u64 rd, .int .u64 el, .int .u64 wt] 136) = w1 at *
      generalize w.heap.size = b at *
      clear HH
      (try clear k1); have k1 := H1.out.cells
      go_wp2_with fail
      refine (refRight14_c _ _).mono ?_
      rintro e w' ⟨rfl, rfl⟩
      rw [e1]
      go_wp2_with fail
      go_ret
      exact ⟨rfl, H1.out.tail.old_below⟩
    | false =>
      have ev : nextI s ⟨full, round, lossy, false, fl, tg, cp, rd, el, wt⟩ = s := by unfold nextI nextBase; rw [if_neg (fun h => hs ⟨h.2.1, by omega⟩), if_neg (by omega), if_neg (by omega), if_neg (by omega), if_neg (by omega), if_neg (by omega), if_neg (by omega), if_neg (by omega)]
      rw [ev]
      clear ev
      have e1 : stOk s = false := decide_eq_false hs
      have d0 : (s == 0) = false := by simp; omega
      have d1 : (s == 1) = false := by simp; omega
      have d2 : (s == 2) = false := by simp; omega
      have d3 : (s == 3) = false := by simp; omega
      have d4 : (s == 4) = false := by simp; omega
      have d5 : (s == 5) = false := by simp; omega
      have d6 : (s == 6) = false := by simp; omega
      go_enter Tryz.func101, Tryz.ntmps101
      go_wp2_with (with_reducible first | refine stop_bs ?_ | refine stop_bx ?_ | refine stop_al ?_ | refine stop_ms ?_ | refine stop_app ?_ | refine stop_copy ?_)
      refine Stop.go ?_
      go_step
      go_simp
      have H1 := Lib.hid (HH.out.alloc (.cells #[.bool full, .bool round, .bool lossy, .bool false, .int .u64 fl, .int .u64 tg, .int .u64 cp, .int .u64 rd, .int .u64 el, .int .u64 wt] 136))
      generalize w.alloc (.cells #[.bool full, .bool round, .bool lossy, .bool false, .int .u64 fl, .int .u64 tg, .int .u64 cp, .int .u64 rd, .int .u64 el, .int .u64 wt] 136) = w1 at *
      generalize w.heap.size = b at *
      clear HH
      (try clear k1); have k1 := H1.out.cells
      go_wp2_with fail
      refine (refRight14_c _ _).mono ?_
      rintro e w' ⟨rfl, rfl⟩
      rw [e1]
      go_wp2_with fail
      go_ret
      exact ⟨rfl, H1.out.tail.old_below⟩
end
end Go.Proofs.YtpfbbpiidhhkbaaGreat
