/- mode: what follows, and what is next. -/
import Derived.Test.YtpfbbpiidhhkbaaGreatMode
namespace Go.Proofs.YtpfbbpiidhhkbaaGreat
open Go.RowKit
section
variable (w : World)
set_option maxHeartbeats 3200000 in
theorem modeFollows_c (s t : Int) : Calls Tryz.prog 123 #[.int .i64 s, .int .i64 t] w fun e w' => e = .returned (.bool (follows s t)) ∧ Below w.heap.size w w' := by
  have HH := Lib.hid (Own.init w)
  have hn := modeArrows_c w w [old w] HH.out
  rcases st_cases s with (rfl | rfl | rfl | rfl | rfl | rfl | rfl) | hs
  · by_cases h1 : (0 : Int) = t
    · rw [show follows 0 t = true by subst h1; decide]
      have b1 : ((0 : Int) == t) = true := by simpa using h1
      clear h1
      go_enter Tryz.func123, Tryz.ntmps123
      go_wp2_with fail
      refine (hn).mono ?_
      rintro e w2 ⟨b, g0, g1, g2, g3, g4, g5, g6, rfl, H2⟩
      replace H2 := Lib.hid H2
      clear hn
      have hl := run_lookup_has (P := Tryz.prog) 170 45 168 (.int .i64) (.int .i64 0) (.slice (some ⟨g0, 0, none⟩) 1 1) 0 Tryz.underlying170 Tryz.underlying45 rfl H2.out (by kernel_rfl)
      go_wp2_with fail
      go_ret
      exact ⟨rfl, ((Own.pm (H2.out) (by with_reducible repeat (first | exact .refl _ | exact .nil _ | refine .here ?_ | refine .at2 ?_ | refine .at3 ?_ | refine .at4 ?_ | refine .at5 ?_ | refine .at6 ?_ | refine .at7 ?_ | refine .at8 ?_ | refine .skip ?_))) : Own w w2 [old w]).old_below⟩
    have b1 : ((0 : Int) == t) = false := by simpa using h1
    by_cases h2 : t = 6
    · rw [show follows 0 t = true by subst h2; decide]
      have b2 : (t == 6) = true := by simpa using h2
      clear h1 h2
      go_enter Tryz.func123, Tryz.ntmps123
      go_wp2_with fail
      refine (hn).mono ?_
      rintro e w2 ⟨b, g0, g1, g2, g3, g4, g5, g6, rfl, H2⟩
      replace H2 := Lib.hid H2
      clear hn
      have hl := run_lookup_has (P := Tryz.prog) 170 45 168 (.int .i64) (.int .i64 0) (.slice (some ⟨g0, 0, none⟩) 1 1) 0 Tryz.underlying170 Tryz.underlying45 rfl H2.out (by kernel_rfl)
      go_wp2_with fail
      go_ret
      exact ⟨rfl, ((Own.pm (H2.out) (by with_reducible repeat (first | exact .refl _ | exact .nil _ | refine .here ?_ | refine .at2 ?_ | refine .at3 ?_ | refine .at4 ?_ | refine .at5 ?_ | refine .at6 ?_ | refine .at7 ?_ | refine .at8 ?_ | refine .skip ?_))) : Own w w2 [old w]).old_below⟩
    have b2 : (t == 6) = false := by simpa using h2
    rw [show follows 0 t = (decide (t = 1)) by unfold follows; rw [b1, b2, show stOk 0 = true by decide, show arrows 0 = [1] by rfl]; simp]
    clear h1 h2
    go_enter Tryz.func123, Tryz.ntmps123
    go_wp2_with fail
    refine (hn).mono ?_
    rintro e w2 ⟨b, g0, g1, g2, g3, g4, g5, g6, rfl, H2⟩
    replace H2 := Lib.hid H2
    clear hn
    have hl := run_lookup_has (P := Tryz.prog) 170 45 168 (.int .i64) (.int .i64 0) (.slice (some ⟨g0, 0, none⟩) 1 1) 0 Tryz.underlying170 Tryz.underlying45 rfl H2.out (by kernel_rfl)
    have hc := ((Own.pm (H2.out) (by with_reducible repeat (first | exact .refl _ | exact .nil _ | refine .here ?_ | refine .at2 ?_ | refine .at3 ?_ | refine .at4 ?_ | refine .at5 ?_ | refine .at6 ?_ | refine .at7 ?_ | refine .at8 ?_ | refine .skip ?_))) : Own w w2 (pts g0 (.cells #[.int .i64 1] 45 (0, 0)) :: _)).cells.1
    have hc0 := hc 0
    clear hc
    go_wp2_with fail
    refine (contains1_c _ g0 1 1 t hc0 ).mono ?_
    rintro e w' ⟨rfl, rfl⟩
    go_wp2_with fail
    go_ret
    exact ⟨rfl, ((Own.pm (H2.out) (by with_reducible repeat (first | exact .refl _ | exact .nil _ | refine .here ?_ | refine .at2 ?_ | refine .at3 ?_ | refine .at4 ?_ | refine .at5 ?_ | refine .at6 ?_ | refine .at7 ?_ | refine .at8 ?_ | refine .skip ?_))) : Own w w2 [old w]).old_below⟩
  · by_cases h1 : (1 : Int) = t
    · rw [show follows 1 t = true by subst h1; decide]
      have b1 : ((1 : Int) == t) = true := by simpa using h1
      clear h1
      go_enter Tryz.func123, Tryz.ntmps123
      go_wp2_with fail
      refine (hn).mono ?_
      rintro e w2 ⟨b, g0, g1, g2, g3, g4, g5, g6, rfl, H2⟩
      replace H2 := Lib.hid H2
      clear hn
      have hl := run_lookup_has (P := Tryz.prog) 170 45 168 (.int .i64) (.int .i64 1) (.slice (some ⟨g1, 0, none⟩) 1 1) 1 Tryz.underlying170 Tryz.underlying45 rfl H2.out (by kernel_rfl)
      go_wp2_with fail
      go_ret
      exact ⟨rfl, ((Own.pm (H2.out) (by with_reducible repeat (first | exact .refl _ | exact .nil _ | refine .here ?_ | refine .at2 ?_ | refine .at3 ?_ | refine .at4 ?_ | refine .at5 ?_ | refine .at6 ?_ | refine .at7 ?_ | refine .at8 ?_ | refine .skip ?_))) : Own w w2 [old w]).old_below⟩
    have b1 : ((1 : Int) == t) = false := by simpa using h1
    by_cases h2 : t = 6
    · rw [show follows 1 t = true by subst h2; decide]
      have b2 : (t == 6) = true := by simpa using h2
      clear h1 h2
      go_enter Tryz.func123, Tryz.ntmps123
      go_wp2_with fail
      refine (hn).mono ?_
      rintro e w2 ⟨b, g0, g1, g2, g3, g4, g5, g6, rfl, H2⟩
      replace H2 := Lib.hid H2
      clear hn
      have hl := run_lookup_has (P := Tryz.prog) 170 45 168 (.int .i64) (.int .i64 1) (.slice (some ⟨g1, 0, none⟩) 1 1) 1 Tryz.underlying170 Tryz.underlying45 rfl H2.out (by kernel_rfl)
      go_wp2_with fail
      go_ret
      exact ⟨rfl, ((Own.pm (H2.out) (by with_reducible repeat (first | exact .refl _ | exact .nil _ | refine .here ?_ | refine .at2 ?_ | refine .at3 ?_ | refine .at4 ?_ | refine .at5 ?_ | refine .at6 ?_ | refine .at7 ?_ | refine .at8 ?_ | refine .skip ?_))) : Own w w2 [old w]).old_below⟩
    have b2 : (t == 6) = false := by simpa using h2
    rw [show follows 1 t = (decide (t = 2)) by unfold follows; rw [b1, b2, show stOk 1 = true by decide, show arrows 1 = [2] by rfl]; simp]
    clear h1 h2
    go_enter Tryz.func123, Tryz.ntmps123
    go_wp2_with fail
    refine (hn).mono ?_
    rintro e w2 ⟨b, g0, g1, g2, g3, g4, g5, g6, rfl, H2⟩
    replace H2 := Lib.hid H2
    clear hn
    have hl := run_lookup_has (P := Tryz.prog) 170 45 168 (.int .i64) (.int .i64 1) (.slice (some ⟨g1, 0, none⟩) 1 1) 1 Tryz.underlying170 Tryz.underlying45 rfl H2.out (by kernel_rfl)
    have hc := ((Own.pm (H2.out) (by with_reducible repeat (first | exact .refl _ | exact .nil _ | refine .here ?_ | refine .at2 ?_ | refine .at3 ?_ | refine .at4 ?_ | refine .at5 ?_ | refine .at6 ?_ | refine .at7 ?_ | refine .at8 ?_ | refine .skip ?_))) : Own w w2 (pts g1 (.cells #[.int .i64 2] 45 (0, 0)) :: _)).cells.1
    have hc0 := hc 0
    clear hc
    go_wp2_with fail
    refine (contains1_c _ g1 1 2 t hc0 ).mono ?_
    rintro e w' ⟨rfl, rfl⟩
    go_wp2_with fail
    go_ret
    exact ⟨rfl, ((Own.pm (H2.out) (by with_reducible repeat (first | exact .refl _ | exact .nil _ | refine .here ?_ | refine .at2 ?_ | refine .at3 ?_ | refine .at4 ?_ | refine .at5 ?_ | refine .at6 ?_ | refine .at7 ?_ | refine .at8 ?_ | refine .skip ?_))) : Own w w2 [old w]).old_below⟩
  · by_cases h1 : (2 : Int) = t
    · rw [show follows 2 t = true by subst h1; decide]
      have b1 : ((2 : Int) == t) = true := by simpa using h1
      clear h1
      go_enter Tryz.func123, Tryz.ntmps123
      go_wp2_with fail
      refine (hn).mono ?_
      rintro e w2 ⟨b, g0, g1, g2, g3, g4, g5, g6, rfl, H2⟩
      replace H2 := Lib.hid H2
      clear hn
      have hl := run_lookup_has (P := Tryz.prog) 170 45 168 (.int .i64) (.int .i64 2) (.slice (some ⟨g2, 0, none⟩) 2 2) 2 Tryz.underlying170 Tryz.underlying45 rfl H2.out (by kernel_rfl)
      go_wp2_with fail
      go_ret
      exact ⟨rfl, ((Own.pm (H2.out) (by with_reducible repeat (first | exact .refl _ | exact .nil _ | refine .here ?_ | refine .at2 ?_ | refine .at3 ?_ | refine .at4 ?_ | refine .at5 ?_ | refine .at6 ?_ | refine .at7 ?_ | refine .at8 ?_ | refine .skip ?_))) : Own w w2 [old w]).old_below⟩
    have b1 : ((2 : Int) == t) = false := by simpa using h1
    by_cases h2 : t = 6
    · rw [show follows 2 t = true by subst h2; decide]
      have b2 : (t == 6) = true := by simpa using h2
      clear h1 h2
      go_enter Tryz.func123, Tryz.ntmps123
      go_wp2_with fail
      refine (hn).mono ?_
      rintro e w2 ⟨b, g0, g1, g2, g3, g4, g5, g6, rfl, H2⟩
      replace H2 := Lib.hid H2
      clear hn
      have hl := run_lookup_has (P := Tryz.prog) 170 45 168 (.int .i64) (.int .i64 2) (.slice (some ⟨g2, 0, none⟩) 2 2) 2 Tryz.underlying170 Tryz.underlying45 rfl H2.out (by kernel_rfl)
      go_wp2_with fail
      go_ret
      exact ⟨rfl, ((Own.pm (H2.out) (by with_reducible repeat (first | exact .refl _ | exact .nil _ | refine .here ?_ | refine .at2 ?_ | refine .at3 ?_ | refine .at4 ?_ | refine .at5 ?_ | refine .at6 ?_ | refine .at7 ?_ | refine .at8 ?_ | refine .skip ?_))) : Own w w2 [old w]).old_below⟩
    have b2 : (t == 6) = false := by simpa using h2
    rw [show follows 2 t = (decide (t = 3) || decide (t = 4)) by unfold follows; rw [b1, b2, show stOk 2 = true by decide, show arrows 2 = [3, 4] by rfl]; simp]
    clear h1 h2
    go_enter Tryz.func123, Tryz.ntmps123
    go_wp2_with fail
    refine (hn).mono ?_
    rintro e w2 ⟨b, g0, g1, g2, g3, g4, g5, g6, rfl, H2⟩
    replace H2 := Lib.hid H2
    clear hn
    have hl := run_lookup_has (P := Tryz.prog) 170 45 168 (.int .i64) (.int .i64 2) (.slice (some ⟨g2, 0, none⟩) 2 2) 2 Tryz.underlying170 Tryz.underlying45 rfl H2.out (by kernel_rfl)
    have hc := ((Own.pm (H2.out) (by with_reducible repeat (first | exact .refl _ | exact .nil _ | refine .here ?_ | refine .at2 ?_ | refine .at3 ?_ | refine .at4 ?_ | refine .at5 ?_ | refine .at6 ?_ | refine .at7 ?_ | refine .at8 ?_ | refine .skip ?_))) : Own w w2 (pts g2 (.cells #[.int .i64 3, .int .i64 4] 45 (0, 0)) :: _)).cells.1
    have hc0 := hc 0
    have hc1 := hc 1
    clear hc
    go_wp2_with fail
    refine (contains2_c _ g2 2 3 4 t hc0 hc1).mono ?_
    rintro e w' ⟨rfl, rfl⟩
    go_wp2_with fail
    go_ret
    exact ⟨rfl, ((Own.pm (H2.out) (by with_reducible repeat (first | exact .refl _ | exact .nil _ | refine .here ?_ | refine .at2 ?_ | refine .at3 ?_ | refine .at4 ?_ | refine .at5 ?_ | refine .at6 ?_ | refine .at7 ?_ | refine .at8 ?_ | refine .skip ?_))) : Own w w2 [old w]).old_below⟩
  · by_cases h1 : (3 : Int) = t
    · rw [show follows 3 t = true by subst h1; decide]
      have b1 : ((3 : Int) == t) = true := by simpa using h1
      clear h1
      go_enter Tryz.func123, Tryz.ntmps123
      go_wp2_with fail
      refine (hn).mono ?_
      rintro e w2 ⟨b, g0, g1, g2, g3, g4, g5, g6, rfl, H2⟩
      replace H2 := Lib.hid H2
      clear hn
      have hl := run_lookup_has (P := Tryz.prog) 170 45 168 (.int .i64) (.int .i64 3) (.slice (some ⟨g3, 0, none⟩) 1 1) 3 Tryz.underlying170 Tryz.underlying45 rfl H2.out (by kernel_rfl)
      go_wp2_with fail
      go_ret
      exact ⟨rfl, ((Own.pm (H2.out) (by with_reducible repeat (first | exact .refl _ | exact .nil _ | refine .here ?_ | refine .at2 ?_ | refine .at3 ?_ | refine .at4 ?_ | refine .at5 ?_ | refine .at6 ?_ | refine .at7 ?_ | refine .at8 ?_ | refine .skip ?_))) : Own w w2 [old w]).old_below⟩
    have b1 : ((3 : Int) == t) = false := by simpa using h1
    by_cases h2 : t = 6
    · rw [show follows 3 t = true by subst h2; decide]
      have b2 : (t == 6) = true := by simpa using h2
      clear h1 h2
      go_enter Tryz.func123, Tryz.ntmps123
      go_wp2_with fail
      refine (hn).mono ?_
      rintro e w2 ⟨b, g0, g1, g2, g3, g4, g5, g6, rfl, H2⟩
      replace H2 := Lib.hid H2
      clear hn
      have hl := run_lookup_has (P := Tryz.prog) 170 45 168 (.int .i64) (.int .i64 3) (.slice (some ⟨g3, 0, none⟩) 1 1) 3 Tryz.underlying170 Tryz.underlying45 rfl H2.out (by kernel_rfl)
      go_wp2_with fail
      go_ret
      exact ⟨rfl, ((Own.pm (H2.out) (by with_reducible repeat (first | exact .refl _ | exact .nil _ | refine .here ?_ | refine .at2 ?_ | refine .at3 ?_ | refine .at4 ?_ | refine .at5 ?_ | refine .at6 ?_ | refine .at7 ?_ | refine .at8 ?_ | refine .skip ?_))) : Own w w2 [old w]).old_below⟩
    have b2 : (t == 6) = false := by simpa using h2
    rw [show follows 3 t = (decide (t = 4)) by unfold follows; rw [b1, b2, show stOk 3 = true by decide, show arrows 3 = [4] by rfl]; simp]
    clear h1 h2
    go_enter Tryz.func123, Tryz.ntmps123
    go_wp2_with fail
    refine (hn).mono ?_
    rintro e w2 ⟨b, g0, g1, g2, g3, g4, g5, g6, rfl, H2⟩
    replace H2 := Lib.hid H2
    clear hn
    have hl := run_lookup_has (P := Tryz.prog) 170 45 168 (.int .i64) (.int .i64 3) (.slice (some ⟨g3, 0, none⟩) 1 1) 3 Tryz.underlying170 Tryz.underlying45 rfl H2.out (by kernel_rfl)
    have hc := ((Own.pm (H2.out) (by with_reducible repeat (first | exact .refl _ | exact .nil _ | refine .here ?_ | refine .at2 ?_ | refine .at3 ?_ | refine .at4 ?_ | refine .at5 ?_ | refine .at6 ?_ | refine .at7 ?_ | refine .at8 ?_ | refine .skip ?_))) : Own w w2 (pts g3 (.cells #[.int .i64 4] 45 (0, 0)) :: _)).cells.1
    have hc0 := hc 0
    clear hc
    go_wp2_with fail
    refine (contains1_c _ g3 1 4 t hc0 ).mono ?_
    rintro e w' ⟨rfl, rfl⟩
    go_wp2_with fail
    go_ret
    exact ⟨rfl, ((Own.pm (H2.out) (by with_reducible repeat (first | exact .refl _ | exact .nil _ | refine .here ?_ | refine .at2 ?_ | refine .at3 ?_ | refine .at4 ?_ | refine .at5 ?_ | refine .at6 ?_ | refine .at7 ?_ | refine .at8 ?_ | refine .skip ?_))) : Own w w2 [old w]).old_below⟩
  · by_cases h1 : (4 : Int) = t
    · rw [show follows 4 t = true by subst h1; decide]
      have b1 : ((4 : Int) == t) = true := by simpa using h1
      clear h1
      go_enter Tryz.func123, Tryz.ntmps123
      go_wp2_with fail
      refine (hn).mono ?_
      rintro e w2 ⟨b, g0, g1, g2, g3, g4, g5, g6, rfl, H2⟩
      replace H2 := Lib.hid H2
      clear hn
      have hl := run_lookup_has (P := Tryz.prog) 170 45 168 (.int .i64) (.int .i64 4) (.slice (some ⟨g4, 0, none⟩) 1 1) 4 Tryz.underlying170 Tryz.underlying45 rfl H2.out (by kernel_rfl)
      go_wp2_with fail
      go_ret
      exact ⟨rfl, ((Own.pm (H2.out) (by with_reducible repeat (first | exact .refl _ | exact .nil _ | refine .here ?_ | refine .at2 ?_ | refine .at3 ?_ | refine .at4 ?_ | refine .at5 ?_ | refine .at6 ?_ | refine .at7 ?_ | refine .at8 ?_ | refine .skip ?_))) : Own w w2 [old w]).old_below⟩
    have b1 : ((4 : Int) == t) = false := by simpa using h1
    by_cases h2 : t = 6
    · rw [show follows 4 t = true by subst h2; decide]
      have b2 : (t == 6) = true := by simpa using h2
      clear h1 h2
      go_enter Tryz.func123, Tryz.ntmps123
      go_wp2_with fail
      refine (hn).mono ?_
      rintro e w2 ⟨b, g0, g1, g2, g3, g4, g5, g6, rfl, H2⟩
      replace H2 := Lib.hid H2
      clear hn
      have hl := run_lookup_has (P := Tryz.prog) 170 45 168 (.int .i64) (.int .i64 4) (.slice (some ⟨g4, 0, none⟩) 1 1) 4 Tryz.underlying170 Tryz.underlying45 rfl H2.out (by kernel_rfl)
      go_wp2_with fail
      go_ret
      exact ⟨rfl, ((Own.pm (H2.out) (by with_reducible repeat (first | exact .refl _ | exact .nil _ | refine .here ?_ | refine .at2 ?_ | refine .at3 ?_ | refine .at4 ?_ | refine .at5 ?_ | refine .at6 ?_ | refine .at7 ?_ | refine .at8 ?_ | refine .skip ?_))) : Own w w2 [old w]).old_below⟩
    have b2 : (t == 6) = false := by simpa using h2
    rw [show follows 4 t = (decide (t = 5)) by unfold follows; rw [b1, b2, show stOk 4 = true by decide, show arrows 4 = [5] by rfl]; simp]
    clear h1 h2
    go_enter Tryz.func123, Tryz.ntmps123
    go_wp2_with fail
    refine (hn).mono ?_
    rintro e w2 ⟨b, g0, g1, g2, g3, g4, g5, g6, rfl, H2⟩
    replace H2 := Lib.hid H2
    clear hn
    have hl := run_lookup_has (P := Tryz.prog) 170 45 168 (.int .i64) (.int .i64 4) (.slice (some ⟨g4, 0, none⟩) 1 1) 4 Tryz.underlying170 Tryz.underlying45 rfl H2.out (by kernel_rfl)
    have hc := ((Own.pm (H2.out) (by with_reducible repeat (first | exact .refl _ | exact .nil _ | refine .here ?_ | refine .at2 ?_ | refine .at3 ?_ | refine .at4 ?_ | refine .at5 ?_ | refine .at6 ?_ | refine .at7 ?_ | refine .at8 ?_ | refine .skip ?_))) : Own w w2 (pts g4 (.cells #[.int .i64 5] 45 (0, 0)) :: _)).cells.1
    have hc0 := hc 0
    clear hc
    go_wp2_with fail
    refine (contains1_c _ g4 1 5 t hc0 ).mono ?_
    rintro e w' ⟨rfl, rfl⟩
    go_wp2_with fail
    go_ret
    exact ⟨rfl, ((Own.pm (H2.out) (by with_reducible repeat (first | exact .refl _ | exact .nil _ | refine .here ?_ | refine .at2 ?_ | refine .at3 ?_ | refine .at4 ?_ | refine .at5 ?_ | refine .at6 ?_ | refine .at7 ?_ | refine .at8 ?_ | refine .skip ?_))) : Own w w2 [old w]).old_below⟩
  · by_cases h1 : (5 : Int) = t
    · rw [show follows 5 t = true by subst h1; decide]
      have b1 : ((5 : Int) == t) = true := by simpa using h1
      clear h1
      go_enter Tryz.func123, Tryz.ntmps123
      go_wp2_with fail
      refine (hn).mono ?_
      rintro e w2 ⟨b, g0, g1, g2, g3, g4, g5, g6, rfl, H2⟩
      replace H2 := Lib.hid H2
      clear hn
      have hl := run_lookup_has (P := Tryz.prog) 170 45 168 (.int .i64) (.int .i64 5) (.slice (some ⟨g5, 0, none⟩) 1 1) 5 Tryz.underlying170 Tryz.underlying45 rfl H2.out (by kernel_rfl)
      go_wp2_with fail
      go_ret
      exact ⟨rfl, ((Own.pm (H2.out) (by with_reducible repeat (first | exact .refl _ | exact .nil _ | refine .here ?_ | refine .at2 ?_ | refine .at3 ?_ | refine .at4 ?_ | refine .at5 ?_ | refine .at6 ?_ | refine .at7 ?_ | refine .at8 ?_ | refine .skip ?_))) : Own w w2 [old w]).old_below⟩
    have b1 : ((5 : Int) == t) = false := by simpa using h1
    by_cases h2 : t = 6
    · rw [show follows 5 t = true by subst h2; decide]
      have b2 : (t == 6) = true := by simpa using h2
      clear h1 h2
      go_enter Tryz.func123, Tryz.ntmps123
      go_wp2_with fail
      refine (hn).mono ?_
      rintro e w2 ⟨b, g0, g1, g2, g3, g4, g5, g6, rfl, H2⟩
      replace H2 := Lib.hid H2
      clear hn
      have hl := run_lookup_has (P := Tryz.prog) 170 45 168 (.int .i64) (.int .i64 5) (.slice (some ⟨g5, 0, none⟩) 1 1) 5 Tryz.underlying170 Tryz.underlying45 rfl H2.out (by kernel_rfl)
      go_wp2_with fail
      go_ret
      exact ⟨rfl, ((Own.pm (H2.out) (by with_reducible repeat (first | exact .refl _ | exact .nil _ | refine .here ?_ | refine .at2 ?_ | refine .at3 ?_ | refine .at4 ?_ | refine .at5 ?_ | refine .at6 ?_ | refine .at7 ?_ | refine .at8 ?_ | refine .skip ?_))) : Own w w2 [old w]).old_below⟩
    have b2 : (t == 6) = false := by simpa using h2
    rw [show follows 5 t = (decide (t = 2)) by unfold follows; rw [b1, b2, show stOk 5 = true by decide, show arrows 5 = [2] by rfl]; simp]
    clear h1 h2
    go_enter Tryz.func123, Tryz.ntmps123
    go_wp2_with fail
    refine (hn).mono ?_
    rintro e w2 ⟨b, g0, g1, g2, g3, g4, g5, g6, rfl, H2⟩
    replace H2 := Lib.hid H2
    clear hn
    have hl := run_lookup_has (P := Tryz.prog) 170 45 168 (.int .i64) (.int .i64 5) (.slice (some ⟨g5, 0, none⟩) 1 1) 5 Tryz.underlying170 Tryz.underlying45 rfl H2.out (by kernel_rfl)
    have hc := ((Own.pm (H2.out) (by with_reducible repeat (first | exact .refl _ | exact .nil _ | refine .here ?_ | refine .at2 ?_ | refine .at3 ?_ | refine .at4 ?_ | refine .at5 ?_ | refine .at6 ?_ | refine .at7 ?_ | refine .at8 ?_ | refine .skip ?_))) : Own w w2 (pts g5 (.cells #[.int .i64 2] 45 (0, 0)) :: _)).cells.1
    have hc0 := hc 0
    clear hc
    go_wp2_with fail
    refine (contains1_c _ g5 1 2 t hc0 ).mono ?_
    rintro e w' ⟨rfl, rfl⟩
    go_wp2_with fail
    go_ret
    exact ⟨rfl, ((Own.pm (H2.out) (by with_reducible repeat (first | exact .refl _ | exact .nil _ | refine .here ?_ | refine .at2 ?_ | refine .at3 ?_ | refine .at4 ?_ | refine .at5 ?_ | refine .at6 ?_ | refine .at7 ?_ | refine .at8 ?_ | refine .skip ?_))) : Own w w2 [old w]).old_below⟩
  · by_cases h1 : (6 : Int) = t
    · rw [show follows 6 t = true by subst h1; decide]
      have b1 : ((6 : Int) == t) = true := by simpa using h1
      clear h1
      go_enter Tryz.func123, Tryz.ntmps123
      go_wp2_with fail
      refine (hn).mono ?_
      rintro e w2 ⟨b, g0, g1, g2, g3, g4, g5, g6, rfl, H2⟩
      replace H2 := Lib.hid H2
      clear hn
      have hl := run_lookup_has (P := Tryz.prog) 170 45 168 (.int .i64) (.int .i64 6) (.slice (some ⟨g6, 0, none⟩) 2 2) 6 Tryz.underlying170 Tryz.underlying45 rfl H2.out (by kernel_rfl)
      go_wp2_with fail
      go_ret
      exact ⟨rfl, ((Own.pm (H2.out) (by with_reducible repeat (first | exact .refl _ | exact .nil _ | refine .here ?_ | refine .at2 ?_ | refine .at3 ?_ | refine .at4 ?_ | refine .at5 ?_ | refine .at6 ?_ | refine .at7 ?_ | refine .at8 ?_ | refine .skip ?_))) : Own w w2 [old w]).old_below⟩
    have b1 : ((6 : Int) == t) = false := by simpa using h1
    by_cases h2 : t = 6
    · rw [show follows 6 t = true by subst h2; decide]
      have b2 : (t == 6) = true := by simpa using h2
      clear h1 h2
      go_enter Tryz.func123, Tryz.ntmps123
      go_wp2_with fail
      refine (hn).mono ?_
      rintro e w2 ⟨b, g0, g1, g2, g3, g4, g5, g6, rfl, H2⟩
      replace H2 := Lib.hid H2
      clear hn
      have hl := run_lookup_has (P := Tryz.prog) 170 45 168 (.int .i64) (.int .i64 6) (.slice (some ⟨g6, 0, none⟩) 2 2) 6 Tryz.underlying170 Tryz.underlying45 rfl H2.out (by kernel_rfl)
      go_wp2_with fail
      go_ret
      exact ⟨rfl, ((Own.pm (H2.out) (by with_reducible repeat (first | exact .refl _ | exact .nil _ | refine .here ?_ | refine .at2 ?_ | refine .at3 ?_ | refine .at4 ?_ | refine .at5 ?_ | refine .at6 ?_ | refine .at7 ?_ | refine .at8 ?_ | refine .skip ?_))) : Own w w2 [old w]).old_below⟩
    have b2 : (t == 6) = false := by simpa using h2
    rw [show follows 6 t = (decide (t = 3) || decide (t = 0)) by unfold follows; rw [b1, b2, show stOk 6 = true by decide, show arrows 6 = [3, 0] by rfl]; simp]
    clear h1 h2
    go_enter Tryz.func123, Tryz.ntmps123
    go_wp2_with fail
    refine (hn).mono ?_
    rintro e w2 ⟨b, g0, g1, g2, g3, g4, g5, g6, rfl, H2⟩
    replace H2 := Lib.hid H2
    clear hn
    have hl := run_lookup_has (P := Tryz.prog) 170 45 168 (.int .i64) (.int .i64 6) (.slice (some ⟨g6, 0, none⟩) 2 2) 6 Tryz.underlying170 Tryz.underlying45 rfl H2.out (by kernel_rfl)
    have hc := ((Own.pm (H2.out) (by with_reducible repeat (first | exact .refl _ | exact .nil _ | refine .here ?_ | refine .at2 ?_ | refine .at3 ?_ | refine .at4 ?_ | refine .at5 ?_ | refine .at6 ?_ | refine .at7 ?_ | refine .at8 ?_ | refine .skip ?_))) : Own w w2 (pts g6 (.cells #[.int .i64 3, .int .i64 0] 45 (0, 0)) :: _)).cells.1
    have hc0 := hc 0
    have hc1 := hc 1
    clear hc
    go_wp2_with fail
    refine (contains2_c _ g6 2 3 0 t hc0 hc1).mono ?_
    rintro e w' ⟨rfl, rfl⟩
    go_wp2_with fail
    go_ret
    exact ⟨rfl, ((Own.pm (H2.out) (by with_reducible repeat (first | exact .refl _ | exact .nil _ | refine .here ?_ | refine .at2 ?_ | refine .at3 ?_ | refine .at4 ?_ | refine .at5 ?_ | refine .at6 ?_ | refine .at7 ?_ | refine .at8 ?_ | refine .skip ?_))) : Own w w2 [old w]).old_below⟩
  · have hk : follows s t = false := by unfold follows stOk; rw [decide_eq_false hs]; rfl
    rw [hk]
    clear hk
    go_enter Tryz.func123, Tryz.ntmps123
    go_wp2_with fail
    refine (hn).mono ?_
    rintro e w2 ⟨b, g0, g1, g2, g3, g4, g5, g6, rfl, H2⟩
    replace H2 := Lib.hid H2
    clear hn
    have hf : ∀ (v0 v1 v2 v3 v4 v5 v6 : Value), Instr.findNow (.int .i64) (.int .i64 s) (entsAt 0 [(.int .i64 0, v0), (.int .i64 1, v1), (.int .i64 2, v2), (.int .i64 3, v3), (.int .i64 4, v4), (.int .i64 5, v5), (.int .i64 6, v6)]) 0 = some none := by
      intro v0 v1 v2 v3 v4 v5 v6
      have e : ∀ j : Int, 0 ≤ j → j ≤ 6 → (s == j) = false := fun j h0 h6 => by simp; omega
      simp only [entsAt, Instr.findNow, Instr.sameNow, if_true, e 0 (by omega) (by omega), e 1 (by omega) (by omega), e 2 (by omega) (by omega), e 3 (by omega) (by omega), e 4 (by omega) (by omega), e 5 (by omega) (by omega), e 6 (by omega) (by omega)]
    have hl := run_lookup_not (P := Tryz.prog) 170 45 168 (.int .i64) (.int .i64 s) (.slice none 0 0) Tryz.underlying170 Tryz.underlying45 rfl H2.out (hf _ _ _ _ _ _ _) (by kernel_rfl)
    clear hf
    go_wp2_with fail
    go_ret
    exact ⟨rfl, ((Own.pm (H2.out) (by with_reducible repeat (first | exact .refl _ | exact .nil _ | refine .here ?_ | refine .at2 ?_ | refine .at3 ?_ | refine .at4 ?_ | refine .at5 ?_ | refine .at6 ?_ | refine .at7 ?_ | refine .at8 ?_ | refine .skip ?_))) : Own w w2 [old w]).old_below⟩
end
end Go.Proofs.YtpfbbpiidhhkbaaGreat
