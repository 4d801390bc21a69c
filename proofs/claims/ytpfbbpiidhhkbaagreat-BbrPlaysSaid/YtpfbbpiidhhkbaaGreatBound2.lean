/- bound: the least one; and the reference's bounds. -/
import Derived.Test.YtpfbbpiidhhkbaaGreatBound
namespace Go.Proofs.YtpfbbpiidhhkbaaGreat
open Go.RowKit
theorem minL_snoc (n : Int) (l : List Int) (x : Int) : minL n (l ++ [x]) = min (minL n l) x := by simp [minL]
set_option maxRecDepth 100000 in
theorem slicesMin_c (w : World) (A : Option Addr) (len cap : Nat) (n : Int) (l : List Int) (hr : rdSlice (rdInt .u64) 1 w [.slice A len cap] (n :: l)) :
    Calls Tryz.prog 125 #[.slice A len cap] w fun e w' => e = .returned (.int .u64 (minL n l)) ∧ w = w' := by
  obtain ⟨h1, h2, h3⟩ := rdInts_getD hr
  clear hr
  rcases h3 with ⟨rfl, h⟩ | ⟨b, off, rfl, hx⟩
  · cases h
  have hlen : len = l.length + 1 := by simpa using h1.symm
  have hpos : ¬ len < 1 := by omega
  have c0 := (hx 0 (by omega)).1
  rw [Nat.add_zero, show (n :: l).getD 0 0 = n from rfl] at c0
  replace hx := Lib.hid hx
  replace h1 := Lib.hid h1
  replace hlen := Lib.hid hlen
  have im := ite_min
  go_enter Tryz.func125, Tryz.ntmps125
  go_wp2
  clear c0
  go_loop [3, 4] (fun m i => ∃ k : Nat, 1 ≤ k ∧ k ≤ len ∧ i = .int .i64 k ∧ m = .int .u64 (minL n (l.take (k - 1)))) (fun _ i => len - (intOf i).toNat)
  case atStart => exact ⟨1, by omega, by omega, rfl, rfl⟩
  case round =>
    obtain ⟨k, hk0, hk, rfl, rfl⟩ := hrel
    by_cases hlt : k < len
    · obtain ⟨hc, hU, HT⟩ := hx.out k hlt
      have hg : (n :: l).getD k 0 = l.getD (k - 1) 0 := by
        obtain ⟨j, rfl⟩ : ∃ j, k = j + 1 := ⟨k - 1, by omega⟩
        simp
      rw [hg] at hc
      have HQ := Lib.hid (minL_snoc n (l.take (k - 1)) (l.getD (k - 1) 0))
      rw [← take_snoc_getD l (k - 1) (by have := hlen.out; omega), show k - 1 + 1 = k + 1 - 1 from by omega] at HQ
      generalize l.getD (k - 1) 0 = v at *
      generalize minL n (l.take (k - 1)) = s at *
      clear HT hU hg
      go_wp2
      go_round
      case rel => exact ⟨k + 1, by omega, by omega, by go_num, by rw [HQ.out]⟩
      case measure => simp [intOf]; omega
    · have HE := Lib.hid (show l.take (k - 1) = l from List.take_of_length_le (by have := hlen.out; omega))
      go_wp2
      go_ret
      exact ⟨by rw [HE.out]; rfl, rfl⟩
set_option maxRecDepth 100000 in
theorem boundCap_c (w : World) (s : Bnd) (hs : s.Ok) (A : Option Addr) (len cap : Nat) (l : List Int) (hm : len ≤ 1000) (hr : rdSlice (rdInt .u64) 1 w [.slice A len cap] l) :
    Calls Tryz.prog 88 #[s.v, .slice A len cap] w fun e w' => e = .returned (.int .u64 (s.cap l)) ∧ Below w.heap.size w w' := by
  obtain ⟨hi, lo, bw⟩ := s
  obtain ⟨h1, h2, h3⟩ := hs
  simp only at h1 h2 h3
  have hUl := Lib.hid (rdInts_U hr)
  have hll := Lib.hid (rdInts_getD hr).1
  replace h1 := Lib.hid h1
  replace h2 := Lib.hid h2
  clear h3
  replace hr := Lib.hid hr
  have HH := Lib.hid (Own.init w)
  unfold Bnd.v
  go_enter Tryz.func88, Tryz.ntmps88
  go_wp2_with (with_reducible first | refine stop_bs ?_ | refine stop_bx ?_ | refine stop_al ?_ | refine stop_ms ?_ | refine stop_app ?_ | refine stop_copy ?_)
  refine Stop.go ?_
  go_step
  go_simp
  have H1 := Lib.hid (HH.out.alloc (.cells #[.int .u64 hi, .int .u64 lo, .int .u64 bw] 52))
  generalize w.alloc (.cells #[.int .u64 hi, .int .u64 lo, .int .u64 bw] 52) = w1 at *
  generalize w.heap.size = b1 at *
  have k1 := H1.out.cells
  go_wp2_with (with_reducible first | refine stop_bs ?_ | refine stop_bx ?_ | refine stop_al ?_ | refine stop_ms ?_ | refine stop_app ?_ | refine stop_copy ?_)
  refine Stop.go ?_
  go_step
  go_simp
  have H2 := Lib.hid (H1.out.alloc (.cells #[.int .u64 hi, .int .u64 lo] 22))
  generalize w1.alloc (.cells #[.int .u64 hi, .int .u64 lo] 22) = w2 at *
  generalize w1.heap.size = b2 at *
  clear k1
  have HS := Lib.hid (show Own w w2 (slc 22 1 (.slice (some ⟨b2, 0, none⟩) 2 2) (nums [hi, lo]) :: _) from H2.out.slc_all (by simp [maxLen]) rfl)
  have hr2 := Lib.hid (mono_slice (mono_int .u64) 1 _ w2 _ _ (fun a v h => ((Own.pm (H2.out) (by with_reducible repeat (first | exact .refl _ | exact .nil _ | refine .here ?_ | refine .at2 ?_ | refine .at3 ?_ | refine .at4 ?_ | refine .at5 ?_ | refine .at6 ?_ | refine .at7 ?_ | refine .at8 ?_ | refine .skip ?_))) : Own w w2 [old w]).old_cell h) hr.out)
  go_wp2_with (with_reducible first | refine stop_bs ?_ | refine stop_bx ?_ | refine stop_al ?_ | refine stop_ms ?_ | refine stop_app ?_ | refine stop_copy ?_)
  refine Stop.go ?_
  refine wpList_append_slc rfl _ _ 119 rfl 22 1 8 Tryz.underlying119 (by kernel_rfl) (by decide) rfl (HS.out) rfl ((show (nums [hi, lo]).length = 2 * 1 from rfl)) ((srcAt_rd hr2.out)) (nums_one _) (by simp only [maxLen]; omega) (by omega) ?_
  intro v3 w3 H3
  replace H3 := Lib.hid H3
  have e0 : nums [hi, lo] ++ nums l = nums (hi :: lo :: l) := by simp [nums]
  rw [e0] at H3
  clear e0
  obtain ⟨A3, n3, cap3, rfl, hr3⟩ := Own.nums_rd H3.out (by
    intro x hx
    rcases List.mem_cons.1 hx with rfl | hx
    · exact h1.out
    · rcases List.mem_cons.1 hx with rfl | hx
      · exact h2.out
      · exact hUl.out x hx)
  replace hr3 := Lib.hid hr3
  go_wp2_with fail
  refine (slicesMin_c _ _ _ _ _ _ hr3.out).mono ?_
  rintro e w' ⟨rfl, rfl⟩
  go_wp2_with fail
  go_ret
  exact ⟨rfl, ((Own.pm (H3.out) (by with_reducible repeat (first | exact .refl _ | exact .nil _ | refine .here ?_ | refine .at2 ?_ | refine .at3 ?_ | refine .at4 ?_ | refine .at5 ?_ | refine .at6 ?_ | refine .at7 ?_ | refine .at8 ?_ | refine .skip ?_))) : Own w w3 [old w]).old_below⟩
theorem cut7 (x : Int) (hx : U x) : sshare x 7 10 = cutI x := by
  unfold U at hx
  unfold cutI sshare hi64
  rw [if_neg (by omega), if_neg (by omega)]
  omega
section
variable (w : World)
set_option maxRecDepth 100000 in
theorem refLose_c (s : Bnd) (x y z : Int) (hs : s.Ok) (hx : U x) (hy : U y) (hz : U z) :
    Calls Tryz.prog 46 #[s.v, .int .u64 x, .int .u64 y, .int .u64 z] w fun e w' => e = .returned (s.lose x y z).v ∧ Below w.heap.size w w' := by
  obtain ⟨hi, lo, bw⟩ := s
  obtain ⟨h1, h2, h3⟩ := hs
  simp only at h1 h2 h3
  replace h1 := Lib.hid h1
  replace h2 := Lib.hid h2
  replace h3 := Lib.hid h3
  replace hx := Lib.hid hx
  replace hy := Lib.hid hy
  replace hz := Lib.hid hz
  have im := ite_max
  unfold Bnd.v Bnd.lose orI
  simp only
  by_cases g1 : lo = 18446744073709551615
  · rw [if_pos g1]
    subst g1
    by_cases g2 : bw = 18446744073709551615
    · rw [if_pos g2]
      subst g2
      go_enter Tryz.func46, Tryz.ntmps46
      go_wp2_with fail
      refine (refShare_c _ _ _ _ hz.out U_70.2.2.2.1 U_70.2.2.2.2).mono ?_
      rintro e w' ⟨rfl, rfl⟩
      rw [cut7 _ hz.out]
      go_wp2_with fail
      refine (refShare_c _ _ _ _ hy.out U_70.2.2.2.1 U_70.2.2.2.2).mono ?_
      rintro e w' ⟨rfl, rfl⟩
      rw [cut7 _ hy.out]
      go_wp2_with fail
      refine bodyPost_ret (v := .agg #[.int .u64 hi, .int .u64 (max x (cutI z)), .int .u64 (max y (cutI y))]) (by simp [results, Tryz.results46, go_sem]) rfl (⟨rfl, (by repeat (first | with_reducible exact Below.refl _ _ | with_reducible refine Below.alloc ?_ (by simp; first | done | omega) _ | with_reducible refine Below.setCell ?_ (by simp; first | done | omega) _ | with_reducible refine Below.drewN ?_ _ | with_reducible refine Below.drew ?_))⟩)
    · rw [if_neg g2]
      have b2 : (bw == 18446744073709551615) = false := by simpa using g2
      clear g2
      go_enter Tryz.func46, Tryz.ntmps46
      go_wp2_with fail
      refine (refShare_c _ _ _ _ hz.out U_70.2.2.2.1 U_70.2.2.2.2).mono ?_
      rintro e w' ⟨rfl, rfl⟩
      rw [cut7 _ hz.out]
      go_wp2_with fail
      refine (refShare_c _ _ _ _ h3.out U_70.2.2.2.1 U_70.2.2.2.2).mono ?_
      rintro e w' ⟨rfl, rfl⟩
      rw [cut7 _ h3.out]
      go_wp2_with fail
      refine bodyPost_ret (v := .agg #[.int .u64 hi, .int .u64 (max x (cutI z)), .int .u64 (max y (cutI bw))]) (by simp [results, Tryz.results46, go_sem]) rfl (⟨rfl, (by repeat (first | with_reducible exact Below.refl _ _ | with_reducible refine Below.alloc ?_ (by simp; first | done | omega) _ | with_reducible refine Below.setCell ?_ (by simp; first | done | omega) _ | with_reducible refine Below.drewN ?_ _ | with_reducible refine Below.drew ?_))⟩)
  · rw [if_neg g1]
    have b1 : (lo == 18446744073709551615) = false := by simpa using g1
    clear g1
    by_cases g2 : bw = 18446744073709551615
    · rw [if_pos g2]
      subst g2
      go_enter Tryz.func46, Tryz.ntmps46
      go_wp2_with fail
      refine (refShare_c _ _ _ _ h2.out U_70.2.2.2.1 U_70.2.2.2.2).mono ?_
      rintro e w' ⟨rfl, rfl⟩
      rw [cut7 _ h2.out]
      go_wp2_with fail
      refine (refShare_c _ _ _ _ hy.out U_70.2.2.2.1 U_70.2.2.2.2).mono ?_
      rintro e w' ⟨rfl, rfl⟩
      rw [cut7 _ hy.out]
      go_wp2_with fail
      refine bodyPost_ret (v := .agg #[.int .u64 hi, .int .u64 (max x (cutI lo)), .int .u64 (max y (cutI y))]) (by simp [results, Tryz.results46, go_sem]) rfl (⟨rfl, (by repeat (first | with_reducible exact Below.refl _ _ | with_reducible refine Below.alloc ?_ (by simp; first | done | omega) _ | with_reducible refine Below.setCell ?_ (by simp; first | done | omega) _ | with_reducible refine Below.drewN ?_ _ | with_reducible refine Below.drew ?_))⟩)
    · rw [if_neg g2]
      have b2 : (bw == 18446744073709551615) = false := by simpa using g2
      clear g2
      go_enter Tryz.func46, Tryz.ntmps46
      go_wp2_with fail
      refine (refShare_c _ _ _ _ h2.out U_70.2.2.2.1 U_70.2.2.2.2).mono ?_
      rintro e w' ⟨rfl, rfl⟩
      rw [cut7 _ h2.out]
      go_wp2_with fail
      refine (refShare_c _ _ _ _ h3.out U_70.2.2.2.1 U_70.2.2.2.2).mono ?_
      rintro e w' ⟨rfl, rfl⟩
      rw [cut7 _ h3.out]
      go_wp2_with fail
      refine bodyPost_ret (v := .agg #[.int .u64 hi, .int .u64 (max x (cutI lo)), .int .u64 (max y (cutI bw))]) (by simp [results, Tryz.results46, go_sem]) rfl (⟨rfl, (by repeat (first | with_reducible exact Below.refl _ _ | with_reducible refine Below.alloc ?_ (by simp; first | done | omega) _ | with_reducible refine Below.setCell ?_ (by simp; first | done | omega) _ | with_reducible refine Below.drewN ?_ _ | with_reducible refine Below.drew ?_))⟩)
theorem refPull_c (s : Bnd) (x y : Int) (hx : U x) (hy : U y) :
    Calls Tryz.prog 44 #[s.v, .int .u64 x, .int .u64 y] w fun e w' => e = .returned (s.pull x y).v ∧ Below w.heap.size w w' := by
  obtain ⟨hi, lo, bw⟩ := s
  replace hx := Lib.hid hx
  replace hy := Lib.hid hy
  have im := ite_max
  unfold Bnd.v
  go_enter Tryz.func44, Tryz.ntmps44
  go_wp2_with fail
  refine (refShare_c _ _ _ _ hy.out U_70.2.2.2.1 U_70.2.2.2.2).mono ?_
  rintro e w' ⟨rfl, rfl⟩
  rw [cut7 _ hy.out]
  go_wp2_with fail
  refine bodyPost_ret (v := .agg #[.int .u64 (max x (cutI y)), .int .u64 lo, .int .u64 bw]) (by simp [results, Tryz.results44, go_sem]) rfl (⟨rfl, (by repeat (first | with_reducible exact Below.refl _ _ | with_reducible refine Below.alloc ?_ (by simp; first | done | omega) _ | with_reducible refine Below.setCell ?_ (by simp; first | done | omega) _ | with_reducible refine Below.drewN ?_ _ | with_reducible refine Below.drew ?_))⟩)
set_option maxRecDepth 100000 in
theorem refPush_c (s : Bnd) (x : Int) (hs : s.Ok) (hx : U x) :
    Calls Tryz.prog 48 #[s.v, .int .u64 x] w fun e w' => e = .returned (s.push x).v ∧ Below w.heap.size w w' := by
  obtain ⟨hi, lo, bw⟩ := s
  obtain ⟨h1, h2, h3⟩ := hs
  simp only at h1 h2 h3
  replace h1 := Lib.hid h1
  clear h2 h3
  replace hx := Lib.hid hx
  have im := ite_min
  unfold Bnd.push Bnd.v
  simp only
  by_cases h : hi = 18446744073709551615
  · rw [if_pos h]
    subst h
    go_enter Tryz.func48, Tryz.ntmps48
    go_wp2_with fail
    refine bodyPost_ret (v := .agg #[.int .u64 18446744073709551615, .int .u64 lo, .int .u64 bw]) (by simp [results, Tryz.results48, go_sem]) rfl (⟨rfl, (by repeat (first | with_reducible exact Below.refl _ _ | with_reducible refine Below.alloc ?_ (by simp; first | done | omega) _ | with_reducible refine Below.setCell ?_ (by simp; first | done | omega) _ | with_reducible refine Below.drewN ?_ _ | with_reducible refine Below.drew ?_))⟩)
  · rw [if_neg h]
    have hb : (hi != 18446744073709551615) = true := by simpa using h
    clear h
    go_enter Tryz.func48, Tryz.ntmps48
    go_wp2_with fail
    refine (refAdd_c _ _ _ h1.out hx.out).mono ?_
    rintro e w' ⟨rfl, rfl⟩
    go_wp2_with fail
    refine bodyPost_ret (v := .agg #[.int .u64 (min (sadd hi x) 18446744073709551614), .int .u64 lo, .int .u64 bw]) (by simp [results, Tryz.results48, go_sem]) rfl (⟨rfl, (by repeat (first | with_reducible exact Below.refl _ _ | with_reducible refine Below.alloc ?_ (by simp; first | done | omega) _ | with_reducible refine Below.setCell ?_ (by simp; first | done | omega) _ | with_reducible refine Below.drewN ?_ _ | with_reducible refine Below.drew ?_))⟩)
theorem refRoom_c (s : Bnd) (hs : s.Ok) :
    Calls Tryz.prog 98 #[s.v] w fun e w' => e = .returned (.int .u64 s.room) ∧ Below w.heap.size w w' := by
  obtain ⟨hi, lo, bw⟩ := s
  have h1 := Lib.hid hs.1
  clear hs
  unfold Bnd.room Bnd.v
  simp only
  by_cases h : hi = 18446744073709551615
  · rw [if_pos h]
    subst h
    go_enter Tryz.func98, Tryz.ntmps98
    go_wp2_with fail
    go_ret
    exact ⟨rfl, (by repeat (first | with_reducible exact Below.refl _ _ | with_reducible refine Below.alloc ?_ (by simp; first | done | omega) _ | with_reducible refine Below.setCell ?_ (by simp; first | done | omega) _ | with_reducible refine Below.drewN ?_ _ | with_reducible refine Below.drew ?_))⟩
  · rw [if_neg h]
    have hb : (hi == 18446744073709551615) = false := by simpa using h
    clear h
    go_enter Tryz.func98, Tryz.ntmps98
    go_wp2_with fail
    refine (refShare_c _ _ _ _ h1.out U_70.2.2.1 U_70.2.1).mono ?_
    rintro e w' ⟨rfl, rfl⟩
    go_wp2_with fail
    go_ret
    exact ⟨rfl, (by repeat (first | with_reducible exact Below.refl _ _ | with_reducible refine Below.alloc ?_ (by simp; first | done | omega) _ | with_reducible refine Below.setCell ?_ (by simp; first | done | omega) _ | with_reducible refine Below.drewN ?_ _ | with_reducible refine Below.drew ?_))⟩
set_option maxRecDepth 100000 in
theorem refCap_c (s : Bnd) (A : Option Addr) (len cap : Nat) (l : List Int) (hr : rdSlice (rdInt .u64) 1 w [.slice A len cap] l) :
    Calls Tryz.prog 105 #[s.v, .slice A len cap] w fun e w' => e = .returned (.int .u64 (s.cap l)) ∧ Below w.heap.size w w' := by
  obtain ⟨hi, lo, bw⟩ := s
  have hr2 := mono_slice (mono_int .u64) 1 _ (w.alloc (.cells #[.int .u64 hi, .int .u64 lo, .int .u64 bw] 74)) _ _ (fun a v h => (Own.init w).alloc _ |>.r2.old_cell h) hr
  obtain ⟨h1, h2, h3⟩ := rdInts_getD hr2
  clear hr hr2
  replace h1 := Lib.hid h1
  have hx : ∀ i, i < len → ∃ b off, A = some ⟨b, off, none⟩ ∧ (w.alloc (.cells #[.int .u64 hi, .int .u64 lo, .int .u64 bw] 74)).cell? ⟨b, off + i, none⟩ = some (.int .u64 (l.getD i 0)) ∧ U (l.getD i 0) ∧ l.take (i + 1) = l.take i ++ [l.getD i 0] := by
    intro i hi
    rcases h3 with ⟨rfl, rfl⟩ | ⟨b, off, rfl, hx⟩
    · omega
    · exact ⟨b, off, rfl, hx i hi⟩
  replace hx := Lib.hid hx
  clear h3
  have im := ite_min
  unfold Bnd.v Bnd.cap
  go_enter Tryz.func105, Tryz.ntmps105
  go_wp2
  go_loop [5, 6] (fun m i => ∃ k : Nat, k ≤ len ∧ i = .int .i64 k ∧ m = .int .u64 (minL (min hi lo) (l.take k))) (fun _ i => len - (intOf i).toNat)
  case atStart => exact ⟨0, by omega, rfl, rfl⟩
  case round =>
    obtain ⟨k, hk, rfl, rfl⟩ := hrel
    by_cases hlt : k < len
    · obtain ⟨b, off, rfl, hc, hU, HT⟩ := hx.out k hlt
      have HQ := Lib.hid (minL_snoc (min hi lo) (l.take k) (l.getD k 0))
      rw [← HT] at HQ
      generalize l.getD k 0 = v at *
      generalize minL (min hi lo) (l.take k) = s at *
      clear HT hU
      go_wp2
      go_round
      case rel => exact ⟨k + 1, by omega, by go_num, by rw [HQ.out]⟩
      case measure => simp [intOf]; omega
    · have HE := Lib.hid (show l.take k = l from List.take_of_length_le (by have := h1.out; omega))
      go_wp2
      go_ret
      exact ⟨by rw [HE.out]; rfl, (by repeat (first | with_reducible exact Below.refl _ _ | with_reducible refine Below.alloc ?_ (by simp; first | done | omega) _ | with_reducible refine Below.setCell ?_ (by simp; first | done | omega) _ | with_reducible refine Below.drewN ?_ _ | with_reducible refine Below.drew ?_))⟩
end
end Go.Proofs.YtpfbbpiidhhkbaaGreat
