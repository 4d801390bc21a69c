/- mode: what is next. -/
import Derived.Test.YtmkcpnlbicijoaaGreatMode2
namespace Go.Proofs.YtmkcpnlbicijoaaGreat
open Go.RowKit
structure Sig where
 full : Bool
 round : Bool
 lossy : Bool
 stale : Bool
 fl : Int
 tg : Int
 cp : Int
 rd : Int
 el : Int
 wt : Int
def Sig.v (x : Sig) : Value := .agg #[.bool x.full, .bool x.round, .bool x.lossy, .bool x.stale, .int .u64 x.fl, .int .u64 x.tg, .int .u64 x.cp, .int .u64 x.rd, .int .u64 x.el, .int .u64 x.wt]
def Sig.Ok (x : Sig) : Prop := U x.fl ∧ U x.tg ∧ U x.cp ∧ U x.rd ∧ U x.el ∧ U x.wt
instance instSigOk (x : Sig) : Decidable x.Ok := inferInstanceAs (Decidable (_ ∧ _ ∧ _ ∧ _ ∧ _ ∧ _))
def nextBase (s : Int) (x : Sig) : Int :=
 if s = 0 then (if x.full || x.lossy then 1 else 0)
 else if s = 1 then (if x.fl ≤ x.tg then 2 else 1)
 else if s = 2 then (if x.fl ≤ min x.tg x.cp then 3 else if x.wt ≤ x.el then 4 else 2)
 else if s = 3 then (if x.wt ≤ x.el then 4 else 3)
 else if s = 4 then (if 0 < x.rd then 5 else 4)
 else if s = 5 then (if x.lossy = true ∨ (0 < x.rd ∧ sshare x.tg 5 4 ≤ x.fl) then 2 else 5)
 else if s = 6 then (if x.wt ≤ x.el ∧ 0 < x.rd then (if x.full then 3 else 0) else 6)
 else s
def nextI (s : Int) (x : Sig) : Int := if x.stale = true ∧ (0 ≤ s ∧ s ≤ 5) then 6 else nextBase s x
def waitI (s cycle probe : Int) : Int := if s = 2 ∨ s = 3 then 2000000 + cycle % 8 * 125000 else if s = 6 then probe else 0
theorem ite_minM (a b : Int) : (if b < a then b else a) = min a b := by split <;> omega
section
variable (w : World)
theorem modeProbed3_c (round lossy stale : Bool) (fl tg cp rd el wt : Int) : Calls Tryz.prog 147 #[.agg #[.bool true, .bool round, .bool lossy, .bool stale, .int .u64 fl, .int .u64 tg, .int .u64 cp, .int .u64 rd, .int .u64 el, .int .u64 wt]] w fun e w' => e = .returned (.int .i64 3) ∧ Below w.heap.size w w' := by
 go_enter Tryz.func147, Tryz.ntmps147
 go_wp2_with fail
 go_ret
 exact ⟨rfl, (by repeat (first | with_reducible exact Below.refl _ _ | with_reducible refine Below.alloc ?_ (by simp; first | done | omega) _ | with_reducible refine Below.setCell ?_ (by simp; first | done | omega) _ | with_reducible refine Below.drewN ?_ _ | with_reducible refine Below.drew ?_))⟩
theorem modeProbed0_c (round lossy stale : Bool) (fl tg cp rd el wt : Int) : Calls Tryz.prog 147 #[.agg #[.bool false, .bool round, .bool lossy, .bool stale, .int .u64 fl, .int .u64 tg, .int .u64 cp, .int .u64 rd, .int .u64 el, .int .u64 wt]] w fun e w' => e = .returned (.int .i64 0) ∧ Below w.heap.size w w' := by
 go_enter Tryz.func147, Tryz.ntmps147
 go_wp2_with fail
 go_ret
 exact ⟨rfl, (by repeat (first | with_reducible exact Below.refl _ _ | with_reducible refine Below.alloc ?_ (by simp; first | done | omega) _ | with_reducible refine Below.setCell ?_ (by simp; first | done | omega) _ | with_reducible refine Below.drewN ?_ _ | with_reducible refine Below.drew ?_))⟩
set_option maxRecDepth 100000 in
set_option maxHeartbeats 12800000 in
theorem modeNext_c (s : Int) (x : Sig) (hx : x.Ok) : Calls Tryz.prog 114 #[.int .i64 s, x.v] w fun e w' => e = .returned (.int .i64 (nextI s x)) ∧ Below w.heap.size w w' := by
 have HH := Lib.hid (Own.init w)
 obtain ⟨full, round, lossy, stale, fl, tg, cp, rd, el, wt⟩ := x
 obtain ⟨hx1, hx2, hx3, hx4, hx5, hx6⟩ := hx
 simp only at hx1 hx2 hx3 hx4 hx5 hx6
 have hrdU := hx4.1
 replace hx2 := Lib.hid hx2
 clear hx1 hx3 hx4 hx5 hx6
 unfold Sig.v
 have im := ite_minM
 rcases st_cases s with (rfl | rfl | rfl | rfl | rfl | rfl | rfl) | hs
 ·cases stale with
  | true =>
   have ev : nextI 0 ⟨full, round, lossy, true, fl, tg, cp, rd, el, wt⟩ = 6 := by simp [nextI]
   rw [ev]
   clear ev
   have e1 : follows 0 6 = true := by decide
   go_enter Tryz.func114, Tryz.ntmps114
   go_wp2_with (with_reducible first | refine stop_bs ?_ | refine stop_bx ?_ | refine stop_al ?_ | refine stop_ms ?_ | refine stop_app ?_ | refine stop_copy ?_)
   refine Stop.go ?_
   go_step
   go_simp
   have H1 := Lib.hid (HH.out.alloc (.cells #[.bool full, .bool round, .bool lossy, .bool true, .int .u64 fl, .int .u64 tg, .int .u64 cp, .int .u64 rd, .int .u64 el, .int .u64 wt] 194))
   generalize w.alloc (.cells #[.bool full, .bool round, .bool lossy, .bool true, .int .u64 fl, .int .u64 tg, .int .u64 cp, .int .u64 rd, .int .u64 el, .int .u64 wt] 194) = w1 at *
   generalize w.heap.size = b at *
   clear HH
   (try clear k1); have k1 := H1.out.cells
   go_wp2_with fail
   refine (modeFollows_c _ _ _).mono ?_
   rintro e w2 ⟨rfl, hbel⟩
   replace H1 := Lib.hid ((by first | exact .same hbel | exact .drew hbel | exact .below hbel : Kp _ w2) _ _ (by first | exact H1.out | exact H1.out.drewN _ | exact (H1.out.alloc _).tail | exact ((H1.out.alloc _).drewN _).tail | exact ((H1.out.alloc _).alloc _).tail.tail))
   clear hbel
   rw [e1]
   (try clear k1); have k1 := H1.out.cells
   go_wp2_with fail
   go_ret
   exact ⟨rfl, H1.out.tail.old_below⟩
  | false =>
   cases full with
   | true =>
    have ev : nextI 0 ⟨true, round, lossy, false, fl, tg, cp, rd, el, wt⟩ = 1 := by simp [nextI, nextBase]
    rw [ev]
    clear ev
    go_enter Tryz.func114, Tryz.ntmps114
    go_wp2_with (with_reducible first | refine stop_bs ?_ | refine stop_bx ?_ | refine stop_al ?_ | refine stop_ms ?_ | refine stop_app ?_ | refine stop_copy ?_)
    refine Stop.go ?_
    go_step
    go_simp
    have H1 := Lib.hid (HH.out.alloc (.cells #[.bool true, .bool round, .bool lossy, .bool false, .int .u64 fl, .int .u64 tg, .int .u64 cp, .int .u64 rd, .int .u64 el, .int .u64 wt] 194))
    generalize w.alloc (.cells #[.bool true, .bool round, .bool lossy, .bool false, .int .u64 fl, .int .u64 tg, .int .u64 cp, .int .u64 rd, .int .u64 el, .int .u64 wt] 194) = w1 at *
    generalize w.heap.size = b at *
    clear HH
    (try clear k1); have k1 := H1.out.cells
    go_wp2_with fail
    go_ret
    exact ⟨rfl, H1.out.tail.old_below⟩
   | false =>
    cases lossy with
    | true =>
     have ev : nextI 0 ⟨false, round, true, false, fl, tg, cp, rd, el, wt⟩ = 1 := by simp [nextI, nextBase]
     rw [ev]
     clear ev
     go_enter Tryz.func114, Tryz.ntmps114
     go_wp2_with (with_reducible first | refine stop_bs ?_ | refine stop_bx ?_ | refine stop_al ?_ | refine stop_ms ?_ | refine stop_app ?_ | refine stop_copy ?_)
     refine Stop.go ?_
     go_step
     go_simp
     have H1 := Lib.hid (HH.out.alloc (.cells #[.bool false, .bool round, .bool true, .bool false, .int .u64 fl, .int .u64 tg, .int .u64 cp, .int .u64 rd, .int .u64 el, .int .u64 wt] 194))
     generalize w.alloc (.cells #[.bool false, .bool round, .bool true, .bool false, .int .u64 fl, .int .u64 tg, .int .u64 cp, .int .u64 rd, .int .u64 el, .int .u64 wt] 194) = w1 at *
     generalize w.heap.size = b at *
     clear HH
     (try clear k1); have k1 := H1.out.cells
     go_wp2_with fail
     go_ret
     exact ⟨rfl, H1.out.tail.old_below⟩
    | false =>
     have ev : nextI 0 ⟨false, round, false, false, fl, tg, cp, rd, el, wt⟩ = 0 := by simp [nextI, nextBase]
     rw [ev]
     clear ev
     go_enter Tryz.func114, Tryz.ntmps114
     go_wp2_with (with_reducible first | refine stop_bs ?_ | refine stop_bx ?_ | refine stop_al ?_ | refine stop_ms ?_ | refine stop_app ?_ | refine stop_copy ?_)
     refine Stop.go ?_
     go_step
     go_simp
     have H1 := Lib.hid (HH.out.alloc (.cells #[.bool false, .bool round, .bool false, .bool false, .int .u64 fl, .int .u64 tg, .int .u64 cp, .int .u64 rd, .int .u64 el, .int .u64 wt] 194))
     generalize w.alloc (.cells #[.bool false, .bool round, .bool false, .bool false, .int .u64 fl, .int .u64 tg, .int .u64 cp, .int .u64 rd, .int .u64 el, .int .u64 wt] 194) = w1 at *
     generalize w.heap.size = b at *
     clear HH
     (try clear k1); have k1 := H1.out.cells
     go_wp2_with fail
     go_ret
     exact ⟨rfl, H1.out.tail.old_below⟩
 ·cases stale with
  | true =>
   have ev : nextI 1 ⟨full, round, lossy, true, fl, tg, cp, rd, el, wt⟩ = 6 := by simp [nextI]
   rw [ev]
   clear ev
   have e1 : follows 1 6 = true := by decide
   go_enter Tryz.func114, Tryz.ntmps114
   go_wp2_with (with_reducible first | refine stop_bs ?_ | refine stop_bx ?_ | refine stop_al ?_ | refine stop_ms ?_ | refine stop_app ?_ | refine stop_copy ?_)
   refine Stop.go ?_
   go_step
   go_simp
   have H1 := Lib.hid (HH.out.alloc (.cells #[.bool full, .bool round, .bool lossy, .bool true, .int .u64 fl, .int .u64 tg, .int .u64 cp, .int .u64 rd, .int .u64 el, .int .u64 wt] 194))
   generalize w.alloc (.cells #[.bool full, .bool round, .bool lossy, .bool true, .int .u64 fl, .int .u64 tg, .int .u64 cp, .int .u64 rd, .int .u64 el, .int .u64 wt] 194) = w1 at *
   generalize w.heap.size = b at *
   clear HH
   (try clear k1); have k1 := H1.out.cells
   go_wp2_with fail
   refine (modeFollows_c _ _ _).mono ?_
   rintro e w2 ⟨rfl, hbel⟩
   replace H1 := Lib.hid ((by first | exact .same hbel | exact .drew hbel | exact .below hbel : Kp _ w2) _ _ (by first | exact H1.out | exact H1.out.drewN _ | exact (H1.out.alloc _).tail | exact ((H1.out.alloc _).drewN _).tail | exact ((H1.out.alloc _).alloc _).tail.tail))
   clear hbel
   rw [e1]
   (try clear k1); have k1 := H1.out.cells
   go_wp2_with fail
   go_ret
   exact ⟨rfl, H1.out.tail.old_below⟩
  | false =>
   by_cases h1 : fl ≤ tg
   ·have h1b := decide_eq_true h1
    have ev : nextI 1 ⟨full, round, lossy, false, fl, tg, cp, rd, el, wt⟩ = 2 := by simp [nextI, nextBase, h1]
    rw [ev]
    clear ev
    go_enter Tryz.func114, Tryz.ntmps114
    go_wp2_with (with_reducible first | refine stop_bs ?_ | refine stop_bx ?_ | refine stop_al ?_ | refine stop_ms ?_ | refine stop_app ?_ | refine stop_copy ?_)
    refine Stop.go ?_
    go_step
    go_simp
    have H1 := Lib.hid (HH.out.alloc (.cells #[.bool full, .bool round, .bool lossy, .bool false, .int .u64 fl, .int .u64 tg, .int .u64 cp, .int .u64 rd, .int .u64 el, .int .u64 wt] 194))
    generalize w.alloc (.cells #[.bool full, .bool round, .bool lossy, .bool false, .int .u64 fl, .int .u64 tg, .int .u64 cp, .int .u64 rd, .int .u64 el, .int .u64 wt] 194) = w1 at *
    generalize w.heap.size = b at *
    clear HH
    (try clear k1); have k1 := H1.out.cells
    go_wp2_with fail
    go_ret
    exact ⟨rfl, H1.out.tail.old_below⟩
   ·have h1b := decide_eq_false h1
    have ev : nextI 1 ⟨full, round, lossy, false, fl, tg, cp, rd, el, wt⟩ = 1 := by simp [nextI, nextBase, h1]
    rw [ev]
    clear ev
    go_enter Tryz.func114, Tryz.ntmps114
    go_wp2_with (with_reducible first | refine stop_bs ?_ | refine stop_bx ?_ | refine stop_al ?_ | refine stop_ms ?_ | refine stop_app ?_ | refine stop_copy ?_)
    refine Stop.go ?_
    go_step
    go_simp
    have H1 := Lib.hid (HH.out.alloc (.cells #[.bool full, .bool round, .bool lossy, .bool false, .int .u64 fl, .int .u64 tg, .int .u64 cp, .int .u64 rd, .int .u64 el, .int .u64 wt] 194))
    generalize w.alloc (.cells #[.bool full, .bool round, .bool lossy, .bool false, .int .u64 fl, .int .u64 tg, .int .u64 cp, .int .u64 rd, .int .u64 el, .int .u64 wt] 194) = w1 at *
    generalize w.heap.size = b at *
    clear HH
    (try clear k1); have k1 := H1.out.cells
    go_wp2_with fail
    go_ret
    exact ⟨rfl, H1.out.tail.old_below⟩
 ·cases stale with
  | true =>
   have ev : nextI 2 ⟨full, round, lossy, true, fl, tg, cp, rd, el, wt⟩ = 6 := by simp [nextI]
   rw [ev]
   clear ev
   have e1 : follows 2 6 = true := by decide
   go_enter Tryz.func114, Tryz.ntmps114
   go_wp2_with (with_reducible first | refine stop_bs ?_ | refine stop_bx ?_ | refine stop_al ?_ | refine stop_ms ?_ | refine stop_app ?_ | refine stop_copy ?_)
   refine Stop.go ?_
   go_step
   go_simp
   have H1 := Lib.hid (HH.out.alloc (.cells #[.bool full, .bool round, .bool lossy, .bool true, .int .u64 fl, .int .u64 tg, .int .u64 cp, .int .u64 rd, .int .u64 el, .int .u64 wt] 194))
   generalize w.alloc (.cells #[.bool full, .bool round, .bool lossy, .bool true, .int .u64 fl, .int .u64 tg, .int .u64 cp, .int .u64 rd, .int .u64 el, .int .u64 wt] 194) = w1 at *
   generalize w.heap.size = b at *
   clear HH
   (try clear k1); have k1 := H1.out.cells
   go_wp2_with fail
   refine (modeFollows_c _ _ _).mono ?_
   rintro e w2 ⟨rfl, hbel⟩
   replace H1 := Lib.hid ((by first | exact .same hbel | exact .drew hbel | exact .below hbel : Kp _ w2) _ _ (by first | exact H1.out | exact H1.out.drewN _ | exact (H1.out.alloc _).tail | exact ((H1.out.alloc _).drewN _).tail | exact ((H1.out.alloc _).alloc _).tail.tail))
   clear hbel
   rw [e1]
   (try clear k1); have k1 := H1.out.cells
   go_wp2_with fail
   go_ret
   exact ⟨rfl, H1.out.tail.old_below⟩
  | false =>
   by_cases h1 : fl ≤ tg
   ·have h1b := decide_eq_true h1
    by_cases h2 : fl ≤ cp
    ·have h2b := decide_eq_true h2
     have hm : fl ≤ min tg cp := by omega
     have hmb := decide_eq_true hm
     have ev : nextI 2 ⟨full, round, lossy, false, fl, tg, cp, rd, el, wt⟩ = 3 := by simp [nextI, nextBase, hm]
     rw [ev]
     clear ev
     go_enter Tryz.func114, Tryz.ntmps114
     go_wp2_with (with_reducible first | refine stop_bs ?_ | refine stop_bx ?_ | refine stop_al ?_ | refine stop_ms ?_ | refine stop_app ?_ | refine stop_copy ?_)
     refine Stop.go ?_
     go_step
     go_simp
     have H1 := Lib.hid (HH.out.alloc (.cells #[.bool full, .bool round, .bool lossy, .bool false, .int .u64 fl, .int .u64 tg, .int .u64 cp, .int .u64 rd, .int .u64 el, .int .u64 wt] 194))
     generalize w.alloc (.cells #[.bool full, .bool round, .bool lossy, .bool false, .int .u64 fl, .int .u64 tg, .int .u64 cp, .int .u64 rd, .int .u64 el, .int .u64 wt] 194) = w1 at *
     generalize w.heap.size = b at *
     clear HH
     (try clear k1); have k1 := H1.out.cells
     go_wp2_with fail
     go_ret
     exact ⟨rfl, H1.out.tail.old_below⟩
    ·have h2b := decide_eq_false h2
     by_cases hw : wt ≤ el
     ·have hwb := decide_eq_true hw
      have hm : ¬ fl ≤ min tg cp := by omega
      have hmb := decide_eq_false hm
      have ev : nextI 2 ⟨full, round, lossy, false, fl, tg, cp, rd, el, wt⟩ = 4 := by simp [nextI, nextBase, hw, hm]
      rw [ev]
      clear ev
      go_enter Tryz.func114, Tryz.ntmps114
      go_wp2_with (with_reducible first | refine stop_bs ?_ | refine stop_bx ?_ | refine stop_al ?_ | refine stop_ms ?_ | refine stop_app ?_ | refine stop_copy ?_)
      refine Stop.go ?_
      go_step
      go_simp
      have H1 := Lib.hid (HH.out.alloc (.cells #[.bool full, .bool round, .bool lossy, .bool false, .int .u64 fl, .int .u64 tg, .int .u64 cp, .int .u64 rd, .int .u64 el, .int .u64 wt] 194))
      generalize w.alloc (.cells #[.bool full, .bool round, .bool lossy, .bool false, .int .u64 fl, .int .u64 tg, .int .u64 cp, .int .u64 rd, .int .u64 el, .int .u64 wt] 194) = w1 at *
      generalize w.heap.size = b at *
      clear HH
      (try clear k1); have k1 := H1.out.cells
      go_wp2_with fail
      go_ret
      exact ⟨rfl, H1.out.tail.old_below⟩
     ·have hwb := decide_eq_false hw
      have hm : ¬ fl ≤ min tg cp := by omega
      have hmb := decide_eq_false hm
      have ev : nextI 2 ⟨full, round, lossy, false, fl, tg, cp, rd, el, wt⟩ = 2 := by simp [nextI, nextBase, hw, hm]
      rw [ev]
      clear ev
      go_enter Tryz.func114, Tryz.ntmps114
      go_wp2_with (with_reducible first | refine stop_bs ?_ | refine stop_bx ?_ | refine stop_al ?_ | refine stop_ms ?_ | refine stop_app ?_ | refine stop_copy ?_)
      refine Stop.go ?_
      go_step
      go_simp
      have H1 := Lib.hid (HH.out.alloc (.cells #[.bool full, .bool round, .bool lossy, .bool false, .int .u64 fl, .int .u64 tg, .int .u64 cp, .int .u64 rd, .int .u64 el, .int .u64 wt] 194))
      generalize w.alloc (.cells #[.bool full, .bool round, .bool lossy, .bool false, .int .u64 fl, .int .u64 tg, .int .u64 cp, .int .u64 rd, .int .u64 el, .int .u64 wt] 194) = w1 at *
      generalize w.heap.size = b at *
      clear HH
      (try clear k1); have k1 := H1.out.cells
      go_wp2_with fail
      go_ret
      exact ⟨rfl, H1.out.tail.old_below⟩
   ·have h1b := decide_eq_false h1
    by_cases hw : wt ≤ el
    ·have hwb := decide_eq_true hw
     have hm : ¬ fl ≤ min tg cp := by omega
     have hmb := decide_eq_false hm
     have ev : nextI 2 ⟨full, round, lossy, false, fl, tg, cp, rd, el, wt⟩ = 4 := by simp [nextI, nextBase, hw, hm]
     rw [ev]
     clear ev
     go_enter Tryz.func114, Tryz.ntmps114
     go_wp2_with (with_reducible first | refine stop_bs ?_ | refine stop_bx ?_ | refine stop_al ?_ | refine stop_ms ?_ | refine stop_app ?_ | refine stop_copy ?_)
     refine Stop.go ?_
     go_step
     go_simp
     have H1 := Lib.hid (HH.out.alloc (.cells #[.bool full, .bool round, .bool lossy, .bool false, .int .u64 fl, .int .u64 tg, .int .u64 cp, .int .u64 rd, .int .u64 el, .int .u64 wt] 194))
     generalize w.alloc (.cells #[.bool full, .bool round, .bool lossy, .bool false, .int .u64 fl, .int .u64 tg, .int .u64 cp, .int .u64 rd, .int .u64 el, .int .u64 wt] 194) = w1 at *
     generalize w.heap.size = b at *
     clear HH
     (try clear k1); have k1 := H1.out.cells
     go_wp2_with fail
     go_ret
     exact ⟨rfl, H1.out.tail.old_below⟩
    ·have hwb := decide_eq_false hw
     have hm : ¬ fl ≤ min tg cp := by omega
     have hmb := decide_eq_false hm
     have ev : nextI 2 ⟨full, round, lossy, false, fl, tg, cp, rd, el, wt⟩ = 2 := by simp [nextI, nextBase, hw, hm]
     rw [ev]
     clear ev
     go_enter Tryz.func114, Tryz.ntmps114
     go_wp2_with (with_reducible first | refine stop_bs ?_ | refine stop_bx ?_ | refine stop_al ?_ | refine stop_ms ?_ | refine stop_app ?_ | refine stop_copy ?_)
     refine Stop.go ?_
     go_step
     go_simp
     have H1 := Lib.hid (HH.out.alloc (.cells #[.bool full, .bool round, .bool lossy, .bool false, .int .u64 fl, .int .u64 tg, .int .u64 cp, .int .u64 rd, .int .u64 el, .int .u64 wt] 194))
     generalize w.alloc (.cells #[.bool full, .bool round, .bool lossy, .bool false, .int .u64 fl, .int .u64 tg, .int .u64 cp, .int .u64 rd, .int .u64 el, .int .u64 wt] 194) = w1 at *
     generalize w.heap.size = b at *
     clear HH
     (try clear k1); have k1 := H1.out.cells
     go_wp2_with fail
     go_ret
     exact ⟨rfl, H1.out.tail.old_below⟩
 ·cases stale with
  | true =>
   have ev : nextI 3 ⟨full, round, lossy, true, fl, tg, cp, rd, el, wt⟩ = 6 := by simp [nextI]
   rw [ev]
   clear ev
   have e1 : follows 3 6 = true := by decide
   go_enter Tryz.func114, Tryz.ntmps114
   go_wp2_with (with_reducible first | refine stop_bs ?_ | refine stop_bx ?_ | refine stop_al ?_ | refine stop_ms ?_ | refine stop_app ?_ | refine stop_copy ?_)
   refine Stop.go ?_
   go_step
   go_simp
   have H1 := Lib.hid (HH.out.alloc (.cells #[.bool full, .bool round, .bool lossy, .bool true, .int .u64 fl, .int .u64 tg, .int .u64 cp, .int .u64 rd, .int .u64 el, .int .u64 wt] 194))
   generalize w.alloc (.cells #[.bool full, .bool round, .bool lossy, .bool true, .int .u64 fl, .int .u64 tg, .int .u64 cp, .int .u64 rd, .int .u64 el, .int .u64 wt] 194) = w1 at *
   generalize w.heap.size = b at *
   clear HH
   (try clear k1); have k1 := H1.out.cells
   go_wp2_with fail
   refine (modeFollows_c _ _ _).mono ?_
   rintro e w2 ⟨rfl, hbel⟩
   replace H1 := Lib.hid ((by first | exact .same hbel | exact .drew hbel | exact .below hbel : Kp _ w2) _ _ (by first | exact H1.out | exact H1.out.drewN _ | exact (H1.out.alloc _).tail | exact ((H1.out.alloc _).drewN _).tail | exact ((H1.out.alloc _).alloc _).tail.tail))
   clear hbel
   rw [e1]
   (try clear k1); have k1 := H1.out.cells
   go_wp2_with fail
   go_ret
   exact ⟨rfl, H1.out.tail.old_below⟩
  | false =>
   by_cases hw : wt ≤ el
   ·have hwb := decide_eq_true hw
    have ev : nextI 3 ⟨full, round, lossy, false, fl, tg, cp, rd, el, wt⟩ = 4 := by simp [nextI, nextBase, hw]
    rw [ev]
    clear ev
    go_enter Tryz.func114, Tryz.ntmps114
    go_wp2_with (with_reducible first | refine stop_bs ?_ | refine stop_bx ?_ | refine stop_al ?_ | refine stop_ms ?_ | refine stop_app ?_ | refine stop_copy ?_)
    refine Stop.go ?_
    go_step
    go_simp
    have H1 := Lib.hid (HH.out.alloc (.cells #[.bool full, .bool round, .bool lossy, .bool false, .int .u64 fl, .int .u64 tg, .int .u64 cp, .int .u64 rd, .int .u64 el, .int .u64 wt] 194))
    generalize w.alloc (.cells #[.bool full, .bool round, .bool lossy, .bool false, .int .u64 fl, .int .u64 tg, .int .u64 cp, .int .u64 rd, .int .u64 el, .int .u64 wt] 194) = w1 at *
    generalize w.heap.size = b at *
    clear HH
    (try clear k1); have k1 := H1.out.cells
    go_wp2_with fail
    go_ret
    exact ⟨rfl, H1.out.tail.old_below⟩
   ·have hwb := decide_eq_false hw
    have ev : nextI 3 ⟨full, round, lossy, false, fl, tg, cp, rd, el, wt⟩ = 3 := by simp [nextI, nextBase, hw]
    rw [ev]
    clear ev
    go_enter Tryz.func114, Tryz.ntmps114
    go_wp2_with (with_reducible first | refine stop_bs ?_ | refine stop_bx ?_ | refine stop_al ?_ | refine stop_ms ?_ | refine stop_app ?_ | refine stop_copy ?_)
    refine Stop.go ?_
    go_step
    go_simp
    have H1 := Lib.hid (HH.out.alloc (.cells #[.bool full, .bool round, .bool lossy, .bool false, .int .u64 fl, .int .u64 tg, .int .u64 cp, .int .u64 rd, .int .u64 el, .int .u64 wt] 194))
    generalize w.alloc (.cells #[.bool full, .bool round, .bool lossy, .bool false, .int .u64 fl, .int .u64 tg, .int .u64 cp, .int .u64 rd, .int .u64 el, .int .u64 wt] 194) = w1 at *
    generalize w.heap.size = b at *
    clear HH
    (try clear k1); have k1 := H1.out.cells
    go_wp2_with fail
    go_ret
    exact ⟨rfl, H1.out.tail.old_below⟩
 ·cases stale with
  | true =>
   have ev : nextI 4 ⟨full, round, lossy, true, fl, tg, cp, rd, el, wt⟩ = 6 := by simp [nextI]
   rw [ev]
   clear ev
   have e1 : follows 4 6 = true := by decide
   go_enter Tryz.func114, Tryz.ntmps114
   go_wp2_with (with_reducible first | refine stop_bs ?_ | refine stop_bx ?_ | refine stop_al ?_ | refine stop_ms ?_ | refine stop_app ?_ | refine stop_copy ?_)
   refine Stop.go ?_
   go_step
   go_simp
   have H1 := Lib.hid (HH.out.alloc (.cells #[.bool full, .bool round, .bool lossy, .bool true, .int .u64 fl, .int .u64 tg, .int .u64 cp, .int .u64 rd, .int .u64 el, .int .u64 wt] 194))
   generalize w.alloc (.cells #[.bool full, .bool round, .bool lossy, .bool true, .int .u64 fl, .int .u64 tg, .int .u64 cp, .int .u64 rd, .int .u64 el, .int .u64 wt] 194) = w1 at *
   generalize w.heap.size = b at *
   clear HH
   (try clear k1); have k1 := H1.out.cells
   go_wp2_with fail
   refine (modeFollows_c _ _ _).mono ?_
   rintro e w2 ⟨rfl, hbel⟩
   replace H1 := Lib.hid ((by first | exact .same hbel | exact .drew hbel | exact .below hbel : Kp _ w2) _ _ (by first | exact H1.out | exact H1.out.drewN _ | exact (H1.out.alloc _).tail | exact ((H1.out.alloc _).drewN _).tail | exact ((H1.out.alloc _).alloc _).tail.tail))
   clear hbel
   rw [e1]
   (try clear k1); have k1 := H1.out.cells
   go_wp2_with fail
   go_ret
   exact ⟨rfl, H1.out.tail.old_below⟩
  | false =>
   by_cases hr : 0 < rd
   ·have hrb := decide_eq_true hr
    have ev : nextI 4 ⟨full, round, lossy, false, fl, tg, cp, rd, el, wt⟩ = 5 := by simp [nextI, nextBase, hr]
    rw [ev]
    clear ev
    go_enter Tryz.func114, Tryz.ntmps114
    go_wp2_with (with_reducible first | refine stop_bs ?_ | refine stop_bx ?_ | refine stop_al ?_ | refine stop_ms ?_ | refine stop_app ?_ | refine stop_copy ?_)
    refine Stop.go ?_
    go_step
    go_simp
    have H1 := Lib.hid (HH.out.alloc (.cells #[.bool full, .bool round, .bool lossy, .bool false, .int .u64 fl, .int .u64 tg, .int .u64 cp, .int .u64 rd, .int .u64 el, .int .u64 wt] 194))
    generalize w.alloc (.cells #[.bool full, .bool round, .bool lossy, .bool false, .int .u64 fl, .int .u64 tg, .int .u64 cp, .int .u64 rd, .int .u64 el, .int .u64 wt] 194) = w1 at *
    generalize w.heap.size = b at *
    clear HH
    (try clear k1); have k1 := H1.out.cells
    go_wp2_with fail
    go_ret
    exact ⟨rfl, H1.out.tail.old_below⟩
   ·have hrb := decide_eq_false hr
    have ev : nextI 4 ⟨full, round, lossy, false, fl, tg, cp, rd, el, wt⟩ = 4 := by simp [nextI, nextBase, hr]
    rw [ev]
    clear ev
    go_enter Tryz.func114, Tryz.ntmps114
    go_wp2_with (with_reducible first | refine stop_bs ?_ | refine stop_bx ?_ | refine stop_al ?_ | refine stop_ms ?_ | refine stop_app ?_ | refine stop_copy ?_)
    refine Stop.go ?_
    go_step
    go_simp
    have H1 := Lib.hid (HH.out.alloc (.cells #[.bool full, .bool round, .bool lossy, .bool false, .int .u64 fl, .int .u64 tg, .int .u64 cp, .int .u64 rd, .int .u64 el, .int .u64 wt] 194))
    generalize w.alloc (.cells #[.bool full, .bool round, .bool lossy, .bool false, .int .u64 fl, .int .u64 tg, .int .u64 cp, .int .u64 rd, .int .u64 el, .int .u64 wt] 194) = w1 at *
    generalize w.heap.size = b at *
    clear HH
    (try clear k1); have k1 := H1.out.cells
    go_wp2_with fail
    go_ret
    exact ⟨rfl, H1.out.tail.old_below⟩
 ·cases stale with
  | true =>
   have ev : nextI 5 ⟨full, round, lossy, true, fl, tg, cp, rd, el, wt⟩ = 6 := by simp [nextI]
   rw [ev]
   clear ev
   have e1 : follows 5 6 = true := by decide
   go_enter Tryz.func114, Tryz.ntmps114
   go_wp2_with (with_reducible first | refine stop_bs ?_ | refine stop_bx ?_ | refine stop_al ?_ | refine stop_ms ?_ | refine stop_app ?_ | refine stop_copy ?_)
   refine Stop.go ?_
   go_step
   go_simp
   have H1 := Lib.hid (HH.out.alloc (.cells #[.bool full, .bool round, .bool lossy, .bool true, .int .u64 fl, .int .u64 tg, .int .u64 cp, .int .u64 rd, .int .u64 el, .int .u64 wt] 194))
   generalize w.alloc (.cells #[.bool full, .bool round, .bool lossy, .bool true, .int .u64 fl, .int .u64 tg, .int .u64 cp, .int .u64 rd, .int .u64 el, .int .u64 wt] 194) = w1 at *
   generalize w.heap.size = b at *
   clear HH
   (try clear k1); have k1 := H1.out.cells
   go_wp2_with fail
   refine (modeFollows_c _ _ _).mono ?_
   rintro e w2 ⟨rfl, hbel⟩
   replace H1 := Lib.hid ((by first | exact .same hbel | exact .drew hbel | exact .below hbel : Kp _ w2) _ _ (by first | exact H1.out | exact H1.out.drewN _ | exact (H1.out.alloc _).tail | exact ((H1.out.alloc _).drewN _).tail | exact ((H1.out.alloc _).alloc _).tail.tail))
   clear hbel
   rw [e1]
   (try clear k1); have k1 := H1.out.cells
   go_wp2_with fail
   go_ret
   exact ⟨rfl, H1.out.tail.old_below⟩
  | false =>
   cases lossy with
   | true =>
    have ev : nextI 5 ⟨full, round, true, false, fl, tg, cp, rd, el, wt⟩ = 2 := by simp [nextI, nextBase]
    rw [ev]
    clear ev
    go_enter Tryz.func114, Tryz.ntmps114
    go_wp2_with (with_reducible first | refine stop_bs ?_ | refine stop_bx ?_ | refine stop_al ?_ | refine stop_ms ?_ | refine stop_app ?_ | refine stop_copy ?_)
    refine Stop.go ?_
    go_step
    go_simp
    have H1 := Lib.hid (HH.out.alloc (.cells #[.bool full, .bool round, .bool true, .bool false, .int .u64 fl, .int .u64 tg, .int .u64 cp, .int .u64 rd, .int .u64 el, .int .u64 wt] 194))
    generalize w.alloc (.cells #[.bool full, .bool round, .bool true, .bool false, .int .u64 fl, .int .u64 tg, .int .u64 cp, .int .u64 rd, .int .u64 el, .int .u64 wt] 194) = w1 at *
    generalize w.heap.size = b at *
    clear HH
    (try clear k1); have k1 := H1.out.cells
    go_wp2_with fail
    refine wp_region_calm w [pts b (.cells #[.bool full, .bool round, .bool true, .bool false, .int .u64 fl, .int .u64 tg, .int .u64 cp, .int .u64 rd, .int .u64 el, .int .u64 wt] 194 (0, 0)), old w] (by kernel_rfl) (by kernel_rfl) H1.out ?_
    repeat
     first
     | go_big_quiet_skip
     | (go_big_quiet_want; go_big_quiet_op; first | go_big_quiet_on | (apply Exists.intro; refine ⟨?_, ?_⟩; (focus (intro wx hx; have x1' := hx.cells; first | (first | (go_at_call 97; refine (fixShare_c wx tg 5 4 hx2.out (by decide) (by decide)).mono ?_; rintro e wy ⟨rfl, hbel⟩; exact ⟨rfl, (by first | exact .same hbel | exact .drew hbel | exact .below hbel : Kp wx wy) _ _ hx⟩)) | (go_simp; first | rfl | exact ⟨rfl, rfl⟩) | rfl | exact ⟨rfl, rfl⟩)); go_big_quiet_on))
     | (refine wpQuiet_step (fun K hK => ?_)
        go_simp
        first
        | (refine hK _ ?_; clear hK K)
        | (apply Exists.intro
           refine ⟨?_, hK _ ?_⟩
           (focus (intro wx hx; have x1' := hx.cells; first | (first | (go_at_call 97; refine (fixShare_c wx tg 5 4 hx2.out (by decide) (by decide)).mono ?_; rintro e wy ⟨rfl, hbel⟩; exact ⟨rfl, (by first | exact .same hbel | exact .drew hbel | exact .below hbel : Kp wx wy) _ _ hx⟩)) | (go_simp; first | rfl | exact ⟨rfl, rfl⟩) | rfl | exact ⟨rfl, rfl⟩))
           clear hK K))
    refine wpQuiet_nil ?_
    intro w4 H9_
    replace H1 := Lib.hid H9_
    clear H9_
    (try clear k1); have k1 := H1.out.cells
    go_wp2_with fail
    go_ret
    exact ⟨rfl, H1.out.tail.old_below⟩
   | false =>
    by_cases hr : 0 < rd
    ·have hrb := decide_eq_true hr
     by_cases hf : sshare tg 5 4 ≤ fl
     ·have hfb := decide_eq_true hf
      have ev : nextI 5 ⟨full, round, false, false, fl, tg, cp, rd, el, wt⟩ = 2 := by simp [nextI, nextBase, hr, hf]
      rw [ev]
      clear ev
      go_enter Tryz.func114, Tryz.ntmps114
      go_wp2_with (with_reducible first | refine stop_bs ?_ | refine stop_bx ?_ | refine stop_al ?_ | refine stop_ms ?_ | refine stop_app ?_ | refine stop_copy ?_)
      refine Stop.go ?_
      go_step
      go_simp
      have H1 := Lib.hid (HH.out.alloc (.cells #[.bool full, .bool round, .bool false, .bool false, .int .u64 fl, .int .u64 tg, .int .u64 cp, .int .u64 rd, .int .u64 el, .int .u64 wt] 194))
      generalize w.alloc (.cells #[.bool full, .bool round, .bool false, .bool false, .int .u64 fl, .int .u64 tg, .int .u64 cp, .int .u64 rd, .int .u64 el, .int .u64 wt] 194) = w1 at *
      generalize w.heap.size = b at *
      clear HH
      (try clear k1); have k1 := H1.out.cells
      go_wp2_with fail
      refine wp_region_calm w [pts b (.cells #[.bool full, .bool round, .bool false, .bool false, .int .u64 fl, .int .u64 tg, .int .u64 cp, .int .u64 rd, .int .u64 el, .int .u64 wt] 194 (0, 0)), old w] (by kernel_rfl) (by kernel_rfl) H1.out ?_
      repeat
       first
       | go_big_quiet_skip
       | (go_big_quiet_want; go_big_quiet_op; first | go_big_quiet_on | (apply Exists.intro; refine ⟨?_, ?_⟩; (focus (intro wx hx; have x1' := hx.cells; first | (first | (go_at_call 97; refine (fixShare_c wx tg 5 4 hx2.out (by decide) (by decide)).mono ?_; rintro e wy ⟨rfl, hbel⟩; exact ⟨rfl, (by first | exact .same hbel | exact .drew hbel | exact .below hbel : Kp wx wy) _ _ hx⟩)) | (go_simp; first | rfl | exact ⟨rfl, rfl⟩) | rfl | exact ⟨rfl, rfl⟩)); go_big_quiet_on))
       | (refine wpQuiet_step (fun K hK => ?_)
          go_simp
          first
          | (refine hK _ ?_; clear hK K)
          | (apply Exists.intro
             refine ⟨?_, hK _ ?_⟩
             (focus (intro wx hx; have x1' := hx.cells; first | (first | (go_at_call 97; refine (fixShare_c wx tg 5 4 hx2.out (by decide) (by decide)).mono ?_; rintro e wy ⟨rfl, hbel⟩; exact ⟨rfl, (by first | exact .same hbel | exact .drew hbel | exact .below hbel : Kp wx wy) _ _ hx⟩)) | (go_simp; first | rfl | exact ⟨rfl, rfl⟩) | rfl | exact ⟨rfl, rfl⟩))
             clear hK K))
      refine wpQuiet_nil ?_
      intro w4 H9_
      replace H1 := Lib.hid H9_
      clear H9_
      (try clear k1); have k1 := H1.out.cells
      go_wp2_with fail
      go_ret
      exact ⟨rfl, H1.out.tail.old_below⟩
     ·have hfb := decide_eq_false hf
      have ev : nextI 5 ⟨full, round, false, false, fl, tg, cp, rd, el, wt⟩ = 5 := by simp [nextI, nextBase, hr, hf]
      rw [ev]
      clear ev
      go_enter Tryz.func114, Tryz.ntmps114
      go_wp2_with (with_reducible first | refine stop_bs ?_ | refine stop_bx ?_ | refine stop_al ?_ | refine stop_ms ?_ | refine stop_app ?_ | refine stop_copy ?_)
      refine Stop.go ?_
      go_step
      go_simp
      have H1 := Lib.hid (HH.out.alloc (.cells #[.bool full, .bool round, .bool false, .bool false, .int .u64 fl, .int .u64 tg, .int .u64 cp, .int .u64 rd, .int .u64 el, .int .u64 wt] 194))
      generalize w.alloc (.cells #[.bool full, .bool round, .bool false, .bool false, .int .u64 fl, .int .u64 tg, .int .u64 cp, .int .u64 rd, .int .u64 el, .int .u64 wt] 194) = w1 at *
      generalize w.heap.size = b at *
      clear HH
      (try clear k1); have k1 := H1.out.cells
      go_wp2_with fail
      refine wp_region_calm w [pts b (.cells #[.bool full, .bool round, .bool false, .bool false, .int .u64 fl, .int .u64 tg, .int .u64 cp, .int .u64 rd, .int .u64 el, .int .u64 wt] 194 (0, 0)), old w] (by kernel_rfl) (by kernel_rfl) H1.out ?_
      repeat
       first
       | go_big_quiet_skip
       | (go_big_quiet_want; go_big_quiet_op; first | go_big_quiet_on | (apply Exists.intro; refine ⟨?_, ?_⟩; (focus (intro wx hx; have x1' := hx.cells; first | (first | (go_at_call 97; refine (fixShare_c wx tg 5 4 hx2.out (by decide) (by decide)).mono ?_; rintro e wy ⟨rfl, hbel⟩; exact ⟨rfl, (by first | exact .same hbel | exact .drew hbel | exact .below hbel : Kp wx wy) _ _ hx⟩)) | (go_simp; first | rfl | exact ⟨rfl, rfl⟩) | rfl | exact ⟨rfl, rfl⟩)); go_big_quiet_on))
       | (refine wpQuiet_step (fun K hK => ?_)
          go_simp
          first
          | (refine hK _ ?_; clear hK K)
          | (apply Exists.intro
             refine ⟨?_, hK _ ?_⟩
             (focus (intro wx hx; have x1' := hx.cells; first | (first | (go_at_call 97; refine (fixShare_c wx tg 5 4 hx2.out (by decide) (by decide)).mono ?_; rintro e wy ⟨rfl, hbel⟩; exact ⟨rfl, (by first | exact .same hbel | exact .drew hbel | exact .below hbel : Kp wx wy) _ _ hx⟩)) | (go_simp; first | rfl | exact ⟨rfl, rfl⟩) | rfl | exact ⟨rfl, rfl⟩))
             clear hK K))
      refine wpQuiet_nil ?_
      intro w4 H9_
      replace H1 := Lib.hid H9_
      clear H9_
      (try clear k1); have k1 := H1.out.cells
      go_wp2_with fail
      go_ret
      exact ⟨rfl, H1.out.tail.old_below⟩
    ·have hrb := decide_eq_false hr
     have ev : nextI 5 ⟨full, round, false, false, fl, tg, cp, rd, el, wt⟩ = 5 := by simp [nextI, nextBase, hr]
     rw [ev]
     clear ev
     go_enter Tryz.func114, Tryz.ntmps114
     go_wp2_with (with_reducible first | refine stop_bs ?_ | refine stop_bx ?_ | refine stop_al ?_ | refine stop_ms ?_ | refine stop_app ?_ | refine stop_copy ?_)
     refine Stop.go ?_
     go_step
     go_simp
     have H1 := Lib.hid (HH.out.alloc (.cells #[.bool full, .bool round, .bool false, .bool false, .int .u64 fl, .int .u64 tg, .int .u64 cp, .int .u64 rd, .int .u64 el, .int .u64 wt] 194))
     generalize w.alloc (.cells #[.bool full, .bool round, .bool false, .bool false, .int .u64 fl, .int .u64 tg, .int .u64 cp, .int .u64 rd, .int .u64 el, .int .u64 wt] 194) = w1 at *
     generalize w.heap.size = b at *
     clear HH
     (try clear k1); have k1 := H1.out.cells
     go_wp2_with fail
     refine wp_region_calm w [pts b (.cells #[.bool full, .bool round, .bool false, .bool false, .int .u64 fl, .int .u64 tg, .int .u64 cp, .int .u64 rd, .int .u64 el, .int .u64 wt] 194 (0, 0)), old w] (by kernel_rfl) (by kernel_rfl) H1.out ?_
     repeat
      first
      | go_big_quiet_skip
      | (go_big_quiet_want; go_big_quiet_op; first | go_big_quiet_on | (apply Exists.intro; refine ⟨?_, ?_⟩; (focus (intro wx hx; have x1' := hx.cells; first | (first | (go_at_call 97; refine (fixShare_c wx tg 5 4 hx2.out (by decide) (by decide)).mono ?_; rintro e wy ⟨rfl, hbel⟩; exact ⟨rfl, (by first | exact .same hbel | exact .drew hbel | exact .below hbel : Kp wx wy) _ _ hx⟩)) | (go_simp; first | rfl | exact ⟨rfl, rfl⟩) | rfl | exact ⟨rfl, rfl⟩)); go_big_quiet_on))
      | (refine wpQuiet_step (fun K hK => ?_)
         go_simp
         first
         | (refine hK _ ?_; clear hK K)
         | (apply Exists.intro
            refine ⟨?_, hK _ ?_⟩
            (focus (intro wx hx; have x1' := hx.cells; first | (first | (go_at_call 97; refine (fixShare_c wx tg 5 4 hx2.out (by decide) (by decide)).mono ?_; rintro e wy ⟨rfl, hbel⟩; exact ⟨rfl, (by first | exact .same hbel | exact .drew hbel | exact .below hbel : Kp wx wy) _ _ hx⟩)) | (go_simp; first | rfl | exact ⟨rfl, rfl⟩) | rfl | exact ⟨rfl, rfl⟩))
            clear hK K))
     refine wpQuiet_nil ?_
     intro w4 H9_
     replace H1 := Lib.hid H9_
     clear H9_
     (try clear k1); have k1 := H1.out.cells
     go_wp2_with fail
     go_ret
     exact ⟨rfl, H1.out.tail.old_below⟩
 ·cases stale with
  | true =>
   by_cases hw : wt ≤ el
   ·have hwb := decide_eq_true hw
    by_cases hr : 0 < rd
    ·have hrb := decide_eq_true hr
     cases full with
     | true =>
      have ev : nextI 6 ⟨true, round, lossy, true, fl, tg, cp, rd, el, wt⟩ = 3 := by simp [nextI, nextBase, hw, hr]
      rw [ev]
      clear ev
      have e1 : follows 6 6 = true := by decide
      go_enter Tryz.func114, Tryz.ntmps114
      go_wp2_with (with_reducible first | refine stop_bs ?_ | refine stop_bx ?_ | refine stop_al ?_ | refine stop_ms ?_ | refine stop_app ?_ | refine stop_copy ?_)
      refine Stop.go ?_
      go_step
      go_simp
      have H1 := Lib.hid (HH.out.alloc (.cells #[.bool true, .bool round, .bool lossy, .bool true, .int .u64 fl, .int .u64 tg, .int .u64 cp, .int .u64 rd, .int .u64 el, .int .u64 wt] 194))
      generalize w.alloc (.cells #[.bool true, .bool round, .bool lossy, .bool true, .int .u64 fl, .int .u64 tg, .int .u64 cp, .int .u64 rd, .int .u64 el, .int .u64 wt] 194) = w1 at *
      generalize w.heap.size = b at *
      clear HH
      (try clear k1); have k1 := H1.out.cells
      go_wp2_with fail
      refine (modeFollows_c _ _ _).mono ?_
      rintro e w2 ⟨rfl, hbel⟩
      replace H1 := Lib.hid ((by first | exact .same hbel | exact .drew hbel | exact .below hbel : Kp _ w2) _ _ (by first | exact H1.out | exact H1.out.drewN _ | exact (H1.out.alloc _).tail | exact ((H1.out.alloc _).drewN _).tail | exact ((H1.out.alloc _).alloc _).tail.tail))
      clear hbel
      rw [e1]
      (try clear k1); have k1 := H1.out.cells
      go_wp2_with fail
      refine (modeProbed3_c _ round lossy true fl tg cp rd el wt).mono ?_
      rintro e w5 ⟨rfl, hbel⟩
      replace H1 := Lib.hid ((by first | exact .same hbel | exact .drew hbel | exact .below hbel : Kp _ w5) _ _ (by first | exact H1.out | exact H1.out.drewN _ | exact (H1.out.alloc _).tail | exact ((H1.out.alloc _).drewN _).tail | exact ((H1.out.alloc _).alloc _).tail.tail))
      clear hbel
      go_wp2_with fail
      go_ret
      exact ⟨rfl, H1.out.tail.old_below⟩
     | false =>
      have ev : nextI 6 ⟨false, round, lossy, true, fl, tg, cp, rd, el, wt⟩ = 0 := by simp [nextI, nextBase, hw, hr]
      rw [ev]
      clear ev
      have e1 : follows 6 6 = true := by decide
      go_enter Tryz.func114, Tryz.ntmps114
      go_wp2_with (with_reducible first | refine stop_bs ?_ | refine stop_bx ?_ | refine stop_al ?_ | refine stop_ms ?_ | refine stop_app ?_ | refine stop_copy ?_)
      refine Stop.go ?_
      go_step
      go_simp
      have H1 := Lib.hid (HH.out.alloc (.cells #[.bool false, .bool round, .bool lossy, .bool true, .int .u64 fl, .int .u64 tg, .int .u64 cp, .int .u64 rd, .int .u64 el, .int .u64 wt] 194))
      generalize w.alloc (.cells #[.bool false, .bool round, .bool lossy, .bool true, .int .u64 fl, .int .u64 tg, .int .u64 cp, .int .u64 rd, .int .u64 el, .int .u64 wt] 194) = w1 at *
      generalize w.heap.size = b at *
      clear HH
      (try clear k1); have k1 := H1.out.cells
      go_wp2_with fail
      refine (modeFollows_c _ _ _).mono ?_
      rintro e w2 ⟨rfl, hbel⟩
      replace H1 := Lib.hid ((by first | exact .same hbel | exact .drew hbel | exact .below hbel : Kp _ w2) _ _ (by first | exact H1.out | exact H1.out.drewN _ | exact (H1.out.alloc _).tail | exact ((H1.out.alloc _).drewN _).tail | exact ((H1.out.alloc _).alloc _).tail.tail))
      clear hbel
      rw [e1]
      (try clear k1); have k1 := H1.out.cells
      go_wp2_with fail
      refine (modeProbed0_c _ round lossy true fl tg cp rd el wt).mono ?_
      rintro e w5 ⟨rfl, hbel⟩
      replace H1 := Lib.hid ((by first | exact .same hbel | exact .drew hbel | exact .below hbel : Kp _ w5) _ _ (by first | exact H1.out | exact H1.out.drewN _ | exact (H1.out.alloc _).tail | exact ((H1.out.alloc _).drewN _).tail | exact ((H1.out.alloc _).alloc _).tail.tail))
      clear hbel
      go_wp2_with fail
      go_ret
      exact ⟨rfl, H1.out.tail.old_below⟩
    ·have hrb := decide_eq_false hr
     have ev : nextI 6 ⟨full, round, lossy, true, fl, tg, cp, rd, el, wt⟩ = 6 := by simp [nextI, nextBase, hw, hr]
     rw [ev]
     clear ev
     have e1 : follows 6 6 = true := by decide
     go_enter Tryz.func114, Tryz.ntmps114
     go_wp2_with (with_reducible first | refine stop_bs ?_ | refine stop_bx ?_ | refine stop_al ?_ | refine stop_ms ?_ | refine stop_app ?_ | refine stop_copy ?_)
     refine Stop.go ?_
     go_step
     go_simp
     have H1 := Lib.hid (HH.out.alloc (.cells #[.bool full, .bool round, .bool lossy, .bool true, .int .u64 fl, .int .u64 tg, .int .u64 cp, .int .u64 rd, .int .u64 el, .int .u64 wt] 194))
     generalize w.alloc (.cells #[.bool full, .bool round, .bool lossy, .bool true, .int .u64 fl, .int .u64 tg, .int .u64 cp, .int .u64 rd, .int .u64 el, .int .u64 wt] 194) = w1 at *
     generalize w.heap.size = b at *
     clear HH
     (try clear k1); have k1 := H1.out.cells
     go_wp2_with fail
     refine (modeFollows_c _ _ _).mono ?_
     rintro e w2 ⟨rfl, hbel⟩
     replace H1 := Lib.hid ((by first | exact .same hbel | exact .drew hbel | exact .below hbel : Kp _ w2) _ _ (by first | exact H1.out | exact H1.out.drewN _ | exact (H1.out.alloc _).tail | exact ((H1.out.alloc _).drewN _).tail | exact ((H1.out.alloc _).alloc _).tail.tail))
     clear hbel
     rw [e1]
     (try clear k1); have k1 := H1.out.cells
     go_wp2_with fail
     go_ret
     exact ⟨rfl, H1.out.tail.old_below⟩
   ·have hwb := decide_eq_false hw
    have ev : nextI 6 ⟨full, round, lossy, true, fl, tg, cp, rd, el, wt⟩ = 6 := by simp [nextI, nextBase, hw]
    rw [ev]
    clear ev
    have e1 : follows 6 6 = true := by decide
    go_enter Tryz.func114, Tryz.ntmps114
    go_wp2_with (with_reducible first | refine stop_bs ?_ | refine stop_bx ?_ | refine stop_al ?_ | refine stop_ms ?_ | refine stop_app ?_ | refine stop_copy ?_)
    refine Stop.go ?_
    go_step
    go_simp
    have H1 := Lib.hid (HH.out.alloc (.cells #[.bool full, .bool round, .bool lossy, .bool true, .int .u64 fl, .int .u64 tg, .int .u64 cp, .int .u64 rd, .int .u64 el, .int .u64 wt] 194))
    generalize w.alloc (.cells #[.bool full, .bool round, .bool lossy, .bool true, .int .u64 fl, .int .u64 tg, .int .u64 cp, .int .u64 rd, .int .u64 el, .int .u64 wt] 194) = w1 at *
    generalize w.heap.size = b at *
    clear HH
    (try clear k1); have k1 := H1.out.cells
    go_wp2_with fail
    refine (modeFollows_c _ _ _).mono ?_
    rintro e w2 ⟨rfl, hbel⟩
    replace H1 := Lib.hid ((by first | exact .same hbel | exact .drew hbel | exact .below hbel : Kp _ w2) _ _ (by first | exact H1.out | exact H1.out.drewN _ | exact (H1.out.alloc _).tail | exact ((H1.out.alloc _).drewN _).tail | exact ((H1.out.alloc _).alloc _).tail.tail))
    clear hbel
    rw [e1]
    (try clear k1); have k1 := H1.out.cells
    go_wp2_with fail
    go_ret
    exact ⟨rfl, H1.out.tail.old_below⟩
  | false =>
   by_cases hw : wt ≤ el
   ·have hwb := decide_eq_true hw
    by_cases hr : 0 < rd
    ·have hrb := decide_eq_true hr
     cases full with
     | true =>
      have ev : nextI 6 ⟨true, round, lossy, false, fl, tg, cp, rd, el, wt⟩ = 3 := by simp [nextI, nextBase, hw, hr]
      rw [ev]
      clear ev
      go_enter Tryz.func114, Tryz.ntmps114
      go_wp2_with (with_reducible first | refine stop_bs ?_ | refine stop_bx ?_ | refine stop_al ?_ | refine stop_ms ?_ | refine stop_app ?_ | refine stop_copy ?_)
      refine Stop.go ?_
      go_step
      go_simp
      have H1 := Lib.hid (HH.out.alloc (.cells #[.bool true, .bool round, .bool lossy, .bool false, .int .u64 fl, .int .u64 tg, .int .u64 cp, .int .u64 rd, .int .u64 el, .int .u64 wt] 194))
      generalize w.alloc (.cells #[.bool true, .bool round, .bool lossy, .bool false, .int .u64 fl, .int .u64 tg, .int .u64 cp, .int .u64 rd, .int .u64 el, .int .u64 wt] 194) = w1 at *
      generalize w.heap.size = b at *
      clear HH
      (try clear k1); have k1 := H1.out.cells
      go_wp2_with fail
      refine (modeProbed3_c _ round lossy false fl tg cp rd el wt).mono ?_
      rintro e w5 ⟨rfl, hbel⟩
      replace H1 := Lib.hid ((by first | exact .same hbel | exact .drew hbel | exact .below hbel : Kp _ w5) _ _ (by first | exact H1.out | exact H1.out.drewN _ | exact (H1.out.alloc _).tail | exact ((H1.out.alloc _).drewN _).tail | exact ((H1.out.alloc _).alloc _).tail.tail))
      clear hbel
      go_wp2_with fail
      go_ret
      exact ⟨rfl, H1.out.tail.old_below⟩
     | false =>
      have ev : nextI 6 ⟨false, round, lossy, false, fl, tg, cp, rd, el, wt⟩ = 0 := by simp [nextI, nextBase, hw, hr]
      rw [ev]
      clear ev
      go_enter Tryz.func114, Tryz.ntmps114
      go_wp2_with (with_reducible first | refine stop_bs ?_ | refine stop_bx ?_ | refine stop_al ?_ | refine stop_ms ?_ | refine stop_app ?_ | refine stop_copy ?_)
      refine Stop.go ?_
      go_step
      go_simp
      have H1 := Lib.hid (HH.out.alloc (.cells #[.bool false, .bool round, .bool lossy, .bool false, .int .u64 fl, .int .u64 tg, .int .u64 cp, .int .u64 rd, .int .u64 el, .int .u64 wt] 194))
      generalize w.alloc (.cells #[.bool false, .bool round, .bool lossy, .bool false, .int .u64 fl, .int .u64 tg, .int .u64 cp, .int .u64 rd, .int .u64 el, .int .u64 wt] 194) = w1 at *
      generalize w.heap.size = b at *
      clear HH
      (try clear k1); have k1 := H1.out.cells
      go_wp2_with fail
      refine (modeProbed0_c _ round lossy false fl tg cp rd el wt).mono ?_
      rintro e w5 ⟨rfl, hbel⟩
      replace H1 := Lib.hid ((by first | exact .same hbel | exact .drew hbel | exact .below hbel : Kp _ w5) _ _ (by first | exact H1.out | exact H1.out.drewN _ | exact (H1.out.alloc _).tail | exact ((H1.out.alloc _).drewN _).tail | exact ((H1.out.alloc _).alloc _).tail.tail))
      clear hbel
      go_wp2_with fail
      go_ret
      exact ⟨rfl, H1.out.tail.old_below⟩
    ·have hrb := decide_eq_false hr
     have ev : nextI 6 ⟨full, round, lossy, false, fl, tg, cp, rd, el, wt⟩ = 6 := by simp [nextI, nextBase, hw, hr]
     rw [ev]
     clear ev
     go_enter Tryz.func114, Tryz.ntmps114
     go_wp2_with (with_reducible first | refine stop_bs ?_ | refine stop_bx ?_ | refine stop_al ?_ | refine stop_ms ?_ | refine stop_app ?_ | refine stop_copy ?_)
     refine Stop.go ?_
     go_step
     go_simp
     have H1 := Lib.hid (HH.out.alloc (.cells #[.bool full, .bool round, .bool lossy, .bool false, .int .u64 fl, .int .u64 tg, .int .u64 cp, .int .u64 rd, .int .u64 el, .int .u64 wt] 194))
     generalize w.alloc (.cells #[.bool full, .bool round, .bool lossy, .bool false, .int .u64 fl, .int .u64 tg, .int .u64 cp, .int .u64 rd, .int .u64 el, .int .u64 wt] 194) = w1 at *
     generalize w.heap.size = b at *
     clear HH
     (try clear k1); have k1 := H1.out.cells
     go_wp2_with fail
     go_ret
     exact ⟨rfl, H1.out.tail.old_below⟩
   ·have hwb := decide_eq_false hw
    have ev : nextI 6 ⟨full, round, lossy, false, fl, tg, cp, rd, el, wt⟩ = 6 := by simp [nextI, nextBase, hw]
    rw [ev]
    clear ev
    go_enter Tryz.func114, Tryz.ntmps114
    go_wp2_with (with_reducible first | refine stop_bs ?_ | refine stop_bx ?_ | refine stop_al ?_ | refine stop_ms ?_ | refine stop_app ?_ | refine stop_copy ?_)
    refine Stop.go ?_
    go_step
    go_simp
    have H1 := Lib.hid (HH.out.alloc (.cells #[.bool full, .bool round, .bool lossy, .bool false, .int .u64 fl, .int .u64 tg, .int .u64 cp, .int .u64 rd, .int .u64 el, .int .u64 wt] 194))
    generalize w.alloc (.cells #[.bool full, .bool round, .bool lossy, .bool false, .int .u64 fl, .int .u64 tg, .int .u64 cp, .int .u64 rd, .int .u64 el, .int .u64 wt] 194) = w1 at *
    generalize w.heap.size = b at *
    clear HH
    (try clear k1); have k1 := H1.out.cells
    go_wp2_with fail
    go_ret
    exact ⟨rfl, H1.out.tail.old_below⟩
 ·cases stale with
  | true =>
   have ev : nextI s ⟨full, round, lossy, true, fl, tg, cp, rd, el, wt⟩ = s := by unfold nextI nextBase; rw [if_neg (fun h => hs ⟨h.2.1, by omega⟩), if_neg (by omega), if_neg (by omega), if_neg (by omega), if_neg (by omega), if_neg (by omega), if_neg (by omega), if_neg (by omega)]
   rw [ev]
   clear ev
   have e1 : follows s 6 = false := by unfold follows stOk; rw [decide_eq_false hs]; rfl
   have d0 : (s == 0) = false := by simp; omega
   have d1 : (s == 1) = false := by simp; omega
   have d2 : (s == 2) = false := by simp; omega
   have d3 : (s == 3) = false := by simp; omega
   have d4 : (s == 4) = false := by simp; omega
   have d5 : (s == 5) = false := by simp; omega
   have d6 : (s == 6) = false := by simp; omega
   go_enter Tryz.func114, Tryz.ntmps114
   go_wp2_with (with_reducible first | refine stop_bs ?_ | refine stop_bx ?_ | refine stop_al ?_ | refine stop_ms ?_ | refine stop_app ?_ | refine stop_copy ?_)
   refine Stop.go ?_
   go_step
   go_simp
   have H1 := Lib.hid (HH.out.alloc (.cells #[.bool full, .bool round, .bool lossy, .bool true, .int .u64 fl, .int .u64 tg, .int .u64 cp, .int .u64 rd, .int .u64 el, .int .u64 wt] 194))
   generalize w.alloc (.cells #[.bool full, .bool round, .bool lossy, .bool true, .int .u64 fl, .int .u64 tg, .int .u64 cp, .int .u64 rd, .int .u64 el, .int .u64 wt] 194) = w1 at *
   generalize w.heap.size = b at *
   clear HH
   (try clear k1); have k1 := H1.out.cells
   go_wp2_with fail
   refine (modeFollows_c _ _ _).mono ?_
   rintro e w2 ⟨rfl, hbel⟩
   replace H1 := Lib.hid ((by first | exact .same hbel | exact .drew hbel | exact .below hbel : Kp _ w2) _ _ (by first | exact H1.out | exact H1.out.drewN _ | exact (H1.out.alloc _).tail | exact ((H1.out.alloc _).drewN _).tail | exact ((H1.out.alloc _).alloc _).tail.tail))
   clear hbel
   rw [e1]
   (try clear k1); have k1 := H1.out.cells
   go_wp2_with fail
   go_ret
   exact ⟨rfl, H1.out.tail.old_below⟩
  | false =>
   have ev : nextI s ⟨full, round, lossy, false, fl, tg, cp, rd, el, wt⟩ = s := by unfold nextI nextBase; rw [if_neg (fun h => hs ⟨h.2.1, by omega⟩), if_neg (by omega), if_neg (by omega), if_neg (by omega), if_neg (by omega), if_neg (by omega), if_neg (by omega), if_neg (by omega)]
   rw [ev]
   clear ev
   have d0 : (s == 0) = false := by simp; omega
   have d1 : (s == 1) = false := by simp; omega
   have d2 : (s == 2) = false := by simp; omega
   have d3 : (s == 3) = false := by simp; omega
   have d4 : (s == 4) = false := by simp; omega
   have d5 : (s == 5) = false := by simp; omega
   have d6 : (s == 6) = false := by simp; omega
   go_enter Tryz.func114, Tryz.ntmps114
   go_wp2_with (with_reducible first | refine stop_bs ?_ | refine stop_bx ?_ | refine stop_al ?_ | refine stop_ms ?_ | refine stop_app ?_ | refine stop_copy ?_)
   refine Stop.go ?_
   go_step
   go_simp
   have H1 := Lib.hid (HH.out.alloc (.cells #[.bool full, .bool round, .bool lossy, .bool false, .int .u64 fl, .int .u64 tg, .int .u64 cp, .int .u64 rd, .int .u64 el, .int .u64 wt] 194))
   generalize w.alloc (.cells #[.bool full, .bool round, .bool lossy, .bool false, .int .u64 fl, .int .u64 tg, .int .u64 cp, .int .u64 rd, .int .u64 el, .int .u64 wt] 194) = w1 at *
   generalize w.heap.size = b at *
   clear HH
   (try clear k1); have k1 := H1.out.cells
   go_wp2_with fail
   go_ret
   exact ⟨rfl, H1.out.tail.old_below⟩
end
end Go.Proofs.YtmkcpnlbicijoaaGreat
