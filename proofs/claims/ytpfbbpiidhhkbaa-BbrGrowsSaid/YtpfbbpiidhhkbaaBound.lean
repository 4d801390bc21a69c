/- bound, and its reference. -/
import Derived.Test.YtpfbbpiidhhkbaaFix01
import Derived.Test.YtpfbbpiidhhkbaaFixP
import Derived.Test.YtpfbbpiidhhkbaaCalm
import Derived.Test.YtpfbbpiidhhkbaaSet
namespace Go.Proofs.Ytpfbbpiidhhkbaa
open Go.RowKit
structure Bnd where
  hi : Int
  lo : Int
  bw : Int
def Bnd.v (s : Bnd) : Value := .agg #[.int .u64 s.hi, .int .u64 s.lo, .int .u64 s.bw]
def Bnd.Ok (s : Bnd) : Prop := U s.hi ∧ U s.lo ∧ U s.bw
instance instBndOk (s : Bnd) : Decidable s.Ok := inferInstanceAs (Decidable (_ ∧ _ ∧ _))
def orI (x y : Int) : Int := if x = 18446744073709551615 then y else x
def cutI (x : Int) : Int := sshare x 70 100
def Bnd.lose (s : Bnd) (flight rate have_ : Int) : Bnd := ⟨s.hi, max flight (cutI (orI s.lo have_)), max rate (cutI (orI s.bw rate))⟩
def Bnd.pull (s : Bnd) (flight target : Int) : Bnd := ⟨max flight (cutI target), s.lo, s.bw⟩
def Bnd.push (s : Bnd) (n : Int) : Bnd := if s.hi = 18446744073709551615 then s else ⟨min (sadd s.hi n) 18446744073709551614, s.lo, s.bw⟩
def Bnd.short (s : Bnd) : Bnd := ⟨s.hi, 18446744073709551615, 18446744073709551615⟩
def Bnd.none : Bnd := ⟨18446744073709551615, 18446744073709551615, 18446744073709551615⟩
def minL (n : Int) (l : List Int) : Int := l.foldl min n
def Bnd.cap (s : Bnd) (l : List Int) : Int := minL (min s.hi s.lo) l
def Bnd.room (s : Bnd) : Int := if s.hi = 18446744073709551615 then 18446744073709551615 else sshare s.hi 85 100
def Bnd.limit (s : Bnd) (r : Int) : Int := min r s.bw
theorem ite_min (a b : Int) : (if b < a then b else a) = min a b := by split <;> omega
theorem U_max {a b : Int} (ha : U a) (hb : U b) : U (max a b) := by unfold U at *; omega
theorem U_min {a b : Int} (ha : U a) (hb : U b) : U (min a b) := by unfold U at *; omega
theorem U_orI {a b : Int} (ha : U a) (hb : U b) : U (orI a b) := by unfold orI; split <;> assumption
theorem U_70 : U 70 ∧ U 100 ∧ U 85 ∧ U 7 ∧ U 10 := by unfold U; omega
theorem U_cut {a : Int} (ha : U a) : U (cutI a) := U_sshare ha U_70.1
section
variable (w : World)
theorem boundOr_c (x y : Int) : Calls Try.prog 56 #[.int .u64 x, .int .u64 y] w fun e w' => e = .returned (.int .u64 (orI x y)) ∧ w = w' := by
  unfold orI
  by_cases h : x = 18446744073709551615
  · rw [if_pos h]
    subst h
    go_enter Try.func56, Try.ntmps56
    go_wp2_with fail
    go_ret
    exact ⟨rfl, rfl⟩
  · rw [if_neg h]
    have hb : (x == 18446744073709551615) = false := by simpa using h
    go_enter Try.func56, Try.ntmps56
    go_wp2_with fail
    go_ret
    exact ⟨rfl, rfl⟩
theorem boundCut_c (x : Int) (hx : U x) : Calls Try.prog 54 #[.int .u64 x] w fun e w' => e = .returned (.int .u64 (cutI x)) ∧ ∃ n, w' = w.drewN n := by
  go_enter Try.func54, Try.ntmps54
  go_wp2_with fail
  refine (fixShare_c _ _ _ _ hx U_70.1 U_70.2.1).mono ?_
  rintro e w' ⟨rfl, n, rfl⟩
  go_wp2_with fail
  go_ret
  exact ⟨rfl, n, rfl⟩
set_option maxRecDepth 100000 in
theorem boundLose_c (s : Bnd) (x y z : Int) (hs : s.Ok) (hx : U x) (hy : U y) (hz : U z) :
    Calls Try.prog 34 #[s.v, .int .u64 x, .int .u64 y, .int .u64 z] w fun e w' => e = .returned (s.lose x y z).v ∧ Below w.heap.size w w' := by
  obtain ⟨hi, lo, bw⟩ := s
  obtain ⟨h1, h2, h3⟩ := hs
  simp only at h1 h2 h3
  replace h1 := Lib.hid h1
  replace h2 := Lib.hid h2
  replace h3 := Lib.hid h3
  replace hx := Lib.hid hx
  replace hy := Lib.hid hy
  replace hz := Lib.hid hz
  have im := ite_max
  unfold Bnd.v
  go_enter Try.func34, Try.ntmps34
  go_wp2_with fail
  refine (boundOr_c _ lo z).mono ?_
  rintro e w' ⟨rfl, rfl⟩
  go_wp2_with fail
  refine (boundCut_c _ _ (U_orI h2.out hz.out)).mono ?_
  rintro e w' ⟨rfl, n1, rfl⟩
  go_wp2_with fail
  refine (boundOr_c _ bw y).mono ?_
  rintro e w' ⟨rfl, rfl⟩
  go_wp2_with fail
  refine (boundCut_c _ _ (U_orI h3.out hy.out)).mono ?_
  rintro e w' ⟨rfl, n2, rfl⟩
  go_wp2_with fail
  refine bodyPost_ret (v := .agg #[.int .u64 hi, .int .u64 (max x (cutI (orI lo z))), .int .u64 (max y (cutI (orI bw y)))]) (by simp [results, Try.results34, go_sem]) rfl (⟨rfl, (by repeat (first | with_reducible exact Below.refl _ _ | with_reducible refine Below.alloc ?_ (by simp; first | done | omega) _ | with_reducible refine Below.setCell ?_ (by simp; first | done | omega) _ | with_reducible refine Below.drewN ?_ _ | with_reducible refine Below.drew ?_))⟩)
set_option maxRecDepth 100000 in
theorem boundPull_c (s : Bnd) (x y : Int) (hx : U x) (hy : U y) :
    Calls Try.prog 32 #[s.v, .int .u64 x, .int .u64 y] w fun e w' => e = .returned (s.pull x y).v ∧ Below w.heap.size w w' := by
  obtain ⟨hi, lo, bw⟩ := s
  replace hx := Lib.hid hx
  replace hy := Lib.hid hy
  have im := ite_max
  unfold Bnd.v
  go_enter Try.func32, Try.ntmps32
  go_wp2_with fail
  refine (boundCut_c _ _ hy.out).mono ?_
  rintro e w' ⟨rfl, n1, rfl⟩
  go_wp2_with fail
  refine bodyPost_ret (v := .agg #[.int .u64 (max x (cutI y)), .int .u64 lo, .int .u64 bw]) (by simp [results, Try.results32, go_sem]) rfl (⟨rfl, (by repeat (first | with_reducible exact Below.refl _ _ | with_reducible refine Below.alloc ?_ (by simp; first | done | omega) _ | with_reducible refine Below.setCell ?_ (by simp; first | done | omega) _ | with_reducible refine Below.drewN ?_ _ | with_reducible refine Below.drew ?_))⟩)
set_option maxRecDepth 100000 in
theorem boundPush_c (s : Bnd) (x : Int) (hs : s.Ok) (hx : U x) :
    Calls Try.prog 36 #[s.v, .int .u64 x] w fun e w' => e = .returned (s.push x).v ∧ Below w.heap.size w w' := by
  obtain ⟨hi, lo, bw⟩ := s
  obtain ⟨h1, h2, h3⟩ := hs
  simp only at h1 h2 h3
  replace h1 := Lib.hid h1
  clear h2 h3
  replace hx := Lib.hid hx
  have im := ite_min
  unfold Bnd.push Bnd.v
  simp only
  by_cases h : hi = 18446744073709551615
  · rw [if_pos h]
    subst h
    go_enter Try.func36, Try.ntmps36
    go_wp2_with fail
    refine bodyPost_ret (v := .agg #[.int .u64 18446744073709551615, .int .u64 lo, .int .u64 bw]) (by simp [results, Try.results36, go_sem]) rfl (⟨rfl, (by repeat (first | with_reducible exact Below.refl _ _ | with_reducible refine Below.alloc ?_ (by simp; first | done | omega) _ | with_reducible refine Below.setCell ?_ (by simp; first | done | omega) _ | with_reducible refine Below.drewN ?_ _ | with_reducible refine Below.drew ?_))⟩)
  · rw [if_neg h]
    have hb : (hi != 18446744073709551615) = true := by simpa using h
    clear h
    go_enter Try.func36, Try.ntmps36
    go_wp2_with fail
    refine (fixAdd2_c _ _ _ _ h1.out hx.out (by go_simp) (by go_simp)).mono ?_
    rintro e w' ⟨rfl, rfl⟩
    go_wp2_with fail
    refine bodyPost_ret (v := .agg #[.int .u64 (min (sadd hi x) 18446744073709551614), .int .u64 lo, .int .u64 bw]) (by simp [results, Try.results36, go_sem]) rfl (⟨rfl, (by repeat (first | with_reducible exact Below.refl _ _ | with_reducible refine Below.alloc ?_ (by simp; first | done | omega) _ | with_reducible refine Below.setCell ?_ (by simp; first | done | omega) _ | with_reducible refine Below.drewN ?_ _ | with_reducible refine Below.drew ?_))⟩)
theorem boundShort_c (s : Bnd) :
    Calls Try.prog 64 #[s.v] w fun e w' => e = .returned s.short.v ∧ Below w.heap.size w w' := by
  obtain ⟨hi, lo, bw⟩ := s
  unfold Bnd.v
  go_enter Try.func64, Try.ntmps64
  go_wp2_with fail
  refine bodyPost_ret (v := .agg #[.int .u64 hi, .int .u64 18446744073709551615, .int .u64 18446744073709551615]) (by simp [results, Try.results64, go_sem]) rfl (⟨rfl, (by repeat (first | with_reducible exact Below.refl _ _ | with_reducible refine Below.alloc ?_ (by simp; first | done | omega) _ | with_reducible refine Below.setCell ?_ (by simp; first | done | omega) _ | with_reducible refine Below.drewN ?_ _ | with_reducible refine Below.drew ?_))⟩)
theorem boundNone_c :
    Calls Try.prog 20 #[] w fun e w' => e = .returned Bnd.none.v ∧ Below w.heap.size w w' := by
  unfold Bnd.v
  go_enter Try.func20, Try.ntmps20
  go_wp2_with fail
  refine bodyPost_ret (v := .agg #[.int .u64 18446744073709551615, .int .u64 18446744073709551615, .int .u64 18446744073709551615]) (by simp [results, Try.results20, go_sem]) rfl (⟨rfl, (by repeat (first | with_reducible exact Below.refl _ _ | with_reducible refine Below.alloc ?_ (by simp; first | done | omega) _ | with_reducible refine Below.setCell ?_ (by simp; first | done | omega) _ | with_reducible refine Below.drewN ?_ _ | with_reducible refine Below.drew ?_))⟩)
theorem boundRoom_c (s : Bnd) (hs : s.Ok) :
    Calls Try.prog 60 #[s.v] w fun e w' => e = .returned (.int .u64 s.room) ∧ Below w.heap.size w w' := by
  obtain ⟨hi, lo, bw⟩ := s
  have h1 := Lib.hid hs.1
  clear hs
  unfold Bnd.room Bnd.v
  simp only
  by_cases h : hi = 18446744073709551615
  · rw [if_pos h]
    subst h
    go_enter Try.func60, Try.ntmps60
    go_wp2_with fail
    go_ret
    exact ⟨rfl, (by repeat (first | with_reducible exact Below.refl _ _ | with_reducible refine Below.alloc ?_ (by simp; first | done | omega) _ | with_reducible refine Below.setCell ?_ (by simp; first | done | omega) _ | with_reducible refine Below.drewN ?_ _ | with_reducible refine Below.drew ?_))⟩
  · rw [if_neg h]
    have hb : (hi == 18446744073709551615) = false := by simpa using h
    clear h
    go_enter Try.func60, Try.ntmps60
    go_wp2_with fail
    refine (fixShare_c _ _ _ _ h1.out U_70.2.2.1 U_70.2.1).mono ?_
    rintro e w' ⟨rfl, n, rfl⟩
    go_wp2_with fail
    go_ret
    exact ⟨rfl, (by repeat (first | with_reducible exact Below.refl _ _ | with_reducible refine Below.alloc ?_ (by simp; first | done | omega) _ | with_reducible refine Below.setCell ?_ (by simp; first | done | omega) _ | with_reducible refine Below.drewN ?_ _ | with_reducible refine Below.drew ?_))⟩
theorem boundLimit_c (s : Bnd) (r : Int) :
    Calls Try.prog 26 #[s.v, .int .u64 r] w fun e w' => e = .returned (.int .u64 (s.limit r)) ∧ Below w.heap.size w w' := by
  obtain ⟨hi, lo, bw⟩ := s
  have im := ite_min
  unfold Bnd.v
  go_enter Try.func26, Try.ntmps26
  go_wp2_with fail
  go_ret
  exact ⟨rfl, (by repeat (first | with_reducible exact Below.refl _ _ | with_reducible refine Below.alloc ?_ (by simp; first | done | omega) _ | with_reducible refine Below.setCell ?_ (by simp; first | done | omega) _ | with_reducible refine Below.drewN ?_ _ | with_reducible refine Below.drew ?_))⟩
end
end Go.Proofs.Ytpfbbpiidhhkbaa
