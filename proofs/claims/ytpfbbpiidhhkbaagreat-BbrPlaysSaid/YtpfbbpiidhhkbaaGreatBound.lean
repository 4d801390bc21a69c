/- bound, and its reference. -/
import Derived.Test.YtpfbbpiidhhkbaaGreatRingC
import Derived.Deep.Quiet
import Derived.Deep.QuietTactic
import Derived.Test.YtpfbbpiidhhkbaaGreatConf
namespace Go.Proofs.YtpfbbpiidhhkbaaGreat
open Go.RowKit
theorem wp_region_calm {P : Program} {id : Nat} {Q : Exit → Act → World → Prop} {a : Act} {w : World} {l : List Oper} (ε : World) (L : List Asn) (hm : P.follows .mixedOrders = true) (hB : Region.lexB .any l.toArray = true) (H : Own ε w L)
    (h : wpQuiet P l.toArray (fun w' => Own ε w' L) (fun a' => ∀ w', Own ε w' L → Q .normal a' w') l a) : (Code.region id l.toArray true).wp P Q a w :=
  wp_region_quiet (C := fun w' => Own ε w' L) hm hB (H.drawn _) (by simpa using h)
theorem Below.drewN {B : Nat} {a w : World} (h : Below B a w) (n : Nat) : Below B a (w.drewN n) := ⟨h.os, h.tape, h.output, h.size, h.block⟩
end Go.Proofs.YtpfbbpiidhhkbaaGreat
namespace Go.Proofs.YtpfbbpiidhhkbaaGreat
open Go.RowKit
structure Bnd where
  hi : Int
  lo : Int
  bw : Int
def Bnd.v (s : Bnd) : Value := .agg #[.int .u64 s.hi, .int .u64 s.lo, .int .u64 s.bw]
def Bnd.Ok (s : Bnd) : Prop := U s.hi ∧ U s.lo ∧ U s.bw
instance instBndOk (s : Bnd) : Decidable s.Ok := inferInstanceAs (Decidable (_ ∧ _ ∧ _))
def orI (x y : Int) : Int := if x = 18446744073709551615 then y else x
def cutI (x : Int) : Int := sshare x 70 100
def Bnd.lose (s : Bnd) (flight rate have_ : Int) : Bnd := ⟨s.hi, max flight (cutI (orI s.lo have_)), max rate (cutI (orI s.bw rate))⟩
def Bnd.pull (s : Bnd) (flight target : Int) : Bnd := ⟨max flight (cutI target), s.lo, s.bw⟩
def Bnd.push (s : Bnd) (n : Int) : Bnd := if s.hi = 18446744073709551615 then s else ⟨min (sadd s.hi n) 18446744073709551614, s.lo, s.bw⟩
def Bnd.short (s : Bnd) : Bnd := ⟨s.hi, 18446744073709551615, 18446744073709551615⟩
def Bnd.none : Bnd := ⟨18446744073709551615, 18446744073709551615, 18446744073709551615⟩
def minL (n : Int) (l : List Int) : Int := l.foldl min n
def Bnd.cap (s : Bnd) (l : List Int) : Int := minL (min s.hi s.lo) l
def Bnd.room (s : Bnd) : Int := if s.hi = 18446744073709551615 then 18446744073709551615 else sshare s.hi 85 100
def Bnd.limit (s : Bnd) (r : Int) : Int := min r s.bw
theorem ite_min (a b : Int) : (if b < a then b else a) = min a b := by split <;> omega
theorem U_max {a b : Int} (ha : U a) (hb : U b) : U (max a b) := by unfold U at *; omega
theorem U_min {a b : Int} (ha : U a) (hb : U b) : U (min a b) := by unfold U at *; omega
theorem U_orI {a b : Int} (ha : U a) (hb : U b) : U (orI a b) := by unfold orI; split <;> assumption
theorem U_70 : U 70 ∧ U 100 ∧ U 85 ∧ U 7 ∧ U 10 := by unfold U; omega
theorem U_cut {a : Int} (ha : U a) : U (cutI a) := U_sshare ha U_70.1
section
variable (w : World)
theorem boundOr_c (x y : Int) : Calls Tryz.prog 77 #[.int .u64 x, .int .u64 y] w fun e w' => e = .returned (.int .u64 (orI x y)) ∧ w = w' := by
  unfold orI
  by_cases h : x = 18446744073709551615
  · rw [if_pos h]
    subst h
    go_enter Tryz.func77, Tryz.ntmps77
    go_wp2_with fail
    go_ret
    exact ⟨rfl, rfl⟩
  · rw [if_neg h]
    have hb : (x == 18446744073709551615) = false := by simpa using h
    go_enter Tryz.func77, Tryz.ntmps77
    go_wp2_with fail
    go_ret
    exact ⟨rfl, rfl⟩
theorem boundCut_c (x : Int) (hx : U x) : Calls Tryz.prog 75 #[.int .u64 x] w fun e w' => e = .returned (.int .u64 (cutI x)) ∧ ∃ n, w' = w.drewN n := by
  go_enter Tryz.func75, Tryz.ntmps75
  go_wp2_with fail
  refine (fixShare_c _ _ _ _ hx U_70.1 U_70.2.1).mono ?_
  rintro e w' ⟨rfl, n, rfl⟩
  go_wp2_with fail
  go_ret
  exact ⟨rfl, n, rfl⟩
set_option maxRecDepth 100000 in
theorem boundLose_c (s : Bnd) (x y z : Int) (hs : s.Ok) (hx : U x) (hy : U y) (hz : U z) :
    Calls Tryz.prog 39 #[s.v, .int .u64 x, .int .u64 y, .int .u64 z] w fun e w' => e = .returned (s.lose x y z).v ∧ Below w.heap.size w w' := by
  obtain ⟨hi, lo, bw⟩ := s
  obtain ⟨h1, h2, h3⟩ := hs
  simp only at h1 h2 h3
  replace h1 := Lib.hid h1
  replace h2 := Lib.hid h2
  replace h3 := Lib.hid h3
  replace hx := Lib.hid hx
  replace hy := Lib.hid hy
  replace hz := Lib.hid hz
  have im := ite_max
  unfold Bnd.v
  go_enter Tryz.func39, Tryz.ntmps39
  go_wp2_with fail
  refine (boundOr_c _ lo z).mono ?_
  rintro e w' ⟨rfl, rfl⟩
  go_wp2_with fail
  refine (boundCut_c _ _ (U_orI h2.out hz.out)).mono ?_
  rintro e w' ⟨rfl, n1, rfl⟩
  go_wp2_with fail
  refine (boundOr_c _ bw y).mono ?_
  rintro e w' ⟨rfl, rfl⟩
  go_wp2_with fail
  refine (boundCut_c _ _ (U_orI h3.out hy.out)).mono ?_
  rintro e w' ⟨rfl, n2, rfl⟩
  go_wp2_with fail
  refine bodyPost_ret (v := .agg #[.int .u64 hi, .int .u64 (max x (cutI (orI lo z))), .int .u64 (max y (cutI (orI bw y)))]) (by simp [results, Tryz.results39, go_sem]) rfl (⟨rfl, (by repeat (first | with_reducible exact Below.refl _ _ | with_reducible refine Below.alloc ?_ (by simp; first | done | omega) _ | with_reducible refine Below.setCell ?_ (by simp; first | done | omega) _ | with_reducible refine Below.drewN ?_ _ | with_reducible refine Below.drew ?_))⟩)
set_option maxRecDepth 100000 in
theorem boundPull_c (s : Bnd) (x y : Int) (hx : U x) (hy : U y) :
    Calls Tryz.prog 37 #[s.v, .int .u64 x, .int .u64 y] w fun e w' => e = .returned (s.pull x y).v ∧ Below w.heap.size w w' := by
  obtain ⟨hi, lo, bw⟩ := s
  replace hx := Lib.hid hx
  replace hy := Lib.hid hy
  have im := ite_max
  unfold Bnd.v
  go_enter Tryz.func37, Tryz.ntmps37
  go_wp2_with fail
  refine (boundCut_c _ _ hy.out).mono ?_
  rintro e w' ⟨rfl, n1, rfl⟩
  go_wp2_with fail
  refine bodyPost_ret (v := .agg #[.int .u64 (max x (cutI y)), .int .u64 lo, .int .u64 bw]) (by simp [results, Tryz.results37, go_sem]) rfl (⟨rfl, (by repeat (first | with_reducible exact Below.refl _ _ | with_reducible refine Below.alloc ?_ (by simp; first | done | omega) _ | with_reducible refine Below.setCell ?_ (by simp; first | done | omega) _ | with_reducible refine Below.drewN ?_ _ | with_reducible refine Below.drew ?_))⟩)
set_option maxRecDepth 100000 in
theorem boundPush_c (s : Bnd) (x : Int) (hs : s.Ok) (hx : U x) :
    Calls Tryz.prog 41 #[s.v, .int .u64 x] w fun e w' => e = .returned (s.push x).v ∧ Below w.heap.size w w' := by
  obtain ⟨hi, lo, bw⟩ := s
  obtain ⟨h1, h2, h3⟩ := hs
  simp only at h1 h2 h3
  replace h1 := Lib.hid h1
  clear h2 h3
  replace hx := Lib.hid hx
  have im := ite_min
  unfold Bnd.push Bnd.v
  simp only
  by_cases h : hi = 18446744073709551615
  · rw [if_pos h]
    subst h
    go_enter Tryz.func41, Tryz.ntmps41
    go_wp2_with fail
    refine bodyPost_ret (v := .agg #[.int .u64 18446744073709551615, .int .u64 lo, .int .u64 bw]) (by simp [results, Tryz.results41, go_sem]) rfl (⟨rfl, (by repeat (first | with_reducible exact Below.refl _ _ | with_reducible refine Below.alloc ?_ (by simp; first | done | omega) _ | with_reducible refine Below.setCell ?_ (by simp; first | done | omega) _ | with_reducible refine Below.drewN ?_ _ | with_reducible refine Below.drew ?_))⟩)
  · rw [if_neg h]
    have hb : (hi != 18446744073709551615) = true := by simpa using h
    clear h
    go_enter Tryz.func41, Tryz.ntmps41
    go_wp2_with fail
    refine (fixAdd2_c _ _ _ _ h1.out hx.out (by go_simp) (by go_simp)).mono ?_
    rintro e w' ⟨rfl, rfl⟩
    go_wp2_with fail
    refine bodyPost_ret (v := .agg #[.int .u64 (min (sadd hi x) 18446744073709551614), .int .u64 lo, .int .u64 bw]) (by simp [results, Tryz.results41, go_sem]) rfl (⟨rfl, (by repeat (first | with_reducible exact Below.refl _ _ | with_reducible refine Below.alloc ?_ (by simp; first | done | omega) _ | with_reducible refine Below.setCell ?_ (by simp; first | done | omega) _ | with_reducible refine Below.drewN ?_ _ | with_reducible refine Below.drew ?_))⟩)
theorem boundShort_c (s : Bnd) :
    Calls Tryz.prog 85 #[s.v] w fun e w' => e = .returned s.short.v ∧ Below w.heap.size w w' := by
  obtain ⟨hi, lo, bw⟩ := s
  unfold Bnd.v
  go_enter Tryz.func85, Tryz.ntmps85
  go_wp2_with fail
  refine bodyPost_ret (v := .agg #[.int .u64 hi, .int .u64 18446744073709551615, .int .u64 18446744073709551615]) (by simp [results, Tryz.results85, go_sem]) rfl (⟨rfl, (by repeat (first | with_reducible exact Below.refl _ _ | with_reducible refine Below.alloc ?_ (by simp; first | done | omega) _ | with_reducible refine Below.setCell ?_ (by simp; first | done | omega) _ | with_reducible refine Below.drewN ?_ _ | with_reducible refine Below.drew ?_))⟩)
theorem boundNone_c :
    Calls Tryz.prog 20 #[] w fun e w' => e = .returned Bnd.none.v ∧ Below w.heap.size w w' := by
  unfold Bnd.v
  go_enter Tryz.func20, Tryz.ntmps20
  go_wp2_with fail
  refine bodyPost_ret (v := .agg #[.int .u64 18446744073709551615, .int .u64 18446744073709551615, .int .u64 18446744073709551615]) (by simp [results, Tryz.results20, go_sem]) rfl (⟨rfl, (by repeat (first | with_reducible exact Below.refl _ _ | with_reducible refine Below.alloc ?_ (by simp; first | done | omega) _ | with_reducible refine Below.setCell ?_ (by simp; first | done | omega) _ | with_reducible refine Below.drewN ?_ _ | with_reducible refine Below.drew ?_))⟩)
theorem boundRoom_c (s : Bnd) (hs : s.Ok) :
    Calls Tryz.prog 81 #[s.v] w fun e w' => e = .returned (.int .u64 s.room) ∧ Below w.heap.size w w' := by
  obtain ⟨hi, lo, bw⟩ := s
  have h1 := Lib.hid hs.1
  clear hs
  unfold Bnd.room Bnd.v
  simp only
  by_cases h : hi = 18446744073709551615
  · rw [if_pos h]
    subst h
    go_enter Tryz.func81, Tryz.ntmps81
    go_wp2_with fail
    go_ret
    exact ⟨rfl, (by repeat (first | with_reducible exact Below.refl _ _ | with_reducible refine Below.alloc ?_ (by simp; first | done | omega) _ | with_reducible refine Below.setCell ?_ (by simp; first | done | omega) _ | with_reducible refine Below.drewN ?_ _ | with_reducible refine Below.drew ?_))⟩
  · rw [if_neg h]
    have hb : (hi == 18446744073709551615) = false := by simpa using h
    clear h
    go_enter Tryz.func81, Tryz.ntmps81
    go_wp2_with fail
    refine (fixShare_c _ _ _ _ h1.out U_70.2.2.1 U_70.2.1).mono ?_
    rintro e w' ⟨rfl, n, rfl⟩
    go_wp2_with fail
    go_ret
    exact ⟨rfl, (by repeat (first | with_reducible exact Below.refl _ _ | with_reducible refine Below.alloc ?_ (by simp; first | done | omega) _ | with_reducible refine Below.setCell ?_ (by simp; first | done | omega) _ | with_reducible refine Below.drewN ?_ _ | with_reducible refine Below.drew ?_))⟩
theorem boundLimit_c (s : Bnd) (r : Int) :
    Calls Tryz.prog 54 #[s.v, .int .u64 r] w fun e w' => e = .returned (.int .u64 (s.limit r)) ∧ Below w.heap.size w w' := by
  obtain ⟨hi, lo, bw⟩ := s
  have im := ite_min
  unfold Bnd.v
  go_enter Tryz.func54, Tryz.ntmps54
  go_wp2_with fail
  go_ret
  exact ⟨rfl, (by repeat (first | with_reducible exact Below.refl _ _ | with_reducible refine Below.alloc ?_ (by simp; first | done | omega) _ | with_reducible refine Below.setCell ?_ (by simp; first | done | omega) _ | with_reducible refine Below.drewN ?_ _ | with_reducible refine Below.drew ?_))⟩
end
end Go.Proofs.YtpfbbpiidhhkbaaGreat
