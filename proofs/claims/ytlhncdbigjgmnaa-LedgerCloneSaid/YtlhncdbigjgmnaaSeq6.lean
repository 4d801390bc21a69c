/- seqs: ranges that may not be put. -/
import Derived.Test.YtlhncdbigjgmnaaSeq2
namespace Go.Proofs.Ytlhncdbigjgmnaa
open Go.RowKit
/-- A range that may not be put. -/
def badR (x : Rg) : Bool := decide (x.2 < x.1) || decide (x.2 = 18446744073709551615)
section
variable (ε w : World) (R : List Asn)
theorem put1_c (x : Rg) (h2 : U x.2) (H : Own ε w R) :
    Calls Try.prog 30 #[.agg #[.int .u64 x.1, .int .u64 x.2]] w fun e w' => e = .returned (.bool (badR x)) ∧ Own ε w' R := by
  have HH := Lib.hid H; clear H
  obtain ⟨x1, x2⟩ := x
  unfold badR
  simp only at h2 ⊢
  by_cases h : x2 < x1
  · have e1 : (decide (x2 < x1) || decide (x2 = 18446744073709551615)) = true := by simp [h]
    rw [e1]
    clear e1 h2
    go_enter Try.func30, Try.ntmps30
    go_wp2_with (with_reducible refine stop_bx ?_)
    refine Stop.go ?_
    refine wpList_box_own HH.out [_, _] rfl ?_
    intro g w1_ H9_
    replace HH := Lib.hid H9_
    clear H9_
    (try clear cc1_); (try clear cc2_); (try clear cc3_); (try clear cc4_); (try clear cc5_); (try clear cc6_); (try clear cc7_)
    have cc1_ := HH.out.cells
    go_wp2_with fail
    go_ret
    exact ⟨rfl, HH.out.tail⟩
  · by_cases hm : x2 = 18446744073709551615
    · subst hm
      have e1 : (decide ((18446744073709551615 : Int) < x1) || decide ((18446744073709551615 : Int) = 18446744073709551615)) = true := by simp
      rw [e1]
      have d1 : decide ((18446744073709551615 : Int) < x1) = false := decide_eq_false h
      have d2 : (IntKind.u64.wrap 18446744073709551616 == 0) = true := by rfl
      clear e1 h2 h
      go_enter Try.func30, Try.ntmps30
      go_wp2_with (with_reducible refine stop_bx ?_)
      refine Stop.go ?_
      refine wpList_box_own HH.out [_, _] rfl ?_
      intro g w2_ H9_
      replace HH := Lib.hid H9_
      clear H9_
      (try clear cc1_); (try clear cc2_); (try clear cc3_); (try clear cc4_); (try clear cc5_); (try clear cc6_); (try clear cc7_)
      have cc1_ := HH.out.cells
      go_wp2_with fail
      go_ret
      exact ⟨rfl, HH.out.tail⟩
    · have e1 : (decide (x2 < x1) || decide (x2 = 18446744073709551615)) = false := by simp [h, hm]
      rw [e1]
      have e2 : IntKind.u64.wrap (x2 + 1) = x2 + 1 := by unfold U at h2; rw [IntKind.wrap_u64]; omega
      have e3 : (x2 + 1 == 0) = false := by unfold U at h2; simp; omega
      have d1 : decide (x2 < x1) = false := decide_eq_false h
      clear e1 h2 h hm
      go_enter Try.func30, Try.ntmps30
      go_wp2_with (with_reducible refine stop_bx ?_)
      refine Stop.go ?_
      refine wpList_box_own HH.out [_, _] rfl ?_
      intro g w3_ H9_
      replace HH := Lib.hid H9_
      clear H9_
      (try clear cc1_); (try clear cc2_); (try clear cc3_); (try clear cc4_); (try clear cc5_); (try clear cc6_); (try clear cc7_)
      have cc1_ := HH.out.cells
      go_wp2_with fail
      go_ret
      exact ⟨rfl, HH.out.tail⟩
theorem any_next {l : List Rg} {k : Nat} {x : Rg} (h : l[k]? = some x) : (l.take (k + 1)).any badR = ((l.take k).any badR || badR x) := by
  rw [List.take_add_one, h]
  simp
set_option maxRecDepth 100000 in
set_option maxHeartbeats 3200000 in
theorem indexBad_c (l : List Rg) (hU : ∀ x ∈ l, U x.2) (A : Option Addr) (len cap : Nat) (hA : ∀ wx, Own ε wx R → itAt encRg 2 wx A len l) (hm : len ≤ 1000000) (H : Own ε w R) :
    Calls Try.prog 51 #[.slice A len cap, .func (.func 30) #[] #[]] w fun e w' => ∃ k : Int, ∃ _ : decide (0 ≤ k) = l.any badR, e = .returned (.int .i64 k) ∧ Own ε w' R := by
  have HH := Lib.hid H; clear H
  have hlen : l.length = len := (hA w HH.out).1
  replace hA := Lib.hid hA
  replace hU := Lib.hid hU
  replace hlen := Lib.hid hlen
  go_enter Try.func51, Try.ntmps51
  go_wp2_with fail
  go_loopw [8] (fun vi wr => ∃ i : Nat, i ≤ len ∧ vi = .int .i64 i ∧ (l.take i).any badR = false ∧ Own ε wr R) (fun vi _ => len - (intOf vi).toNat)
  case atStart => exact ⟨0, Nat.zero_le _, rfl, rfl, HH.out⟩
  case round =>
    clear HH
    obtain ⟨i, hi, rfl, hno, HR⟩ := hrel
    have HH := Lib.hid HR
    clear HR
    by_cases hlt : i < len
    · have w3 : IntKind.i64.wrap ((i : Int) + 1) = ((i + 1 : Nat) : Int) := by rw [IntKind.wrap_i64]; omega
      obtain ⟨g, off, x, rfl, hx, hcell⟩ := (hA.out _ HH.out).get hlt
      have hux := Lib.hid (hU.out x (List.mem_of_getElem? hx))
      have o0 := hcell 0 _ rfl
      have o1 := hcell 1 _ rfl
      simp only [Nat.add_zero] at o0
      have hnx := any_next hx
      rw [hno, Bool.false_or] at hnx
      replace hcell := Lib.hid hcell
      replace hno := Lib.hid hno
      replace hx := Lib.hid hx
      obtain ⟨bd, hbd⟩ : ∃ y, badR x = y := ⟨_, rfl⟩
      rw [hbd] at hnx
      replace hbd := Lib.hid hbd
      replace hnx := Lib.hid hnx
      cases bd
      · go_wp2_with fail
        refine (put1_c ε _ _ x hux.out HH.out).mono ?_
        rw [hbd.out]
        rintro e w4_ ⟨rfl, H9_⟩
        replace HH := Lib.hid H9_
        clear H9_
        clear o0 o1
        go_wp2_with fail
        go_roundw
        case rel => exact ⟨i + 1, by omega, by go_num, hnx.out, HH.out⟩
        case measure => simp [intOf]; omega
      · go_wp2_with fail
        refine (put1_c ε _ _ x hux.out HH.out).mono ?_
        rw [hbd.out]
        rintro e w5_ ⟨rfl, H9_⟩
        replace HH := Lib.hid H9_
        clear H9_
        clear o0 o1
        go_wp2_with fail
        go_ret
        refine ⟨(i : Int), ?_, rfl, HH.out⟩
        have h1 : l.any badR = true := List.any_eq_true.2 ⟨x, List.mem_of_getElem? hx.out, hbd.out⟩
        rw [h1]
        exact decide_eq_true (by omega)
    · have hfull : l.any badR = false := by
        rw [List.take_of_length_le (by rw [hlen.out]; omega)] at hno
        exact hno
      clear hno
      go_wp2_with fail
      go_ret
      exact ⟨-1, by rw [hfull]; rfl, rfl, HH.out⟩
theorem containsBad_c (l : List Rg) (hU : ∀ x ∈ l, U x.2) (A : Option Addr) (len cap : Nat) (hA : ∀ wx, Own ε wx R → itAt encRg 2 wx A len l) (hm : len ≤ 1000000) (H : Own ε w R) :
    Calls Try.prog 29 #[.slice A len cap, .func (.func 30) #[] #[]] w fun e w' => e = .returned (.bool (l.any badR)) ∧ Own ε w' R := by
  have HH := Lib.hid H; clear H
  replace hA := Lib.hid hA
  replace hU := Lib.hid hU
  go_enter Try.func29, Try.ntmps29
  go_wp2_with fail
  refine (indexBad_c ε _ _ l hU.out A len cap hA.out hm HH.out).mono ?_
  rintro e w6_ ⟨k, hk, rfl, H9_⟩
  replace HH := Lib.hid H9_
  clear H9_
  go_wp2_with fail
  go_ret
  exact ⟨rfl, HH.out⟩
end
end Go.Proofs.Ytlhncdbigjgmnaa
