/- seqs: what a search finds. -/
import Derived.Test.YtlhncdbigjgmnaaSeqE
import Derived.Test.YtlhncdbigjgmnaaSlk
import Derived.Test.YtlhncdbigjgmnaaStk
import Derived.Test.YtlhncdbigjgmnaaItAt
import Derived.Test.YtlhncdbigjgmnaaReg2
import Derived.Test.YtlhncdbigjgmnaaEv
namespace Go.Proofs.Ytlhncdbigjgmnaa
open Go.RowKit
def encRg (r : Rg) : List Value := [.int .u64 r.1, .int .u64 r.2]
theorem encRg_len (r : Rg) : (encRg r).length = 2 := rfl
def sqs (b : Nat) (l : List Rg) : Asn := exA fun v : Value => sep (pts b (.cells #[v] 68 (0, 0))) (slc 31 2 v (encs encRg l))
section
variable (ε w : World) (R : List Asn) (b : Nat)
theorem Own.sqs_open {l : List Rg} (H : Own ε w (sqs b l :: R)) : ∃ v, Own ε w (pts b (.cells #[v] 68 (0, 0)) :: slc 31 2 v (encs encRg l) :: R) := by
  obtain ⟨v, H⟩ := H.ex
  exact ⟨v, H.split⟩
theorem Own.sqs_mk {l : List Rg} {v : Value} (H : Own ε w (pts b (.cells #[v] 68 (0, 0)) :: slc 31 2 v (encs encRg l) :: R)) : Own ε w (sqs b l :: R) := Own.ex_mk v H.join
theorem find1_c (x : Rg) (n : Int) (H : Own ε w R) :
    Calls Try.prog 65 #[.agg #[.int .u64 x.1, .int .u64 x.2], .int .u64 n] w fun e w' => e = .returned (.int .i64 (if x.2 < n then -1 else 1)) ∧ Own ε w' R := by
  have HH := Lib.hid H; clear H
  obtain ⟨x1, x2⟩ := x
  by_cases h : x2 < n
  · rw [if_pos h]
    go_enter Try.func65, Try.ntmps65
    go_wp2_with (with_reducible refine stop_bx ?_)
    refine Stop.go ?_
    refine wpList_box_own HH.out [_, _] rfl ?_
    intro g w1_ H9_
    replace HH := Lib.hid H9_
    clear H9_
    (try clear cc1_); (try clear cc2_); (try clear cc3_); (try clear cc4_); (try clear cc5_); (try clear cc6_); (try clear cc7_)
    have cc1_ := HH.out.cells
    go_wp2_with fail
    go_ret
    exact ⟨rfl, HH.out.tail⟩
  · rw [if_neg h]
    go_enter Try.func65, Try.ntmps65
    go_wp2_with (with_reducible refine stop_bx ?_)
    refine Stop.go ?_
    refine wpList_box_own HH.out [_, _] rfl ?_
    intro g w2_ H9_
    replace HH := Lib.hid H9_
    clear H9_
    (try clear cc1_); (try clear cc2_); (try clear cc3_); (try clear cc4_); (try clear cc5_); (try clear cc6_); (try clear cc7_)
    have cc1_ := HH.out.cells
    go_wp2_with fail
    go_ret
    exact ⟨rfl, HH.out.tail⟩
set_option maxRecDepth 100000 in
set_option maxHeartbeats 3200000 in
theorem bsearch_c (l : List Rg) (hl : apart l) (A : Option Addr) (len cap : Nat) (hA : ∀ wx, Own ε wx R → itAt encRg 2 wx A len l) (hm : len ≤ 1000000) (n : Int) (H : Own ε w R) :
    Calls Try.prog 64 #[.slice A len cap, .int .u64 n, .func (.func 65) #[] #[]] w fun e w' => ∃ i, ∃ _ : Found l n i, e = .returned (.tuple #[.int .i64 (i : Nat), .bool false]) ∧ Own ε w' R := by
  have HH := Lib.hid H; clear H
  have hlen : l.length = len := (hA w HH.out).1
  replace hA := Lib.hid hA
  replace hl := Lib.hid hl
  replace hlen := Lib.hid hlen
  go_enter Try.func64, Try.ntmps64
  go_wp2_with fail
  go_loopw [9, 10] (fun vi vj wr => ∃ i j : Nat, i ≤ j ∧ j ≤ len ∧ vi = .int .i64 i ∧ vj = .int .i64 j ∧ (∀ r ∈ l.take i, r.2 < n) ∧ (∀ r ∈ l.drop j, n ≤ r.2) ∧ Own ε wr R) (fun vi vj _ => (intOf vj).toNat - (intOf vi).toNat)
  case atStart => exact ⟨0, len, Nat.zero_le _, Nat.le_refl _, rfl, rfl, by simp, by rw [List.drop_of_length_le (by rw [hlen.out]; exact Nat.le_refl _)]; simp, HH.out⟩
  case round =>
    clear HH
    obtain ⟨i, j, hij, hj, rfl, rfl, hlo, hhi, HR⟩ := hrel
    have HH := Lib.hid HR
    clear HR
    by_cases hlt : i < j
    · obtain ⟨h, hh⟩ : ∃ h : Nat, (i + j) / 2 = h := ⟨_, rfl⟩
      have h1 : i ≤ h := by omega
      have h2 : h < j := by omega
      have w1 : IntKind.i64.wrap ((i : Int) + (j : Int)) = (i : Int) + (j : Int) := by rw [IntKind.wrap_i64]; omega
      have w2 : IntKind.u64.wrap ((i : Int) + (j : Int)) = (i : Int) + (j : Int) := by rw [IntKind.wrap_u64]; omega
      have he : ((i : Int) + (j : Int)) / 2 = (h : Int) := by omega
      have w3 : IntKind.i64.wrap ((h : Int) + 1) = ((h + 1 : Nat) : Int) := by rw [IntKind.wrap_i64]; omega
      obtain ⟨g, off, x, rfl, hx, hcell⟩ := (hA.out _ HH.out).get (show h < len by omega)
      have o0 := hcell 0 _ rfl
      have o1 := hcell 1 _ rfl
      simp only [Nat.add_zero] at o0
      replace hcell := Lib.hid hcell
      replace hlo := Lib.hid hlo
      replace hhi := Lib.hid hhi
      replace hx := Lib.hid hx
      by_cases hn : x.2 < n
      · have e1 : (if x.2 < n then (-1 : Int) else 1) = -1 := if_pos hn
        go_wp2_with fail
        refine (find1_c ε _ _ x n HH.out).mono ?_
        rw [e1]
        rintro e w3_ ⟨rfl, H9_⟩
        replace HH := Lib.hid H9_
        clear H9_
        clear o0 o1
        go_wp2_with fail
        go_roundw
        case rel => exact ⟨h + 1, j, by omega, hj, by go_num, rfl, Found.left hl.out hx.out hn, hhi.out, HH.out⟩
        case measure => simp [intOf]; omega
      · have e1 : (if x.2 < n then (-1 : Int) else 1) = 1 := if_neg hn
        go_wp2_with fail
        refine (find1_c ε _ _ x n HH.out).mono ?_
        rw [e1]
        rintro e w4_ ⟨rfl, H9_⟩
        replace HH := Lib.hid H9_
        clear H9_
        clear o0 o1
        go_wp2_with fail
        go_roundw
        case rel => exact ⟨i, h, h1, by omega, rfl, by go_num, hlo.out, Found.right hl.out hx.out (by omega), HH.out⟩
        case measure => simp [intOf]; omega
    · obtain rfl : j = i := by omega
      have hf : Found l n j := ⟨by rw [hlen.out]; exact hj, hlo, hhi⟩
      by_cases hjl : j < len
      · obtain ⟨g, off, x, rfl, hx, hcell⟩ := (hA.out _ HH.out).get hjl
        have o0 := hcell 0 _ rfl
        have o1 := hcell 1 _ rfl
        simp only [Nat.add_zero] at o0
        have hn : ¬ x.2 < n := by
          have := hf.hi x (List.mem_of_getElem? (by rw [List.getElem?_drop]; exact hx : (l.drop j)[0]? = some x))
          omega
        have e1 : (if x.2 < n then (-1 : Int) else 1) = 1 := if_neg hn
        clear hlo hhi hx hcell hn
        go_wp2_with fail
        refine (find1_c ε _ _ x n HH.out).mono ?_
        rw [e1]
        rintro e w5_ ⟨rfl, H9_⟩
        replace HH := Lib.hid H9_
        clear H9_
        go_wp2_with fail
        go_ret2
        exact ⟨j, hf, rfl, HH.out⟩
      · clear hlo hhi
        go_wp2_with fail
        go_ret2
        exact ⟨j, hf, rfl, HH.out⟩
end
end Go.Proofs.Ytlhncdbigjgmnaa
