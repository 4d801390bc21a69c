/- seqs: the first number that is not in a set; is one in it? -/
import Derived.Test.YtlhncdbigjgmnaaSeq8
namespace Go.Proofs.Ytlhncdbigjgmnaa
open Go.RowKit
section
variable (ε w : World) (R : List Asn) (b : Nat)
set_option maxRecDepth 100000 in
set_option maxHeartbeats 3200000 in
theorem seqGap_c (l : List Rg) (m : Nat) (hl : SqIn l m) (hm : m ≤ 999999) (n : Int) (H : Own ε w (sqs b l :: R)) :
    Calls Try.prog 26 #[.pointer (some ⟨b, 0, none⟩), .int .u64 n] w fun e w' => e = .returned (.int .u64 (gapL l n)) ∧ Own ε w' (sqs b l :: R) := by
  have HH := Lib.hid H; clear H
  have hm2 : l.length ≤ 1000000 := by have := hl.len; omega
  replace hl := Lib.hid hl
  replace hm2 := Lib.hid hm2
  obtain ⟨gp, hgp⟩ : ∃ y, gapL l n = y := ⟨_, rfl⟩
  rw [hgp]
  replace hgp := Lib.hid hgp
  go_enter Try.func26, Try.ntmps26
  go_wp2_with fail
  refine (seqFind_c ε _ _ b l hl.out.ap hm2.out n HH.out).mono ?_
  rintro e w1_ ⟨i, hf, rfl, H9_⟩
  replace HH := Lib.hid H9_
  clear H9_
  obtain ⟨v, H3⟩ := HH.out.sqs_open
  clear HH
  obtain ⟨A, len, cap, rfl, _, _, hit⟩ := H3.r2.slc_it encRg_len (by decide)
  have hlen := hit.1
  have HH := Lib.hid H3
  clear H3
  have hin : i ≤ len := by rw [← hlen]; exact hf.le
  have hn6 : len ≤ 1000000 := by rw [← hlen]; exact hm2.out
  by_cases hlt : i < len
  · obtain ⟨gA, off, r, rfl, hr, hcell⟩ := hit.get hlt
    have o0 := hcell 0 _ rfl
    have o1 := hcell 1 _ rfl
    simp only [Nat.add_zero] at o0
    clear hcell hit
    obtain ⟨h2, hh⟩ := hf.at hl.out.ap hr
    have hro := hl.out.ok r (List.mem_of_getElem? hr)
    have hrl := hl.out.ap.1 r (List.mem_of_getElem? hr)
    by_cases hrn : r.1 ≤ n
    · have e1 : gp = r.2 + 1 := by rw [← hgp.out]; exact gapL_some hl.out.ap (List.mem_of_getElem? hr) ⟨hrn, h2⟩
      have w1 : IntKind.u64.wrap (r.2 + 1) = r.2 + 1 := by rw [IntKind.wrap_u64]; omega
      replace hlen := Lib.hid hlen
      replace hr := Lib.hid hr
      replace hf := Lib.hid hf
      clear hh h2 hro hrl
      subst e1
      (try clear cc1_); (try clear cc2_); (try clear cc3_); (try clear cc4_); (try clear cc5_); (try clear cc6_); (try clear cc7_)
      have cc1_ := HH.out.cells
      go_wp2_with fail
      go_ret
      exact ⟨rfl, Own.sqs_mk ε _ R b HH.out⟩
    · have e1 : gp = n := by rw [← hgp.out]; exact gapL_none (fun q => hrn (hh.1 q))
      replace hlen := Lib.hid hlen
      replace hr := Lib.hid hr
      replace hf := Lib.hid hf
      clear hh h2 hro hrl
      subst e1
      (try clear cc1_); (try clear cc2_); (try clear cc3_); (try clear cc4_); (try clear cc5_); (try clear cc6_); (try clear cc7_)
      have cc1_ := HH.out.cells
      go_wp2_with fail
      go_ret
      exact ⟨rfl, Own.sqs_mk ε _ R b HH.out⟩
  · obtain rfl : i = len := by omega
    have e1 : gp = n := by
      rw [← hgp.out]
      have hf2 : Found l n l.length := by rw [hlen]; exact hf
      exact gapL_none hf2.end
    replace hlen := Lib.hid hlen
    replace hf := Lib.hid hf
    clear hit
    subst e1
    (try clear cc1_); (try clear cc2_); (try clear cc3_); (try clear cc4_); (try clear cc5_); (try clear cc6_); (try clear cc7_)
    have cc1_ := HH.out.cells
    go_wp2_with fail
    go_ret
    exact ⟨rfl, Own.sqs_mk ε _ R b HH.out⟩
theorem seqHas_c (l : List Rg) (m : Nat) (hl : SqIn l m) (hm : m ≤ 999999) (n : Int) (H : Own ε w (sqs b l :: R)) :
    Calls Try.prog 28 #[.pointer (some ⟨b, 0, none⟩), .int .u64 n] w fun e w' => e = .returned (.bool (gapL l n != n)) ∧ Own ε w' (sqs b l :: R) := by
  have HH := Lib.hid H; clear H
  replace hl := Lib.hid hl
  go_enter Try.func28, Try.ntmps28
  go_wp2_with fail
  refine (seqGap_c ε _ _ b l m hl.out hm n HH.out).mono ?_
  rintro e w2_ ⟨rfl, H9_⟩
  replace HH := Lib.hid H9_
  clear H9_
  go_wp2_with fail
  go_ret
  exact ⟨rfl, HH.out⟩
end
end Go.Proofs.Ytlhncdbigjgmnaa
