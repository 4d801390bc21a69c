/- seqs: what a set tells; its ranges, cloned; ranges that may be put. -/
import Derived.Test.YtlhncdbigjgmnaaSeq1
namespace Go.Proofs.Ytlhncdbigjgmnaa
open Go.RowKit
theorem slc_rdS {α : Type} {enc : α → List Value} {sz : Nat} {T : TypeId} {A : Option Addr} {n cap : Nat} {l : List α} (he : ∀ x, (enc x).length = sz) (hz : 0 < sz) {ε wx : World} {R : List Asn} (H : Own ε wx (slc T sz (.slice A n cap) (encs enc l) :: R)) : itAt enc sz wx A n l := by
  obtain ⟨_, _, _, e, _, _, h⟩ := H.slc_it he hz
  cases e
  exact h
theorem slc_srcS {T : TypeId} {sz : Nat} {A : Option Addr} {n cap : Nat} {xs : List Value} {ε w : World} {R : List Asn} (H : Own ε w (slc T sz (.slice A n cap) xs :: R)) : srcAt w A n sz xs := by
  obtain ⟨_, _, _, e, h⟩ := H.slc_src
  cases e
  exact h
theorem encsRg_one (l : List Rg) : ∀ u ∈ encs encRg l, u.oneCell' = true := encs_one (fun x u hu => by
  rcases List.mem_cons.1 hu with rfl | hu
  · rfl
  · rw [List.mem_singleton.1 hu]; rfl) l
/-- What a found place says of a number. -/
theorem Found.at {l : List Rg} (hl : apart l) {n : Int} {i : Nat} (hf : Found l n i) {r : Rg} (hr : l[i]? = some r) : n ≤ r.2 ∧ (hasR l n ↔ r.1 ≤ n) := by
  obtain ⟨hi, rfl⟩ := List.getElem?_eq_some_iff.1 hr
  have h2 : n ≤ l[i].2 := hf.hi _ (List.mem_of_getElem? (by rw [List.getElem?_drop]; exact List.getElem?_eq_getElem hi : (l.drop i)[0]? = some l[i]))
  refine ⟨h2, ⟨fun ⟨r, hm, h3, h4⟩ => ?_, fun h => ⟨l[i], List.getElem_mem hi, h, h2⟩⟩⟩
  obtain ⟨j, hj, rfl⟩ := List.getElem_of_mem hm
  rcases Nat.lt_trichotomy j i with q | q | q
  · have := hf.lo l[j] (List.mem_iff_getElem.2 ⟨j, by rw [List.length_take]; omega, by rw [List.getElem_take]⟩)
    omega
  · subst q; exact h3
  · have a := List.pairwise_iff_getElem.1 hl.2 i j hi hj q
    have b := hl.1 _ (List.getElem_mem hi)
    omega
theorem Found.end {l : List Rg} {n : Int} (hf : Found l n l.length) : ¬ hasR l n := by
  rintro ⟨r, hm, _, h4⟩
  have := hf.lo r (by rw [List.take_length]; exact hm)
  omega
/-- The first number that is not in it. -/
def gapL (l : List Rg) (n : Int) : Int := match l.find? (fun r => decide (r.1 ≤ n ∧ n ≤ r.2)) with
  | some r => r.2 + 1
  | none => n
theorem gapL_none {l : List Rg} {n : Int} (h : ¬ hasR l n) : gapL l n = n := by
  unfold gapL
  rw [List.find?_eq_none.2 (fun r hr => by simp only [decide_eq_true_eq]; exact fun q => h ⟨r, hr, q⟩)]
theorem gapL_some {l : List Rg} (hl : apart l) {n : Int} {r : Rg} (hr : r ∈ l) (h : r.1 ≤ n ∧ n ≤ r.2) : gapL l n = r.2 + 1 := by
  unfold gapL
  cases hf : l.find? (fun r => decide (r.1 ≤ n ∧ n ≤ r.2)) with
  | none => exact absurd h (by have := List.find?_eq_none.1 hf r hr; simpa using this)
  | some s =>
    have hs := List.find?_some hf
    have hm := List.mem_of_find?_eq_some hf
    simp only [decide_eq_true_eq] at hs
    obtain ⟨i, hi, rfl⟩ := List.getElem_of_mem hr
    obtain ⟨j, hj, rfl⟩ := List.getElem_of_mem hm
    rcases Nat.lt_trichotomy i j with q | q | q
    · have a := List.pairwise_iff_getElem.1 hl.2 i j hi hj q
      omega
    · subst q; rfl
    · have a := List.pairwise_iff_getElem.1 hl.2 j i hj hi q
      omega
/-- Numbers of ranges that a set may hold. -/
def okRg (l : List Rg) : Prop := ∀ r ∈ l, 0 ≤ r.1 ∧ r.2 ≤ 18446744073709551614
section
variable (ε w : World) (R : List Asn) (b : Nat)
theorem seqNew_c (H : Own ε w R) : Calls Try.prog 8 #[] w fun e w' => ∃ b, e = .returned (.pointer (some ⟨b, 0, none⟩)) ∧ Own ε w' (sqs b [] :: R) := by
  have HH := Lib.hid H; clear H
  go_enter Try.func8, Try.ntmps8
  go_wp2_with (with_reducible refine stop_bx ?_)
  refine Stop.go ?_
  refine wpList_box_own HH.out [_] rfl ?_
  intro sb w1_ H9_
  replace HH := Lib.hid H9_
  clear H9_
  go_wp2_with fail
  go_ret
  exact ⟨sb, rfl, Own.sqs_mk ε _ R sb (HH.out.slc_none).r2⟩
theorem seqFind_c (l : List Rg) (hl : apart l) (hm : l.length ≤ 1000000) (n : Int) (H : Own ε w (sqs b l :: R)) :
    Calls Try.prog 49 #[.pointer (some ⟨b, 0, none⟩), .int .u64 n] w fun e w' => ∃ i, ∃ _ : Found l n i, e = .returned (.int .i64 (i : Nat)) ∧ Own ε w' (sqs b l :: R) := by
  obtain ⟨v, H⟩ := H.sqs_open
  have HH := Lib.hid H; clear H
  obtain ⟨A, len, cap, rfl, _, _, hit⟩ := HH.out.r2.slc_it encRg_len (by decide)
  have hm2 : len ≤ 1000000 := by rw [← hit.1]; exact hm
  clear hit hm
  replace hl := Lib.hid hl
  replace hm2 := Lib.hid hm2
  go_enter Try.func49, Try.ntmps49
  (try clear cc1_); (try clear cc2_); (try clear cc3_); (try clear cc4_); (try clear cc5_); (try clear cc6_); (try clear cc7_)
  have cc1_ := HH.out.cells
  go_wp2_with fail
  refine (bsearch_c ε _ _ l hl.out A len cap (fun wx Hx => slc_rdS encRg_len (by decide) Hx.r2) hm2.out n HH.out).mono ?_
  rintro e w2_ ⟨i, hf, rfl, H9_⟩
  replace HH := Lib.hid H9_
  clear H9_
  go_wp2_with fail
  go_ret
  exact ⟨i, hf, rfl, Own.sqs_mk ε _ R b HH.out⟩
set_option maxHeartbeats 1600000 in
theorem seqClone_c (v : Value) (l : List Rg) (hm : l.length ≤ 1000000) (H : Own ε w (slc 31 2 v (encs encRg l) :: R)) :
    Calls Try.prog 32 #[v] w fun e w' => ∃ v', e = .returned v' ∧ Own ε w' (slc 31 2 v' (encs encRg l) :: slc 31 2 v (encs encRg l) :: R) := by
  have HH := Lib.hid H; clear H
  rcases HH.out.slc_val with ⟨rfl, hx⟩ | ⟨g, n, cap, rfl, _, _, hx, _, _⟩
  · go_enter Try.func32, Try.ntmps32
    go_wp2_with fail
    go_ret
    refine ⟨_, rfl, ?_⟩
    rw [hx] at HH ⊢
    exact HH.out.slc_none
  · have hn : n ≤ 1000000 := by rw [encs_len encRg_len] at hx; omega
    replace hx := Lib.hid hx
    go_enter Try.func32, Try.ntmps32
    go_wp2_with (with_reducible refine stop_bs ?_)
    refine Stop.go ?_
    refine wpList_bs0_own HH.out 2 16 Try.underlying22 (by kernel_rfl) ?_
    intro g0 w3_ H9_
    replace HH := Lib.hid H9_
    clear H9_
    go_wp2_with (with_reducible refine stop_app ?_)
    refine Stop.go ?_
    refine wpList_append_slc rfl _ _ 22 rfl 31 2 16 Try.underlying22 (by kernel_rfl) (by decide) rfl (HH.out) rfl ((show ([] : List Value).length = 0 * 2 from rfl)) ((slc_srcS HH.out.r2)) ((encsRg_one l)) (by simp only [maxLen]; omega) (by omega) ?_
    intro v6 w4_ H9_
    obtain ⟨A_v6, n_v6, c_v6, rfl⟩ := H9_.slc_isv
    replace HH := Lib.hid H9_
    clear H9_
    go_wp2_with fail
    go_ret
    exact ⟨_, rfl, HH.out⟩
theorem seqAll_c (l : List Rg) (hm : l.length ≤ 1000000) (H : Own ε w (sqs b l :: R)) :
    Calls Try.prog 10 #[.pointer (some ⟨b, 0, none⟩)] w fun e w' => ∃ v', e = .returned v' ∧ Own ε w' (slc 31 2 v' (encs encRg l) :: sqs b l :: R) := by
  obtain ⟨v, H⟩ := H.sqs_open
  have HH := Lib.hid H; clear H
  go_enter Try.func10, Try.ntmps10
  (try clear cc1_); (try clear cc2_); (try clear cc3_); (try clear cc4_); (try clear cc5_); (try clear cc6_); (try clear cc7_)
  have cc1_ := HH.out.cells
  go_wp2_with fail
  refine (seqClone_c ε _ _ v l hm HH.out.r2).mono ?_
  rintro e w5_ ⟨v', rfl, H9_⟩
  replace HH := Lib.hid H9_
  clear H9_
  go_wp2_with fail
  go_ret
  exact ⟨v', rfl, (Own.sqs_mk ε _ _ b ((Own.pm (HH.out) (by repeat (first | with_reducible exact Pm.refl _ | with_reducible exact Pm.nil _ | with_reducible refine Pm.here ?_ | with_reducible refine Pm.at2 ?_ | with_reducible refine Pm.at3 ?_ | with_reducible refine Pm.at4 ?_ | with_reducible refine Pm.at5 ?_ | with_reducible refine Pm.at6 ?_ | with_reducible refine Pm.at7 ?_ | with_reducible refine Pm.at8 ?_ | with_reducible refine Pm.skip ?_))) : Own ε _ (pts b (.cells #[v] 68 (0, 0)) :: slc 31 2 v (encs encRg l) :: slc 31 2 v' (encs encRg l) :: R))).r2⟩
end
end Go.Proofs.Ytlhncdbigjgmnaa
