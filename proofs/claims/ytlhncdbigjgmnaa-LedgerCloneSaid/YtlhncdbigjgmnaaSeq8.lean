/- seqs: ranges are put. -/
import Derived.Test.YtlhncdbigjgmnaaSeq7
namespace Go.Proofs.Ytlhncdbigjgmnaa
open Go.RowKit
theorem putL_len : ∀ (l : List Rg) (x : Rg), (putL x l).length ≤ l.length + 1
  | [], x => by simp [putL]
  | y :: l, x => by
    unfold putL
    split
    · exact Nat.succ_le_succ (putL_len l x)
    · split
      · simp
      · exact Nat.le_succ_of_le (putL_len l _)
theorem putL_okRg : ∀ (l : List Rg) (x : Rg), okRg l → 0 ≤ x.1 → x.2 ≤ 18446744073709551614 → okRg (putL x l)
  | [], x, _, h1, h2 => by
    intro r hr
    unfold putL at hr
    rw [List.mem_singleton.1 hr]
    exact ⟨h1, h2⟩
  | y :: l, x, hl, h1, h2 => by
    have hy := hl y (List.mem_cons_self ..)
    have hl' : okRg l := fun r hr => hl r (List.mem_cons_of_mem _ hr)
    unfold putL
    split
    · intro r hr
      rcases List.mem_cons.1 hr with rfl | hr
      · exact hy
      · exact putL_okRg l x hl' h1 h2 r hr
    · split
      · intro r hr
        rcases List.mem_cons.1 hr with rfl | hr
        · exact ⟨h1, h2⟩
        · exact hl r hr
      · exact putL_okRg l _ hl' (show 0 ≤ min x.1 y.1 by omega) (show max x.2 y.2 ≤ _ by omega)
theorem putsL_snoc (l xs : List Rg) (x : Rg) : putsL l (xs ++ [x]) = putL x (putsL l xs) := by simp [putsL]
theorem putsL_take {l xs : List Rg} {k : Nat} {x : Rg} (h : xs[k]? = some x) : putsL l (xs.take (k + 1)) = putL x (putsL l (xs.take k)) := by
  rw [List.take_add_one, h]
  exact putsL_snoc _ _ _
/-- What ranges one behind the other leave. -/
structure SqIn (l : List Rg) (n : Nat) : Prop where
  ap : apart l
  ok : okRg l
  len : l.length ≤ n
theorem SqIn.put {l : List Rg} {n : Nat} (h : SqIn l n) {x : Rg} (hx : badR x = false) (h0 : 0 ≤ x.1) (h2 : U x.2) : SqIn (putL x l) (n + 1) ∧ x.1 ≤ x.2 ∧ x.2 ≤ 18446744073709551614 := by
  unfold badR at hx
  simp only [Bool.or_eq_false_iff, decide_eq_false_iff_not] at hx
  unfold U at h2
  have h3 : x.1 ≤ x.2 := by omega
  have h4 : x.2 ≤ 18446744073709551614 := by omega
  exact ⟨⟨apart_putL l x h3 h.ap, putL_okRg l x h.ok h0 h4, Nat.le_trans (putL_len l x) (Nat.succ_le_succ h.len)⟩, h3, h4⟩
section
variable (ε w : World) (R : List Asn) (b : Nat)
theorem seqPut_bad (l xs : List Rg) (hU : ∀ x ∈ xs, U x.2) (A : Option Addr) (len cap : Nat) (hA : ∀ wx, Own ε wx (sqs b l :: R) → itAt encRg 2 wx A len xs) (hm : len ≤ 1000000) (hb : xs.any badR = true) (H : Own ε w (sqs b l :: R)) :
    Calls Try.prog 9 #[.pointer (some ⟨b, 0, none⟩), .slice A len cap] w fun e w' => e = .returned (.int .i64 1) ∧ Own ε w' (sqs b l :: R) := by
  have HH := Lib.hid H; clear H
  replace hA := Lib.hid hA
  replace hU := Lib.hid hU
  go_enter Try.func9, Try.ntmps9
  go_wp2_with fail
  refine (containsBad_c ε _ _ xs hU.out A len cap hA.out hm HH.out).mono ?_
  rw [hb]
  rintro e w1_ ⟨rfl, H9_⟩
  replace HH := Lib.hid H9_
  clear H9_
  go_wp2_with fail
  go_ret
  exact ⟨rfl, HH.out⟩
set_option maxRecDepth 100000 in
set_option maxHeartbeats 3200000 in
theorem seqPut_c (l xs : List Rg) (n : Nat) (hl : SqIn l n) (hU : ∀ x ∈ xs, U x.1 ∧ U x.2) (A : Option Addr) (len cap : Nat) (hA : ∀ (l' : List Rg) wx, Own ε wx (sqs b l' :: R) → itAt encRg 2 wx A len xs) (hm : n + len ≤ 999999) (hb : xs.any badR = false) (H : Own ε w (sqs b l :: R)) :
    Calls Try.prog 9 #[.pointer (some ⟨b, 0, none⟩), .slice A len cap] w fun e w' => e = .returned (.int .i64 0) ∧ Own ε w' (sqs b (putsL l xs) :: R) := by
  have HH := Lib.hid H; clear H
  have hlen : xs.length = len := (hA l w HH.out).1
  have hm2 : len ≤ 1000000 := by omega
  replace hA := Lib.hid hA
  replace hU := Lib.hid hU
  replace hl := Lib.hid hl
  replace hlen := Lib.hid hlen
  go_enter Try.func9, Try.ntmps9
  go_wp2_with fail
  refine (containsBad_c ε _ _ xs (fun x hx => (hU.out x hx).2) A len cap (hA.out l) hm2 HH.out).mono ?_
  rw [hb]
  rintro e w2_ ⟨rfl, H9_⟩
  replace HH := Lib.hid H9_
  clear H9_
  replace hb := Lib.hid hb
  go_wp2_with fail
  go_loopw [15] (fun vi wr => ∃ (k : Nat) (l' : List Rg), k ≤ len ∧ vi = .int .i64 k ∧ l' = putsL l (xs.take k) ∧ SqIn l' (n + k) ∧ Own ε wr (sqs b l' :: R)) (fun vi _ => len - (intOf vi).toNat)
  case atStart => exact ⟨0, l, Nat.zero_le _, rfl, rfl, hl.out, HH.out⟩
  case round =>
    clear HH
    obtain ⟨k, l', hk, rfl, hl', hin, HR⟩ := hrel
    have HH := Lib.hid HR
    clear HR
    replace hl' := Lib.hid hl'
    replace hin := Lib.hid hin
    by_cases hlt : k < len
    · have w3 : IntKind.i64.wrap ((k : Int) + 1) = ((k + 1 : Nat) : Int) := by rw [IntKind.wrap_i64]; omega
      obtain ⟨g, off, x, rfl, hx, hcell⟩ := (hA.out _ _ HH.out).get hlt
      have hux := hU.out x (List.mem_of_getElem? hx)
      have o0 := hcell 0 _ rfl
      have o1 := hcell 1 _ rfl
      simp only [Nat.add_zero] at o0
      clear hcell
      have hnb : badR x = false := by
        have := List.any_eq_false.1 hb.out x (List.mem_of_getElem? hx)
        simpa using this
      obtain ⟨h1, h2, h3⟩ := hin.out.put hnb hux.1.1 hux.2
      have h0 := hux.1.1
      have hnx : putL x l' = putsL l (xs.take (k + 1)) := by rw [putsL_take hx, hl'.out]
      have hlm : l'.length ≤ 999999 := Nat.le_trans hin.out.len (by omega)
      replace hx := Lib.hid hx
      replace hux := Lib.hid hux
      replace hnb := Lib.hid hnb
      replace h0 := Lib.hid h0
      replace h1 := Lib.hid h1
      replace h2 := Lib.hid h2
      replace h3 := Lib.hid h3
      replace hnx := Lib.hid hnx
      replace hlm := Lib.hid hlm
      go_wp2_with (with_reducible refine stop_al ?_)
      refine Stop.go ?_
      refine wpList_alloc_own HH.out [.int .u64 0, .int .u64 0] (by kernel_rfl) ?_
      intro yb w3_ H9_
      replace HH := Lib.hid H9_
      clear H9_
      go_wp2_with (with_reducible refine stop_st ?_)
      refine Stop.go ?_
      refine wpList_store_own _ #[_, _] rfl rfl HH.out (by kernel_rfl) rfl (by repeat (first | (refine List.forall_mem_cons.2 ⟨(by first | with_reducible assumption | rfl), ?_⟩) | exact fun _ h => absurd h List.not_mem_nil)) ?_
      intro w4_ H9_
      replace HH := Lib.hid H9_
      clear H9_
      clear o0 o1
      (try clear cc1_); (try clear cc2_); (try clear cc3_); (try clear cc4_); (try clear cc5_); (try clear cc6_); (try clear cc7_)
      have cc1_ := HH.out.cells
      go_wp2_with fail
      refine (seqPut1_c ε _ _ b l' hin.out.ap hin.out.ok hlm.out x h2.out h0.out h3.out HH.out.r2).mono ?_
      rintro e w5_ ⟨rfl, H9_⟩
      replace HH := Lib.hid H9_
      clear H9_
      go_wp2_with fail
      go_roundw
      case rel => exact ⟨k + 1, putL x l', by omega, by go_num, hnx.out, h1.out, (Own.pm (HH.out) (by repeat (first | with_reducible exact Pm.refl _ | with_reducible exact Pm.nil _ | with_reducible refine Pm.here ?_ | with_reducible refine Pm.at2 ?_ | with_reducible refine Pm.at3 ?_ | with_reducible refine Pm.at4 ?_ | with_reducible refine Pm.at5 ?_ | with_reducible refine Pm.at6 ?_ | with_reducible refine Pm.at7 ?_ | with_reducible refine Pm.at8 ?_ | with_reducible refine Pm.skip ?_)))⟩
      case measure => simp [intOf]; omega
    · have e : l' = putsL l xs := by rw [hl'.out, List.take_of_length_le (by rw [hlen.out]; omega)]
      replace e := Lib.hid e
      go_wp2_with fail
      go_ret
      exact ⟨rfl, by rw [← e.out]; exact HH.out⟩
end
end Go.Proofs.Ytlhncdbigjgmnaa
