/- goitlaw07.SeqsOrder: ranges that may be put are one set, in whichever order, at once, or one by one. -/
import Derived.Test.YtlhncdbigjgmnaaSeq13
namespace Go.Proofs.Ytlhncdbigjgmnaa
open Go.RowKit
/-- The ranges that are met in k turns. -/
def turnAt (l : List Rg) (s k : Nat) : List Rg := (List.range k).map fun i => l.getD ((s - i) % l.length) (0, 0)
theorem turnAt_zero (l : List Rg) (s : Nat) : turnAt l s 0 = [] := rfl
theorem turnAt_succ (l : List Rg) (s k : Nat) : turnAt l s (k + 1) = turnAt l s k ++ [l.getD ((s - k) % l.length) (0, 0)] := by
  simp [turnAt, List.range_succ]
theorem turnAt_all (l : List Rg) (s : Nat) (hs : l.length ≤ s + 1) (hl : 0 < l.length) : ∀ x, x ∈ l ↔ x ∈ turnAt l s l.length := by
  intro x
  unfold turnAt
  constructor
  · intro h
    obtain ⟨j, hj, rfl⟩ := List.getElem_of_mem h
    have hi : (s - j) % l.length < l.length := Nat.mod_lt _ hl
    refine List.mem_map.2 ⟨(s - j) % l.length, List.mem_range.2 hi, ?_⟩
    have e : (s - (s - j) % l.length) % l.length = j := by
      have h1 := Nat.div_add_mod (s - j) l.length
      have h2 : s - (s - j) % l.length = j + l.length * ((s - j) / l.length) := by omega
      rw [h2, Nat.add_mul_mod_self_left, Nat.mod_eq_of_lt hj]
    rw [e, List.getD_eq_getElem?_getD, List.getElem?_eq_getElem hj]
    rfl
  · intro h
    obtain ⟨i, _, rfl⟩ := List.mem_map.1 h
    have hi : (s - i) % l.length < l.length := Nat.mod_lt _ hl
    rw [List.getD_eq_getElem?_getD, List.getElem?_eq_getElem hi]
    exact List.getElem_mem hi
abbrev RgT := Int × Int × Unit
def rdRg : Rd RgT := rdPair (rdInt .u64) (rdPair (rdInt .u64) rdUnit)
def RgT.r (x : RgT) : Rg := (x.1, x.2.1)
theorem rdRg_open {w : World} {c : List Value} {x : RgT} (h : rdRg w c x) : c = encRg x.r ∧ U x.r.1 ∧ U x.r.2 := by
  obtain ⟨c1, d1, rfl, ⟨rfl, h1⟩, c2, d2, rfl, ⟨rfl, h2⟩, rfl⟩ := h
  exact ⟨rfl, U_of_wf h1, U_of_wf h2⟩
theorem rgs_rd {w : World} {A : Option Addr} {n cap : Nat} {xs : List RgT} (h : rdSlice rdRg 2 w [.slice A n cap] xs) : itAt encRg 2 w A n (xs.map RgT.r) ∧ n ≤ 9223372036854775807 ∧ ∀ x ∈ xs.map RgT.r, U x.1 ∧ U x.2 := by
  obtain ⟨h1, h2⟩ := itAt_rd (enc := encRg) (sz := 2) RgT.r (fun _ _ hc => (rdRg_open hc).1) h
  refine ⟨h1, h2, fun x hm => ?_⟩
  obtain ⟨t, ht, rfl⟩ := List.mem_map.1 hm
  obtain ⟨i, hi, rfl⟩ := List.getElem_of_mem ht
  obtain ⟨_, _, hx⟩ := rdSlice_cases h
  rcases hx with hz | ⟨ab, off, rfl, hx⟩
  · omega
  · obtain ⟨c, _, _, hR⟩ := hx i hi
    exact (rdRg_open hR).2
section
variable (w : World)
set_option maxRecDepth 100000 in
set_option maxHeartbeats 6400000 in
theorem seqsOrder_c (A : Option Addr) (len cap : Nat) (xs : List RgT) (hr : rdSlice rdRg 2 w [.slice A len cap] xs) (f0 : Int) (hf : (Lit.int .u8 f0).wf = true) :
    Calls Try.prog 3 #[.slice A len cap, .int .u8 f0] w fun e w' => e = .returned (.bool true) ∧ Own w w' [old w] := by
  obtain ⟨hA0, hm, hU⟩ := rgs_rd hr
  generalize xs.map RgT.r = l at hA0 hU
  clear hr
  simp [Lit.wf, IntKind.min, IntKind.max, IntKind.signed, IntKind.bits] at hf
  obtain ⟨f, rfl⟩ : ∃ f : Nat, f0 = (f : Int) := ⟨f0.toNat, by omega⟩
  have hf1 : f ≤ 255 := by omega
  clear hf
  have hlen : l.length = len := hA0.1
  have hA : ∀ wx, Own w wx [old w] → itAt encRg 2 wx A len l := fun wx Hx => ⟨hlen, fun i hi => by
    obtain ⟨g, off, e, hc⟩ := hA0.2 i hi
    exact ⟨g, off, e, fun j u hu => Hx.old_cell (hc j u hu)⟩⟩
  clear hA0
  have HH := Lib.hid (Own.init w)
  replace hA := Lib.hid hA
  replace hlen := Lib.hid hlen
  replace hU := Lib.hid hU
  go_enter Try.func3, Try.ntmps3
  go_wp2_with fail
  refine (ref07Right_c w _ _ l A len cap hA.out hm HH.out).mono ?_
  rintro e w1_ ⟨rfl, H9_⟩
  replace HH := Lib.hid H9_
  clear H9_
  cases hb : l.any badR with
  | true =>
    simp only [Bool.not_true]
    go_wp2_with fail
    refine (alive07_c w _ _ HH.out).mono ?_
    rintro e w2_ ⟨rfl, H9_⟩
    replace HH := Lib.hid H9_
    clear H9_
    go_wp2_with fail
    go_ret
    exact ⟨rfl, HH.out⟩
  | false =>
    simp only [Bool.not_false]
    by_cases h60 : 60 < len
    · go_wp2_with fail
      refine (alive07_c w _ _ HH.out).mono ?_
      rintro e w3_ ⟨rfl, H9_⟩
      replace HH := Lib.hid H9_
      clear H9_
      go_wp2_with fail
      go_ret
      exact ⟨rfl, HH.out⟩
    by_cases h0 : len = 0
    · go_wp2_with fail
      refine (alive07_c w _ _ HH.out).mono ?_
      rintro e w4_ ⟨rfl, H9_⟩
      replace HH := Lib.hid H9_
      clear H9_
      go_wp2_with fail
      go_ret
      exact ⟨rfl, HH.out⟩
    have d0 : ((len : Int) == 0) = false := by simpa using h0
    have d6 : ¬ (60 : Int) < (len : Nat) := by omega
    have hn1 : 0 < len := by omega
    have hn60 : len ≤ 60 := by omega
    replace hb := Lib.hid hb
    have hal := Lib.hid (turnAt_all l (f + len - 1) (by rw [hlen.out]; omega) (by rw [hlen.out]; omega))
    have hrise : ∀ x ∈ l, x.1 ≤ x.2 := fun x hx => by
      have h := List.any_eq_false.1 hb.out x hx
      have hb' : badR x = false := by simpa using h
      exact ((SqIn.none 0).put hb' (hU.out x hx).1.1 (hU.out x hx).2).2.1
    replace hrise := Lib.hid hrise
    go_wp2_with fail
    refine (seqNew_c w _ _ HH.out).mono ?_
    rintro e w5_ ⟨la, rfl, H9_⟩
    replace HH := Lib.hid H9_
    clear H9_
    go_wp2_with fail
    refine (seqNew_c w _ _ HH.out).mono ?_
    rintro e w6_ ⟨lb, rfl, H9_⟩
    replace HH := Lib.hid H9_
    clear H9_
    go_wp2_with fail
    refine (seqPut_c w _ _ la [] l 0 (SqIn.none 0) hU.out A len cap (fun l' wx Hx => hA.out wx (Own.pm (Hx) (by repeat (first | with_reducible exact Pm.refl _ | with_reducible exact Pm.nil _ | with_reducible refine Pm.here ?_ | with_reducible refine Pm.at2 ?_ | with_reducible refine Pm.at3 ?_ | with_reducible refine Pm.at4 ?_ | with_reducible refine Pm.at5 ?_ | with_reducible refine Pm.at6 ?_ | with_reducible refine Pm.at7 ?_ | with_reducible refine Pm.at8 ?_ | with_reducible refine Pm.skip ?_)))) (by omega) hb.out ((Own.pm (HH.out) (by repeat (first | with_reducible exact Pm.refl _ | with_reducible exact Pm.nil _ | with_reducible refine Pm.here ?_ | with_reducible refine Pm.at2 ?_ | with_reducible refine Pm.at3 ?_ | with_reducible refine Pm.at4 ?_ | with_reducible refine Pm.at5 ?_ | with_reducible refine Pm.at6 ?_ | with_reducible refine Pm.at7 ?_ | with_reducible refine Pm.at8 ?_ | with_reducible refine Pm.skip ?_))) : Own w _ (sqs la [] :: sqs lb [] :: [old w]))).mono ?_
    rintro e w7_ ⟨rfl, H9_⟩
    replace HH := Lib.hid H9_
    clear H9_
    go_wp2_with fail
    go_loopw [9] (fun vi wr => ∃ (k : Nat) (l' : List Rg), k ≤ len ∧ vi = .int .i64 k ∧ l' = putsL [] (turnAt l (f + len - 1) k) ∧ SqIn l' k ∧ Own w wr (sqs lb l' :: sqs la (putsL [] l) :: [old w])) (fun vi _ => len - (intOf vi).toNat)
    case atStart => exact ⟨0, [], Nat.zero_le _, rfl, rfl, SqIn.none 0, (Own.pm (HH.out) (by repeat (first | with_reducible exact Pm.refl _ | with_reducible exact Pm.nil _ | with_reducible refine Pm.here ?_ | with_reducible refine Pm.at2 ?_ | with_reducible refine Pm.at3 ?_ | with_reducible refine Pm.at4 ?_ | with_reducible refine Pm.at5 ?_ | with_reducible refine Pm.at6 ?_ | with_reducible refine Pm.at7 ?_ | with_reducible refine Pm.at8 ?_ | with_reducible refine Pm.skip ?_)))⟩
    case round =>
      clear HH
      obtain ⟨k, l', hk, rfl, hl', hin, HR⟩ := hrel
      have HH := Lib.hid HR
      clear HR
      replace hl' := Lib.hid hl'
      replace hin := Lib.hid hin
      by_cases hlt : k < len
      · have w3 : IntKind.i64.wrap ((k : Int) + 1) = ((k + 1 : Nat) : Int) := by rw [IntKind.wrap_i64]; omega
        have w1 : IntKind.i64.wrap ((f : Nat) : Int) = ((f : Nat) : Int) := by rw [IntKind.wrap_i64]; omega
        have w2 : IntKind.i64.wrap (((f : Nat) : Int) + (len : Nat)) = (f : Int) + (len : Int) := by rw [IntKind.wrap_i64]; omega
        have w4 : IntKind.i64.wrap ((f : Int) + (len : Int) - 1) = (f : Int) + (len : Int) - 1 := by rw [IntKind.wrap_i64]; omega
        have w5 : IntKind.i64.wrap ((f : Int) + (len : Int) - 1 - (k : Int)) = (f : Int) + (len : Int) - 1 - (k : Int) := by rw [IntKind.wrap_i64]; omega
        have w6 : Int.tmod ((f : Int) + (len : Int) - 1 - (k : Int)) (len : Int) = (((f + len - 1 - k) % len : Nat) : Int) := by
          rw [show (f : Int) + (len : Int) - 1 - (k : Int) = ((f + len - 1 - k : Nat) : Int) by omega]
          rfl
        have w8 : (f + len - 1 - k) % len < len := Nat.mod_lt _ hn1
        obtain ⟨i, hi⟩ : ∃ i, (f + len - 1 - k) % len = i := ⟨_, rfl⟩
        rw [hi] at w6 w8
        have w7 : IntKind.i64.wrap ((i : Nat) : Int) = ((i : Nat) : Int) := by rw [IntKind.wrap_i64]; omega
        obtain ⟨g, off, x, rfl, hx, hcell⟩ := (hA.out _ (Own.pm (HH.out) (by repeat (first | with_reducible exact Pm.refl _ | with_reducible exact Pm.nil _ | with_reducible refine Pm.here ?_ | with_reducible refine Pm.at2 ?_ | with_reducible refine Pm.at3 ?_ | with_reducible refine Pm.at4 ?_ | with_reducible refine Pm.at5 ?_ | with_reducible refine Pm.at6 ?_ | with_reducible refine Pm.at7 ?_ | with_reducible refine Pm.at8 ?_ | with_reducible refine Pm.skip ?_)))).get w8
        have hux := hU.out x (List.mem_of_getElem? hx)
        have hnb : badR x = false := by
          have := List.any_eq_false.1 hb.out x (List.mem_of_getElem? hx)
          simpa using this
        have hnx : putL x l' = putsL [] (turnAt l (f + len - 1) (k + 1)) := by
          rw [turnAt_succ, putsL_snoc, hl'.out, hlen.out, hi, List.getD_eq_getElem?_getD, hx]
          rfl
        have hp := hin.out.put hnb hux.1.1 hux.2
        have o0 := hcell 0 _ rfl
        have o1 := hcell 1 _ rfl
        simp only [Nat.add_zero] at o0
        clear hcell hi
        replace hx := Lib.hid hx
        replace hux := Lib.hid hux
        replace hnb := Lib.hid hnb
        replace hnx := Lib.hid hnx
        replace hp := Lib.hid hp
        go_wp2_with (with_reducible refine stop_bs ?_)
        refine Stop.go ?_
        refine wpList_bsv_own HH.out [.int .u64 x.1, .int .u64 x.2] 2 16 [.int .u64 0, .int .u64 0] Try.underlying22 (by kernel_rfl) (by kernel_rfl) (by decide) (by decide) (by kernel_rfl) ?_
        intro g1 w8_ H9_
        replace HH := Lib.hid H9_
        clear H9_
        clear o0 o1
        replace HH := Lib.hid (show Own w _ (slc 31 2 (.slice (some ⟨g1, 0, none⟩) 1 1) (encs encRg [x]) :: _) from HH.out.slc_all (sz := 2) (n := 1) (by decide) rfl)
        go_wp2_with fail
        refine (seqPut_c w _ _ lb l' [x] k hin.out (by intro y hy; rw [List.mem_singleton.1 hy]; exact hux.out) (some ⟨g1, 0, none⟩) 1 1 (fun l'' wx Hx => slc_rdS (l := [x]) encRg_len (by decide) Hx.r2) (by omega) (by simp [hnb.out]) ((Own.pm (HH.out) (by repeat (first | with_reducible exact Pm.refl _ | with_reducible exact Pm.nil _ | with_reducible refine Pm.here ?_ | with_reducible refine Pm.at2 ?_ | with_reducible refine Pm.at3 ?_ | with_reducible refine Pm.at4 ?_ | with_reducible refine Pm.at5 ?_ | with_reducible refine Pm.at6 ?_ | with_reducible refine Pm.at7 ?_ | with_reducible refine Pm.at8 ?_ | with_reducible refine Pm.skip ?_))) : Own w _ (sqs lb l' :: slc 31 2 (.slice (some ⟨g1, 0, none⟩) 1 1) (encs encRg [x]) :: sqs la (putsL [] l) :: [old w]))).mono ?_
        rintro e w9_ ⟨rfl, H9_⟩
        replace HH := Lib.hid H9_
        clear H9_
        replace HH := Lib.hid (show Own w _ (sqs lb (putL x l') :: _) from HH.out)
        go_wp2_with fail
        go_roundw
        case rel => exact ⟨k + 1, putL x l', by omega, by go_num, hnx.out, hp.out.1, (Own.pm (HH.out) (by repeat (first | with_reducible exact Pm.refl _ | with_reducible exact Pm.nil _ | with_reducible refine Pm.here ?_ | with_reducible refine Pm.at2 ?_ | with_reducible refine Pm.at3 ?_ | with_reducible refine Pm.at4 ?_ | with_reducible refine Pm.at5 ?_ | with_reducible refine Pm.at6 ?_ | with_reducible refine Pm.at7 ?_ | with_reducible refine Pm.at8 ?_ | with_reducible refine Pm.skip ?_)))⟩
        case measure => simp [intOf]; omega
      · have e : l' = putsL [] l := by
          rw [hl'.out, show k = l.length by rw [hlen.out]; omega]
          exact (putsL_same hrise.out hal.out).symm
        have hq : l'.length ≤ 60 := Nat.le_trans hin.out.len (by omega)
        clear hl' hin
        subst e
        generalize putsL [] l = q at hq HH
        go_wp2_with fail
        refine (seqAll_c w _ _ la q (by omega) ((Own.pm (HH.out) (by repeat (first | with_reducible exact Pm.refl _ | with_reducible exact Pm.nil _ | with_reducible refine Pm.here ?_ | with_reducible refine Pm.at2 ?_ | with_reducible refine Pm.at3 ?_ | with_reducible refine Pm.at4 ?_ | with_reducible refine Pm.at5 ?_ | with_reducible refine Pm.at6 ?_ | with_reducible refine Pm.at7 ?_ | with_reducible refine Pm.at8 ?_ | with_reducible refine Pm.skip ?_))) : Own w _ (sqs la q :: sqs lb q :: [old w]))).mono ?_
        rintro e w10_ ⟨va, rfl, H9_⟩
        replace HH := Lib.hid H9_
        clear H9_
        go_wp2_with fail
        refine (seqAll_c w _ _ lb q (by omega) ((Own.pm (HH.out) (by repeat (first | with_reducible exact Pm.refl _ | with_reducible exact Pm.nil _ | with_reducible refine Pm.here ?_ | with_reducible refine Pm.at2 ?_ | with_reducible refine Pm.at3 ?_ | with_reducible refine Pm.at4 ?_ | with_reducible refine Pm.at5 ?_ | with_reducible refine Pm.at6 ?_ | with_reducible refine Pm.at7 ?_ | with_reducible refine Pm.at8 ?_ | with_reducible refine Pm.skip ?_))) : Own w _ (sqs lb q :: slc 31 2 va (encs encRg q) :: sqs la q :: [old w]))).mono ?_
        rintro e w11_ ⟨vb, rfl, H9_⟩
        replace HH := Lib.hid H9_
        clear H9_
        obtain ⟨A1, n1, cap1, rfl, _, _, hit1⟩ := ((Own.pm (HH.out) (by repeat (first | with_reducible exact Pm.refl _ | with_reducible exact Pm.nil _ | with_reducible refine Pm.here ?_ | with_reducible refine Pm.at2 ?_ | with_reducible refine Pm.at3 ?_ | with_reducible refine Pm.at4 ?_ | with_reducible refine Pm.at5 ?_ | with_reducible refine Pm.at6 ?_ | with_reducible refine Pm.at7 ?_ | with_reducible refine Pm.at8 ?_ | with_reducible refine Pm.skip ?_))) : Own w _ (slc 31 2 va (encs encRg q) :: [old w])).slc_it encRg_len (by decide)
        obtain ⟨A2, n2, cap2, rfl, _, _, hit2⟩ := ((Own.pm (HH.out) (by repeat (first | with_reducible exact Pm.refl _ | with_reducible exact Pm.nil _ | with_reducible refine Pm.here ?_ | with_reducible refine Pm.at2 ?_ | with_reducible refine Pm.at3 ?_ | with_reducible refine Pm.at4 ?_ | with_reducible refine Pm.at5 ?_ | with_reducible refine Pm.at6 ?_ | with_reducible refine Pm.at7 ?_ | with_reducible refine Pm.at8 ?_ | with_reducible refine Pm.skip ?_))) : Own w _ (slc 31 2 vb (encs encRg q) :: [old w])).slc_it encRg_len (by decide)
        obtain rfl : n1 = q.length := hit1.1.symm
        obtain rfl : n2 = q.length := hit2.1.symm
        clear hit1 hit2
        go_wp2_with fail
        refine (alive07_c w _ _ HH.out).mono ?_
        rintro e w12_ ⟨rfl, H9_⟩
        replace HH := Lib.hid H9_
        clear H9_
        go_wp2_with fail
        refine (ref07Same_c w _ _ q A1 A2 q.length cap1 cap2 (fun wx Hx => slc_rdS encRg_len (by decide) ((Own.pm (Hx) (by repeat (first | with_reducible exact Pm.refl _ | with_reducible exact Pm.nil _ | with_reducible refine Pm.here ?_ | with_reducible refine Pm.at2 ?_ | with_reducible refine Pm.at3 ?_ | with_reducible refine Pm.at4 ?_ | with_reducible refine Pm.at5 ?_ | with_reducible refine Pm.at6 ?_ | with_reducible refine Pm.at7 ?_ | with_reducible refine Pm.at8 ?_ | with_reducible refine Pm.skip ?_))) : Own w _ (slc 31 2 (.slice A1 q.length cap1) (encs encRg q) :: [old w]))) (fun wx Hx => slc_rdS encRg_len (by decide) Hx) (by omega) HH.out).mono ?_
        rintro e w13_ ⟨rfl, H9_⟩
        replace HH := Lib.hid H9_
        clear H9_
        go_wp2_with fail
        go_ret
        exact ⟨rfl, (Own.pm (HH.out) (by repeat (first | with_reducible exact Pm.refl _ | with_reducible exact Pm.nil _ | with_reducible refine Pm.here ?_ | with_reducible refine Pm.at2 ?_ | with_reducible refine Pm.at3 ?_ | with_reducible refine Pm.at4 ?_ | with_reducible refine Pm.at5 ?_ | with_reducible refine Pm.at6 ?_ | with_reducible refine Pm.at7 ?_ | with_reducible refine Pm.at8 ?_ | with_reducible refine Pm.skip ?_)))⟩
end
end Go.Proofs.Ytlhncdbigjgmnaa
