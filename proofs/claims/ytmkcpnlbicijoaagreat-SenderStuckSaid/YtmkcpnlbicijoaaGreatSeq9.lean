/- seqs: the first number that is not in a set; is one in it? -/
import Derived.Deep.CutBlock
import Derived.WalkMore
import Derived.Test.YtmkcpnlbicijoaaGreatSeq6
namespace Go.Proofs.YtmkcpnlbicijoaaGreat
open Go.RowKit
section
variable (ε w : World) (R : List Asn) (b : Nat)
theorem seqReplace_s (v : Value) (l : List Rg) (i j : Nat) (hij : i ≤ j) (hj : j ≤ l.length) (hm : l.length ≤ 1000000) (x : Rg) (xb : Nat) (H : Own ε w (slc 55 2 v (encs encRg l) :: pts xb (.cells #[.int .u64 x.1, .int .u64 x.2] 55 (0, 0)) :: R)) :
  Calls Tryz.prog 129 #[v, .int .i64 (i : Int), .int .i64 (j : Int), .slice (some ⟨xb, 0, none⟩) 1 1] w fun e w' => ∃ A' n' c', e = .returned (.slice A' n' c') ∧ Own ε w' (slc 55 2 (.slice A' n' c') (encs encRg (l.take i ++ x :: l.drop j)) :: R) := by
 refine (seqReplace_c ε w R v l i j hij hj hm x xb H).mono ?_
 rintro e w' ⟨v', rfl, H2⟩
 obtain ⟨A', n', c', rfl⟩ := H2.slc_isv
 exact ⟨A', n', c', rfl, H2⟩
set_option maxRecDepth 100000 in
set_option maxHeartbeats 6400000 in
theorem seqPut1_c (l : List Rg) (hl : apart l) (hok : okRg l) (hm : l.length ≤ 999999) (x : Rg) (hx : x.1 ≤ x.2) (hx0 : 0 ≤ x.1) (hx2 : x.2 ≤ 18446744073709551614) (H : Own ε w (sqs b l :: R)) :
  Calls Tryz.prog 92 #[.pointer (some ⟨b, 0, none⟩), .agg #[.int .u64 x.1, .int .u64 x.2]] w fun e w' => e = .returned (.tuple #[]) ∧ Own ε w' (sqs b (putL x l) :: R) := by
 have HH := Lib.hid H; clear H
 replace hl := Lib.hid hl
 replace hok := Lib.hid hok
 have hm2 : l.length ≤ 1000000 := by omega
 replace hm := Lib.hid hm
 replace hm2 := Lib.hid hm2
 replace hx := Lib.hid hx
 replace hx0 := Lib.hid hx0
 replace hx2 := Lib.hid hx2
 go_enter Tryz.func92, Tryz.ntmps92
 go_wp2_with (with_reducible refine stop_bx ?_)
 refine Stop.go ?_
 refine wpList_box_own HH.out [_, _] rfl ?_
 intro g0 w1_ H9_
 replace HH := Lib.hid H9_
 clear H9_
 (try clear cc1_); (try clear cc2_); (try clear cc4_)
 have cc1_ := HH.out.cells
 go_wp2_with fail
 go_step3
 go_wp2_with fail
 refine (seqFind_c ε _ _ b l hl.out hm2.out x.1 HH.out.r2).mono ?_
 rintro e w2_ ⟨i, hf, rfl, H9_⟩
 replace HH := Lib.hid H9_
 clear H9_
 obtain ⟨v, H3⟩ := HH.out.sqs_open
 clear HH
 obtain ⟨A, len, cap, rfl, _, _, hit⟩ := H3.r2.slc_it encRg_len (by decide)
 have hlen := hit.1
 clear hit
 have HH := Lib.hid (H3.pn : Own ε _ (pts g0 (.cells #[.int .u64 x.1, .int .u64 x.2] 55 (0, 0)) :: pts b (.cells #[.slice A len cap] 145 (0, 0)) :: slc 55 2 (.slice A len cap) (encs encRg l) :: R))
 clear H3
 have hin : i ≤ len := by rw [← hlen]; exact hf.le
 have hn6 : len ≤ 999999 := by rw [← hlen]; exact hm.out
 replace hlen := Lib.hid hlen
 replace hf := Lib.hid hf
 have hat : ∃ (t : Bool) (fr : Nat), fr ≤ i ∧ (if t = true then i - 1 else i) = fr ∧ (t = true → 0 < i) ∧ (putL x l = l.take fr ++ putL x (l.drop fr) ∧ ∀ r ∈ l.drop fr, ¬ r.2 + 1 < x.1) ∧ (∀ j y, i = j + 1 → l[j]? = some y → ((y.2 + 1 == x.1) = t)) ∧ (i = 0 → t = false) := by
  by_cases hc : ∃ j y, i = j + 1 ∧ l[j]? = some y ∧ y.2 + 1 = x.1
  ·obtain ⟨j, y, rfl, hy, ht⟩ := hc
   refine ⟨true, j, by omega, by simp, fun _ => by omega, from_touch hl.out hy ht, fun j' y' e hy' => ?_, fun h => by omega⟩
   obtain rfl : j = j' := by omega
   rw [hy] at hy'
   cases hy'
   simpa using ht
  ·refine ⟨false, i, Nat.le_refl _, by simp, (fun h => by simp at h), from_here hl.out hf.out (fun j y e hy ht => hc ⟨j, y, e, hy, ht⟩), fun j y e hy => ?_, fun _ => rfl⟩
   simp only [beq_eq_false_iff_ne]
   exact fun ht => hc ⟨j, y, e, hy, ht⟩
 obtain ⟨tch, fr, hfr, hfe, htp, ⟨hput, hge⟩, htj, ht0⟩ := hat
 replace hput := Lib.hid hput
 replace hge := Lib.hid hge
 replace htj := Lib.hid htj
 replace hfe := Lib.hid hfe
 replace ht0 := Lib.hid ht0
 replace htp := Lib.hid htp
 (try clear cc1_); (try clear cc2_); (try clear cc4_)
 have cc1_ := HH.out.cells
 have cc2_ := HH.out.r2.cells
 go_upto_region 2 with (fail)
 go_cut [27] from 77 (fun v27 wc => v27 = .bool tch ∧ Own ε wc (pts g0 (.cells #[.int .u64 x.1, .int .u64 x.2] 55 (0, 0)) :: pts b (.cells #[.slice A len cap] 145 (0, 0)) :: slc 55 2 (.slice A len cap) (encs encRg l) :: R))
 case first =>
  cases i with
  | zero =>
   go_wp2_with fail
   refine wp_region_reg none HH.out (by kernel_rfl) ?_
   intro wm H9_
   replace HH := Lib.hid H9_
   clear H9_
   refine reg_s 0 HH.out ?_
   refine reg_s 1 HH.out ?_
   refine reg_s 2 HH.out ?_
   refine reg_s 3 HH.out ?_
   refine reg_s 4 HH.out ?_
   refine reg_s 5 HH.out ?_
   refine mixk_s 6 HH.out (fun _ hx => And.intro hx.cells hx.r2.cells) ?_
   refine reg_s 7 HH.out ?_
   refine reg_s 8 HH.out ?_
   refine reg_s 9 HH.out ?_
   refine reg_s 10 HH.out ?_
   refine mixk_s 11 HH.out (fun _ hx => And.intro hx.cells hx.r2.cells) ?_
   refine reg_s 12 HH.out ?_
   refine reg_s 13 HH.out ?_
   refine mixk_s 14 HH.out (fun _ hx => And.intro hx.cells hx.r2.cells) ?_
   refine reg_s 15 HH.out ?_
   refine reg_s 16 HH.out ?_
   refine mixk_done (by kernel_rfl) (fun w3_ hk => ?_) _
   replace HH := Lib.hid (hk _ _ HH.out)
   clear hk
   go_wp2_with fail
   go_meet
   case rel => exact ⟨by rw [show tch = false from by have := ht0.out; simpa using this], HH.out⟩
  | succ j =>
   obtain ⟨gA, off, y, rfl, hy, _⟩ := (slc_rdS encRg_len (by decide) HH.out.r3).get (show j < len by omega)
   have hcs : ∀ wx, Own ε wx (pts g0 (.cells #[.int .u64 x.1, .int .u64 x.2] 55 (0, 0)) :: pts b (.cells #[.slice (some ⟨gA, off, none⟩) len cap] 145 (0, 0)) :: slc 55 2 (.slice (some ⟨gA, off, none⟩) len cap) (encs encRg l) :: R) → wx.cell? ⟨gA, off + j * 2 + 1, none⟩ = some (.int .u64 y.2) := fun wx Hx => by
    obtain ⟨gB, off2, y2, e, hy2, hc⟩ := (slc_rdS encRg_len (by decide) Hx.r3).get (show j < len by omega)
    cases e
    rw [hy] at hy2
    cases hy2
    exact hc 1 _ rfl
   have hyo := (hok.out y (List.mem_of_getElem? hy))
   have hyl := hl.out.1 y (List.mem_of_getElem? hy)
   have w1 : IntKind.u64.wrap (y.2 + 1) = y.2 + 1 := by rw [IntKind.wrap_u64]; omega
   have w2 : IntKind.i64.wrap (j : Int) = (j : Int) := by rw [IntKind.wrap_i64]; omega
   have e1 := htj.out j y rfl hy
   have d0 : decide ((0 : Int) < (j : Int) + 1) = true := decide_eq_true (by omega)
   have d1 : decide (0 < j + 1) = true := decide_eq_true (by omega)
   have hjl : j < len := by omega
   clear hyo hyl
   replace hcs := Lib.hid hcs
   replace hy := Lib.hid hy
   (try clear cc1_); (try clear cc2_); (try clear cc4_)
   have cc1_ := HH.out.cells
   have cc2_ := HH.out.r2.cells
   go_wp2_with fail
   refine wp_region_reg none HH.out (by kernel_rfl) ?_
   intro wm H9_
   replace HH := Lib.hid H9_
   clear H9_
   refine reg_s 0 HH.out ?_
   refine reg_s 1 HH.out ?_
   refine reg_s 2 HH.out ?_
   refine reg_s 3 HH.out ?_
   refine reg_s 4 HH.out ?_
   refine reg_s 5 HH.out ?_
   refine mixk_s 6 HH.out (fun _ hx => And.intro hx.cells (And.intro hx.r2.cells (hcs.out _ hx))) ?_
   refine reg_s 7 HH.out ?_
   refine reg_s 8 HH.out ?_
   refine reg_s 9 HH.out ?_
   refine reg_s 10 HH.out ?_
   refine mixk_s 11 HH.out (fun _ hx => And.intro hx.cells (And.intro hx.r2.cells (hcs.out _ hx))) ?_
   refine reg_s 12 HH.out ?_
   refine reg_s 13 HH.out ?_
   refine mixk_s 14 HH.out (fun _ hx => And.intro hx.cells (And.intro hx.r2.cells (hcs.out _ hx))) ?_
   refine reg_s 15 HH.out ?_
   refine reg_s 16 HH.out ?_
   refine mixk_done (by kernel_rfl) (fun w4_ hk => ?_) _
   replace HH := Lib.hid (hk _ _ HH.out)
   clear hk
   go_wp2_with fail
   go_meet
   case rel => exact ⟨rfl, HH.out⟩
 case rest =>
  clear HH
  obtain ⟨rfl, HR⟩ := hcut
  have HH := Lib.hid HR
  clear HR
  go_upto_if 27 with (fail)
  go_cut [4] from 77 (fun v4 wc => v4 = .int .i64 (fr : Int) ∧ Own ε wc (pts g0 (.cells #[.int .u64 x.1, .int .u64 x.2] 55 (0, 0)) :: pts b (.cells #[.slice A len cap] 145 (0, 0)) :: slc 55 2 (.slice A len cap) (encs encRg l) :: R))
  case first =>
   cases tch
   ·have e1 : fr = i := by have := hfe.out; simp at this; exact this.symm
    go_wp2_with fail
    go_meet
    case rel => exact ⟨by rw [e1], HH.out⟩
   ·have e1 : (i : Int) - 1 = (fr : Int) := by have := hfe.out; have := htp.out rfl; simp at *; omega
    have w1 : IntKind.i64.wrap ((i : Int) - 1) = (fr : Int) := by rw [IntKind.wrap_i64]; omega
    replace e1 := Lib.hid e1
    go_wp2_with fail
    go_meet
    case rel => exact ⟨rfl, HH.out⟩
  case rest =>
   clear HH
   obtain ⟨rfl, HR⟩ := hcut
   have HH := Lib.hid HR
   clear HR
   go_wp2_with fail
   go_step3
   go_wp2_with fail
   clear htj htp hfe ht0 hf
   go_loopw [5] (fun v5 wr => ∃ (k : Nat) (z : Rg), v5 = .int .i64 k ∧ fr ≤ k ∧ k ≤ len ∧ (putL x l = l.take fr ++ putL z (l.drop k) ∧ z.1 ≤ x.1 ∧ z.1 ≤ z.2 ∧ 0 ≤ z.1 ∧ z.2 ≤ 18446744073709551614) ∧ Own ε wr (pts g0 (.cells #[.int .u64 z.1, .int .u64 z.2] 55 (0, 0)) :: pts b (.cells #[.slice A len cap] 145 (0, 0)) :: slc 55 2 (.slice A len cap) (encs encRg l) :: R)) (fun v5 _ => len - (intOf v5).toNat)
   case atStart => exact ⟨fr, x, rfl, Nat.le_refl _, by omega, ⟨hput.out, Int.le_refl _, hx.out, hx0.out, hx2.out⟩, HH.out⟩
   case round =>
    clear HH hput hx0 hx2
    obtain ⟨k, z, rfl, hk1, hk2, hz, HR⟩ := hrel
    have HH := Lib.hid HR
    clear HR
    replace hz := Lib.hid hz
    (try clear cc1_); (try clear cc2_); (try clear cc4_)
    have cc1_ := HH.out.cells
    have cc2_ := HH.out.r2.cells
    by_cases hlt : k < len
    ·obtain ⟨gA, off, y, rfl, hy, hcell⟩ := (slc_rdS encRg_len (by decide) HH.out.r3).get hlt
     have o0 := hcell 0 _ rfl
     have o1 := hcell 1 _ rfl
     simp only [Nat.add_zero] at o0
     clear hcell
     have w1 : IntKind.u64.wrap (z.2 + 1) = z.2 + 1 := by have := hz.out; rw [IntKind.wrap_u64]; omega
     have w3 : IntKind.i64.wrap ((k : Int) + 1) = ((k + 1 : Nat) : Int) := by rw [IntKind.wrap_i64]; omega
     have hdk : l.drop k = y :: l.drop (k + 1) := by
      obtain ⟨hh, rfl⟩ := List.getElem?_eq_some_iff.1 hy
      exact List.drop_eq_getElem_cons hh
     have hyb : ¬ y.2 + 1 < z.1 := by
      have h1 := hge.out y (List.mem_of_getElem? (by rw [List.getElem?_drop, show fr + (k - fr) = k by omega]; exact hy : (l.drop fr)[k - fr]? = some y))
      have h2 := hz.out.2.1
      omega
     have hyo := hok.out y (List.mem_of_getElem? hy)
     have hyl := hl.out.1 y (List.mem_of_getElem? hy)
     replace hy := Lib.hid hy
     by_cases hgt : z.2 + 1 < y.1
     ·have hfin : putL x l = l.take fr ++ z :: l.drop k := by rw [hz.out.1, hdk, putL_stop hyb hgt]
      replace hfin := Lib.hid hfin
      clear hdk hyb hyo hyl
      go_wp2_with (with_reducible refine stop_al ?_)
      refine Stop.go ?_
      refine wpList_alloc_own HH.out [.int .u64 0, .int .u64 0] (by kernel_rfl) ?_
      intro yb w5_ H9_
      replace HH := Lib.hid H9_
      clear H9_
      go_wp2_with (with_reducible refine stop_st ?_)
      refine Stop.go ?_
      refine wpList_store_own _ #[_, _] rfl rfl HH.out (by kernel_rfl) rfl (by repeat (first | (refine List.forall_mem_cons.2 ⟨(by first | with_reducible assumption | rfl), ?_⟩) | exact fun _ h => absurd h List.not_mem_nil)) ?_
      intro w6_ H9_
      replace HH := Lib.hid H9_
      clear H9_
      clear o0 o1
      replace HH := Lib.hid (HH.out.pn : Own ε _ (pts g0 (.cells #[.int .u64 z.1, .int .u64 z.2] 55 (0, 0)) :: pts b (.cells #[.slice (some ⟨gA, off, none⟩) len cap] 145 (0, 0)) :: slc 55 2 (.slice (some ⟨gA, off, none⟩) len cap) (encs encRg l) :: pts yb (.cells #[.int .u64 y.1, .int .u64 y.2] 55 (0, 0)) :: R))
      (try clear cc1_); (try clear cc2_); (try clear cc4_)
      have cc1_ := HH.out.cells
      have cc2_ := HH.out.r2.cells
      have cc4_ := HH.out.r4.cells
      go_wp2_with fail
      replace HH := Lib.hid (HH.out.pn : Own ε _ (pts g0 (.cells #[.int .u64 z.1, .int .u64 z.2] 55 (0, 0)) :: pts b (.cells #[.slice (some ⟨gA, off, none⟩) len cap] 145 (0, 0)) :: slc 55 2 (.slice (some ⟨gA, off, none⟩) len cap) (encs encRg l) :: R))
      go_wp2_with fail
      refine wp_region_reg (some 9) HH.out (by kernel_rfl) ?_
      intro wm H9_
      replace HH := Lib.hid H9_
      clear H9_
      refine reg_s 0 HH.out ?_
      refine reg_s 1 HH.out ?_
      refine reg_s 2 HH.out ?_
      refine reg_s 3 HH.out ?_
      refine mixk_s 4 HH.out (fun _ hx => And.intro hx.cells hx.r2.cells) ?_
      refine reg_s 5 HH.out ?_
      refine reg_s 6 HH.out ?_
      refine mixk_s 7 HH.out (fun _ hx => And.intro hx.cells hx.r2.cells) ?_
      refine reg_l (some 9) (i := 8) rfl (by kernel_rfl) (fun wn hk K hK => ?_)
      replace HH := Lib.hid (hk _ _ HH.out)
      clear hk
      go_simp
      replace HH := Lib.hid (HH.out.alloc (.cells #[.int .u64 z.1, .int .u64 z.2] 55))
      generalize wn.alloc (.cells #[.int .u64 z.1, .int .u64 z.2] 55) = wm at *
      generalize wn.heap.size = sb at *
      refine hK _ _ _ HH.out (.inr ⟨rfl, fun _ h => h.tail⟩) ?_
      clear hK K
      refine reg_l (some 12) (i := 9) rfl (by kernel_rfl) (fun wn hk K hK => ?_)
      replace HH := Lib.hid (hk _ _ HH.out)
      clear hk
      go_simp
      refine (seqReplace_s ε wn _ (.slice (some ⟨gA, off, none⟩) len cap) l fr k hk1 (by rw [hlen.out]; omega) hm2.out z sb (HH.out.pn : Own ε wn (slc 55 2 (.slice (some ⟨gA, off, none⟩) len cap) (encs encRg l) :: pts sb (.cells #[.int .u64 z.1, .int .u64 z.2] 55 (0, 0)) :: pts g0 (.cells #[.int .u64 z.1, .int .u64 z.2] 55 (0, 0)) :: pts b (.cells #[.slice (some ⟨gA, off, none⟩) len cap] 145 (0, 0)) :: R))).mono ?_
      rintro e wm ⟨A', n', c', rfl, H9_⟩
      replace HH := Lib.hid H9_
      clear H9_
      refine hK _ _ _ HH.out (.inl (by kernel_rfl)) ?_
      clear hK K
      refine reg_s 10 HH.out ?_
      refine reg_s 11 HH.out ?_
      refine reg_l none (i := 12) rfl (by kernel_rfl) (fun wn hk K hK => ?_)
      replace HH := Lib.hid (hk _ _ HH.out)
      clear hk
      have hx := HH.out
      have x1_ := hx.r2.cells
      have x2_ := hx.r3.cells
      go_simp
      replace HH := Lib.hid (HH.out.r3.set 0 (.slice A' n' c'))
      simp only [List.setIfInBounds_toArray, List.set_cons_zero] at HH
      generalize wn.setCell ⟨b, 0, none⟩ (.slice A' n' c') = wm at *
      clear hx x1_ x2_
      refine hK _ _ _ HH.out (.inl (by kernel_rfl)) ?_
      clear hK K
      refine mixk_done (by kernel_rfl) (fun w7_ hk => ?_) _
      replace HH := Lib.hid (hk _ _ HH.out)
      clear hk
      go_wp2_with fail
      rw [Exit.noGoto_normal]
      go_wp2_with fail
      first | go_end0 | ((try simp only [Exit.inBlock, Exit.then]); refine bodyPost_ret (results_none rfl _ _ _) rfl ?_)
      rw [hfin.out]
      exact ⟨rfl, Own.sqs_mk ε _ R b (HH.out.pn : Own ε _ (pts b (.cells #[.slice A' n' c'] 145 (0, 0)) :: slc 55 2 (.slice A' n' c') (encs encRg (l.take fr ++ z :: l.drop k)) :: R))⟩
     ·have hnx : putL x l = l.take fr ++ putL (min z.1 y.1, max z.2 y.2) (l.drop (k + 1)) ∧ min z.1 y.1 ≤ x.1 ∧ min z.1 y.1 ≤ max z.2 y.2 ∧ 0 ≤ min z.1 y.1 ∧ max z.2 y.2 ≤ 18446744073709551614 := by
       have h1 := hz.out
       refine ⟨by rw [h1.1, hdk, putL_merge hyb hgt], by omega, by omega, by omega, by omega⟩
      replace hnx := Lib.hid hnx
      clear hdk hyb hyo hyl hz
      have im := min_ite'
      have ix := max_ite'
      go_wp2_with (with_reducible refine stop_al ?_)
      refine Stop.go ?_
      refine wpList_alloc_own HH.out [.int .u64 0, .int .u64 0] (by kernel_rfl) ?_
      intro yb w8_ H9_
      replace HH := Lib.hid H9_
      clear H9_
      go_wp2_with (with_reducible refine stop_st ?_)
      refine Stop.go ?_
      refine wpList_store_own _ #[_, _] rfl rfl HH.out (by kernel_rfl) rfl (by repeat (first | (refine List.forall_mem_cons.2 ⟨(by first | with_reducible assumption | rfl), ?_⟩) | exact fun _ h => absurd h List.not_mem_nil)) ?_
      intro w9_ H9_
      replace HH := Lib.hid H9_
      clear H9_
      clear o0 o1
      replace HH := Lib.hid (HH.out.pn : Own ε _ (pts g0 (.cells #[.int .u64 z.1, .int .u64 z.2] 55 (0, 0)) :: pts b (.cells #[.slice (some ⟨gA, off, none⟩) len cap] 145 (0, 0)) :: slc 55 2 (.slice (some ⟨gA, off, none⟩) len cap) (encs encRg l) :: pts yb (.cells #[.int .u64 y.1, .int .u64 y.2] 55 (0, 0)) :: R))
      (try clear cc1_); (try clear cc2_); (try clear cc4_)
      have cc1_ := HH.out.cells
      have cc4_ := HH.out.r4.cells
      go_wp2_with (with_reducible refine stop_st ?_)
      refine Stop.go ?_
      refine wpList_store_own _ #[_, _] rfl rfl HH.out (by kernel_rfl) rfl (by repeat (first | (refine List.forall_mem_cons.2 ⟨(by first | with_reducible assumption | rfl), ?_⟩) | exact fun _ h => absurd h List.not_mem_nil)) ?_
      intro w10_ H9_
      replace HH := Lib.hid H9_
      clear H9_
      go_wp2_with fail
      go_roundw
      case rel => exact ⟨k + 1, (min z.1 y.1, max z.2 y.2), by go_num, by omega, by omega, hnx.out, HH.out.pn⟩
      case measure => simp [intOf]; omega
    ·obtain rfl : k = len := by omega
     have hfin : putL x l = l.take fr ++ z :: l.drop k := by rw [hz.out.1, List.drop_of_length_le (by rw [hlen.out]; exact Nat.le_refl _)]; rfl
     replace hfin := Lib.hid hfin
     go_wp2_with fail
     go_wp2_with fail
     refine wp_region_reg (some 9) HH.out (by kernel_rfl) ?_
     intro wm H9_
     replace HH := Lib.hid H9_
     clear H9_
     refine reg_s 0 HH.out ?_
     refine reg_s 1 HH.out ?_
     refine reg_s 2 HH.out ?_
     refine reg_s 3 HH.out ?_
     refine mixk_s 4 HH.out (fun _ hx => And.intro hx.cells hx.r2.cells) ?_
     refine reg_s 5 HH.out ?_
     refine reg_s 6 HH.out ?_
     refine mixk_s 7 HH.out (fun _ hx => And.intro hx.cells hx.r2.cells) ?_
     refine reg_l (some 9) (i := 8) rfl (by kernel_rfl) (fun wn hk K hK => ?_)
     replace HH := Lib.hid (hk _ _ HH.out)
     clear hk
     go_simp
     replace HH := Lib.hid (HH.out.alloc (.cells #[.int .u64 z.1, .int .u64 z.2] 55))
     generalize wn.alloc (.cells #[.int .u64 z.1, .int .u64 z.2] 55) = wm at *
     generalize wn.heap.size = sb at *
     refine hK _ _ _ HH.out (.inr ⟨rfl, fun _ h => h.tail⟩) ?_
     clear hK K
     refine reg_l (some 12) (i := 9) rfl (by kernel_rfl) (fun wn hk K hK => ?_)
     replace HH := Lib.hid (hk _ _ HH.out)
     clear hk
     go_simp
     refine (seqReplace_s ε wn _ (.slice A k cap) l fr k hk1 (by rw [hlen.out]; omega) hm2.out z sb (HH.out.pn : Own ε wn (slc 55 2 (.slice A k cap) (encs encRg l) :: pts sb (.cells #[.int .u64 z.1, .int .u64 z.2] 55 (0, 0)) :: pts g0 (.cells #[.int .u64 z.1, .int .u64 z.2] 55 (0, 0)) :: pts b (.cells #[.slice A k cap] 145 (0, 0)) :: R))).mono ?_
     rintro e wm ⟨A', n', c', rfl, H9_⟩
     replace HH := Lib.hid H9_
     clear H9_
     refine hK _ _ _ HH.out (.inl (by kernel_rfl)) ?_
     clear hK K
     refine reg_s 10 HH.out ?_
     refine reg_s 11 HH.out ?_
     refine reg_l none (i := 12) rfl (by kernel_rfl) (fun wn hk K hK => ?_)
     replace HH := Lib.hid (hk _ _ HH.out)
     clear hk
     have hx := HH.out
     have x1_ := hx.r2.cells
     have x2_ := hx.r3.cells
     go_simp
     replace HH := Lib.hid (HH.out.r3.set 0 (.slice A' n' c'))
     simp only [List.setIfInBounds_toArray, List.set_cons_zero] at HH
     generalize wn.setCell ⟨b, 0, none⟩ (.slice A' n' c') = wm at *
     clear hx x1_ x2_
     refine hK _ _ _ HH.out (.inl (by kernel_rfl)) ?_
     clear hK K
     refine mixk_done (by kernel_rfl) (fun w11_ hk => ?_) _
     replace HH := Lib.hid (hk _ _ HH.out)
     clear hk
     go_wp2_with fail
     rw [Exit.noGoto_normal]
     go_wp2_with fail
     first | go_end0 | ((try simp only [Exit.inBlock, Exit.then]); refine bodyPost_ret (results_none rfl _ _ _) rfl ?_)
     rw [hfin.out]
     exact ⟨rfl, Own.sqs_mk ε _ R b (HH.out.pn : Own ε _ (pts b (.cells #[.slice A' n' c'] 145 (0, 0)) :: slc 55 2 (.slice A' n' c') (encs encRg (l.take fr ++ z :: l.drop k)) :: R))⟩
end
end Go.Proofs.YtmkcpnlbicijoaaGreat
namespace Go.Proofs.YtmkcpnlbicijoaaGreat
open Go.RowKit
theorem putL_len : ∀ (l : List Rg) (x : Rg), (putL x l).length ≤ l.length + 1
 | [], x => by simp [putL]
 | y :: l, x => by
  unfold putL
  split
  ·exact Nat.succ_le_succ (putL_len l x)
  ·split
   ·simp
   ·exact Nat.le_succ_of_le (putL_len l _)
theorem putL_okRg : ∀ (l : List Rg) (x : Rg), okRg l → 0 ≤ x.1 → x.2 ≤ 18446744073709551614 → okRg (putL x l)
 | [], x, _, h1, h2 => by
  intro r hr
  unfold putL at hr
  rw [List.mem_singleton.1 hr]
  exact ⟨h1, h2⟩
 | y :: l, x, hl, h1, h2 => by
  have hy := hl y (List.mem_cons_self ..)
  have hl' : okRg l := fun r hr => hl r (List.mem_cons_of_mem _ hr)
  unfold putL
  split
  ·intro r hr
   rcases List.mem_cons.1 hr with rfl | hr
   ·exact hy
   ·exact putL_okRg l x hl' h1 h2 r hr
  ·split
   ·intro r hr
    rcases List.mem_cons.1 hr with rfl | hr
    ·exact ⟨h1, h2⟩
    ·exact hl r hr
   ·exact putL_okRg l _ hl' (show 0 ≤ min x.1 y.1 by omega) (show max x.2 y.2 ≤ _ by omega)
theorem putsL_snoc (l xs : List Rg) (x : Rg) : putsL l (xs ++ [x]) = putL x (putsL l xs) := by simp [putsL]
theorem putsL_take {l xs : List Rg} {k : Nat} {x : Rg} (h : xs[k]? = some x) : putsL l (xs.take (k + 1)) = putL x (putsL l (xs.take k)) := by
 rw [List.take_add_one, h]
 exact putsL_snoc _ _ _
structure SqIn (l : List Rg) (n : Nat) : Prop where
 ap : apart l
 ok : okRg l
 len : l.length ≤ n
theorem SqIn.put {l : List Rg} {n : Nat} (h : SqIn l n) {x : Rg} (hx : badR x = false) (h0 : 0 ≤ x.1) (h2 : U x.2) : SqIn (putL x l) (n + 1) ∧ x.1 ≤ x.2 ∧ x.2 ≤ 18446744073709551614 := by
 unfold badR at hx
 simp only [Bool.or_eq_false_iff, decide_eq_false_iff_not] at hx
 unfold U at h2
 have h3 : x.1 ≤ x.2 := by omega
 have h4 : x.2 ≤ 18446744073709551614 := by omega
 exact ⟨⟨apart_putL l x h3 h.ap, putL_okRg l x h.ok h0 h4, Nat.le_trans (putL_len l x) (Nat.succ_le_succ h.len)⟩, h3, h4⟩
section
variable (ε w : World) (R : List Asn) (b : Nat)
theorem seqPut_bad (l xs : List Rg) (hU : ∀ x ∈ xs, U x.2) (A : Option Addr) (len cap : Nat) (hA : ∀ wx, Own ε wx (sqs b l :: R) → itAt encRg 2 wx A len xs) (hm : len ≤ 1000000) (hb : xs.any badR = true) (H : Own ε w (sqs b l :: R)) :
  Calls Tryz.prog 48 #[.pointer (some ⟨b, 0, none⟩), .slice A len cap] w fun e w' => e = .returned (.int .i64 1) ∧ Own ε w' (sqs b l :: R) := by
 have HH := Lib.hid H; clear H
 replace hA := Lib.hid hA
 replace hU := Lib.hid hU
 go_enter Tryz.func48, Tryz.ntmps48
 go_wp2_with fail
 refine (containsBad_c ε _ _ xs hU.out A len cap hA.out hm HH.out).mono ?_
 rw [hb]
 rintro e w1_ ⟨rfl, H9_⟩
 replace HH := Lib.hid H9_
 clear H9_
 go_wp2_with fail
 go_ret
 exact ⟨rfl, HH.out⟩
set_option maxRecDepth 100000 in
set_option maxHeartbeats 3200000 in
theorem seqPut_c (l xs : List Rg) (n : Nat) (hl : SqIn l n) (hU : ∀ x ∈ xs, U x.1 ∧ U x.2) (A : Option Addr) (len cap : Nat) (hA : ∀ (l' : List Rg) wx, Own ε wx (sqs b l' :: R) → itAt encRg 2 wx A len xs) (hm : n + len ≤ 999999) (hb : xs.any badR = false) (H : Own ε w (sqs b l :: R)) :
  Calls Tryz.prog 48 #[.pointer (some ⟨b, 0, none⟩), .slice A len cap] w fun e w' => e = .returned (.int .i64 0) ∧ Own ε w' (sqs b (putsL l xs) :: R) := by
 have HH := Lib.hid H; clear H
 have hlen : xs.length = len := (hA l w HH.out).1
 have hm2 : len ≤ 1000000 := by omega
 replace hA := Lib.hid hA
 replace hU := Lib.hid hU
 replace hl := Lib.hid hl
 replace hlen := Lib.hid hlen
 go_enter Tryz.func48, Tryz.ntmps48
 go_wp2_with fail
 refine (containsBad_c ε _ _ xs (fun x hx => (hU.out x hx).2) A len cap (hA.out l) hm2 HH.out).mono ?_
 rw [hb]
 rintro e w2_ ⟨rfl, H9_⟩
 replace HH := Lib.hid H9_
 clear H9_
 replace hb := Lib.hid hb
 go_wp2_with fail
 go_loopw [15] (fun vi wr => ∃ (k : Nat) (l' : List Rg), k ≤ len ∧ vi = .int .i64 k ∧ l' = putsL l (xs.take k) ∧ SqIn l' (n + k) ∧ Own ε wr (sqs b l' :: R)) (fun vi _ => len - (intOf vi).toNat)
 case atStart => exact ⟨0, l, Nat.zero_le _, rfl, rfl, hl.out, HH.out⟩
 case round =>
  clear HH
  obtain ⟨k, l', hk, rfl, hl', hin, HR⟩ := hrel
  have HH := Lib.hid HR
  clear HR
  replace hl' := Lib.hid hl'
  replace hin := Lib.hid hin
  by_cases hlt : k < len
  ·have w3 : IntKind.i64.wrap ((k : Int) + 1) = ((k + 1 : Nat) : Int) := by rw [IntKind.wrap_i64]; omega
   obtain ⟨g, off, x, rfl, hx, hcell⟩ := (hA.out _ _ HH.out).get hlt
   have hux := hU.out x (List.mem_of_getElem? hx)
   have o0 := hcell 0 _ rfl
   have o1 := hcell 1 _ rfl
   simp only [Nat.add_zero] at o0
   clear hcell
   have hnb : badR x = false := by
    have := List.any_eq_false.1 hb.out x (List.mem_of_getElem? hx)
    simpa using this
   obtain ⟨h1, h2, h3⟩ := hin.out.put hnb hux.1.1 hux.2
   have h0 := hux.1.1
   have hnx : putL x l' = putsL l (xs.take (k + 1)) := by rw [putsL_take hx, hl'.out]
   have hlm : l'.length ≤ 999999 := Nat.le_trans hin.out.len (by omega)
   replace hx := Lib.hid hx
   replace hux := Lib.hid hux
   replace hnb := Lib.hid hnb
   replace h0 := Lib.hid h0
   replace h1 := Lib.hid h1
   replace h2 := Lib.hid h2
   replace h3 := Lib.hid h3
   replace hnx := Lib.hid hnx
   replace hlm := Lib.hid hlm
   go_wp2_with (with_reducible refine stop_al ?_)
   refine Stop.go ?_
   refine wpList_alloc_own HH.out [.int .u64 0, .int .u64 0] (by kernel_rfl) ?_
   intro yb w3_ H9_
   replace HH := Lib.hid H9_
   clear H9_
   go_wp2_with (with_reducible refine stop_st ?_)
   refine Stop.go ?_
   refine wpList_store_own _ #[_, _] rfl rfl HH.out (by kernel_rfl) rfl (by repeat (first | (refine List.forall_mem_cons.2 ⟨(by first | with_reducible assumption | rfl), ?_⟩) | exact fun _ h => absurd h List.not_mem_nil)) ?_
   intro w4_ H9_
   replace HH := Lib.hid H9_
   clear H9_
   clear o0 o1
   (try clear cc1_); (try clear cc2_); (try clear cc4_)
   have cc1_ := HH.out.cells
   go_wp2_with fail
   refine (seqPut1_c ε _ _ b l' hin.out.ap hin.out.ok hlm.out x h2.out h0.out h3.out HH.out.r2).mono ?_
   rintro e w5_ ⟨rfl, H9_⟩
   replace HH := Lib.hid H9_
   clear H9_
   go_wp2_with fail
   go_roundw
   case rel => exact ⟨k + 1, putL x l', by omega, by go_num, hnx.out, h1.out, HH.out.pn⟩
   case measure => simp [intOf]; omega
  ·have e : l' = putsL l xs := by rw [hl'.out, List.take_of_length_le (by rw [hlen.out]; omega)]
   replace e := Lib.hid e
   go_wp2_with fail
   go_ret
   exact ⟨rfl, by rw [← e.out]; exact HH.out⟩
end
end Go.Proofs.YtmkcpnlbicijoaaGreat
namespace Go.Proofs.YtmkcpnlbicijoaaGreat
open Go.RowKit
section
variable (ε w : World) (R : List Asn) (b : Nat)
set_option maxRecDepth 100000 in
set_option maxHeartbeats 3200000 in
theorem seqGap_c (l : List Rg) (m : Nat) (hl : SqIn l m) (hm : m ≤ 999999) (n : Int) (H : Own ε w (sqs b l :: R)) :
  Calls Tryz.prog 132 #[.pointer (some ⟨b, 0, none⟩), .int .u64 n] w fun e w' => e = .returned (.int .u64 (gapL l n)) ∧ Own ε w' (sqs b l :: R) := by
 have HH := Lib.hid H; clear H
 have hm2 : l.length ≤ 1000000 := by have := hl.len; omega
 replace hl := Lib.hid hl
 replace hm2 := Lib.hid hm2
 obtain ⟨gp, hgp⟩ : ∃ y, gapL l n = y := ⟨_, rfl⟩
 rw [hgp]
 replace hgp := Lib.hid hgp
 go_enter Tryz.func132, Tryz.ntmps132
 go_wp2_with fail
 refine (seqFind_c ε _ _ b l hl.out.ap hm2.out n HH.out).mono ?_
 rintro e w1_ ⟨i, hf, rfl, H9_⟩
 replace HH := Lib.hid H9_
 clear H9_
 obtain ⟨v, H3⟩ := HH.out.sqs_open
 clear HH
 obtain ⟨A, len, cap, rfl, _, _, hit⟩ := H3.r2.slc_it encRg_len (by decide)
 have hlen := hit.1
 have HH := Lib.hid H3
 clear H3
 have hin : i ≤ len := by rw [← hlen]; exact hf.le
 have hn6 : len ≤ 1000000 := by rw [← hlen]; exact hm2.out
 by_cases hlt : i < len
 ·obtain ⟨gA, off, r, rfl, hr, hcell⟩ := hit.get hlt
  have o0 := hcell 0 _ rfl
  have o1 := hcell 1 _ rfl
  simp only [Nat.add_zero] at o0
  clear hcell hit
  obtain ⟨h2, hh⟩ := hf.at hl.out.ap hr
  have hro := hl.out.ok r (List.mem_of_getElem? hr)
  have hrl := hl.out.ap.1 r (List.mem_of_getElem? hr)
  by_cases hrn : r.1 ≤ n
  ·have e1 : gp = r.2 + 1 := by rw [← hgp.out]; exact gapL_some hl.out.ap (List.mem_of_getElem? hr) ⟨hrn, h2⟩
   have w1 : IntKind.u64.wrap (r.2 + 1) = r.2 + 1 := by rw [IntKind.wrap_u64]; omega
   replace hlen := Lib.hid hlen
   replace hr := Lib.hid hr
   replace hf := Lib.hid hf
   clear hh h2 hro hrl
   subst e1
   (try clear cc1_); (try clear cc2_); (try clear cc4_)
   have cc1_ := HH.out.cells
   go_wp2_with fail
   go_ret
   exact ⟨rfl, Own.sqs_mk ε _ R b HH.out⟩
  ·have e1 : gp = n := by rw [← hgp.out]; exact gapL_none (fun q => hrn (hh.1 q))
   replace hlen := Lib.hid hlen
   replace hr := Lib.hid hr
   replace hf := Lib.hid hf
   clear hh h2 hro hrl
   subst e1
   (try clear cc1_); (try clear cc2_); (try clear cc4_)
   have cc1_ := HH.out.cells
   go_wp2_with fail
   go_ret
   exact ⟨rfl, Own.sqs_mk ε _ R b HH.out⟩
 ·obtain rfl : i = len := by omega
  have e1 : gp = n := by
   rw [← hgp.out]
   have hf2 : Found l n l.length := by rw [hlen]; exact hf
   exact gapL_none hf2.end
  replace hlen := Lib.hid hlen
  replace hf := Lib.hid hf
  clear hit
  subst e1
  (try clear cc1_); (try clear cc2_); (try clear cc4_)
  have cc1_ := HH.out.cells
  go_wp2_with fail
  go_ret
  exact ⟨rfl, Own.sqs_mk ε _ R b HH.out⟩
theorem seqHas_c (l : List Rg) (m : Nat) (hl : SqIn l m) (hm : m ≤ 999999) (n : Int) (H : Own ε w (sqs b l :: R)) :
  Calls Tryz.prog 95 #[.pointer (some ⟨b, 0, none⟩), .int .u64 n] w fun e w' => e = .returned (.bool (gapL l n != n)) ∧ Own ε w' (sqs b l :: R) := by
 have HH := Lib.hid H; clear H
 replace hl := Lib.hid hl
 go_enter Tryz.func95, Tryz.ntmps95
 go_wp2_with fail
 refine (seqGap_c ε _ _ b l m hl.out hm n HH.out).mono ?_
 rintro e w2_ ⟨rfl, H9_⟩
 replace HH := Lib.hid H9_
 clear H9_
 go_wp2_with fail
 go_ret
 exact ⟨rfl, HH.out⟩
end
end Go.Proofs.YtmkcpnlbicijoaaGreat
