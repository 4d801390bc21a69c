/- seqs: slices.Insert of one range. -/
import Derived.Test.YtmkcpnlbicijoaaGreatMixK
import Derived.Test.YtmkcpnlbicijoaaGreatRange
import Derived.Laws.ResultCell
import Derived.Laws.CopyRow
import Derived.Laws.Rows
import Derived.Test.YtmkcpnlbicijoaaGreatItAt
import Derived.Test.YtmkcpnlbicijoaaGreatSlk
import Derived.Test.YtmkcpnlbicijoaaGreatLed3
import Derived.Lib.Overlaps
namespace Go.Proofs.YtmkcpnlbicijoaaGreat
open Go.RowKit
section
variable {P : Program} {ops : Array Oper} {Q : Exit → Act → World → Prop} {d : Option Tmp} {ty : TypeId} {pos : String} {aft : Array Edge} {rest : List Oper} {a : Act} {ε w : World} {R : List Asn} {b k : Nat} {T t : TypeId}
theorem wpList_storek_own {x y : Operand} {cur : Array Value} (vs : Array Value) (hx : a.eval x = .pointer (some ⟨b, k, none⟩)) (hy : a.eval y = .agg vs) (H : Own ε w (pts b (.cells cur T (0, 0)) :: R)) (hi : (P.info? t).map (·.size) = some vs.size) (hk : k + vs.size ≤ cur.size)
  (h1 : ∀ v ∈ vs.toList, v.oneCell' = true) (h : ∀ w', Own ε w' (pts b (.cells (cur.toList.take k ++ vs.toList ++ cur.toList.drop (k + vs.size)).toArray T (0, 0)) :: R) → wpList P ops Q rest (a.put d undef) w') : wpList P ops Q (⟨d, .store t x y, ty, pos, aft, none⟩ :: rest) a w := by
 refine wpList_plain rfl fun K' hK' => ?_
 have hg := H.blk
 have hst := run_storeCells_at P b k T vs.toList 0 cur w hg (by simp; omega) h1
 rw [Nat.add_zero, Array.length_toList] at hst
 obtain ⟨row, hr⟩ : ∃ row, (cur.toList.take k ++ vs.toList ++ cur.toList.drop (k + vs.size)).toArray = row := ⟨_, rfl⟩
 rw [hr] at hst h
 have H2 : Own ε (w.setRow b row) (pts b (.cells row T (0, 0)) :: R) := H.put rfl rfl rfl (setRow_heap w b cur _ T _ hg) (fun j _ hj => setRow_other w b j _ hj)
 cases hq : P.info? t with
 | none => simp [hq] at hi
 | some i =>
  have hsz : i.size = vs.size := by simpa [hq] using hi
  unfold Oper.wp execOp
  simp only [hx, hy]
  simp [Instr.storeAt, Instr.sureAddr, storeVar, sizeOf, typeInfo, hq, hsz, Value.cells, hst, Result.andThen]
  exact hK' _ _ (h _ H2)
theorem wp_storek_own {o : Oper} {x y : Operand} {cur : Array Value} {K : Act → World → Prop} (vs : Array Value) (ho : o.op = .store t x y) (hx : a.eval x = .pointer (some ⟨b, k, none⟩)) (hy : a.eval y = .agg vs) (H : Own ε w (pts b (.cells cur T (0, 0)) :: R)) (hi : (P.info? t).map (·.size) = some vs.size) (hk : k + vs.size ≤ cur.size)
  (h1 : ∀ v ∈ vs.toList, v.oneCell' = true) (h : ∀ w', Own ε w' (pts b (.cells (cur.toList.take k ++ vs.toList ++ cur.toList.drop (k + vs.size)).toArray T (0, 0)) :: R) → K (a.put o.dst undef) w') : o.wp P a w K Q := by
 have hg := H.blk
 have hst := run_storeCells_at P b k T vs.toList 0 cur w hg (by simp; omega) h1
 rw [Nat.add_zero, Array.length_toList] at hst
 obtain ⟨row, hr⟩ : ∃ row, (cur.toList.take k ++ vs.toList ++ cur.toList.drop (k + vs.size)).toArray = row := ⟨_, rfl⟩
 rw [hr] at hst h
 have H2 : Own ε (w.setRow b row) (pts b (.cells row T (0, 0)) :: R) := H.put rfl rfl rfl (setRow_heap w b cur _ T _ hg) (fun j _ hj => setRow_other w b j _ hj)
 cases hq : P.info? t with
 | none => simp [hq] at hi
 | some i =>
  have hsz : i.size = vs.size := by simpa [hq] using hi
  unfold Oper.wp execOp
  simp only [ho, hx, hy]
  simp [Instr.storeAt, Instr.sureAddr, storeVar, sizeOf, typeInfo, hq, hsz, Value.cells, hst, Result.andThen]
  exact h _ H2
end
end Go.Proofs.YtmkcpnlbicijoaaGreat
namespace Go.Proofs.YtmkcpnlbicijoaaGreat
open Go.RowKit
def encRg (r : Rg) : List Value := [.int .u64 r.1, .int .u64 r.2]
theorem encRg_len (r : Rg) : (encRg r).length = 2 := rfl
def sqs (b : Nat) (l : List Rg) : Asn := exA fun v : Value => sep (pts b (.cells #[v] 145 (0, 0))) (slc 55 2 v (encs encRg l))
section
variable (ε w : World) (R : List Asn) (b : Nat)
theorem Own.sqs_open {l : List Rg} (H : Own ε w (sqs b l :: R)) : ∃ v, Own ε w (pts b (.cells #[v] 145 (0, 0)) :: slc 55 2 v (encs encRg l) :: R) := by
 obtain ⟨v, H⟩ := H.ex
 exact ⟨v, H.split⟩
theorem Own.sqs_mk {l : List Rg} {v : Value} (H : Own ε w (pts b (.cells #[v] 145 (0, 0)) :: slc 55 2 v (encs encRg l) :: R)) : Own ε w (sqs b l :: R) := Own.ex_mk v H.join
theorem find1_c (x : Rg) (n : Int) (H : Own ε w R) :
  Calls Tryz.prog 153 #[.agg #[.int .u64 x.1, .int .u64 x.2], .int .u64 n] w fun e w' => e = .returned (.int .i64 (if x.2 < n then -1 else 1)) ∧ Own ε w' R := by
 have HH := Lib.hid H; clear H
 obtain ⟨x1, x2⟩ := x
 by_cases h : x2 < n
 ·rw [if_pos h]
  go_enter Tryz.func153, Tryz.ntmps153
  go_wp2_with (with_reducible refine stop_bx ?_)
  refine Stop.go ?_
  refine wpList_box_own HH.out [_, _] rfl ?_
  intro g w1_ H9_
  replace HH := Lib.hid H9_
  clear H9_
  (try clear cc1_)
  have cc1_ := HH.out.cells
  go_wp2_with fail
  go_ret
  exact ⟨rfl, HH.out.tail⟩
 ·rw [if_neg h]
  go_enter Tryz.func153, Tryz.ntmps153
  go_wp2_with (with_reducible refine stop_bx ?_)
  refine Stop.go ?_
  refine wpList_box_own HH.out [_, _] rfl ?_
  intro g w2_ H9_
  replace HH := Lib.hid H9_
  clear H9_
  (try clear cc1_)
  have cc1_ := HH.out.cells
  go_wp2_with fail
  go_ret
  exact ⟨rfl, HH.out.tail⟩
set_option maxRecDepth 100000 in
set_option maxHeartbeats 3200000 in
theorem bsearch_c (l : List Rg) (hl : apart l) (A : Option Addr) (len cap : Nat) (hA : ∀ wx, Own ε wx R → itAt encRg 2 wx A len l) (hm : len ≤ 1000000) (n : Int) (H : Own ε w R) :
  Calls Tryz.prog 152 #[.slice A len cap, .int .u64 n, .func (.func 153) #[] #[]] w fun e w' => ∃ i, ∃ _ : Found l n i, e = .returned (.tuple #[.int .i64 (i : Nat), .bool false]) ∧ Own ε w' R := by
 have HH := Lib.hid H; clear H
 have hlen : l.length = len := (hA w HH.out).1
 replace hA := Lib.hid hA
 replace hl := Lib.hid hl
 replace hlen := Lib.hid hlen
 go_enter Tryz.func152, Tryz.ntmps152
 go_wp2_with fail
 go_loopw [9, 10] (fun vi vj wr => ∃ i j : Nat, i ≤ j ∧ j ≤ len ∧ vi = .int .i64 i ∧ vj = .int .i64 j ∧ (∀ r ∈ l.take i, r.2 < n) ∧ (∀ r ∈ l.drop j, n ≤ r.2) ∧ Own ε wr R) (fun vi vj _ => (intOf vj).toNat - (intOf vi).toNat)
 case atStart => exact ⟨0, len, Nat.zero_le _, Nat.le_refl _, rfl, rfl, by simp, by rw [List.drop_of_length_le (by rw [hlen.out]; exact Nat.le_refl _)]; simp, HH.out⟩
 case round =>
  clear HH
  obtain ⟨i, j, hij, hj, rfl, rfl, hlo, hhi, HR⟩ := hrel
  have HH := Lib.hid HR
  clear HR
  by_cases hlt : i < j
  ·obtain ⟨h, hh⟩ : ∃ h : Nat, (i + j) / 2 = h := ⟨_, rfl⟩
   have h1 : i ≤ h := by omega
   have h2 : h < j := by omega
   have w1 : IntKind.i64.wrap ((i : Int) + (j : Int)) = (i : Int) + (j : Int) := by rw [IntKind.wrap_i64]; omega
   have w2 : IntKind.u64.wrap ((i : Int) + (j : Int)) = (i : Int) + (j : Int) := by rw [IntKind.wrap_u64]; omega
   have he : ((i : Int) + (j : Int)) / 2 = (h : Int) := by omega
   have w3 : IntKind.i64.wrap ((h : Int) + 1) = ((h + 1 : Nat) : Int) := by rw [IntKind.wrap_i64]; omega
   obtain ⟨g, off, x, rfl, hx, hcell⟩ := (hA.out _ HH.out).get (show h < len by omega)
   have o0 := hcell 0 _ rfl
   have o1 := hcell 1 _ rfl
   simp only [Nat.add_zero] at o0
   replace hcell := Lib.hid hcell
   replace hlo := Lib.hid hlo
   replace hhi := Lib.hid hhi
   replace hx := Lib.hid hx
   by_cases hn : x.2 < n
   ·have e1 : (if x.2 < n then (-1 : Int) else 1) = -1 := if_pos hn
    go_wp2_with fail
    refine (find1_c ε _ _ x n HH.out).mono ?_
    rw [e1]
    rintro e w3_ ⟨rfl, H9_⟩
    replace HH := Lib.hid H9_
    clear H9_
    clear o0 o1
    go_wp2_with fail
    go_roundw
    case rel => exact ⟨h + 1, j, by omega, hj, by go_num, rfl, Found.left hl.out hx.out hn, hhi.out, HH.out⟩
    case measure => simp [intOf]; omega
   ·have e1 : (if x.2 < n then (-1 : Int) else 1) = 1 := if_neg hn
    go_wp2_with fail
    refine (find1_c ε _ _ x n HH.out).mono ?_
    rw [e1]
    rintro e w4_ ⟨rfl, H9_⟩
    replace HH := Lib.hid H9_
    clear H9_
    clear o0 o1
    go_wp2_with fail
    go_roundw
    case rel => exact ⟨i, h, h1, by omega, rfl, by go_num, hlo.out, Found.right hl.out hx.out (by omega), HH.out⟩
    case measure => simp [intOf]; omega
  ·obtain rfl : j = i := by omega
   have hf : Found l n j := ⟨by rw [hlen.out]; exact hj, hlo, hhi⟩
   by_cases hjl : j < len
   ·obtain ⟨g, off, x, rfl, hx, hcell⟩ := (hA.out _ HH.out).get hjl
    have o0 := hcell 0 _ rfl
    have o1 := hcell 1 _ rfl
    simp only [Nat.add_zero] at o0
    have hn : ¬ x.2 < n := by
     have := hf.hi x (List.mem_of_getElem? (by rw [List.getElem?_drop]; exact hx : (l.drop j)[0]? = some x))
     omega
    have e1 : (if x.2 < n then (-1 : Int) else 1) = 1 := if_neg hn
    clear hlo hhi hx hcell hn
    go_wp2_with fail
    refine (find1_c ε _ _ x n HH.out).mono ?_
    rw [e1]
    rintro e w5_ ⟨rfl, H9_⟩
    replace HH := Lib.hid H9_
    clear H9_
    go_wp2_with fail
    go_ret2
    exact ⟨j, hf, rfl, HH.out⟩
   ·clear hlo hhi
    go_wp2_with fail
    go_ret2
    exact ⟨j, hf, rfl, HH.out⟩
end
end Go.Proofs.YtmkcpnlbicijoaaGreat
namespace Go.Proofs.YtmkcpnlbicijoaaGreat
open Go.RowKit
theorem slc_rdS {α : Type} {enc : α → List Value} {sz : Nat} {T : TypeId} {A : Option Addr} {n cap : Nat} {l : List α} (he : ∀ x, (enc x).length = sz) (hz : 0 < sz) {ε wx : World} {R : List Asn} (H : Own ε wx (slc T sz (.slice A n cap) (encs enc l) :: R)) : itAt enc sz wx A n l := by
 obtain ⟨_, _, _, e, _, _, h⟩ := H.slc_it he hz
 cases e
 exact h
theorem encsRg_one (l : List Rg) : ∀ u ∈ encs encRg l, u.oneCell' = true := encs_one (fun x u hu => by
 rcases List.mem_cons.1 hu with rfl | hu
 ·rfl
 ·rw [List.mem_singleton.1 hu]; rfl) l
theorem Found.at {l : List Rg} (hl : apart l) {n : Int} {i : Nat} (hf : Found l n i) {r : Rg} (hr : l[i]? = some r) : n ≤ r.2 ∧ (hasR l n ↔ r.1 ≤ n) := by
 obtain ⟨hi, rfl⟩ := List.getElem?_eq_some_iff.1 hr
 have h2 : n ≤ l[i].2 := hf.hi _ (List.mem_of_getElem? (by rw [List.getElem?_drop]; exact List.getElem?_eq_getElem hi : (l.drop i)[0]? = some l[i]))
 refine ⟨h2, ⟨fun ⟨r, hm, h3, h4⟩ => ?_, fun h => ⟨l[i], List.getElem_mem hi, h, h2⟩⟩⟩
 obtain ⟨j, hj, rfl⟩ := List.getElem_of_mem hm
 rcases Nat.lt_trichotomy j i with q | q | q
 ·have := hf.lo l[j] (List.mem_iff_getElem.2 ⟨j, by rw [List.length_take]; omega, by rw [List.getElem_take]⟩)
  omega
 ·subst q; exact h3
 ·have a := List.pairwise_iff_getElem.1 hl.2 i j hi hj q
  have b := hl.1 _ (List.getElem_mem hi)
  omega
theorem Found.end {l : List Rg} {n : Int} (hf : Found l n l.length) : ¬ hasR l n := by
 rintro ⟨r, hm, _, h4⟩
 have := hf.lo r (by rw [List.take_length]; exact hm)
 omega
def gapL (l : List Rg) (n : Int) : Int := match l.find? (fun r => decide (r.1 ≤ n ∧ n ≤ r.2)) with
 | some r => r.2 + 1
 | none => n
theorem gapL_none {l : List Rg} {n : Int} (h : ¬ hasR l n) : gapL l n = n := by
 unfold gapL
 rw [List.find?_eq_none.2 (fun r hr => by simp only [decide_eq_true_eq]; exact fun q => h ⟨r, hr, q⟩)]
theorem gapL_some {l : List Rg} (hl : apart l) {n : Int} {r : Rg} (hr : r ∈ l) (h : r.1 ≤ n ∧ n ≤ r.2) : gapL l n = r.2 + 1 := by
 unfold gapL
 cases hf : l.find? (fun r => decide (r.1 ≤ n ∧ n ≤ r.2)) with
 | none => exact absurd h (by have := List.find?_eq_none.1 hf r hr; simpa using this)
 | some s =>
  have hs := List.find?_some hf
  have hm := List.mem_of_find?_eq_some hf
  simp only [decide_eq_true_eq] at hs
  obtain ⟨i, hi, rfl⟩ := List.getElem_of_mem hr
  obtain ⟨j, hj, rfl⟩ := List.getElem_of_mem hm
  rcases Nat.lt_trichotomy i j with q | q | q
  ·have a := List.pairwise_iff_getElem.1 hl.2 i j hi hj q
   omega
  ·subst q; rfl
  ·have a := List.pairwise_iff_getElem.1 hl.2 j i hj hi q
   omega
def okRg (l : List Rg) : Prop := ∀ r ∈ l, 0 ≤ r.1 ∧ r.2 ≤ 18446744073709551614
section
variable (ε w : World) (R : List Asn) (b : Nat)
theorem seqNew_c (H : Own ε w R) : Calls Tryz.prog 47 #[] w fun e w' => ∃ b, e = .returned (.pointer (some ⟨b, 0, none⟩)) ∧ Own ε w' (sqs b [] :: R) := by
 have HH := Lib.hid H; clear H
 go_enter Tryz.func47, Tryz.ntmps47
 go_wp2_with (with_reducible refine stop_bx ?_)
 refine Stop.go ?_
 refine wpList_box_own HH.out [_] rfl ?_
 intro sb w1_ H9_
 replace HH := Lib.hid H9_
 clear H9_
 go_wp2_with fail
 go_ret
 exact ⟨sb, rfl, Own.sqs_mk ε _ R sb (HH.out.slc_none).r2⟩
theorem seqFind_c (l : List Rg) (hl : apart l) (hm : l.length ≤ 1000000) (n : Int) (H : Own ε w (sqs b l :: R)) :
  Calls Tryz.prog 128 #[.pointer (some ⟨b, 0, none⟩), .int .u64 n] w fun e w' => ∃ i, ∃ _ : Found l n i, e = .returned (.int .i64 (i : Nat)) ∧ Own ε w' (sqs b l :: R) := by
 obtain ⟨v, H⟩ := H.sqs_open
 have HH := Lib.hid H; clear H
 obtain ⟨A, len, cap, rfl, _, _, hit⟩ := HH.out.r2.slc_it encRg_len (by decide)
 have hm2 : len ≤ 1000000 := by rw [← hit.1]; exact hm
 clear hit hm
 replace hl := Lib.hid hl
 replace hm2 := Lib.hid hm2
 go_enter Tryz.func128, Tryz.ntmps128
 (try clear cc1_)
 have cc1_ := HH.out.cells
 go_wp2_with fail
 refine (bsearch_c ε _ _ l hl.out A len cap (fun wx Hx => slc_rdS encRg_len (by decide) Hx.r2) hm2.out n HH.out).mono ?_
 rintro e w2_ ⟨i, hf, rfl, H9_⟩
 replace HH := Lib.hid H9_
 clear H9_
 go_wp2_with fail
 go_ret
 exact ⟨i, hf, rfl, Own.sqs_mk ε _ R b HH.out⟩
end
end Go.Proofs.YtmkcpnlbicijoaaGreat
namespace Go.Proofs.YtmkcpnlbicijoaaGreat
open Go.RowKit
section
variable (ε w : World) (R : List Asn)
end
end Go.Proofs.YtmkcpnlbicijoaaGreat
namespace Go.Proofs.YtmkcpnlbicijoaaGreat
open Go.RowKit
theorem encsRg_x (x : Rg) : encs encRg [x] = [.int .u64 x.1, .int .u64 x.2] := rfl
section
variable (ε w : World) (R : List Asn)
theorem src_x {xb : Nat} {x : Rg} (H : Own ε w (pts xb (.cells #[.int .u64 x.1, .int .u64 x.2] 55 (0, 0)) :: R)) : srcAt w (some ⟨xb, 0, none⟩) 1 2 (encs encRg [x]) := by
 refine ⟨rfl, .inr ⟨xb, 0, rfl, fun j u hj => ?_⟩⟩
 rw [encsRg_x] at hj
 rw [Nat.zero_add, H.cells.1 j]
 simpa using hj
theorem overlaps_no {xb g la ca lb cb off : Nat} {cx cur : Array Value} (Hx : Own ε w (pts xb (.cells cx 55 (0, 0)) :: pts g (.cells cur 55 (0, 0)) :: R)) (hc : cur.size ≠ 0) :
  (callFunc 155 #[.slice (some ⟨xb, 0, none⟩) la ca, .slice (some ⟨g, off, none⟩) lb cb]).run Tryz.prog w = .ok (.value (.bool false)) w := by
 have hs1 : w.shape? xb = some (55, cx.size) := by unfold World.shape?; rw [Hx.blk]
 have hs2 : w.shape? g = some (55, cur.size) := by unfold World.shape?; rw [Hx.r2.blk]
 rw [run_callFunc_extern Tryz.func155 (by kernel_rfl) (by kernel_rfl) (by kernel_rfl) (e := Extern.SlicesOverlaps.overlaps #[35, 35] #[4]) (by kernel_rfl),
  Lib.run_overlaps_apart w 35 4 55 Tryz.underlying35 2 Tryz.sizeOf55 ⟨xb, 0, none⟩ ⟨g, off, none⟩ la ca lb cb Hx.ne 55 55 cx.size cur.size hs1 hs2 hc (Hx.cells.2 0) (Hx.cells.2 cx.size)]
 rfl
set_option maxRecDepth 100000 in
set_option maxHeartbeats 6400000 in
theorem seqInsert_c (v : Value) (l : List Rg) (i : Nat) (hi : i ≤ l.length) (hm : l.length ≤ 1000000) (x : Rg) (xb : Nat) (H : Own ε w (slc 55 2 v (encs encRg l) :: pts xb (.cells #[.int .u64 x.1, .int .u64 x.2] 55 (0, 0)) :: R)) :
  Calls Tryz.prog 154 #[v, .int .i64 (i : Int), .slice (some ⟨xb, 0, none⟩) 1 1] w fun e w' => ∃ v', e = .returned v' ∧ Own ε w' (slc 55 2 v' (encs encRg (l.take i ++ x :: l.drop i)) :: R) := by
 have HH := Lib.hid H; clear H
 have hsplit : encs encRg (l.take i ++ x :: l.drop i) = encs encRg (l.take i) ++ encs encRg [x] ++ encs encRg (l.drop i) := by
  rw [show l.take i ++ x :: l.drop i = l.take i ++ [x] ++ l.drop i by simp, encs_append, encs_append]
 rcases HH.out.slc_open with ⟨rfl, hx, _⟩ | ⟨g, n, cap, cur, rfl, hnc, hcm, hcs, hxl, hxt, H2⟩
 ·have hl0 : l.length = 0 := by have := encs_len encRg_len l; rw [hx] at this; simp at this; omega
  obtain rfl : l = [] := List.eq_nil_of_length_eq_zero hl0
  obtain rfl : i = 0 := by simpa using hi
  go_enter Tryz.func154, Tryz.ntmps154
  go_wp2_with (with_reducible refine stop_app ?_)
  refine Stop.go ?_
  refine wpList_append_slc rfl _ _ 35 rfl 55 2 16 Tryz.underlying35 (by kernel_rfl) (by decide) rfl (HH.out) rfl ((show (encs encRg []).length = 0 * 2 from rfl)) ((src_x _ _ _ HH.out.r2)) ((encsRg_one _)) (by simp only [maxLen]; omega) (by omega) ?_
  intro v6 w1_ H9_
  obtain ⟨A_v6, n_v6, c_v6, rfl⟩ := H9_.slc_isv
  replace HH := Lib.hid H9_
  clear H9_
  go_wp2_with fail
  go_ret
  exact ⟨.slice A_v6 n_v6 c_v6, rfl, HH.out.r2.tail⟩
 ·rw [encs_len encRg_len] at hxl
  have hnl : l.length = n := by omega
  by_cases hin : i = n
  ·subst hin
   have he : encs encRg (l.take i ++ x :: l.drop i) = encs encRg l ++ encs encRg [x] := by
    rw [hsplit, List.take_of_length_le (by omega), List.drop_of_length_le (by omega)]
    simp [encs]
   rw [he]
   have hlen : (encs encRg l).length = i * 2 := by rw [encs_len encRg_len, hnl]
   replace hlen := Lib.hid hlen
   have hi6 : i ≤ 1000000 := by omega
   clear hsplit he hxt hcs hcm H2 hxl hm hi hnl
   by_cases hci : cap = i
   all_goals
    go_enter Tryz.func154, Tryz.ntmps154
    go_wp2_with (with_reducible refine stop_app ?_)
    refine Stop.go ?_
    refine wpList_append_slc rfl _ _ 35 rfl 55 2 16 Tryz.underlying35 (by kernel_rfl) (by decide) rfl (HH.out) rfl (hlen.out) ((src_x _ _ _ HH.out.r2)) ((encsRg_one _)) (by simp only [maxLen]; omega) (by omega) ?_
    intro v6 w2_ H9_
    obtain ⟨A_v6, n_v6, c_v6, rfl⟩ := H9_.slc_isv
    replace HH := Lib.hid H9_
    clear H9_
    go_wp2_with fail
    go_ret
    exact ⟨.slice A_v6 n_v6 c_v6, rfl, HH.out.r2.tail⟩
  ·have hin2 : i < n := by omega
   have htl : (encs encRg (l.take i)).length = i * 2 := by rw [encs_len encRg_len, List.length_take]; omega
   have hdl : (encs encRg (l.drop i)).length = (n - i) * 2 := by rw [encs_len encRg_len, List.length_drop]; omega
   have hn6 : n ≤ 1000000 := by omega
   have hti : cur.toList.take (i * 2) = encs encRg (l.take i) := by
    rw [← encs_take encRg_len, ← hxt, List.take_take]
    congr 1
    omega
   have hfin : (encs encRg (l.take i ++ x :: l.drop i)).length = (n + 1) * 2 := by rw [hsplit, List.length_append, List.length_append, htl, hdl, encsRg_x]; simp only [List.length_cons, List.length_nil]; omega
   clear HH
   have HH := Lib.hid H2
   clear H2 hm hi hxl
   have hci : ¬ cap = i := by omega
   by_cases hroom : n + 1 ≤ cap
   ·have hc3 : ¬ cap = i + 1 := by omega
    have hw1 : IntKind.i64.wrap ((n : Int) + 1) = (n : Int) + 1 := by rw [IntKind.wrap_i64]; omega
    have hw3 : IntKind.i64.wrap ((i : Int) + 1) = (i : Int) + 1 := by rw [IntKind.wrap_i64]; omega
    have q1 : (0 : Int) ≤ (i : Int) + 1 := by omega
    have q2 : i ≤ n := by omega
    have q3 : (i : Int) ≤ (n : Int) + 1 := by omega
    have hov : (callFunc 155 #[.slice (some ⟨xb, 0, none⟩) 1 1, .slice (some ⟨g, (i + 1) * 2, none⟩) (n - i) (cap - (i + 1))]).run Tryz.prog w = .ok (.value (.bool false)) w := overlaps_no ε w _ HH.out.r2 (by rw [hcs]; omega)
    replace hxt := Lib.hid hxt
    replace hcs := Lib.hid hcs
    replace hcm := Lib.hid hcm
    replace htl := Lib.hid htl
    replace hdl := Lib.hid hdl
    replace hti := Lib.hid hti
    replace hsplit := Lib.hid hsplit
    replace hfin := Lib.hid hfin
    replace hnl := Lib.hid hnl
    go_enter Tryz.func154, Tryz.ntmps154
    go_wp2_with fail
    clear hov
    go_wp2_with fail
    refine wp_region_reg (some 8) HH.out (by kernel_rfl) ?_
    intro wm H9_
    replace HH := Lib.hid H9_
    clear H9_
    refine reg_s 0 HH.out ?_
    refine reg_s 1 HH.out ?_
    refine reg_s 2 HH.out ?_
    refine reg_s 3 HH.out ?_
    refine reg_s 4 HH.out ?_
    refine reg_s 5 HH.out ?_
    refine reg_s 6 HH.out ?_
    refine reg_s 7 HH.out ?_
    refine reg_l none (i := 8) rfl (by kernel_rfl) (fun wn hk K hK => ?_)
    replace HH := Lib.hid (hk _ _ HH.out)
    clear hk
    have hx := HH.out
    clear hx
    refine want rfl (wp_copy_slc _ _ _ _ rfl 55 2 16 Tryz.underlying35 (by kernel_rfl) ((i + 1) * 2) (encs encRg (l.drop i)) (n - i) rfl rfl (Nat.min_eq_right (by omega)) HH.out (.inr rfl) (by have := srcAt_tail HH.out (Nat.le_of_lt hin2) hnc hcs.out hxt.out; rw [if_neg hci, encs_drop encRg_len] at this; exact this) (by rw [hcs.out, hdl.out]; omega) (encsRg_one _) ?_)
    intro wm H9_
    replace HH := Lib.hid (show Own _ _ (pts g (.cells (cur.toList.take ((i + 1) * 2) ++ encs encRg (l.drop i) ++ cur.toList.drop ((i + 1) * 2 + (encs encRg (l.drop i)).length)).toArray 55 (0, 0)) :: pts xb (.cells #[.int .u64 x.1, .int .u64 x.2] 55 (0, 0)) :: R) from H9_)
    clear H9_
    refine hK _ _ _ HH.out (.inl (by kernel_rfl)) ?_
    clear hK K
    refine mixk_done (by kernel_rfl) (fun w3_ hk => ?_) _
    replace HH := Lib.hid (hk _ _ HH.out)
    clear hk
    obtain ⟨c1, hc1⟩ : ∃ c1, c1 = cur.toList.take ((i + 1) * 2) ++ encs encRg (l.drop i) ++ cur.toList.drop ((i + 1) * 2 + (encs encRg (l.drop i)).length) := ⟨_, rfl⟩
    have hl1 : (cur.toList.take ((i + 1) * 2)).length = (i + 1) * 2 := by rw [List.length_take, Array.length_toList, hcs.out]; omega
    have c1l : c1.length = cap * 2 := by
     have h2 := hdl.out
     rw [hc1, List.length_append, List.length_append, hl1, h2, List.length_drop, Array.length_toList, hcs.out]
     omega
    have c1t : c1.take (i * 2) = encs encRg (l.take i) := by
     rw [hc1, List.append_assoc, List.take_append_of_le_length (by rw [hl1]; omega), List.take_take, ← hti.out]
     congr 1
     omega
    have c1d : c1.drop (i * 2 + 2) = encs encRg (l.drop i) ++ cur.toList.drop ((i + 1) * 2 + (encs encRg (l.drop i)).length) := by
     rw [hc1, List.append_assoc]
     exact List.drop_left' (by rw [hl1]; omega)
    rw [← hc1] at HH
    clear hc1 hl1
    replace c1l := Lib.hid c1l
    replace c1t := Lib.hid c1t
    replace c1d := Lib.hid c1d
    go_wp2_with (with_reducible refine stop_copy ?_)
    refine Stop.go ?_
    refine wpList_copy_slc rfl _ _ _ _ rfl 55 2 16 Tryz.underlying35 (by kernel_rfl) (i * 2) (encs encRg [x]) 1 rfl rfl (Nat.min_eq_left (by omega)) HH.out (.inr rfl) (src_x _ _ _ HH.out.r2) (by rw [List.size_toArray, c1l.out]; show _ + 2 ≤ _; omega) (encsRg_one _) ?_
    intro w3 H3
    clear HH
    have HH := Lib.hid H3
    clear H3
    go_wp2_with fail
    go_ret
    refine ⟨.slice (some ⟨g, 0, none⟩) (n + 1) cap, rfl, HH.out.r2.tail.slc_mk hroom hcm.out ?_ hfin.out ?_⟩
    ·have h1 := c1l.out
     have hx2 : (encs encRg [x]).length = 2 := rfl
     rw [List.size_toArray, List.length_append, List.length_append, List.length_take, List.length_drop, hx2]
     show min _ c1.length + 2 + (c1.length - _) = _
     omega
    ·show List.take _ (c1.take (i * 2) ++ encs encRg [x] ++ c1.drop (i * 2 + 2)) = _
     rw [c1t.out, c1d.out, hsplit.out, ← List.append_assoc]
     exact List.take_left' (by have h3 := hfin.out; rw [hsplit.out] at h3; exact h3)
   ·obtain rfl : cap = n := by omega
    have hw1 : IntKind.i64.wrap ((cap : Int) + 1) = (cap : Int) + 1 := by rw [IntKind.wrap_i64]; omega
    have hw2 : IntKind.i64.wrap ((cap : Int) + 1 - (i : Int)) = (cap : Int) + 1 - (i : Int) := by rw [IntKind.wrap_i64]; omega
    have hw3 : IntKind.i64.wrap ((i : Int) + 1) = (i : Int) + 1 := by rw [IntKind.wrap_i64]; omega
    replace hxt := Lib.hid hxt
    replace hcs := Lib.hid hcs
    replace hcm := Lib.hid hcm
    replace htl := Lib.hid htl
    replace hdl := Lib.hid hdl
    replace hti := Lib.hid hti
    replace hsplit := Lib.hid hsplit
    replace hfin := Lib.hid hfin
    replace hnl := Lib.hid hnl
    go_enter Tryz.func154, Tryz.ntmps154
    go_wp2_with (with_reducible refine stop_app ?_)
    refine Stop.go ?_
    refine wpList_append_made rfl _ _ _ rfl 55 2 16 Tryz.underlying35 Tryz.underlying3 (by kernel_rfl) (by decide) (m := cap + 1 - i) rfl rfl (by omega) HH.out hcs.out (by omega) (by omega) (by simp only [maxLen]; omega) (by omega) ?_
    intro g2 cap2 cur2 w2 k1 k2 k3 k4 H2
    clear HH
    have HH := Lib.hid H2
    clear H2
    have e1 : i + (cap + 1 - i) = cap + 1 := by omega
    rw [e1] at k1 ⊢
    have hc2 : ¬ cap2 = i := by omega
    have hc3 : ¬ cap2 = i + 1 := by omega
    have p4 : (cur2.toList.take (i * 2)).length = i * 2 := by rw [k4, hti.out, htl.out]
    have e2 : cur2.toList.take (i * 2) = encs encRg (l.take i) := by rw [k4, hti.out]
    replace k2 := Lib.hid k2
    replace k3 := Lib.hid k3
    replace k4 := Lib.hid k4
    go_wp2_with (with_reducible refine stop_copy ?_)
    refine Stop.go ?_
    refine wpList_copy_slc rfl _ _ _ _ rfl 55 2 16 Tryz.underlying35 (by kernel_rfl) (i * 2) (encs encRg [x]) 1 rfl rfl (Nat.min_eq_left (by omega)) HH.out (.inr rfl) (src_x _ _ _ HH.out.r3) (by rw [k3.out]; show _ + 2 ≤ _; omega) (encsRg_one _) ?_
    intro w3 H3
    clear HH
    rw [e2] at H3
    obtain ⟨c3, hc3e⟩ : ∃ c3, c3 = encs encRg (l.take i) ++ encs encRg [x] ++ cur2.toList.drop (i * 2 + (encs encRg [x]).length) := ⟨_, rfl⟩
    have c3l : c3.length = cap2 * 2 := by
     have hx2 : (encs encRg [x]).length = 2 := rfl
     rw [hc3e, List.length_append, List.length_append, htl.out, List.length_drop, hx2, Array.length_toList, k3.out]
     omega
    have c3t : c3.take ((i + 1) * 2) = encs encRg (l.take i) ++ encs encRg [x] := by
     rw [hc3e]
     exact List.take_left' (by rw [List.length_append, htl.out, encsRg_x]; simp only [List.length_cons, List.length_nil]; omega)
    rw [← hc3e] at H3
    clear hc3e e2 p4
    have HH := Lib.hid H3
    clear H3
    replace c3l := Lib.hid c3l
    replace c3t := Lib.hid c3t
    have q1 : (0 : Int) ≤ (i : Int) + 1 := by omega
    have q2 : i ≤ cap := by omega
    go_wp2_with fail
    go_wp2_with fail
    refine wp_region_reg (some 8) HH.out (by kernel_rfl) ?_
    intro wm H9_
    replace HH := Lib.hid H9_
    clear H9_
    refine reg_s 0 HH.out ?_
    refine reg_s 1 HH.out ?_
    refine reg_s 2 HH.out ?_
    refine reg_s 3 HH.out ?_
    refine reg_s 4 HH.out ?_
    refine reg_s 5 HH.out ?_
    refine reg_s 6 HH.out ?_
    refine reg_s 7 HH.out ?_
    refine reg_l none (i := 8) rfl (by kernel_rfl) (fun wn hk K hK => ?_)
    replace HH := Lib.hid (hk _ _ HH.out)
    clear hk
    have hx := HH.out
    clear hx
    refine want rfl (wp_copy_slc _ _ _ _ rfl 55 2 16 Tryz.underlying35 (by kernel_rfl) ((i + 1) * 2) (encs encRg (l.drop i)) (cap - i) rfl rfl (Nat.min_eq_left (by omega)) HH.out (.inr rfl) (by have := srcAt_tail HH.out.r2 (Nat.le_of_lt hin2) hnc hcs.out hxt.out; rw [if_neg hci, encs_drop encRg_len] at this; exact this) (by rw [List.size_toArray, c3l.out, hdl.out]; omega) (encsRg_one _) ?_)
    intro wm H9_
    replace HH := Lib.hid (show Own _ _ (pts g2 (.cells (c3.toArray.toList.take ((i + 1) * 2) ++ encs encRg (l.drop i) ++ c3.toArray.toList.drop ((i + 1) * 2 + (encs encRg (l.drop i)).length)).toArray 55 (0, 0)) :: pts g (.cells cur 55 (0, 0)) :: pts xb (.cells #[.int .u64 x.1, .int .u64 x.2] 55 (0, 0)) :: R) from H9_)
    clear H9_
    refine hK _ _ _ HH.out (.inl (by kernel_rfl)) ?_
    clear hK K
    refine mixk_done (by kernel_rfl) (fun w4_ hk => ?_) _
    replace HH := Lib.hid (hk _ _ HH.out)
    clear hk
    go_wp2_with fail
    go_ret
    refine ⟨.slice (some ⟨g2, 0, none⟩) (cap + 1) cap2, rfl, HH.out.r2.tail.r2.tail.slc_mk k1 k2.out ?_ hfin.out ?_⟩
    ·have h1 := c3l.out
     have h2 := hdl.out
     rw [List.size_toArray, List.length_append, List.length_append, List.length_take, List.length_drop, h2]
     omega
    ·have h2 := hdl.out
     show List.take _ (c3.take ((i + 1) * 2) ++ encs encRg (l.drop i) ++ _) = _
     rw [c3t.out, hsplit.out]
     exact List.take_left' (by have h3 := hfin.out; rw [hsplit.out] at h3; exact h3)
end
end Go.Proofs.YtmkcpnlbicijoaaGreat
