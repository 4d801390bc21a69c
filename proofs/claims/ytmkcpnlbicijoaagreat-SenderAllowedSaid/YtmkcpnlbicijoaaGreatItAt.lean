/- Items of several cells, as they stand behind a slice. -/
import Derived.Test.YtmkcpnlbicijoaaGreatLed3
import Derived.Test.YtmkcpnlbicijoaaGreatLen
import Derived.Test.YtmkcpnlbicijoaaGreatMixK
import Derived.Test.YtmkcpnlbicijoaaGreatRange
namespace Go.Proofs.YtmkcpnlbicijoaaGreat
open Go.RowKit Go.Shelf
attribute [local go_sem] Oper.semAt_some
theorem take_next {α : Type} {l : List α} {i : Nat} {e : α} (h : l[i]? = some e) : l.take (i + 1) = l.take i ++ [e] := by
 rw [List.take_add_one, h]; rfl
theorem drop_next {α : Type} {l : List α} {i : Nat} {e : α} (h : l[i]? = some e) : l.drop i = e :: l.drop (i + 1) := by
 obtain ⟨hi, rfl⟩ := List.getElem?_eq_some_iff.1 h
 exact List.drop_eq_getElem_cons hi
theorem outs_next {l : List En} {i : Nat} {e : En} (h : l[i]? = some e) : outs (l.take (i + 1)) = outs (l.take i) ++ if e.o then [e.p] else [] := by
 rw [take_next h]
 unfold outs
 rw [List.filter_append, List.map_append]
 cases he : e.o <;> simp [he]
theorem outs_len (l : List En) : (outs l).length ≤ l.length := by
 unfold outs
 rw [List.length_map]
 exact List.length_filter_le _ _
def marks (is : Pk → Bool) (l : List En) (i : Nat) : List En := marked is (l.take i) ++ l.drop i
section
variable {is : Pk → Bool} {l : List En} {i : Nat} {e : En}
theorem marks_len : (marks is l i).length = l.length := by unfold marks marked; simp; omega
theorem marks_at (h : i < l.length) : (marks is l i)[i]? = l[i]? := by
 unfold marks marked
 rw [List.getElem?_append_right (by simp; omega)]
 simp
 congr 1
 omega
theorem marks_of (h : (marks is l i)[i]? = some e) : l[i]? = some e := by
 have h1 : i < l.length := by
  have := (List.getElem?_eq_some_iff.1 h).1
  rwa [marks_len] at this
 rwa [marks_at h1] at h
theorem marks_next (h : l[i]? = some e) : marks is l (i + 1) = (marks is l i).set i (e.mark is) := by
 have hi : i < l.length := (List.getElem?_eq_some_iff.1 h).1
 unfold marks
 rw [take_next h, drop_next h, List.set_append_right _ _ (by simp [marked]; omega)]
 have hz : i - (marked is (l.take i)).length = 0 := by simp [marked]; omega
 rw [hz, List.set_cons_zero]
 simp [marked]
theorem mark_same (h : (e.o && is e.p) = false) : e.mark is = e := by
 obtain ⟨b, p, o⟩ := e
 unfold En.mark
 cases o with
 | false => rfl
 | true => simp at h; simp [h]
theorem marks_same (h : l[i]? = some e) (hs : (e.o && is e.p) = false) : marks is l (i + 1) = marks is l i := by
 rw [marks_next h, mark_same hs]
 have h2 := h
 rw [← marks_at (is := is) (List.getElem?_eq_some_iff.1 h).1] at h2
 obtain ⟨hi, h3⟩ := List.getElem?_eq_some_iff.1 h2
 rw [← h3, List.set_getElem_self]
theorem taken_next (h : l[i]? = some e) : taken is (l.take (i + 1)) = taken is (l.take i) ++ if e.o && is e.p then [e.p] else [] := by
 rw [take_next h]
 unfold taken
 rw [List.filter_append, List.map_append]
 cases he : e.o && is e.p <;> simp [he]
theorem blks_marks : blks (marks is l i) = blks l := by
 unfold marks marked blks
 rw [List.map_append, List.map_map]
 have : ((fun x : En => x.b) ∘ En.mark is) = (fun x : En => x.b) := rfl
 rw [this, ← List.map_append, List.take_append_drop]
end
def outFr (o : Nat) (pre : List Pk) : Asn := exA fun v : Value => sep (pts o (.cells #[v] 33 (0, 0))) (slcP v pre)
theorem outFr_mk {ε w : World} {R : List Asn} {o : Nat} {v : Value} {l : List Pk} (H : Own ε w (slcP v l :: pts o (.cells #[v] 33 (0, 0)) :: R)) : Own ε w (outFr o l :: R) := Own.ex_mk v H.r2.join
section
variable (ε w : World) (R : List Asn) (b : Nat)
set_option maxRecDepth 100000 in
set_option maxHeartbeats 1600000 in
theorem ledOut_c (m : Nat) (s : Led) (hn : s.row.length ≤ 1000000) (H : Own ε w (led b s :: R)) :
  Calls Tryz.prog 67 #[.pointer (some ⟨b, 0, none⟩)] w fun e w' => ∃ v, e = .returned v ∧ Own ε w' (slcP v (outs s.row) :: led b s :: R) := by
 obtain ⟨rb, H⟩ := H.led_open
 have HH := Lib.hid H; clear H
 obtain ⟨row, hrow⟩ : ∃ row, row = s.row := ⟨_, rfl⟩
 rw [← hrow] at hn ⊢
 replace HH := Lib.hid (show Own ε w (ledN b rb s :: ringL rb (blks row) :: ents row :: R) by rw [hrow]; exact HH.out)
 replace hrow := Lib.hid hrow
 refine calls_of_wp_marks (m + 1) Tryz.func67 rfl ?_; simp only [Tryz.ntmps67, List.size_toArray, List.length_cons, List.length_nil, Nat.reduceAdd, Nat.reduceSub, Array.replicate_succ, Array.replicate_zero, List.push_toArray, List.append_toArray, List.nil_append, List.cons_append]
 go_wp2_with (with_reducible refine stop_al ?_)
 refine Stop.go ?_
 refine wpList_alloc_own HH.out [.slice none 0 0] (by kernel_rfl) ?_
 intro ob w1_ H9_
 replace HH := Lib.hid H9_
 clear H9_
 go_wp2_with fail
 refine (ledSeq_c ε _ _ b HH.out).mono ?_
 rintro e w2_ ⟨bb, rfl, H9_⟩
 replace HH := Lib.hid H9_
 clear H9_
 go_wp2_with (with_reducible refine stop_rf ?_)
 refine Stop.go ?_
 refine (wpIn_wide (n := m + 1)).1 ?_
 refine wpIn_rangeFunc_sep (gf := 140) (lb := #[.pointer (some ⟨bb, 0, none⟩)]) rfl (enters_of Tryz.func140 (by kernel_rfl) rfl) HH.out ?_
 intro fn l D W H3
 clear HH
 have HH := Lib.hid (H3.pn : Own ε W (pts ob _ :: capL bb b :: ledN b rb s :: ringL rb (blks row) :: ents row :: pts l _ :: pts D _ :: R))
 clear H3
 replace HH := Lib.hid (outFr_mk (l := []) (HH.out.slc_none))
 replace HH := Lib.hid (HH.out.pn : Own ε W (capL bb b :: ledN b rb s :: ringL rb (blks row) :: ents row :: outFr ob [] :: pts l _ :: pts D _ :: R))
 refine callsIn_wide.2 ((ledIter_c ε W _ m l bb b rb s (blks row) (fun _ => row) (fun i => outFr ob (outs (row.take i))) (by simpa using hn) (fun i hi => ?hB) (fun i e he ho => ?hN) ?hY HH.out).mono ?hE)
 case hB =>
  have hi2 : i < row.length := by simpa using hi
  exact ⟨row[i], List.getElem?_eq_getElem hi2, by simp [hi2]⟩
 case hN => exact ⟨rfl, by simp only [outs_next he, ho]; simp⟩
 case hE =>
  clear HH
  rintro e W2 ⟨hv, H4⟩
  simp only at H4
  rw [show (blks row).length = row.length from by simp, List.take_length] at H4
  obtain ⟨vo, H4⟩ := (H4.pn : Own ε W2 (outFr ob (outs row) :: ledN b rb s :: ringL rb (blks row) :: ents row :: pts l _ :: pts D _ :: R)).ex
  refine ⟨hv, .inl ⟨pts ob _ :: slcP vo (outs row) :: ledN b rb s :: ringL rb (blks row) :: ents row :: R, H4.split.pn, ?_⟩⟩
  clear H4
  intro W3 H5
  have HH := Lib.hid H5
  have hK := H5.blk
  clear H5
  (try clear cc1_); (try clear cc2_); (try clear cc3_)
  have cc2_ := HH.out.r2.cells
  go_wp2_with fail
  refine ⟨by simp, .inl ⟨_, _, rfl, run_takeDeferred hK, ?_⟩⟩
  refine ⟨_, results_tmp rfl _ _ _, vo, rfl, ?_⟩
  have H6 := (HH.out.putObj (.deferred none)).tail.tail
  have hr := hrow.out
  subst hr
  exact Own.l2 (Own.led_mk (Own.l4 H6).r4.l4)
 case hY =>
  clear HH
  intro i e W1 he ho H4
  obtain ⟨eb, ⟨pn, ps, p3, p4, p5, p6, p7⟩, o⟩ := e
  obtain rfl : o = true := ho
  have e1 := outs_next he
  simp only [if_true] at e1 H4
  replace e1 := Lib.hid e1
  obtain ⟨pre, hpre⟩ : ∃ pre, pre = outs (row.take i) := ⟨_, rfl⟩
  rw [← hpre] at e1 H4
  have hpl : pre.length ≤ 1000000 := by
   have := outs_len (row.take i)
   rw [← hpre] at this
   have h2 : (row.take i).length ≤ row.length := by simp; omega
   omega
  clear hpre
  replace he := Lib.hid he
  refine yieldAt_own (A := capL bb b :: ledN b rb s :: ringL rb (blks row) :: ents row :: outFr ob pre :: pts D (.deferred (some [])) :: R) ?hs H4.pn ?_
  case hs => rfl
  have HH := Lib.hid (H4.pn : Own ε W1 (outFr ob pre :: pts l _ :: pts D _ :: capL bb b :: ledN b rb s :: ringL rb (blks row) :: ents row :: R))
  clear H4
  gi_wp2
  refine ⟨outFr ob pre :: pts D _ :: capL bb b :: ledN b rb s :: ringL rb (blks row) :: ents row :: R, HH.out.pn, ?_⟩
  clear HH
  intro W2 H5
  obtain ⟨vo, H5⟩ := (H5.pn : Own ε W2 (outFr ob pre :: ents row :: pts l _ :: pts D _ :: capL bb b :: ledN b rb s :: ringL rb (blks row) :: R)).ex
  replace H5 := (H5.split.pn : Own ε W2 (ents row :: pts ob _ :: slcP vo pre :: pts l _ :: pts D _ :: capL bb b :: ledN b rb s :: ringL rb (blks row) :: R)).ents_at he.out
  have HH := Lib.hid H5
  clear H5
  (try clear cc1_); (try clear cc2_); (try clear cc3_)
  have cc1_ := HH.out.cells
  have cc3_ := HH.out.r3.cells
  gi_wp2
  refine wpIn_region_reg (some 6) HH.out (by kernel_rfl) (by kernel_rfl) (by first | exact (fun ⟨_, _, h⟩ => h) | (simp [LetsOut, Exit.inBlock, roundOut]; done) | simp [LetsOut, Exit.then, Exit.inBlock, roundOut]) ?_
  intro wm H9_
  replace HH := Lib.hid H9_
  clear H9_
  refine mixk_s 0 HH.out (fun _ hx => And.intro hx.cells hx.r3.cells) ?_
  refine reg_s 1 HH.out ?_
  refine reg_s 2 HH.out ?_
  refine reg_s 3 HH.out ?_
  refine mixk_s 4 HH.out (fun _ hx => And.intro hx.cells hx.r3.cells) ?_
  refine reg_l (some 6) (i := 5) rfl (by kernel_rfl) (fun wn hk K hK => ?_)
  replace HH := Lib.hid (hk _ _ HH.out)
  clear hk
  go_simp
  replace HH := Lib.hid (HH.out.alloc (.cells #[.int .u64 pn, .int .u64 ps, .int .u64 p3, .int .u64 p4, .int .u64 p5, .int .u64 p6, .bool p7] 41))
  generalize wn.alloc (.cells #[.int .u64 pn, .int .u64 ps, .int .u64 p3, .int .u64 p4, .int .u64 p5, .int .u64 p6, .bool p7] 41) = wm at *
  generalize wn.heap.size = sb at *
  refine hK _ _ _ HH.out (.inr ⟨rfl, fun _ h => h.tail⟩) ?_
  clear hK K
  refine reg_l (some 7) (i := 6) rfl (by kernel_rfl) (fun wn hk K hK => ?_)
  replace HH := Lib.hid (hk _ _ HH.out)
  clear hk
  refine want rfl (wp_append_slc _ _ 33 rfl 41 7 56 Tryz.underlying33 (by kernel_rfl) (by decide) rfl (HH.out.r5) rfl (flat_pks_len pre) ((show srcAt wn (some ⟨sb, 0, none⟩) 1 7 [.int .u64 pn, .int .u64 ps, .int .u64 p3, .int .u64 p4, .int .u64 p5, .int .u64 p6, .bool p7] from ⟨rfl, .inr ⟨sb, 0, rfl, fun j u hj => by rw [Nat.zero_add, HH.out.cells.1 j]; simpa using hj⟩⟩)) ((by repeat (first | (refine List.forall_mem_cons.2 ⟨(by first | with_reducible assumption | rfl), ?_⟩) | exact fun _ h => absurd h List.not_mem_nil))) (by simp only [maxLen]; omega) (by omega) ?_)
  intro v1 wm H9_
  obtain ⟨A_v1, n_v1, c_v1, rfl⟩ := H9_.slc_isv
  replace HH := Lib.hid H9_
  clear H9_
  refine hK _ _ _ HH.out (.inl (by kernel_rfl)) ?_
  clear hK K
  refine reg_l none (i := 7) rfl (by kernel_rfl) (fun wn hk K hK => ?_)
  replace HH := Lib.hid (hk _ _ HH.out)
  clear hk
  have hx := HH.out
  have x1_ := hx.r3.cells
  have x3_ := hx.r5.cells
  go_simp
  replace HH := Lib.hid (HH.out.r5.set 0 (.slice A_v1 n_v1 c_v1))
  simp only [List.setIfInBounds_toArray, List.set_cons_zero] at HH
  generalize wn.setCell ⟨ob, 0, none⟩ (.slice A_v1 n_v1 c_v1) = wm at *
  clear hx x1_ x3_
  refine hK _ _ _ HH.out (.inl (by kernel_rfl)) ?_
  clear hK K
  refine mixk_done (by kernel_rfl) (fun w3_ hk => ?_) _
  replace HH := Lib.hid (hk _ _ HH.out)
  clear hk
  gi_wp2
  have H6 := HH.out
  clear HH
  rw [show (pks pre).flatten ++ [.int .u64 pn, .int .u64 ps, .int .u64 p3, .int .u64 p4, .int .u64 p5, .int .u64 p6, .bool p7] = (pks (pre ++ [⟨pn, ps, p3, p4, p5, p6, p7⟩])).flatten from (flat_pks_snoc pre (⟨pn, ps, p3, p4, p5, p6, p7⟩ : Pk)).symm] at H6
  have H7 := outFr_mk (l := pre ++ [⟨pn, ps, p3, p4, p5, p6, p7⟩]) (H6.pn : Own ε _ (slc 41 7 _ (pks (pre ++ [⟨pn, ps, p3, p4, p5, p6, p7⟩])).flatten :: pts ob _ :: pts eb _ :: ents (row.eraseIdx i) :: pts l _ :: pts D _ :: capL bb b :: ledN b rb s :: ringL rb (blks row) :: R))
  clear H6
  have H8 := Own.ents_back he.out (Own.l3 H7)
  clear H7
  refine ⟨ents row :: outFr ob (pre ++ [⟨pn, ps, p3, p4, p5, p6, p7⟩]) :: pts D _ :: capL bb b :: ledN b rb s :: ringL rb (blks row) :: R, H8.pn, ?_⟩
  clear H8
  intro W6 H6
  refine ⟨rfl, ?_⟩
  rw [e1.out]
  exact H6.pn
end
end Go.Proofs.YtmkcpnlbicijoaaGreat
namespace Go.Proofs.YtmkcpnlbicijoaaGreat
abbrev Rg := Int × Int
def hasR (l : List Rg) (n : Int) : Prop := ∃ r ∈ l, r.1 ≤ n ∧ n ≤ r.2
def apart (l : List Rg) : Prop := (∀ r ∈ l, r.1 ≤ r.2) ∧ l.Pairwise fun a b => a.2 + 1 < b.1
def putL (x : Rg) : List Rg → List Rg
 | [] => [x]
 | y :: l => if y.2 + 1 < x.1 then y :: putL x l else if x.2 + 1 < y.1 then x :: y :: l else putL (min x.1 y.1, max x.2 y.2) l
theorem hasR_cons (x : Rg) (l : List Rg) (n : Int) : hasR (x :: l) n ↔ (x.1 ≤ n ∧ n ≤ x.2) ∨ hasR l n := by
 constructor
 ·rintro ⟨r, hr, h⟩
  rcases List.mem_cons.1 hr with rfl | hr
  ·exact .inl h
  ·exact .inr ⟨r, hr, h⟩
 ·rintro (h | ⟨r, hr, h⟩)
  ·exact ⟨x, List.mem_cons_self .., h⟩
  ·exact ⟨r, List.mem_cons_of_mem _ hr, h⟩
theorem apart_nil : apart [] := ⟨by simp, List.Pairwise.nil⟩
theorem apart_cons {x : Rg} {l : List Rg} : apart (x :: l) ↔ x.1 ≤ x.2 ∧ (∀ r ∈ l, x.2 + 1 < r.1) ∧ apart l := by
 unfold apart
 rw [List.pairwise_cons]
 constructor
 ·rintro ⟨h1, h2, h3⟩
  exact ⟨h1 x (List.mem_cons_self ..), h2, fun r hr => h1 r (List.mem_cons_of_mem _ hr), h3⟩
 ·rintro ⟨h1, h2, h3, h4⟩
  refine ⟨fun r hr => ?_, h2, h4⟩
  rcases List.mem_cons.1 hr with rfl | hr
  ·exact h1
  ·exact h3 r hr
theorem hasR_putL (n : Int) : ∀ (l : List Rg) (x : Rg), x.1 ≤ x.2 → apart l → (hasR (putL x l) n ↔ (x.1 ≤ n ∧ n ≤ x.2) ∨ hasR l n)
 | [], x, _, _ => by unfold putL; rw [hasR_cons]
 | y :: l, x, hx, hl => by
  obtain ⟨h1, h2, h3⟩ := apart_cons.1 hl
  unfold putL
  split
  ·rw [hasR_cons, hasR_cons, hasR_putL n l x hx h3]
   constructor
   ·rintro (h | h | h)
    ·exact .inr (.inl h)
    ·exact .inl h
    ·exact .inr (.inr h)
   ·rintro (h | h | h)
    ·exact .inr (.inl h)
    ·exact .inl h
    ·exact .inr (.inr h)
  ·split
   ·rw [hasR_cons]
   ·rw [hasR_putL n l _ (show min x.1 y.1 ≤ max x.2 y.2 by omega) h3, hasR_cons]
    show (min x.1 y.1 ≤ n ∧ n ≤ max x.2 y.2) ∨ _ ↔ _
    constructor
    ·rintro (h | h)
     ·rcases Int.le_total x.1 n with q | q
      ·rcases Int.le_total n x.2 with q' | q'
       ·exact .inl ⟨q, q'⟩
       ·by_cases q3 : n = x.2
        ·exact .inl ⟨q, by omega⟩
        ·exact .inr (.inl ⟨by omega, by omega⟩)
      ·by_cases q3 : n = x.1
       ·exact .inl ⟨by omega, by omega⟩
       ·exact .inr (.inl ⟨by omega, by omega⟩)
     ·exact .inr (.inr h)
    ·rintro (h | h | h)
     ·exact .inl ⟨by omega, by omega⟩
     ·exact .inl ⟨by omega, by omega⟩
     ·exact .inr h
theorem putL_above : ∀ (l : List Rg) (x : Rg) (b : Int), b < x.1 → (∀ r ∈ l, b < r.1) → ∀ r ∈ putL x l, b < r.1
 | [], x, b, hx, _, r, hr => by
  unfold putL at hr
  rw [List.mem_singleton.1 hr]; exact hx
 | y :: l, x, b, hx, hl, r, hr => by
  have hy := hl y (List.mem_cons_self ..)
  have hl' : ∀ r ∈ l, b < r.1 := fun r hr => hl r (List.mem_cons_of_mem _ hr)
  unfold putL at hr
  split at hr
  ·rcases List.mem_cons.1 hr with rfl | hr
   ·exact hy
   ·exact putL_above l x b hx hl' r hr
  ·split at hr
   ·rcases List.mem_cons.1 hr with rfl | hr
    ·exact hx
    ·exact hl r hr
   ·exact putL_above l _ b (show b < min x.1 y.1 by omega) hl' r hr
theorem apart_putL : ∀ (l : List Rg) (x : Rg), x.1 ≤ x.2 → apart l → apart (putL x l)
 | [], x, hx, _ => apart_cons.2 ⟨hx, by simp, apart_nil⟩
 | y :: l, x, hx, hl => by
  obtain ⟨h1, h2, h3⟩ := apart_cons.1 hl
  unfold putL
  split
  ·exact apart_cons.2 ⟨h1, putL_above l x _ (by assumption) h2, apart_putL l x hx h3⟩
  ·split
   ·rename_i hxy
    refine apart_cons.2 ⟨hx, fun r hr => ?_, hl⟩
    rcases List.mem_cons.1 hr with rfl | hr
    ·exact hxy
    ·have := h2 r hr; omega
   ·exact apart_putL l _ (show min x.1 y.1 ≤ max x.2 y.2 by omega) h3
def putsL (l : List Rg) (xs : List Rg) : List Rg := xs.foldl (fun l x => putL x l) l
end Go.Proofs.YtmkcpnlbicijoaaGreat
namespace Go.Proofs.YtmkcpnlbicijoaaGreat
structure Found (l : List Rg) (n : Int) (i : Nat) : Prop where
 le : i ≤ l.length
 lo : ∀ r ∈ l.take i, r.2 < n
 hi : ∀ r ∈ l.drop i, n ≤ r.2
theorem apart_rise {l : List Rg} (hl : apart l) {h : Nat} {y : Rg} (hy : l[h]? = some y) : (∀ r ∈ l.take (h + 1), r.2 ≤ y.2) ∧ ∀ r ∈ l.drop h, y.2 ≤ r.2 := by
 obtain ⟨hh, rfl⟩ := List.getElem?_eq_some_iff.1 hy
 obtain ⟨h1, h2⟩ := hl
 constructor
 ·intro r hr
  obtain ⟨j, hj, rfl⟩ := List.getElem_of_mem hr
  rw [List.getElem_take]
  rw [List.length_take] at hj
  rcases Nat.lt_or_ge j h with q | q
  ·have a := List.pairwise_iff_getElem.1 h2 j h (by omega) hh q
   have b := h1 _ (List.getElem_mem hh)
   omega
  ·have e : j = h := by omega
   subst e
   exact Int.le_refl _
 ·intro r hr
  obtain ⟨j, hj, rfl⟩ := List.getElem_of_mem hr
  rw [List.getElem_drop]
  rw [List.length_drop] at hj
  rcases Nat.eq_zero_or_pos j with q | q
  ·subst q
   exact Int.le_refl _
  ·have a := List.pairwise_iff_getElem.1 h2 h (h + j) hh (by omega) (by omega)
   have b := h1 _ (List.getElem_mem (show h + j < l.length by omega))
   omega
theorem Found.left {l : List Rg} (hl : apart l) {n : Int} {h : Nat} {y : Rg} (hy : l[h]? = some y) (hn : y.2 < n) : ∀ r ∈ l.take (h + 1), r.2 < n := fun r hr => by
 have := (apart_rise hl hy).1 r hr
 omega
theorem Found.right {l : List Rg} (hl : apart l) {n : Int} {h : Nat} {y : Rg} (hy : l[h]? = some y) (hn : ¬ y.2 < n) : ∀ r ∈ l.drop h, n ≤ r.2 := fun r hr => by
 have := (apart_rise hl hy).2 r hr
 omega
theorem putL_take {x : Rg} : ∀ (l : List Rg) (k : Nat), (∀ r ∈ l.take k, r.2 + 1 < x.1) → putL x l = l.take k ++ putL x (l.drop k)
 | l, 0, _ => by simp
 | [], k + 1, _ => by simp
 | y :: l, k + 1, h => by
  have h0 := h y (by rw [List.take_succ_cons]; exact List.mem_cons_self ..)
  rw [List.take_succ_cons, List.drop_succ_cons, List.cons_append, ← putL_take l k (fun r hr => h r (by rw [List.take_succ_cons]; exact List.mem_cons_of_mem _ hr))]
  conv => lhs; unfold putL
  rw [if_pos h0]
theorem putL_merge {z y : Rg} {l : List Rg} (h1 : ¬ y.2 + 1 < z.1) (h2 : ¬ z.2 + 1 < y.1) : putL z (y :: l) = putL (min z.1 y.1, max z.2 y.2) l := by
 conv => lhs; unfold putL
 rw [if_neg h1, if_neg h2]
theorem putL_stop {z y : Rg} {l : List Rg} (h1 : ¬ y.2 + 1 < z.1) (h2 : z.2 + 1 < y.1) : putL z (y :: l) = z :: y :: l := by
 conv => lhs; unfold putL
 rw [if_neg h1, if_pos h2]
theorem from_touch {l : List Rg} (hl : apart l) {x : Rg} {i : Nat} {y : Rg} (hy : l[i]? = some y) (ht : y.2 + 1 = x.1) :
  putL x l = l.take i ++ putL x (l.drop i) ∧ ∀ r ∈ l.drop i, ¬ r.2 + 1 < x.1 := by
 refine ⟨putL_take l i (fun r hr => ?_), fun r hr => ?_⟩
 ·obtain ⟨hh, rfl⟩ := List.getElem?_eq_some_iff.1 hy
  obtain ⟨j, hj, rfl⟩ := List.getElem_of_mem hr
  rw [List.getElem_take]
  rw [List.length_take] at hj
  have a := List.pairwise_iff_getElem.1 hl.2 j i (by omega) hh (by omega)
  have b := hl.1 _ (List.getElem_mem hh)
  omega
 ·have := (apart_rise hl hy).2 r hr
  omega
theorem from_here {l : List Rg} (hl : apart l) {x : Rg} {i : Nat} (hf : Found l x.1 i) (ht : ∀ j y, i = j + 1 → l[j]? = some y → y.2 + 1 ≠ x.1) :
  putL x l = l.take i ++ putL x (l.drop i) ∧ ∀ r ∈ l.drop i, ¬ r.2 + 1 < x.1 := by
 have hle := hf.le
 refine ⟨putL_take l i (fun r hr => ?_), fun r hr => ?_⟩
 ·have h0 := hf.lo r hr
  obtain ⟨j, hj, rfl⟩ := List.getElem_of_mem hr
  rw [List.getElem_take] at h0 ⊢
  rw [List.length_take] at hj
  rcases Nat.lt_or_ge (j + 1) i with q | q
  ·have a := List.pairwise_iff_getElem.1 hl.2 j (j + 1) (by omega) (by omega) (by omega)
   have b := hf.lo (l[j + 1]'(by omega)) (List.mem_iff_getElem.2 ⟨j + 1, by rw [List.length_take]; omega, by rw [List.getElem_take]⟩)
   have c := hl.1 _ (List.getElem_mem (show j + 1 < l.length by omega))
   omega
  ·have := ht j _ (by omega) (List.getElem?_eq_getElem (show j < l.length by omega))
   omega
 ·have := hf.hi r hr
  omega
end Go.Proofs.YtmkcpnlbicijoaaGreat
namespace Go.Proofs.YtmkcpnlbicijoaaGreat
open Go.RowKit
def itAt {α : Type} (enc : α → List Value) (sz : Nat) (w : World) (A : Option Addr) (n : Nat) (l : List α) : Prop := l.length = n ∧ ∀ i, ∀ h : i < l.length, ∃ g off, A = some ⟨g, off, none⟩ ∧ ∀ j u, (enc l[i])[j]? = some u → w.cell? ⟨g, off + i * sz + j, none⟩ = some u
def encs {α : Type} (enc : α → List Value) (l : List α) : List Value := (l.map enc).flatten
section
variable {α : Type} {enc : α → List Value} {sz : Nat}
theorem encs_cons (l : List α) (x : α) : encs enc (x :: l) = enc x ++ encs enc l := by simp [encs]
theorem encs_len (he : ∀ x, (enc x).length = sz) (l : List α) : (encs enc l).length = l.length * sz := by
 unfold encs
 rw [flat_len (sz := sz) _ (by intro c hc; obtain ⟨p, _, rfl⟩ := List.mem_map.1 hc; exact he p), List.length_map]
theorem encs_one (h1 : ∀ x, ∀ u ∈ enc x, u.oneCell' = true) (l : List α) : ∀ u ∈ encs enc l, u.oneCell' = true := by
 intro u hu
 obtain ⟨c, hc, hu⟩ := List.mem_flatten.1 hu
 obtain ⟨p, _, rfl⟩ := List.mem_map.1 hc
 exact h1 p u hu
theorem itAt.get {w : World} {A : Option Addr} {n : Nat} {l : List α} (h : itAt enc sz w A n l) {i : Nat} (hi : i < n) : ∃ g off x, A = some ⟨g, off, none⟩ ∧ l[i]? = some x ∧ ∀ j u, (enc x)[j]? = some u → w.cell? ⟨g, off + i * sz + j, none⟩ = some u := by
 obtain ⟨hl, h⟩ := h
 obtain ⟨g, off, e, hc⟩ := h i (by omega)
 exact ⟨g, off, l[i]'(by omega), e, List.getElem?_eq_getElem (by omega), hc⟩
theorem Own.slc_it {ε w : World} {R : List Asn} {T : TypeId} {v : Value} {l : List α} (he : ∀ x, (enc x).length = sz) (hz : 0 < sz) (H : Own ε w (slc T sz v (encs enc l) :: R)) : ∃ A n cap, v = .slice A n cap ∧ n ≤ cap ∧ cap ≤ maxLen ∧ itAt enc sz w A n l := by
 rcases H.slc_val with ⟨rfl, h⟩ | ⟨g, n, cap, rfl, h1, h2, h3, h4, _⟩
 ·have hl : l = [] := by
   have := encs_len he l
   rw [h] at this
   simp only [List.length_nil] at this
   refine List.eq_nil_of_length_eq_zero ?_
   rcases Nat.eq_zero_or_pos l.length with q | q
   ·exact q
   ·have := Nat.mul_pos q hz; omega
  subst hl
  exact ⟨none, 0, 0, rfl, Nat.le_refl _, Nat.zero_le _, rfl, fun i hi => by simp at hi⟩
 ·rw [encs_len he] at h3
  have hl : l.length = n := Nat.eq_of_mul_eq_mul_right hz h3
  refine ⟨_, n, cap, rfl, h1, h2, hl, fun i hi => ⟨g, 0, rfl, fun j u hu => ?_⟩⟩
  rw [Nat.zero_add]
  refine h4 _ _ ?_
  have hj : j < sz := by
   rcases Nat.lt_or_ge j sz with q | q
   ·exact q
   ·rw [List.getElem?_eq_none (by rw [he]; exact q)] at hu; cases hu
  unfold encs
  rw [flat_at (sz := sz) (l.map enc) (by intro c hc; obtain ⟨p, _, rfl⟩ := List.mem_map.1 hc; exact he p) i j (enc l[i]) (by simp [hi]) hj]
  exact hu
theorem itAt_rd {β : Type} {Rd' : Rd β} {w : World} {A : Option Addr} {len cap : Nat} {xs : List β} (f : β → α) (hf : ∀ c x, Rd' w c x → c = enc (f x)) (hr : rdSlice Rd' sz w [.slice A len cap] xs) : itAt enc sz w A len (xs.map f) ∧ len ≤ 9223372036854775807 := by
 obtain ⟨hl, hm, hx⟩ := rdSlice_cases hr
 refine ⟨⟨by simpa using hl, fun i hi => ?_⟩, hm⟩
 have hi' : i < xs.length := by simpa using hi
 rcases hx with hz | ⟨ab, off, rfl, hx⟩
 ·omega
 ·obtain ⟨c, _, hcell, hR⟩ := hx i hi'
  refine ⟨ab, off, rfl, fun j u hu => ?_⟩
  have e := hf _ _ hR
  have e2 : (xs.map f)[i] = f xs[i] := by simp
  rw [e2, ← e] at hu
  exact hcell j u hu
theorem itAt.old {ε w wx : World} {R : List Asn} {A : Option Addr} {n : Nat} {l : List α} (h : itAt enc sz w A n l) (H : Own ε wx (old w :: R)) : itAt enc sz wx A n l := ⟨h.1, fun i hi => by
 obtain ⟨g, off, e, hc⟩ := h.2 i hi
 exact ⟨g, off, e, fun j u hu => H.old_cell (hc j u hu)⟩⟩
end
end Go.Proofs.YtmkcpnlbicijoaaGreat
