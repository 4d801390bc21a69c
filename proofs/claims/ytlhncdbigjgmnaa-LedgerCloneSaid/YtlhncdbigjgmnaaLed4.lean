/- ledger: those that are out. -/
import Derived.Test.YtlhncdbigjgmnaaLed3
namespace Go.Proofs.Ytlhncdbigjgmnaa
open Go.RowKit Go.Shelf
attribute [local go_sem] Oper.semAt_some
theorem take_next {α : Type} {l : List α} {i : Nat} {e : α} (h : l[i]? = some e) : l.take (i + 1) = l.take i ++ [e] := by
  rw [List.take_add_one, h]; rfl
theorem drop_next {α : Type} {l : List α} {i : Nat} {e : α} (h : l[i]? = some e) : l.drop i = e :: l.drop (i + 1) := by
  obtain ⟨hi, rfl⟩ := List.getElem?_eq_some_iff.1 h
  exact List.drop_eq_getElem_cons hi
theorem outs_next {l : List En} {i : Nat} {e : En} (h : l[i]? = some e) : outs (l.take (i + 1)) = outs (l.take i) ++ if e.o then [e.p] else [] := by
  rw [take_next h]
  unfold outs
  rw [List.filter_append, List.map_append]
  cases he : e.o <;> simp [he]
theorem outs_len (l : List En) : (outs l).length ≤ l.length := by
  unfold outs
  rw [List.length_map]
  exact List.length_filter_le _ _
/-- The rows of those that are gone through: the first i are marked. -/
def marks (is : Pk → Bool) (l : List En) (i : Nat) : List En := marked is (l.take i) ++ l.drop i
section
variable {is : Pk → Bool} {l : List En} {i : Nat} {e : En}
theorem marks_len : (marks is l i).length = l.length := by unfold marks marked; simp; omega
theorem marks_at (h : i < l.length) : (marks is l i)[i]? = l[i]? := by
  unfold marks marked
  rw [List.getElem?_append_right (by simp; omega)]
  simp
  congr 1
  omega
theorem marks_of (h : (marks is l i)[i]? = some e) : l[i]? = some e := by
  have h1 : i < l.length := by
    have := (List.getElem?_eq_some_iff.1 h).1
    rwa [marks_len] at this
  rwa [marks_at h1] at h
theorem marks_next (h : l[i]? = some e) : marks is l (i + 1) = (marks is l i).set i (e.mark is) := by
  have hi : i < l.length := (List.getElem?_eq_some_iff.1 h).1
  unfold marks
  rw [take_next h, drop_next h, List.set_append_right _ _ (by simp [marked]; omega)]
  have hz : i - (marked is (l.take i)).length = 0 := by simp [marked]; omega
  rw [hz, List.set_cons_zero]
  simp [marked]
theorem mark_same (h : (e.o && is e.p) = false) : e.mark is = e := by
  obtain ⟨b, p, o⟩ := e
  unfold En.mark
  cases o with
  | false => rfl
  | true => simp at h; simp [h]
theorem marks_same (h : l[i]? = some e) (hs : (e.o && is e.p) = false) : marks is l (i + 1) = marks is l i := by
  rw [marks_next h, mark_same hs]
  have h2 := h
  rw [← marks_at (is := is) (List.getElem?_eq_some_iff.1 h).1] at h2
  obtain ⟨hi, h3⟩ := List.getElem?_eq_some_iff.1 h2
  rw [← h3, List.set_getElem_self]
theorem taken_next (h : l[i]? = some e) : taken is (l.take (i + 1)) = taken is (l.take i) ++ if e.o && is e.p then [e.p] else [] := by
  rw [take_next h]
  unfold taken
  rw [List.filter_append, List.map_append]
  cases he : e.o && is e.p <;> simp [he]
theorem blks_marks : blks (marks is l i) = blks l := by
  unfold marks marked blks
  rw [List.map_append, List.map_map]
  have : ((fun x : En => x.b) ∘ En.mark is) = (fun x : En => x.b) := rfl
  rw [this, ← List.map_append, List.take_append_drop]
end
def outFr (o : Nat) (pre : List Pk) : Asn := exA fun v : Value => sep (pts o (.cells #[v] 40 (0, 0))) (slcP v pre)
theorem outFr_mk {ε w : World} {R : List Asn} {o : Nat} {v : Value} {l : List Pk} (H : Own ε w (slcP v l :: pts o (.cells #[v] 40 (0, 0)) :: R)) : Own ε w (outFr o l :: R) := Own.ex_mk v H.r2.join
section
variable (ε w : World) (R : List Asn) (b : Nat)
set_option maxRecDepth 100000 in
set_option maxHeartbeats 1600000 in
theorem ledOut_c (m : Nat) (s : Led) (hn : s.row.length ≤ 1000000) (H : Own ε w (led b s :: R)) :
    Calls Try.prog 18 #[.pointer (some ⟨b, 0, none⟩)] w fun e w' => ∃ v, e = .returned v ∧ Own ε w' (slcP v (outs s.row) :: led b s :: R) := by
  obtain ⟨rb, H⟩ := H.led_open
  have HH := Lib.hid H; clear H
  obtain ⟨row, hrow⟩ : ∃ row, row = s.row := ⟨_, rfl⟩
  rw [← hrow] at hn ⊢
  replace HH := Lib.hid (show Own ε w (ledN b rb s :: ringL rb (blks row) :: ents row :: R) by rw [hrow]; exact HH.out)
  replace hrow := Lib.hid hrow
  refine calls_of_wp_marks (m + 1) Try.func18 rfl ?_; simp only [Try.ntmps18, List.size_toArray, List.length_cons, List.length_nil, Nat.reduceAdd, Nat.reduceSub, Array.replicate_succ, Array.replicate_zero, List.push_toArray, List.append_toArray, List.nil_append, List.cons_append]
  go_wp2_with (with_reducible refine stop_al ?_)
  refine Stop.go ?_
  refine wpList_alloc_own HH.out [.slice none 0 0] (by kernel_rfl) ?_
  intro ob w1_ H9_
  replace HH := Lib.hid H9_
  clear H9_
  go_wp2_with fail
  refine (ledSeq_c ε _ _ b HH.out).mono ?_
  rintro e w2_ ⟨bb, rfl, H9_⟩
  replace HH := Lib.hid H9_
  clear H9_
  go_wp2_with (with_reducible refine stop_rf ?_)
  refine Stop.go ?_
  refine (wpIn_wide (n := m + 1)).1 ?_
  refine wpIn_rangeFunc_sep (gf := 58) (lb := #[.pointer (some ⟨bb, 0, none⟩)]) rfl (enters_of Try.func58 (by kernel_rfl) rfl) HH.out ?_
  intro fn l D W H3
  clear HH
  have HH := Lib.hid ((Own.pm (H3) (by repeat (first | with_reducible exact Pm.refl _ | with_reducible exact Pm.nil _ | with_reducible refine Pm.here ?_ | with_reducible refine Pm.at2 ?_ | with_reducible refine Pm.at3 ?_ | with_reducible refine Pm.at4 ?_ | with_reducible refine Pm.at5 ?_ | with_reducible refine Pm.at6 ?_ | with_reducible refine Pm.at7 ?_ | with_reducible refine Pm.at8 ?_ | with_reducible refine Pm.skip ?_))) : Own ε W (pts ob _ :: capL bb b :: ledN b rb s :: ringL rb (blks row) :: ents row :: pts l _ :: pts D _ :: R))
  clear H3
  replace HH := Lib.hid (outFr_mk (l := []) (HH.out.slc_none))
  replace HH := Lib.hid ((Own.pm (HH.out) (by repeat (first | with_reducible exact Pm.refl _ | with_reducible exact Pm.nil _ | with_reducible refine Pm.here ?_ | with_reducible refine Pm.at2 ?_ | with_reducible refine Pm.at3 ?_ | with_reducible refine Pm.at4 ?_ | with_reducible refine Pm.at5 ?_ | with_reducible refine Pm.at6 ?_ | with_reducible refine Pm.at7 ?_ | with_reducible refine Pm.at8 ?_ | with_reducible refine Pm.skip ?_))) : Own ε W (capL bb b :: ledN b rb s :: ringL rb (blks row) :: ents row :: outFr ob [] :: pts l _ :: pts D _ :: R))
  refine callsIn_wide.2 ((ledIter_c ε W _ m l bb b rb s (blks row) (fun _ => row) (fun i => outFr ob (outs (row.take i))) (by simpa using hn) (fun i hi => ?hB) (fun i e he ho => ?hN) ?hY HH.out).mono ?hE)
  case hB =>
    have hi2 : i < row.length := by simpa using hi
    exact ⟨row[i], List.getElem?_eq_getElem hi2, by simp [hi2]⟩
  case hN => exact ⟨rfl, by simp only [outs_next he, ho]; simp⟩
  case hE =>
    clear HH
    rintro e W2 ⟨hv, H4⟩
    simp only at H4
    rw [show (blks row).length = row.length from by simp, List.take_length] at H4
    obtain ⟨vo, H4⟩ := ((Own.pm (H4) (by repeat (first | with_reducible exact Pm.refl _ | with_reducible exact Pm.nil _ | with_reducible refine Pm.here ?_ | with_reducible refine Pm.at2 ?_ | with_reducible refine Pm.at3 ?_ | with_reducible refine Pm.at4 ?_ | with_reducible refine Pm.at5 ?_ | with_reducible refine Pm.at6 ?_ | with_reducible refine Pm.at7 ?_ | with_reducible refine Pm.at8 ?_ | with_reducible refine Pm.skip ?_))) : Own ε W2 (outFr ob (outs row) :: ledN b rb s :: ringL rb (blks row) :: ents row :: pts l _ :: pts D _ :: R)).ex
    refine ⟨hv, .inl ⟨pts ob _ :: slcP vo (outs row) :: ledN b rb s :: ringL rb (blks row) :: ents row :: R, (Own.pm (H4.split) (by repeat (first | with_reducible exact Pm.refl _ | with_reducible exact Pm.nil _ | with_reducible refine Pm.here ?_ | with_reducible refine Pm.at2 ?_ | with_reducible refine Pm.at3 ?_ | with_reducible refine Pm.at4 ?_ | with_reducible refine Pm.at5 ?_ | with_reducible refine Pm.at6 ?_ | with_reducible refine Pm.at7 ?_ | with_reducible refine Pm.at8 ?_ | with_reducible refine Pm.skip ?_))), ?_⟩⟩
    clear H4
    intro W3 H5
    have HH := Lib.hid H5
    have hK := H5.blk
    clear H5
    (try clear cc1_); (try clear cc2_); (try clear cc3_); (try clear cc4_); (try clear cc5_); (try clear cc6_); (try clear cc7_)
    have cc2_ := HH.out.r2.cells
    go_wp2_with fail
    refine ⟨by simp, .inl ⟨_, _, rfl, run_takeDeferred hK, ?_⟩⟩
    refine ⟨_, results_tmp rfl _ _ _, vo, rfl, ?_⟩
    have H6 := (HH.out.putObj (.deferred none)).tail.tail
    have hr := hrow.out
    subst hr
    exact Own.l2 (Own.led_mk (Own.l4 H6).r4.l4)
  case hY =>
    clear HH
    intro i e W1 he ho H4
    obtain ⟨eb, ⟨pn, ps, p3, p4, p5, p6, p7⟩, o⟩ := e
    obtain rfl : o = true := ho
    have e1 := outs_next he
    simp only [if_true] at e1 H4
    replace e1 := Lib.hid e1
    obtain ⟨pre, hpre⟩ : ∃ pre, pre = outs (row.take i) := ⟨_, rfl⟩
    rw [← hpre] at e1 H4
    have hpl : pre.length ≤ 1000000 := by
      have := outs_len (row.take i)
      rw [← hpre] at this
      have h2 : (row.take i).length ≤ row.length := by simp; omega
      omega
    clear hpre
    replace he := Lib.hid he
    refine yieldAt_own (A := capL bb b :: ledN b rb s :: ringL rb (blks row) :: ents row :: outFr ob pre :: pts D (.deferred (some [])) :: R) ?hs (Own.pm (H4) (by repeat (first | with_reducible exact Pm.refl _ | with_reducible exact Pm.nil _ | with_reducible refine Pm.here ?_ | with_reducible refine Pm.at2 ?_ | with_reducible refine Pm.at3 ?_ | with_reducible refine Pm.at4 ?_ | with_reducible refine Pm.at5 ?_ | with_reducible refine Pm.at6 ?_ | with_reducible refine Pm.at7 ?_ | with_reducible refine Pm.at8 ?_ | with_reducible refine Pm.skip ?_))) ?_
    case hs => rfl
    have HH := Lib.hid ((Own.pm (H4) (by repeat (first | with_reducible exact Pm.refl _ | with_reducible exact Pm.nil _ | with_reducible refine Pm.here ?_ | with_reducible refine Pm.at2 ?_ | with_reducible refine Pm.at3 ?_ | with_reducible refine Pm.at4 ?_ | with_reducible refine Pm.at5 ?_ | with_reducible refine Pm.at6 ?_ | with_reducible refine Pm.at7 ?_ | with_reducible refine Pm.at8 ?_ | with_reducible refine Pm.skip ?_))) : Own ε W1 (outFr ob pre :: pts l _ :: pts D _ :: capL bb b :: ledN b rb s :: ringL rb (blks row) :: ents row :: R))
    clear H4
    gi_wp2
    refine ⟨outFr ob pre :: pts D _ :: capL bb b :: ledN b rb s :: ringL rb (blks row) :: ents row :: R, (Own.pm (HH.out) (by repeat (first | with_reducible exact Pm.refl _ | with_reducible exact Pm.nil _ | with_reducible refine Pm.here ?_ | with_reducible refine Pm.at2 ?_ | with_reducible refine Pm.at3 ?_ | with_reducible refine Pm.at4 ?_ | with_reducible refine Pm.at5 ?_ | with_reducible refine Pm.at6 ?_ | with_reducible refine Pm.at7 ?_ | with_reducible refine Pm.at8 ?_ | with_reducible refine Pm.skip ?_))), ?_⟩
    clear HH
    intro W2 H5
    obtain ⟨vo, H5⟩ := ((Own.pm (H5) (by repeat (first | with_reducible exact Pm.refl _ | with_reducible exact Pm.nil _ | with_reducible refine Pm.here ?_ | with_reducible refine Pm.at2 ?_ | with_reducible refine Pm.at3 ?_ | with_reducible refine Pm.at4 ?_ | with_reducible refine Pm.at5 ?_ | with_reducible refine Pm.at6 ?_ | with_reducible refine Pm.at7 ?_ | with_reducible refine Pm.at8 ?_ | with_reducible refine Pm.skip ?_))) : Own ε W2 (outFr ob pre :: ents row :: pts l _ :: pts D _ :: capL bb b :: ledN b rb s :: ringL rb (blks row) :: R)).ex
    replace H5 := ((Own.pm (H5.split) (by repeat (first | with_reducible exact Pm.refl _ | with_reducible exact Pm.nil _ | with_reducible refine Pm.here ?_ | with_reducible refine Pm.at2 ?_ | with_reducible refine Pm.at3 ?_ | with_reducible refine Pm.at4 ?_ | with_reducible refine Pm.at5 ?_ | with_reducible refine Pm.at6 ?_ | with_reducible refine Pm.at7 ?_ | with_reducible refine Pm.at8 ?_ | with_reducible refine Pm.skip ?_))) : Own ε W2 (ents row :: pts ob _ :: slcP vo pre :: pts l _ :: pts D _ :: capL bb b :: ledN b rb s :: ringL rb (blks row) :: R)).ents_at he.out
    have HH := Lib.hid H5
    clear H5
    (try clear cc1_); (try clear cc2_); (try clear cc3_); (try clear cc4_); (try clear cc5_); (try clear cc6_); (try clear cc7_)
    have cc1_ := HH.out.cells
    have cc3_ := HH.out.r3.cells
    gi_wp2
    refine wpIn_region_reg (some 6) HH.out (by kernel_rfl) (by kernel_rfl) (by first | exact (fun ⟨_, _, h⟩ => h) | (simp [LetsOut, Exit.inBlock, roundOut]; done) | simp [LetsOut, Exit.then, Exit.inBlock, roundOut]) ?_
    intro wm H9_
    replace HH := Lib.hid H9_
    clear H9_
    refine mixk_q (i := 0) rfl (by kernel_rfl) (fun _ _ _ _ h => h) HH.out (fun K hK => ?_)
    go_simp
    first | (refine hK _ ?_; clear hK K) | (apply Exists.intro; refine ⟨?_, hK _ ?_⟩; (focus (intro wx hx; have x1_ := hx.cells; have x3_ := hx.r3.cells; first | (go_simp; first | rfl | exact ⟨rfl, rfl⟩) | rfl | exact ⟨rfl, rfl⟩)); clear hK K)
    refine reg_p (i := 1) rfl (by kernel_rfl) (fun _ _ _ _ h => h) HH.out (fun K hK => ?_)
    go_simp
    first | (refine hK _ ?_; clear hK K) | (apply Exists.intro; refine ⟨?_, hK _ ?_⟩; (focus (intro wx; first | (go_simp; first | rfl) | rfl)); clear hK K)
    refine reg_p (i := 2) rfl (by kernel_rfl) (fun _ _ _ _ h => h) HH.out (fun K hK => ?_)
    go_simp
    first | (refine hK _ ?_; clear hK K) | (apply Exists.intro; refine ⟨?_, hK _ ?_⟩; (focus (intro wx; first | (go_simp; first | rfl) | rfl)); clear hK K)
    refine reg_p (i := 3) rfl (by kernel_rfl) (fun _ _ _ _ h => h) HH.out (fun K hK => ?_)
    go_simp
    first | (refine hK _ ?_; clear hK K) | (apply Exists.intro; refine ⟨?_, hK _ ?_⟩; (focus (intro wx; first | (go_simp; first | rfl) | rfl)); clear hK K)
    refine mixk_q (i := 4) rfl (by kernel_rfl) (fun _ _ _ _ h => h) HH.out (fun K hK => ?_)
    go_simp
    first | (refine hK _ ?_; clear hK K) | (apply Exists.intro; refine ⟨?_, hK _ ?_⟩; (focus (intro wx hx; have x1_ := hx.cells; have x3_ := hx.r3.cells; first | (go_simp; first | rfl | exact ⟨rfl, rfl⟩) | rfl | exact ⟨rfl, rfl⟩)); clear hK K)
    refine reg_l (some 6) (i := 5) rfl (by kernel_rfl) (fun wn hk K hK => ?_)
    replace HH := Lib.hid (hk _ _ HH.out)
    clear hk
    go_simp
    replace HH := Lib.hid (HH.out.alloc (.cells #[.int .u64 pn, .int .u64 ps, .int .u64 p3, .int .u64 p4, .int .u64 p5, .int .u64 p6, .bool p7] 50))
    generalize wn.alloc (.cells #[.int .u64 pn, .int .u64 ps, .int .u64 p3, .int .u64 p4, .int .u64 p5, .int .u64 p6, .bool p7] 50) = wm at *
    generalize wn.heap.size = sb at *
    refine hK _ _ _ HH.out (.inr ⟨rfl, fun _ h => h.tail⟩) ?_
    clear hK K
    refine reg_l (some 7) (i := 6) rfl (by kernel_rfl) (fun wn hk K hK => ?_)
    replace HH := Lib.hid (hk _ _ HH.out)
    clear hk
    refine want rfl (wp_append_slc _ _ 40 rfl 50 7 56 Try.underlying40 (by kernel_rfl) (by decide) rfl (HH.out.r5) rfl (flat_pks_len pre) ((show srcAt wn (some ⟨sb, 0, none⟩) 1 7 [.int .u64 pn, .int .u64 ps, .int .u64 p3, .int .u64 p4, .int .u64 p5, .int .u64 p6, .bool p7] from ⟨rfl, .inr ⟨sb, 0, rfl, fun j u hj => by rw [Nat.zero_add, HH.out.cells.1 j]; simpa using hj⟩⟩)) ((by repeat (first | (refine List.forall_mem_cons.2 ⟨(by first | with_reducible assumption | rfl), ?_⟩) | exact fun _ h => absurd h List.not_mem_nil))) (by simp only [maxLen]; omega) (by omega) ?_)
    intro v1 wm H9_
    obtain ⟨A_v1, n_v1, c_v1, rfl⟩ := H9_.slc_isv
    replace HH := Lib.hid H9_
    clear H9_
    refine hK _ _ _ HH.out (.inl (by kernel_rfl)) ?_
    clear hK K
    refine reg_l none (i := 7) rfl (by kernel_rfl) (fun wn hk K hK => ?_)
    replace HH := Lib.hid (hk _ _ HH.out)
    clear hk
    have hx := HH.out
    have x1_ := hx.r3.cells
    have x3_ := hx.r5.cells
    go_simp
    replace HH := Lib.hid (HH.out.r5.set 0 (.slice A_v1 n_v1 c_v1))
    simp only [List.setIfInBounds_toArray, List.set_cons_zero] at HH
    generalize wn.setCell ⟨ob, 0, none⟩ (.slice A_v1 n_v1 c_v1) = wm at *
    clear hx x1_ x3_
    refine hK _ _ _ HH.out (.inl (by kernel_rfl)) ?_
    clear hK K
    refine mixk_done (by kernel_rfl) (fun w3_ hk => ?_) _
    replace HH := Lib.hid (hk _ _ HH.out)
    clear hk
    gi_wp2
    have H6 := HH.out
    clear HH
    rw [show (pks pre).flatten ++ [.int .u64 pn, .int .u64 ps, .int .u64 p3, .int .u64 p4, .int .u64 p5, .int .u64 p6, .bool p7] = (pks (pre ++ [⟨pn, ps, p3, p4, p5, p6, p7⟩])).flatten from (flat_pks_snoc pre (⟨pn, ps, p3, p4, p5, p6, p7⟩ : Pk)).symm] at H6
    have H7 := outFr_mk (l := pre ++ [⟨pn, ps, p3, p4, p5, p6, p7⟩]) ((Own.pm (H6) (by repeat (first | with_reducible exact Pm.refl _ | with_reducible exact Pm.nil _ | with_reducible refine Pm.here ?_ | with_reducible refine Pm.at2 ?_ | with_reducible refine Pm.at3 ?_ | with_reducible refine Pm.at4 ?_ | with_reducible refine Pm.at5 ?_ | with_reducible refine Pm.at6 ?_ | with_reducible refine Pm.at7 ?_ | with_reducible refine Pm.at8 ?_ | with_reducible refine Pm.skip ?_))) : Own ε _ (slc 50 7 _ (pks (pre ++ [⟨pn, ps, p3, p4, p5, p6, p7⟩])).flatten :: pts ob _ :: pts eb _ :: ents (row.eraseIdx i) :: pts l _ :: pts D _ :: capL bb b :: ledN b rb s :: ringL rb (blks row) :: R))
    clear H6
    have H8 := Own.ents_back he.out (Own.l3 H7)
    clear H7
    refine ⟨ents row :: outFr ob (pre ++ [⟨pn, ps, p3, p4, p5, p6, p7⟩]) :: pts D _ :: capL bb b :: ledN b rb s :: ringL rb (blks row) :: R, (Own.pm (H8) (by repeat (first | with_reducible exact Pm.refl _ | with_reducible exact Pm.nil _ | with_reducible refine Pm.here ?_ | with_reducible refine Pm.at2 ?_ | with_reducible refine Pm.at3 ?_ | with_reducible refine Pm.at4 ?_ | with_reducible refine Pm.at5 ?_ | with_reducible refine Pm.at6 ?_ | with_reducible refine Pm.at7 ?_ | with_reducible refine Pm.at8 ?_ | with_reducible refine Pm.skip ?_))), ?_⟩
    clear H8
    intro W6 H6
    refine ⟨rfl, ?_⟩
    rw [e1.out]
    exact (Own.pm (H6) (by repeat (first | with_reducible exact Pm.refl _ | with_reducible exact Pm.nil _ | with_reducible refine Pm.here ?_ | with_reducible refine Pm.at2 ?_ | with_reducible refine Pm.at3 ?_ | with_reducible refine Pm.at4 ?_ | with_reducible refine Pm.at5 ?_ | with_reducible refine Pm.at6 ?_ | with_reducible refine Pm.at7 ?_ | with_reducible refine Pm.at8 ?_ | with_reducible refine Pm.skip ?_)))
end
end Go.Proofs.Ytlhncdbigjgmnaa
