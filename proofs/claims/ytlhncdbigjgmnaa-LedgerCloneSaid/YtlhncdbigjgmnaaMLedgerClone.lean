/-
  The law LedgerClone holds for every input that the row speaks of: no condition is added. Its arguments are read into plain data, its walk is ledgerClone_c, its arguments read behind the call as before.
-/
import Derived.Test.YtlhncdbigjgmnaaLed13
import Derived.Test.YtlhncdbigjgmnaaSeq10
import Derived.Test.YtlhncdbigjgmnaaLed11
import Derived.Test.YtlhncdbigjgmnaaSame08
import Derived.Test.YtlhncdbigjgmnaaRow
namespace Go.Proofs.Ytlhncdbigjgmnaa
open Go.RowKit Go.Shelf
attribute [local go_sem] Oper.semAt_some
theorem fg_next {l : List En} {i : Nat} {e : En} (h : l[i]? = some e) : fg (l.take (i + 1)) = fg (l.take i) ++ [(e.p, e.o)] := by
  rw [take_next h, fg_app]; rfl
theorem fg_len {l l' : List En} (h : fg l = fg l') : l.length = l'.length := by
  have := congrArg List.length h
  simpa [fg] using this
/-- A row of pointers that is there. -/
theorem own_there {ε w : World} {R : List Asn} {v : Value} {l : List Nat} (H : Own ε w (ownL v l :: R)) : ∃ A c, v = .slice A l.length c ∧ srcAt w A l.length 1 (ptrs l) ∧ ∀ i x, l[i]? = some x → ∃ g, A = some ⟨g, 0, none⟩ ∧ w.cell? ⟨g, i, none⟩ = some (.pointer (some ⟨x, 0, none⟩)) := by
  have hpl : (ptrs l).length = l.length := List.length_map ..
  rcases H.slc_val with ⟨rfl, h⟩ | ⟨g, n, c, rfl, _, _, h3, h4, h5⟩
  · have hl : l = [] := by cases l with
      | nil => rfl
      | cons _ _ => simp [ptrs] at h
    subst hl
    exact ⟨none, 0, rfl, ⟨rfl, .inl rfl⟩, fun i x hx => by simp at hx⟩
  · have hl : l.length = n := by rw [← hpl]; omega
    subst hl
    exact ⟨_, c, rfl, ⟨by rw [hpl]; omega, .inr ⟨g, 0, rfl, fun j u hj => by rw [Nat.zero_add]; exact h4 j u hj⟩⟩, fun i x hx => ⟨g, rfl, h4 i _ (by unfold ptrs; rw [List.getElem?_map, hx]; rfl)⟩⟩
theorem own_cell {ε w : World} {R : List Asn} {g n c i x : Nat} {l : List Nat} (H : Own ε w (ownL (.slice (some ⟨g, 0, none⟩) n c) l :: R)) (h : l[i]? = some x) : w.cell? ⟨g, i, none⟩ = some (.pointer (some ⟨x, 0, none⟩)) := by
  obtain ⟨_, _, e, _, h2⟩ := own_there H
  cases e
  obtain ⟨_, e, h3⟩ := h2 i x h
  cases e
  exact h3
theorem own_rd {ε w : World} {R : List Asn} {A : Option Addr} {n c i x : Nat} {l : List Nat} (H : Own ε w (ownL (.slice A n c) l :: R)) (h : l[i]? = some x) : ∃ g, A = some ⟨g, 0, none⟩ ∧ w.cell? ⟨g, i, none⟩ = some (.pointer (some ⟨x, 0, none⟩)) := by
  obtain ⟨_, _, e, _, h2⟩ := own_there H
  cases e
  exact h2 i x h
abbrev capC (cb : Nat) (v : Value) : Asn := pts cb (.cells #[v] 89 (0, 0))
section
variable (ε w : World) (R : List Asn) (b : Nat)
set_option maxRecDepth 100000 in
set_option maxHeartbeats 1600000 in
theorem clIter_c (m l cb : Nat) (A0 : Option Addr) (cap : Nat) (row : List En) (Fr : List En → Asn) (A : List Asn) (hm : row.length ≤ 1000000)
    (hY : ∀ (new : List En) (e : En) (nb : Nat) (W : World), new.length < row.length → Own ε W (capC cb (.slice A0 row.length cap) :: ownL (.slice A0 row.length cap) (blks row) :: ents row :: pts nb (En.obj ⟨nb, e.p, e.o⟩) :: Fr new :: A) → YieldAt Fence.wide m Try.prog l #[.pointer (some ⟨nb, 0, none⟩)] W fun e' W' => e' = .returned (.bool true) ∧ Own ε W' (capC cb (.slice A0 row.length cap) :: ownL (.slice A0 row.length cap) (blks row) :: ents row :: Fr (new ++ [⟨nb, e.p, e.o⟩]) :: A))
    (H : Own ε w (capC cb (.slice A0 row.length cap) :: ownL (.slice A0 row.length cap) (blks row) :: ents row :: Fr [] :: A)) :
    Calls Try.prog 46 #[.func (.yield l) #[] #[], .pointer (some ⟨cb, 0, none⟩)] w fun e w' => (∃ v, e = .returned v) ∧ ∃ new, fg new = fg row ∧ Own ε w' (capC cb (.slice A0 row.length cap) :: ownL (.slice A0 row.length cap) (blks row) :: ents row :: Fr new :: A) := by
  have HH := Lib.hid H; clear H
  replace hY := Lib.hid hY
  obtain ⟨n, hn⟩ : ∃ n, n = row.length := ⟨_, rfl⟩
  rw [← hn] at HH hm hY ⊢
  replace hn := Lib.hid hn
  go_enter Try.func46, Try.ntmps46
  (try clear cc1_); (try clear cc2_); (try clear cc3_); (try clear cc4_); (try clear cc5_); (try clear cc6_); (try clear cc7_)
  have cc1_ := HH.out.cells
  go_wp2_with fail
  go_loopg [8] n (fun k i wr => ∃ (j : Nat) (new : List En), j + k = n ∧ i = .int .i64 j ∧ fg new = fg (row.take j) ∧ Own ε wr (capC cb (.slice A0 n cap) :: ownL (.slice A0 n cap) (blks row) :: ents row :: Fr new :: A))
  case atStart => exact ⟨0, [], by omega, rfl, rfl, HH.out⟩
  case round =>
    clear HH
    obtain ⟨j, new, hk, rfl, hfg, HR⟩ := hrel
    have HH := Lib.hid HR
    clear HR
    by_cases hj : j < n
    · have hji : (j : Int) < n := by omega
      have hjr : j < row.length := by rw [← hn.out]; exact hj
      obtain ⟨e, he⟩ : ∃ e, row[j]? = some e := ⟨row[j], List.getElem?_eq_getElem hjr⟩
      have hnx := fg_next he
      rw [← hfg] at hnx
      have hnl : new.length < n := by
        have := fg_len hfg
        rw [this]; simp; omega
      obtain ⟨g, rfl, c0⟩ := own_rd HH.out.r2 (show (blks row)[j]? = some e.b by unfold blks; rw [List.getElem?_map, he]; rfl)
      obtain ⟨eb, ⟨pn, ps, p3, p4, p5, p6, p7⟩, o⟩ := e
      simp only at c0 hnx
      have x1_ := (HH.out.r3.ents_at he).cells
      replace hk := Lib.hid hk
      replace he := Lib.hid he
      replace hnx := Lib.hid hnx
      replace hnl := Lib.hid hnl
      replace hfg := Lib.hid hfg
      go_wp2_with (with_reducible refine stop_al ?_)
      refine Stop.go ?_
      refine wpList_alloc_own HH.out [.int .u64 0, .int .u64 0, .int .u64 0, .int .u64 0, .int .u64 0, .int .u64 0, .bool false, .bool false] (by kernel_rfl) ?_
      intro nb w1_ H9_
      replace HH := Lib.hid H9_
      clear H9_
      go_wp2_with (with_reducible refine stop_st ?_)
      refine Stop.go ?_
      refine wpList_store_own _ #[_, _, _, _, _, _, _, _] rfl rfl HH.out (by kernel_rfl) rfl (by repeat (first | (refine List.forall_mem_cons.2 ⟨(by first | with_reducible assumption | rfl), ?_⟩) | exact fun _ h => absurd h List.not_mem_nil)) ?_
      intro w2_ H9_
      replace HH := Lib.hid H9_
      clear H9_
      clear x1_ c0
      try dsimp only
      repeat (first | (with_reducible refine stop_rs 4 ?_) | (with_reducible refine stop_rg 4 ?_) | go_values | go_skip | go_guarded | go_step | go_upon | go_back)
      refine Stop.go ?_
      obtain ⟨fn, tmps, assign, body, hy, hR⟩ := hY.out new ⟨0, ⟨pn, ps, p3, p4, p5, p6, p7⟩, o⟩ nb _ hnl.out (show Own ε _ (capC cb _ :: ownL _ (blks row) :: ents row :: pts nb (.cells #[.int .u64 pn, .int .u64 ps, .int .u64 p3, .int .u64 p4, .int .u64 p5, .int .u64 p6, .bool p7, .bool o] 80 (0, 0)) :: Fr new :: A) from (Own.pm (HH.out) (by repeat (first | with_reducible exact Pm.refl _ | with_reducible exact Pm.nil _ | with_reducible refine Pm.here ?_ | with_reducible refine Pm.at2 ?_ | with_reducible refine Pm.at3 ?_ | with_reducible refine Pm.at4 ?_ | with_reducible refine Pm.at5 ?_ | with_reducible refine Pm.at6 ?_ | with_reducible refine Pm.at7 ?_ | with_reducible refine Pm.at8 ?_ | with_reducible refine Pm.skip ?_))))
      refine (wpIn_wide (n := m + 1)).1 ?_
      gi_wp2
      refine hR.mono ?_
      clear hy hR
      rintro e w10 ⟨rfl, H10⟩
      replace HH := Lib.hid H10
      clear H10
      gi_wp2
      go_wp2_with fail
      go_roundg (n - (j + 1))
      case measure => have := hk.out; omega
      case rel => exact ⟨j + 1, _, by omega, by go_num, by rw [hnx.out, fg_app]; rfl, HH.out⟩
    · have hjn : ¬ (j : Int) < n := by omega
      obtain rfl : j = n := by omega
      replace hfg := Lib.hid hfg
      go_wp2_with fail
      first | go_end0 | ((try simp only [Exit.inBlock, Exit.then]); refine bodyPost_ret (results_none rfl _ _ _) rfl ?_)
      exact ⟨⟨_, rfl⟩, new, by rw [hfg.out, hn.out, List.take_length], HH.out⟩
end
end Go.Proofs.Ytlhncdbigjgmnaa
namespace Go.Proofs.Ytlhncdbigjgmnaa
open Go.RowKit Go.Shelf
attribute [local go_sem] Oper.semAt_some
/-- What was collected, in the variable s. -/
def colFr (sb : Nat) (new : List En) : Asn := exA fun v : Value => sep (pts sb (.cells #[v] 89 (0, 0))) (sep (ownL v (blks new)) (ents new))
theorem own_src {ε w : World} {R : List Asn} {A : Option Addr} {n c : Nat} {l : List Nat} (H : Own ε w (ownL (.slice A n c) l :: R)) : srcAt w A n 1 (ptrs l) := by
  obtain ⟨_, _, e, h, _⟩ := own_there H
  cases e
  exact h
section
variable {ε w : World} {R : List Asn} {sb : Nat} {new : List En}
theorem colFr_mk {v : Value} (H : Own ε w (pts sb (.cells #[v] 89 (0, 0)) :: ownL v (blks new) :: ents new :: R)) : Own ε w (colFr sb new :: R) :=
  Own.ex_mk v (Own.join (Own.under (L' := sep (ownL v (blks new)) (ents new) :: R) H fun _ q => sep_assoc1 q))
theorem colFr_open (H : Own ε w (colFr sb new :: R)) : ∃ v, Own ε w (pts sb (.cells #[v] 89 (0, 0)) :: ownL v (blks new) :: ents new :: R) := by
  obtain ⟨v, H⟩ := H.ex
  exact ⟨v, Own.under (L' := ownL v (blks new) :: ents new :: R) H.split fun _ q => sep_assoc2 q⟩
end
section
variable (ε w : World) (R : List Asn) (b : Nat)
set_option maxRecDepth 100000 in
set_option maxHeartbeats 1600000 in
theorem appSeq_c (m cb : Nat) (A0 : Option Addr) (cap : Nat) (row : List En) (hm : row.length ≤ 1000000) (H : Own ε w (capC cb (.slice A0 row.length cap) :: ownL (.slice A0 row.length cap) (blks row) :: ents row :: R)) :
    Calls Try.prog 62 #[.slice none 0 0, .func (.func 46) #[] #[.pointer (some ⟨cb, 0, none⟩)]] w fun e w' => ∃ v new, ∃ _ : fg new = fg row, e = .returned v ∧ Own ε w' (ownL v (blks new) :: ents new :: capC cb (.slice A0 row.length cap) :: ownL (.slice A0 row.length cap) (blks row) :: ents row :: R) := by
  have HH := Lib.hid H; clear H
  refine calls_of_wp_marks (m + 1) Try.func62 rfl ?_; simp only [Try.ntmps62, List.size_toArray, List.length_cons, List.length_nil, Nat.reduceAdd, Nat.reduceSub, Array.replicate_succ, Array.replicate_zero, List.push_toArray, List.append_toArray, List.nil_append, List.cons_append]
  go_wp2_with (with_reducible refine stop_bx ?_)
  refine Stop.go ?_
  refine wpList_box_own HH.out [_] rfl ?_
  intro sb w1_ H9_
  replace HH := Lib.hid H9_
  clear H9_
  replace HH := Lib.hid (show Own ε _ (pts sb (.cells #[.slice none 0 0] 89 (0, 0)) :: _) from HH.out)
  go_wp2_with (with_reducible refine stop_rf ?_)
  refine Stop.go ?_
  refine (wpIn_wide (n := m + 1)).1 ?_
  refine wpIn_rangeFunc_sep (gf := 46) (lb := #[.pointer (some ⟨cb, 0, none⟩)]) rfl (enters_of Try.func46 (by kernel_rfl) rfl) HH.out ?_
  intro fn l D W H3
  clear HH
  have HH := Lib.hid ((Own.pm (H3) (by repeat (first | with_reducible exact Pm.refl _ | with_reducible exact Pm.nil _ | with_reducible refine Pm.here ?_ | with_reducible refine Pm.at2 ?_ | with_reducible refine Pm.at3 ?_ | with_reducible refine Pm.at4 ?_ | with_reducible refine Pm.at5 ?_ | with_reducible refine Pm.at6 ?_ | with_reducible refine Pm.at7 ?_ | with_reducible refine Pm.at8 ?_ | with_reducible refine Pm.skip ?_))) : Own ε W (pts sb (.cells #[.slice none 0 0] 89 (0, 0)) :: capC cb _ :: ownL _ (blks row) :: ents row :: pts l _ :: pts D _ :: R))
  clear H3
  have H4 := ((HH.out.ents_nil).slc_none (T := 75) (sz := 1)).r3
  replace HH := Lib.hid (colFr_mk (new := []) (show Own ε W (pts sb (.cells #[.slice none 0 0] 89 (0, 0)) :: ownL (.slice none 0 0) (blks []) :: ents [] :: _) from H4))
  clear H4
  replace HH := Lib.hid ((Own.pm (HH.out) (by repeat (first | with_reducible exact Pm.refl _ | with_reducible exact Pm.nil _ | with_reducible refine Pm.here ?_ | with_reducible refine Pm.at2 ?_ | with_reducible refine Pm.at3 ?_ | with_reducible refine Pm.at4 ?_ | with_reducible refine Pm.at5 ?_ | with_reducible refine Pm.at6 ?_ | with_reducible refine Pm.at7 ?_ | with_reducible refine Pm.at8 ?_ | with_reducible refine Pm.skip ?_))) : Own ε W (capC cb (.slice A0 row.length cap) :: ownL (.slice A0 row.length cap) (blks row) :: ents row :: colFr sb [] :: pts l _ :: pts D _ :: R))
  refine callsIn_wide.2 ((clIter_c ε W m l cb A0 cap row (colFr sb) _ hm ?hY HH.out).mono ?hE)
  case hE =>
    clear HH
    rintro e W2 ⟨hv, new, hfg, H4⟩
    obtain ⟨vo, H4⟩ := colFr_open ((Own.pm (H4) (by repeat (first | with_reducible exact Pm.refl _ | with_reducible exact Pm.nil _ | with_reducible refine Pm.here ?_ | with_reducible refine Pm.at2 ?_ | with_reducible refine Pm.at3 ?_ | with_reducible refine Pm.at4 ?_ | with_reducible refine Pm.at5 ?_ | with_reducible refine Pm.at6 ?_ | with_reducible refine Pm.at7 ?_ | with_reducible refine Pm.at8 ?_ | with_reducible refine Pm.skip ?_))) : Own ε W2 (colFr sb new :: capC cb (.slice A0 row.length cap) :: ownL (.slice A0 row.length cap) (blks row) :: ents row :: pts l _ :: pts D _ :: R))
    refine ⟨hv, .inl ⟨pts sb _ :: ownL vo (blks new) :: ents new :: capC cb (.slice A0 row.length cap) :: ownL (.slice A0 row.length cap) (blks row) :: ents row :: R, (Own.pm (H4) (by repeat (first | with_reducible exact Pm.refl _ | with_reducible exact Pm.nil _ | with_reducible refine Pm.here ?_ | with_reducible refine Pm.at2 ?_ | with_reducible refine Pm.at3 ?_ | with_reducible refine Pm.at4 ?_ | with_reducible refine Pm.at5 ?_ | with_reducible refine Pm.at6 ?_ | with_reducible refine Pm.at7 ?_ | with_reducible refine Pm.at8 ?_ | with_reducible refine Pm.skip ?_))), ?_⟩⟩
    clear H4
    intro W3 H5
    have HH := Lib.hid H5
    have hK := H5.blk
    clear H5
    (try clear cc1_); (try clear cc2_); (try clear cc3_); (try clear cc4_); (try clear cc5_); (try clear cc6_); (try clear cc7_)
    have cc2_ := HH.out.r2.cells
    go_wp2_with fail
    refine ⟨by simp, .inl ⟨_, _, rfl, run_takeDeferred hK, ?_⟩⟩
    refine ⟨_, results_tmp rfl _ _ _, vo, rfl, new, hfg, ?_⟩
    exact (HH.out.putObj (.deferred none)).tail.tail
  case hY =>
    clear HH
    intro new e nb W1 hnl H4
    obtain ⟨_, ⟨pn, ps, p3, p4, p5, p6, p7⟩, o⟩ := e
    simp only at H4 ⊢
    refine yieldAt_own (A := capC cb (.slice A0 row.length cap) :: ownL (.slice A0 row.length cap) (blks row) :: ents row :: pts nb (En.obj ⟨nb, ⟨pn, ps, p3, p4, p5, p6, p7⟩, o⟩) :: colFr sb new :: pts D (.deferred (some [])) :: R) ?hs (Own.pm (H4) (by repeat (first | with_reducible exact Pm.refl _ | with_reducible exact Pm.nil _ | with_reducible refine Pm.here ?_ | with_reducible refine Pm.at2 ?_ | with_reducible refine Pm.at3 ?_ | with_reducible refine Pm.at4 ?_ | with_reducible refine Pm.at5 ?_ | with_reducible refine Pm.at6 ?_ | with_reducible refine Pm.at7 ?_ | with_reducible refine Pm.at8 ?_ | with_reducible refine Pm.skip ?_))) ?_
    case hs => rfl
    have HH := Lib.hid ((Own.pm (H4) (by repeat (first | with_reducible exact Pm.refl _ | with_reducible exact Pm.nil _ | with_reducible refine Pm.here ?_ | with_reducible refine Pm.at2 ?_ | with_reducible refine Pm.at3 ?_ | with_reducible refine Pm.at4 ?_ | with_reducible refine Pm.at5 ?_ | with_reducible refine Pm.at6 ?_ | with_reducible refine Pm.at7 ?_ | with_reducible refine Pm.at8 ?_ | with_reducible refine Pm.skip ?_))) : Own ε W1 (colFr sb new :: pts nb (En.obj ⟨nb, ⟨pn, ps, p3, p4, p5, p6, p7⟩, o⟩) :: pts l _ :: pts D _ :: capC cb (.slice A0 row.length cap) :: ownL (.slice A0 row.length cap) (blks row) :: ents row :: R))
    clear H4
    gi_wp2
    refine ⟨colFr sb new :: pts nb (En.obj ⟨nb, ⟨pn, ps, p3, p4, p5, p6, p7⟩, o⟩) :: pts D _ :: capC cb (.slice A0 row.length cap) :: ownL (.slice A0 row.length cap) (blks row) :: ents row :: R, (Own.pm (HH.out) (by repeat (first | with_reducible exact Pm.refl _ | with_reducible exact Pm.nil _ | with_reducible refine Pm.here ?_ | with_reducible refine Pm.at2 ?_ | with_reducible refine Pm.at3 ?_ | with_reducible refine Pm.at4 ?_ | with_reducible refine Pm.at5 ?_ | with_reducible refine Pm.at6 ?_ | with_reducible refine Pm.at7 ?_ | with_reducible refine Pm.at8 ?_ | with_reducible refine Pm.skip ?_))), ?_⟩
    clear HH
    intro W2 H5
    obtain ⟨vo, H5⟩ := colFr_open ((Own.pm (H5) (by repeat (first | with_reducible exact Pm.refl _ | with_reducible exact Pm.nil _ | with_reducible refine Pm.here ?_ | with_reducible refine Pm.at2 ?_ | with_reducible refine Pm.at3 ?_ | with_reducible refine Pm.at4 ?_ | with_reducible refine Pm.at5 ?_ | with_reducible refine Pm.at6 ?_ | with_reducible refine Pm.at7 ?_ | with_reducible refine Pm.at8 ?_ | with_reducible refine Pm.skip ?_))) : Own ε W2 (colFr sb new :: pts nb (En.obj ⟨nb, ⟨pn, ps, p3, p4, p5, p6, p7⟩, o⟩) :: pts l _ :: pts D _ :: capC cb (.slice A0 row.length cap) :: ownL (.slice A0 row.length cap) (blks row) :: ents row :: R))
    have HH := Lib.hid ((Own.pm (H5) (by repeat (first | with_reducible exact Pm.refl _ | with_reducible exact Pm.nil _ | with_reducible refine Pm.here ?_ | with_reducible refine Pm.at2 ?_ | with_reducible refine Pm.at3 ?_ | with_reducible refine Pm.at4 ?_ | with_reducible refine Pm.at5 ?_ | with_reducible refine Pm.at6 ?_ | with_reducible refine Pm.at7 ?_ | with_reducible refine Pm.at8 ?_ | with_reducible refine Pm.skip ?_))) : Own ε W2 (ownL vo (blks new) :: pts sb _ :: ents new :: pts nb (En.obj ⟨nb, ⟨pn, ps, p3, p4, p5, p6, p7⟩, o⟩) :: pts l _ :: pts D _ :: capC cb (.slice A0 row.length cap) :: ownL (.slice A0 row.length cap) (blks row) :: ents row :: R))
    clear H5
    have hpl : (ptrs (blks new)).length = new.length * 1 := by simp [ptrs]
    have hn9 : new.length ≤ 1000000 := by omega
    (try clear cc1_); (try clear cc2_); (try clear cc3_); (try clear cc4_); (try clear cc5_); (try clear cc6_); (try clear cc7_)
    have cc2_ := HH.out.r2.cells
    (try (with_reducible refine in_back ?_)); gi_wp2_with (with_reducible refine stopI_bs ?_)
    refine Stop.go ?_
    refine in_of_list rfl (fun _ h => nomatch h) ?_
    refine wpList_bs1_own HH.out #[_] 1 8 Try.underlying89 (by kernel_rfl) (by decide) (by decide) rfl rfl ?_
    intro g_ w2_ H9_
    replace HH := Lib.hid H9_
    clear H9_
    (try (with_reducible refine in_back ?_)); gi_wp2_with (with_reducible refine stopI_app ?_)
    refine Stop.go ?_
    refine in_of_list rfl (fun _ h => nomatch h) ?_
    refine wpList_app1_own rfl _ _ 89 rfl 75 1 8 Try.underlying89 (by kernel_rfl) (by decide) (new.length) rfl rfl HH.out (hpl) rfl (by repeat (first | (refine List.forall_mem_cons.2 ⟨(by first | with_reducible assumption | rfl), ?_⟩) | exact fun _ h => absurd h List.not_mem_nil)) (by simp only [maxLen]; omega) (by omega) ?_
    intro v5 w3_ H9_
    obtain ⟨A_v5, n_v5, c_v5, rfl⟩ := H9_.slc_isv
    replace HH := Lib.hid H9_
    clear H9_
    with_reducible refine in_back ?_
    (try (with_reducible refine in_back ?_)); gi_wp2_with (with_reducible refine stopI_st ?_)
    refine Stop.go ?_
    refine in_of_list rfl (fun _ h => nomatch h) ?_
    refine wpList_store1_own (v := .slice A_v5 n_v5 c_v5) (k := 0) rfl rfl HH.out.r2 (by kernel_rfl) (by simp) (by first | rfl | assumption) ?_
    intro w4_ H9_
    replace HH := Lib.hid H9_
    clear H9_
    simp only [List.setIfInBounds_toArray, List.set_cons_zero] at HH
    with_reducible refine in_back ?_
    gi_wp2
    have H6 := show Own ε _ (pts sb (.cells #[.slice A_v5 n_v5 c_v5] 89 (0, 0)) :: slc 75 1 (.slice A_v5 n_v5 c_v5) (ptrs (blks new) ++ [.pointer (some ⟨nb, 0, none⟩)]) :: _) from HH.out
    clear HH
    rw [show ptrs (blks new) ++ [Value.pointer (some ⟨nb, 0, none⟩)] = ptrs (blks (new ++ [⟨nb, ⟨pn, ps, p3, p4, p5, p6, p7⟩, o⟩])) by simp [ptrs]] at H6
    have H7 := ((Own.pm (H6) (by repeat (first | with_reducible exact Pm.refl _ | with_reducible exact Pm.nil _ | with_reducible refine Pm.here ?_ | with_reducible refine Pm.at2 ?_ | with_reducible refine Pm.at3 ?_ | with_reducible refine Pm.at4 ?_ | with_reducible refine Pm.at5 ?_ | with_reducible refine Pm.at6 ?_ | with_reducible refine Pm.at7 ?_ | with_reducible refine Pm.at8 ?_ | with_reducible refine Pm.skip ?_))) : Own ε _ (pts nb (En.obj ⟨nb, ⟨pn, ps, p3, p4, p5, p6, p7⟩, o⟩) :: ents new :: pts sb (.cells #[.slice A_v5 n_v5 c_v5] 89 (0, 0)) :: ownL (.slice A_v5 n_v5 c_v5) (blks (new ++ [⟨nb, ⟨pn, ps, p3, p4, p5, p6, p7⟩, o⟩])) :: pts l _ :: pts D _ :: capC cb (.slice A0 row.length cap) :: ownL (.slice A0 row.length cap) (blks row) :: ents row :: R))
    have H8 := Own.ents_snoc (e := ⟨nb, ⟨pn, ps, p3, p4, p5, p6, p7⟩, o⟩) H7
    have H9 := colFr_mk (v := .slice A_v5 n_v5 c_v5) (H8.l3)
    clear H6 H7 H8
    refine ⟨colFr sb (new ++ [⟨nb, ⟨pn, ps, p3, p4, p5, p6, p7⟩, o⟩]) :: pts D _ :: capC cb (.slice A0 row.length cap) :: ownL (.slice A0 row.length cap) (blks row) :: ents row :: R, (Own.pm (H9) (by repeat (first | with_reducible exact Pm.refl _ | with_reducible exact Pm.nil _ | with_reducible refine Pm.here ?_ | with_reducible refine Pm.at2 ?_ | with_reducible refine Pm.at3 ?_ | with_reducible refine Pm.at4 ?_ | with_reducible refine Pm.at5 ?_ | with_reducible refine Pm.at6 ?_ | with_reducible refine Pm.at7 ?_ | with_reducible refine Pm.at8 ?_ | with_reducible refine Pm.skip ?_))), ?_⟩
    clear H9
    intro W6 H6
    exact ⟨rfl, (Own.pm (H6) (by repeat (first | with_reducible exact Pm.refl _ | with_reducible exact Pm.nil _ | with_reducible refine Pm.here ?_ | with_reducible refine Pm.at2 ?_ | with_reducible refine Pm.at3 ?_ | with_reducible refine Pm.at4 ?_ | with_reducible refine Pm.at5 ?_ | with_reducible refine Pm.at6 ?_ | with_reducible refine Pm.at7 ?_ | with_reducible refine Pm.at8 ?_ | with_reducible refine Pm.skip ?_)))⟩
theorem collect_c (cb : Nat) (A0 : Option Addr) (cap : Nat) (row : List En) (hm : row.length ≤ 1000000) (H : Own ε w (capC cb (.slice A0 row.length cap) :: ownL (.slice A0 row.length cap) (blks row) :: ents row :: R)) :
    Calls Try.prog 45 #[.func (.func 46) #[] #[.pointer (some ⟨cb, 0, none⟩)]] w fun e w' => ∃ v new, ∃ _ : fg new = fg row, e = .returned v ∧ Own ε w' (ownL v (blks new) :: ents new :: capC cb (.slice A0 row.length cap) :: ownL (.slice A0 row.length cap) (blks row) :: ents row :: R) := by
  have HH := Lib.hid H; clear H
  go_enter Try.func45, Try.ntmps45
  go_wp2_with fail
  refine (appSeq_c ε _ _ 0 cb A0 cap row hm HH.out).mono ?_
  rintro e w5_ ⟨v, new, hfg, rfl, H9_⟩
  replace HH := Lib.hid H9_
  clear H9_
  replace hfg := Lib.hid hfg
  go_wp2_with fail
  go_ret
  exact ⟨_, new, hfg.out, rfl, HH.out⟩
theorem ledClone_nil : Calls Try.prog 20 #[.pointer none] w fun e w' => e = .returned (.pointer none) ∧ w = w' := by
  go_enter Try.func20, Try.ntmps20
  go_wp2_with fail
  go_ret
  exact ⟨rfl, rfl⟩
set_option maxRecDepth 100000 in
set_option maxHeartbeats 1600000 in
theorem ledClone_c (s : Led) (hm : s.row.length ≤ 1000000) (H : Own ε w (led b s :: R)) :
    Calls Try.prog 20 #[.pointer (some ⟨b, 0, none⟩)] w fun e w' => ∃ c new, ∃ _ : fg new = fg s.row, e = .returned (.pointer (some ⟨c, 0, none⟩)) ∧ Own ε w' (led c { s with row := new } :: led b s :: R) := by
  obtain ⟨rb, H⟩ := H.led_open
  obtain ⟨re, next, top, sm, row⟩ := s
  simp only at hm H ⊢
  have HH := Lib.hid H; clear H
  replace hm := Lib.hid hm
  go_enter Try.func20, Try.ntmps20
  (try clear cc1_); (try clear cc2_); (try clear cc3_); (try clear cc4_); (try clear cc5_); (try clear cc6_); (try clear cc7_)
  have cc1_ := HH.out.cells
  go_wp2_with (with_reducible refine stop_al ?_)
  refine Stop.go ?_
  refine wpList_alloc_own HH.out [.pointer none, .int .u64 0, .int .u64 0, .int .u64 0, .bool false] (by kernel_rfl) ?_
  intro xb w6_ H9_
  replace HH := Lib.hid H9_
  clear H9_
  go_wp2_with (with_reducible refine stop_st ?_)
  refine Stop.go ?_
  refine wpList_store_own _ #[_, _, _, _, _] rfl rfl HH.out (by kernel_rfl) rfl (by repeat (first | (refine List.forall_mem_cons.2 ⟨(by first | with_reducible assumption | rfl), ?_⟩) | exact fun _ h => absurd h List.not_mem_nil)) ?_
  intro w7_ H9_
  replace HH := Lib.hid H9_
  clear H9_
  (try clear cc1_); (try clear cc2_); (try clear cc3_); (try clear cc4_); (try clear cc5_); (try clear cc6_); (try clear cc7_)
  have cc1_ := HH.out.cells
  have cc2_ := HH.out.r2.cells
  go_wp2_with fail
  refine (rlAll_c ε _ _ rb (blks row) HH.out.r3).mono ?_
  rintro e w8_ ⟨v, rfl, H9_⟩
  replace HH := Lib.hid H9_
  clear H9_
  obtain ⟨A0, cap, rfl, _, _⟩ := own_there HH.out
  have e8 : (blks row).length = row.length := by simp
  rw [e8] at HH ⊢
  clear e8
  replace HH := Lib.hid ((Own.pm (HH.out) (by repeat (first | with_reducible exact Pm.refl _ | with_reducible exact Pm.nil _ | with_reducible refine Pm.here ?_ | with_reducible refine Pm.at2 ?_ | with_reducible refine Pm.at3 ?_ | with_reducible refine Pm.at4 ?_ | with_reducible refine Pm.at5 ?_ | with_reducible refine Pm.at6 ?_ | with_reducible refine Pm.at7 ?_ | with_reducible refine Pm.at8 ?_ | with_reducible refine Pm.skip ?_))) : Own ε _ (pts xb _ :: ownL (.slice A0 row.length cap) (blks row) :: ents row :: ledN b rb ⟨re, next, top, sm, row⟩ :: ringL rb (blks row) :: R))
  go_wp2_with (with_reducible refine stop_al ?_)
  refine Stop.go ?_
  refine wpList_alloc_own HH.out [.slice none 0 0] (by kernel_rfl) ?_
  intro cb w9_ H9_
  replace HH := Lib.hid H9_
  clear H9_
  go_wp2_with (with_reducible refine stop_st ?_)
  refine Stop.go ?_
  refine wpList_store1_own (v := .slice A0 row.length cap) (k := 0) rfl rfl HH.out (by kernel_rfl) (by simp) (by first | rfl | assumption) ?_
  intro w10_ H9_
  replace HH := Lib.hid H9_
  clear H9_
  simp only [List.setIfInBounds_toArray, List.set_cons_zero] at HH
  go_wp2_with fail
  refine (collect_c ε _ _ cb A0 cap row hm.out ((Own.pm (HH.out) (by repeat (first | with_reducible exact Pm.refl _ | with_reducible exact Pm.nil _ | with_reducible refine Pm.here ?_ | with_reducible refine Pm.at2 ?_ | with_reducible refine Pm.at3 ?_ | with_reducible refine Pm.at4 ?_ | with_reducible refine Pm.at5 ?_ | with_reducible refine Pm.at6 ?_ | with_reducible refine Pm.at7 ?_ | with_reducible refine Pm.at8 ?_ | with_reducible refine Pm.skip ?_))) : Own ε _ (capC cb (.slice A0 row.length cap) :: ownL (.slice A0 row.length cap) (blks row) :: ents row :: pts xb _ :: ledN b rb ⟨re, next, top, sm, row⟩ :: ringL rb (blks row) :: R))).mono ?_
  rintro e w11_ ⟨v2, new, hfg, rfl, H9_⟩
  replace HH := Lib.hid H9_
  clear H9_
  have hnl := fg_len hfg
  replace hfg := Lib.hid hfg
  obtain ⟨A2, c2, rfl, _, _⟩ := own_there HH.out
  have e8 : (blks new).length = new.length := by simp
  rw [e8] at HH ⊢
  have hn9 : new.length ≤ 1000000 := by have := hm.out; omega
  replace hnl := Lib.hid hnl
  replace HH := Lib.hid ((Own.pm (HH.out) (by repeat (first | with_reducible exact Pm.refl _ | with_reducible exact Pm.nil _ | with_reducible refine Pm.here ?_ | with_reducible refine Pm.at2 ?_ | with_reducible refine Pm.at3 ?_ | with_reducible refine Pm.at4 ?_ | with_reducible refine Pm.at5 ?_ | with_reducible refine Pm.at6 ?_ | with_reducible refine Pm.at7 ?_ | with_reducible refine Pm.at8 ?_ | with_reducible refine Pm.skip ?_))) : Own ε _ (ownL (.slice A2 new.length c2) (blks new) :: ents new :: pts xb _ :: ledN b rb ⟨re, next, top, sm, row⟩ :: ringL rb (blks row) :: ents row :: R))
  go_wp2_with fail
  refine (rlNew_c ε _ _ (blks new) A2 new.length c2 e8 (fun wx Hx => own_src Hx) hn9 HH.out).mono ?_
  rintro e w12_ ⟨rb2, rfl, H9_⟩
  replace HH := Lib.hid H9_
  clear H9_
  clear e8 hn9
  replace HH := Lib.hid ((Own.pm (HH.out) (by repeat (first | with_reducible exact Pm.refl _ | with_reducible exact Pm.nil _ | with_reducible refine Pm.here ?_ | with_reducible refine Pm.at2 ?_ | with_reducible refine Pm.at3 ?_ | with_reducible refine Pm.at4 ?_ | with_reducible refine Pm.at5 ?_ | with_reducible refine Pm.at6 ?_ | with_reducible refine Pm.at7 ?_ | with_reducible refine Pm.at8 ?_ | with_reducible refine Pm.skip ?_))) : Own ε _ (pts xb _ :: ringL rb2 (blks new) :: ents new :: ledN b rb ⟨re, next, top, sm, row⟩ :: ringL rb (blks row) :: ents row :: R))
  (try clear cc1_); (try clear cc2_); (try clear cc3_); (try clear cc4_); (try clear cc5_); (try clear cc6_); (try clear cc7_)
  have cc1_ := HH.out.cells
  go_wp2_with (with_reducible refine stop_st ?_)
  refine Stop.go ?_
  refine wpList_store1_own (v := .pointer (some ⟨rb2, 0, none⟩)) (k := 0) rfl rfl HH.out (by kernel_rfl) (by simp) (by first | rfl | assumption) ?_
  intro w13_ H9_
  replace HH := Lib.hid H9_
  clear H9_
  simp only [List.setIfInBounds_toArray, List.set_cons_zero] at HH
  go_wp2_with fail
  go_ret
  refine ⟨xb, new, hfg.out, rfl, ?_⟩
  have H8 := Own.led_mk (s := ⟨re, next, top, sm, new⟩) HH.out
  have H9 := Own.led_mk (s := ⟨re, next, top, sm, row⟩) ((Own.pm (H8) (by repeat (first | with_reducible exact Pm.refl _ | with_reducible exact Pm.nil _ | with_reducible refine Pm.here ?_ | with_reducible refine Pm.at2 ?_ | with_reducible refine Pm.at3 ?_ | with_reducible refine Pm.at4 ?_ | with_reducible refine Pm.at5 ?_ | with_reducible refine Pm.at6 ?_ | with_reducible refine Pm.at7 ?_ | with_reducible refine Pm.at8 ?_ | with_reducible refine Pm.skip ?_))) : Own ε _ (ledN b rb ⟨re, next, top, sm, row⟩ :: ringL rb (blks row) :: ents row :: led xb ⟨re, next, top, sm, new⟩ :: R))
  exact H9.l2
end
end Go.Proofs.Ytlhncdbigjgmnaa
namespace Go.Proofs.Ytlhncdbigjgmnaa
open Go.RowKit
/-- Rows of bools, as cells. -/
def blr (l : List Bool) : List Value := l.map Value.bool
theorem blr_len (l : List Bool) : (blr l).length = l.length := List.length_map ..
theorem blr_at {l : List Bool} {i : Nat} {x : Bool} (h : l[i]? = some x) : (blr l)[i]? = some (.bool x) := by unfold blr; rw [List.getElem?_map, h]; rfl
theorem blr_set (l : List Bool) (i : Nat) (x : Bool) : (blr l).set i (.bool x) = blr (l.set i x) := by unfold blr; rw [List.map_set]
abbrev slcB (v : Value) (l : List Bool) : Asn := slc 4 1 v (blr l)
theorem blr_there {ε w : World} {R : List Asn} {v : Value} {l : List Bool} (H : Own ε w (slcB v l :: R)) : ∃ A c, v = .slice A l.length c ∧ ∀ i x, l[i]? = some x → ∃ g, A = some ⟨g, 0, none⟩ ∧ w.cell? ⟨g, i, none⟩ = some (.bool x) ∧ w.frozen? ⟨g, i, none⟩ = false := by
  rcases H.slc_val with ⟨rfl, h⟩ | ⟨g, n, c, rfl, _, _, h3, h4, h5⟩
  · have hl : l.length = 0 := by rw [← blr_len, h]; rfl
    rw [hl]
    refine ⟨none, 0, rfl, fun i x hx => ?_⟩
    have := (List.getElem?_eq_some_iff.1 hx).1
    omega
  · have hl : l.length = n := by rw [← blr_len]; omega
    subst hl
    exact ⟨_, c, rfl, fun i x hx => ⟨g, rfl, h4 i _ (blr_at hx), h5 i⟩⟩
abbrev psOf (q : List En) : List Pk := q.map (·.p)
abbrev osOf (q : List En) : List Bool := q.map (·.o)
abbrev rldN (b : Nat) (v1 v2 : Value) (m : RLd) : Asn := pts b (.cells #[.int .u64 m.re, v1, v2, .int .u64 m.top, .bool m.some] 55 (0, 0))
def rled (b : Nat) (m : RLd) : Asn := exA fun v : Value × Value => sep (rldN b v.1 v.2 m) (sep (slcP v.1 (psOf m.q)) (slcB v.2 (osOf m.q)))
section
variable {ε w : World} {R : List Asn} {b : Nat} {m : RLd}
theorem Own.rled_mk {v1 v2 : Value} (H : Own ε w (rldN b v1 v2 m :: slcP v1 (psOf m.q) :: slcB v2 (osOf m.q) :: R)) : Own ε w (rled b m :: R) :=
  Own.ex_mk (v1, v2) (Own.join (Own.under (L' := sep (slcP v1 (psOf m.q)) (slcB v2 (osOf m.q)) :: R) H fun _ q => sep_assoc1 q))
theorem Own.rled_open (H : Own ε w (rled b m :: R)) : ∃ A1 c1 A2 c2, Own ε w (rldN b (.slice A1 m.q.length c1) (.slice A2 m.q.length c2) m :: slcP (.slice A1 m.q.length c1) (psOf m.q) :: slcB (.slice A2 m.q.length c2) (osOf m.q) :: R) := by
  obtain ⟨⟨v1, v2⟩, H⟩ := H.ex
  have H2 := Own.under (L' := slcP v1 (psOf m.q) :: slcB v2 (osOf m.q) :: R) H.split fun _ q => sep_assoc2 q
  obtain ⟨A1, n, c1, rfl, _, _, hp⟩ := H2.r2.slcP_val
  obtain ⟨A2, c2, rfl, _⟩ := blr_there H2.r3
  obtain rfl : m.q.length = n := by rw [← hp.1, List.length_map]
  rw [List.length_map] at H2
  exact ⟨A1, c1, A2, c2, H2⟩
end
section
variable (ε w : World) (R : List Asn) (b : Nat)
set_option maxHeartbeats 1600000 in
theorem rSend_c (m : RLd) (hl : m.q.length ≤ 1000000) (size q1 q2 q3 q4 : Int) (q5 : Bool) (H : Own ε w (rled b m :: R)) :
    Calls Try.prog 40 #[.pointer (some ⟨b, 0, none⟩), .int .u64 size, .agg #[.int .u64 q1, .int .u64 q2, .int .u64 q3, .int .u64 q4, .bool q5]] w fun e w' => e = .returned (.int .u64 (m.q.length : Int)) ∧ Own ε w' (rled b (m.send size q1 q2 q3 q4 q5) :: R) := by
  obtain ⟨A1, c1, A2, c2, H⟩ := H.rled_open
  obtain ⟨re, q, top, sm⟩ := m
  simp only at hl H ⊢
  have HH := Lib.hid H; clear H
  obtain ⟨n, hn⟩ : ∃ n, n = q.length := ⟨_, rfl⟩
  rw [← hn] at HH hl ⊢
  obtain ⟨qn, hqn⟩ : ∃ qn, qn = q ++ [⟨0, ⟨(n : Int), size, q1, q2, q3, q4, q5⟩, true⟩] := ⟨_, rfl⟩
  rw [show (⟨re, q, top, sm⟩ : RLd).send size q1 q2 q3 q4 q5 = ⟨re, qn, top, sm⟩ by rw [hqn, hn]; rfl]
  replace hqn := Lib.hid hqn
  have hfl : (pks (psOf q)).flatten.length = n * 7 := by rw [flat_pks_len, List.length_map, hn]
  have hbl : (blr (osOf q)).length = n * 1 := by rw [blr_len, List.length_map, hn, Nat.mul_one]
  replace hn := Lib.hid hn
  have hwc : IntKind.u64.wrap ((n : Nat) : Int) = ((n : Nat) : Int) := by rw [IntKind.wrap_u64]; omega
  go_enter Try.func40, Try.ntmps40
  go_wp2_with (with_reducible refine stop_bx ?_)
  refine Stop.go ?_
  refine wpList_box_own HH.out [_, _, _, _, _] rfl ?_
  intro sp w1_ H9_
  replace HH := Lib.hid H9_
  clear H9_
  (try clear cc1_); (try clear cc2_); (try clear cc3_); (try clear cc4_); (try clear cc5_); (try clear cc6_); (try clear cc7_)
  have cc1_ := HH.out.cells
  have cc2_ := HH.out.r2.cells
  go_wp2_with fail
  refine wp_region_reg (some 10) HH.out (by kernel_rfl) ?_
  intro wm H9_
  replace HH := Lib.hid H9_
  clear H9_
  refine reg_p (i := 0) rfl (by kernel_rfl) (fun _ _ _ _ h => h) HH.out (fun K hK => ?_)
  go_simp
  first | (refine hK _ ?_; clear hK K) | (apply Exists.intro; refine ⟨?_, hK _ ?_⟩; (focus (intro wx; first | (go_simp; first | rfl) | rfl)); clear hK K)
  refine reg_p (i := 1) rfl (by kernel_rfl) (fun _ _ _ _ h => h) HH.out (fun K hK => ?_)
  go_simp
  first | (refine hK _ ?_; clear hK K) | (apply Exists.intro; refine ⟨?_, hK _ ?_⟩; (focus (intro wx; first | (go_simp; first | rfl) | rfl)); clear hK K)
  refine reg_p (i := 2) rfl (by kernel_rfl) (fun _ _ _ _ h => h) HH.out (fun K hK => ?_)
  go_simp
  first | (refine hK _ ?_; clear hK K) | (apply Exists.intro; refine ⟨?_, hK _ ?_⟩; (focus (intro wx; first | (go_simp; first | rfl) | rfl)); clear hK K)
  refine reg_p (i := 3) rfl (by kernel_rfl) (fun _ _ _ _ h => h) HH.out (fun K hK => ?_)
  go_simp
  first | (refine hK _ ?_; clear hK K) | (apply Exists.intro; refine ⟨?_, hK _ ?_⟩; (focus (intro wx; first | (go_simp; first | rfl) | rfl)); clear hK K)
  refine mixk_q (i := 4) rfl (by kernel_rfl) (fun _ _ _ _ h => h) HH.out (fun K hK => ?_)
  go_simp
  first | (refine hK _ ?_; clear hK K) | (apply Exists.intro; refine ⟨?_, hK _ ?_⟩; (focus (intro wx hx; have x1_ := hx.cells; have x2_ := hx.r2.cells; first | (go_simp; first | rfl | exact ⟨rfl, rfl⟩) | rfl | exact ⟨rfl, rfl⟩)); clear hK K)
  refine reg_p (i := 5) rfl (by kernel_rfl) (fun _ _ _ _ h => h) HH.out (fun K hK => ?_)
  go_simp
  first | (refine hK _ ?_; clear hK K) | (apply Exists.intro; refine ⟨?_, hK _ ?_⟩; (focus (intro wx; first | (go_simp; first | rfl) | rfl)); clear hK K)
  refine reg_p (i := 6) rfl (by kernel_rfl) (fun _ _ _ _ h => h) HH.out (fun K hK => ?_)
  go_simp
  first | (refine hK _ ?_; clear hK K) | (apply Exists.intro; refine ⟨?_, hK _ ?_⟩; (focus (intro wx; first | (go_simp; first | rfl) | rfl)); clear hK K)
  refine mixk_q (i := 7) rfl (by kernel_rfl) (fun _ _ _ _ h => h) HH.out (fun K hK => ?_)
  go_simp
  first | (refine hK _ ?_; clear hK K) | (apply Exists.intro; refine ⟨?_, hK _ ?_⟩; (focus (intro wx hx; have x1_ := hx.cells; have x2_ := hx.r2.cells; first | (go_simp; first | rfl | exact ⟨rfl, rfl⟩) | rfl | exact ⟨rfl, rfl⟩)); clear hK K)
  refine reg_p (i := 8) rfl (by kernel_rfl) (fun _ _ _ _ h => h) HH.out (fun K hK => ?_)
  go_simp
  first | (refine hK _ ?_; clear hK K) | (apply Exists.intro; refine ⟨?_, hK _ ?_⟩; (focus (intro wx; first | (go_simp; first | rfl) | rfl)); clear hK K)
  refine reg_l (some 10) (i := 9) rfl (by kernel_rfl) (fun wn hk K hK => ?_)
  replace HH := Lib.hid (hk _ _ HH.out)
  clear hk
  go_simp
  replace HH := Lib.hid (HH.out.alloc (.cells #[.int .u64 n, .int .u64 size, .int .u64 q1, .int .u64 q2, .int .u64 q3, .int .u64 q4, .bool q5] 50))
  generalize wn.alloc (.cells #[.int .u64 n, .int .u64 size, .int .u64 q1, .int .u64 q2, .int .u64 q3, .int .u64 q4, .bool q5] 50) = wm at *
  generalize wn.heap.size = sb at *
  refine hK _ _ _ HH.out (.inr ⟨rfl, fun _ h => h.tail⟩) ?_
  clear hK K
  refine reg_l (some 13) (i := 10) rfl (by kernel_rfl) (fun wn hk K hK => ?_)
  replace HH := Lib.hid (hk _ _ HH.out)
  clear hk
  refine want rfl (wp_append_slc _ _ 40 rfl 50 7 56 Try.underlying40 (by kernel_rfl) (by decide) rfl (HH.out.r4) rfl (hfl) ((show srcAt wn (some ⟨sb, 0, none⟩) 1 7 [.int .u64 n, .int .u64 size, .int .u64 q1, .int .u64 q2, .int .u64 q3, .int .u64 q4, .bool q5] from ⟨rfl, .inr ⟨sb, 0, rfl, fun j u hj => by rw [Nat.zero_add, HH.out.cells.1 j]; simpa using hj⟩⟩)) ((by repeat (first | (refine List.forall_mem_cons.2 ⟨(by first | with_reducible assumption | rfl), ?_⟩) | exact fun _ h => absurd h List.not_mem_nil))) (by simp only [maxLen]; omega) (by omega) ?_)
  intro v1 wm H9_
  obtain ⟨A_v1, n_v1, c_v1, rfl⟩ := H9_.slc_isv
  replace HH := Lib.hid H9_
  clear H9_
  refine hK _ _ _ HH.out (.inl (by kernel_rfl)) ?_
  clear hK K
  refine reg_p (i := 11) rfl (by kernel_rfl) (fun _ _ _ _ h => h) HH.out (fun K hK => ?_)
  go_simp
  first | (refine hK _ ?_; clear hK K) | (apply Exists.intro; refine ⟨?_, hK _ ?_⟩; (focus (intro wx; first | (go_simp; first | rfl) | rfl)); clear hK K)
  refine reg_p (i := 12) rfl (by kernel_rfl) (fun _ _ _ _ h => h) HH.out (fun K hK => ?_)
  go_simp
  first | (refine hK _ ?_; clear hK K) | (apply Exists.intro; refine ⟨?_, hK _ ?_⟩; (focus (intro wx; first | (go_simp; first | rfl) | rfl)); clear hK K)
  refine reg_l none (i := 13) rfl (by kernel_rfl) (fun wn hk K hK => ?_)
  replace HH := Lib.hid (hk _ _ HH.out)
  clear hk
  have hx := HH.out
  have x1_ := hx.r3.cells
  have x2_ := hx.r4.cells
  go_simp
  replace HH := Lib.hid (HH.out.r4.set 1 (.slice A_v1 n_v1 c_v1))
  simp only [List.setIfInBounds_toArray, List.set_cons_succ, List.set_cons_zero] at HH
  generalize wn.setCell ⟨b, 1, none⟩ (.slice A_v1 n_v1 c_v1) = wm at *
  clear hx x1_ x2_
  refine hK _ _ _ HH.out (.inl (by kernel_rfl)) ?_
  clear hK K
  refine mixk_done (by kernel_rfl) (fun w2_ hk => ?_) _
  replace HH := Lib.hid (hk _ _ HH.out)
  clear hk
  replace HH := Lib.hid ((Own.pm (HH.out) (by repeat (first | with_reducible exact Pm.refl _ | with_reducible exact Pm.nil _ | with_reducible refine Pm.here ?_ | with_reducible refine Pm.at2 ?_ | with_reducible refine Pm.at3 ?_ | with_reducible refine Pm.at4 ?_ | with_reducible refine Pm.at5 ?_ | with_reducible refine Pm.at6 ?_ | with_reducible refine Pm.at7 ?_ | with_reducible refine Pm.at8 ?_ | with_reducible refine Pm.skip ?_))) : Own _ _ (pts b _ :: slc 50 7 _ _ :: slcB _ _ :: R))
  (try clear cc1_); (try clear cc2_); (try clear cc3_); (try clear cc4_); (try clear cc5_); (try clear cc6_); (try clear cc7_)
  have cc1_ := HH.out.cells
  replace HH := Lib.hid HH.out.r3
  go_wp2_with (with_reducible refine stop_bs ?_)
  refine Stop.go ?_
  refine wpList_bs1_own HH.out #[_] 1 1 Try.underlying39 (by kernel_rfl) (by decide) (by decide) rfl rfl ?_
  intro g_ w3_ H9_
  replace HH := Lib.hid H9_
  clear H9_
  go_wp2_with (with_reducible refine stop_app ?_)
  refine Stop.go ?_
  refine wpList_app1_own rfl _ _ 39 rfl 4 1 1 Try.underlying39 (by kernel_rfl) (by decide) (n) rfl rfl HH.out (hbl) rfl (by repeat (first | (refine List.forall_mem_cons.2 ⟨(by first | with_reducible assumption | rfl), ?_⟩) | exact fun _ h => absurd h List.not_mem_nil)) (by simp only [maxLen]; omega) (by omega) ?_
  intro v2 w4_ H9_
  obtain ⟨A_v2, n_v2, c_v2, rfl⟩ := H9_.slc_isv
  replace HH := Lib.hid H9_
  clear H9_
  replace HH := Lib.hid ((Own.pm (HH.out) (by repeat (first | with_reducible exact Pm.refl _ | with_reducible exact Pm.nil _ | with_reducible refine Pm.here ?_ | with_reducible refine Pm.at2 ?_ | with_reducible refine Pm.at3 ?_ | with_reducible refine Pm.at4 ?_ | with_reducible refine Pm.at5 ?_ | with_reducible refine Pm.at6 ?_ | with_reducible refine Pm.at7 ?_ | with_reducible refine Pm.at8 ?_ | with_reducible refine Pm.skip ?_))) : Own ε _ (pts b _ :: slc 4 1 (.slice A_v2 n_v2 c_v2) _ :: slc 50 7 _ _ :: R))
  (try clear cc1_); (try clear cc2_); (try clear cc3_); (try clear cc4_); (try clear cc5_); (try clear cc6_); (try clear cc7_)
  have cc1_ := HH.out.cells
  go_wp2_with (with_reducible refine stop_st ?_)
  refine Stop.go ?_
  refine wpList_store1_own (v := .slice A_v2 n_v2 c_v2) (k := 2) rfl rfl HH.out (by kernel_rfl) (by simp) (by first | rfl | assumption) ?_
  intro w5_ H9_
  replace HH := Lib.hid H9_
  clear H9_
  simp only [List.setIfInBounds_toArray, List.set_cons_succ, List.set_cons_zero] at HH
  go_wp2_with fail
  go_ret
  refine ⟨rfl, Own.rled_mk (v1 := .slice A_v1 n_v1 c_v1) (v2 := .slice A_v2 n_v2 c_v2) ?_⟩
  have e1 : (pks (psOf q)).flatten ++ [Value.int .u64 n, .int .u64 size, .int .u64 q1, .int .u64 q2, .int .u64 q3, .int .u64 q4, .bool q5] = (pks (psOf qn)).flatten := by
    rw [hqn.out]
    unfold psOf
    rw [List.map_append]
    exact (flat_pks_snoc (q.map (·.p)) ⟨(n : Int), size, q1, q2, q3, q4, q5⟩).symm
  have e2 : blr (osOf q) ++ [Value.bool true] = blr (osOf qn) := by
    rw [hqn.out]
    unfold osOf blr
    simp
  have H9 := show Own ε _ (pts b (.cells #[.int .u64 re, .slice A_v1 n_v1 c_v1, .slice A_v2 n_v2 c_v2, .int .u64 top, .bool sm] 55 (0, 0)) :: slc 4 1 (.slice A_v2 n_v2 c_v2) (blr (osOf q) ++ [Value.bool true]) :: slc 50 7 (.slice A_v1 n_v1 c_v1) ((pks (psOf q)).flatten ++ [Value.int .u64 n, .int .u64 size, .int .u64 q1, .int .u64 q2, .int .u64 q3, .int .u64 q4, .bool q5]) :: R) from HH.out
  rw [e1, e2] at H9
  exact (Own.pm (H9) (by repeat (first | with_reducible exact Pm.refl _ | with_reducible exact Pm.nil _ | with_reducible refine Pm.here ?_ | with_reducible refine Pm.at2 ?_ | with_reducible refine Pm.at3 ?_ | with_reducible refine Pm.at4 ?_ | with_reducible refine Pm.at5 ?_ | with_reducible refine Pm.at6 ?_ | with_reducible refine Pm.at7 ?_ | with_reducible refine Pm.at8 ?_ | with_reducible refine Pm.skip ?_)))
def hasB (xs : List Rg) (n : Int) : Bool := xs.any fun r => decide (r.1 ≤ n) && decide (n ≤ r.2)
set_option maxHeartbeats 1600000 in
theorem rHas_c (xs : List Rg) (n : Int) (A : Option Addr) (len cap : Nat) (hA : itAt encRg 2 w A len xs) (hm : len ≤ 1000000) :
    Calls Try.prog 60 #[.slice A len cap, .int .u64 n] w fun e w' => e = .returned (.bool (hasB xs n)) ∧ w = w' := by
  have hlen := hA.1
  replace hA := Lib.hid hA
  obtain ⟨res, hres⟩ : ∃ res, res = hasB xs n := ⟨_, rfl⟩
  rw [← hres]
  replace hres := Lib.hid hres
  replace hlen := Lib.hid hlen
  go_enter Try.func60, Try.ntmps60
  go_wp2_with fail
  go_loopw [5] (fun i wr => ∃ k : Nat, k ≤ len ∧ i = .int .i64 k ∧ (xs.take k).any (fun r => decide (r.1 ≤ n) && decide (n ≤ r.2)) = false ∧ wr = w) (fun i _ => len - (intOf i).toNat)
  case atStart => exact ⟨0, Nat.zero_le _, rfl, rfl, rfl⟩
  case round =>
    obtain ⟨k, hk, rfl, hno, rfl⟩ := hrel
    replace hno := Lib.hid hno
    by_cases hlt : k < len
    · obtain ⟨g, off, x, rfl, hx, hcell⟩ := hA.out.get hlt
      have o0 := hcell 0 _ rfl
      have o1 := hcell 1 _ rfl
      simp only [Nat.add_zero] at o0
      clear hcell
      have hlti : (k : Int) < (len : Int) := by omega
      have hw2 : IntKind.i64.wrap ((k : Int) + 1) = ((k + 1 : Nat) : Int) := by rw [IntKind.wrap_i64]; omega
      have hnx : (xs.take (k + 1)).any (fun r => decide (r.1 ≤ n) && decide (n ≤ r.2)) = (decide (x.1 ≤ n) && decide (n ≤ x.2)) := by
        rw [take_next hx, List.any_append, hno.out]
        simp
      replace hx := Lib.hid hx
      replace hnx := Lib.hid hnx
      obtain ⟨x1, x2⟩ := x
      simp only at o0 o1
      by_cases h1 : x1 ≤ n
      · by_cases h2 : n ≤ x2
        · have hyes : res = true := by
            rw [hres.out]
            exact List.any_eq_true.2 ⟨(x1, x2), List.mem_of_getElem? hx.out, by simp [h1, h2]⟩
          go_wp2_with fail
          go_ret
          exact ⟨rfl, rfl⟩
        · go_wp2_with fail
          go_roundw
          case rel => exact ⟨k + 1, by omega, by go_num, by rw [hnx.out]; simp [h2], trivial⟩
          case measure => simp [intOf]; omega
      · go_wp2_with fail
        go_roundw
        case rel => exact ⟨k + 1, by omega, by go_num, by rw [hnx.out]; simp [h1], trivial⟩
        case measure => simp [intOf]; omega
    · have hkn : ¬ (k : Int) < (len : Int) := by omega
      have hno2 : res = false := by
        rw [hres.out]
        have := hno.out
        rw [show k = xs.length by rw [hlen.out]; omega, List.take_length] at this
        exact this
      go_wp2_with fail
      go_ret
      exact ⟨rfl, rfl⟩
end
end Go.Proofs.Ytlhncdbigjgmnaa
namespace Go.Proofs.Ytlhncdbigjgmnaa
open Go.RowKit
section
variable (ε w : World) (R : List Asn) (b : Nat)
set_option maxRecDepth 100000 in
set_option maxHeartbeats 3200000 in
theorem rlost1_c (v1 v2 : Value) (m : RLd) (h3 : U m.re) (now delay limit : Int) (h1 : U delay) (h2 : U limit) (p : Pk) (hp : p.Ok) (H : Own ε w (rldN b v1 v2 m :: R)) :
    Calls Try.prog 61 #[.pointer (some ⟨b, 0, none⟩), .agg #[.int .u64 p.n, .int .u64 p.size, .int .u64 p.sent, .int .u64 p.first, .int .u64 p.deliv, .int .u64 p.at', .bool p.lim], .int .u64 now, .int .u64 delay, .int .u64 limit] w fun e w' => e = .returned (.bool (lostB m.re m.top m.some now delay limit p)) ∧ Own ε w' (rldN b v1 v2 m :: R) := by
  obtain ⟨pn, ps, p3, p4, p5, p6, p7⟩ := p
  obtain ⟨u1, _, u3, _⟩ := hp
  simp only at u1 u3
  obtain ⟨re, q, top, sm⟩ := m
  simp only at h3 H ⊢
  unfold lostB
  simp only
  have HH := Lib.hid H; clear H
  replace h1 := Lib.hid h1
  replace h2 := Lib.hid h2
  replace h3 := Lib.hid h3
  replace u1 := Lib.hid u1
  replace u3 := Lib.hid u3
  by_cases ha : sadd p3 limit ≤ now
  · have da : decide (sadd p3 limit ≤ now) = true := decide_eq_true ha
    rw [da]
    go_enter Try.func61, Try.ntmps61
    go_wp2_with (with_reducible refine stop_bx ?_)
    refine Stop.go ?_
    refine wpList_box_own HH.out [_, _, _, _, _, _, _] rfl ?_
    intro pb w1_ H9_
    replace HH := Lib.hid H9_
    clear H9_
    (try clear cc1_); (try clear cc2_); (try clear cc3_); (try clear cc4_); (try clear cc5_); (try clear cc6_); (try clear cc7_)
    have cc1_ := HH.out.cells
    have cc2_ := HH.out.r2.cells
    go_wp2_with fail
    refine (refAdd_c _ p3 limit u3.out h2.out).mono ?_
    rintro e w2_ ⟨rfl, hbel⟩
    replace HH := Lib.hid ((by first | exact Kp.same hbel | exact Kp.drew hbel | exact Kp.below hbel : Kp _ w2_) _ _ (by first | exact HH.out | exact HH.out.drewN _ | exact (HH.out.alloc _).tail | exact ((HH.out.alloc _).drewN _).tail | exact ((HH.out.alloc _).alloc _).tail.tail))
    clear hbel
    go_wp2_with fail
    go_ret
    exact ⟨rfl, HH.out.tail⟩
  · have da : decide (sadd p3 limit ≤ now) = false := decide_eq_false ha
    rw [da]
    cases sm with
    | false =>
      go_enter Try.func61, Try.ntmps61
      go_wp2_with (with_reducible refine stop_bx ?_)
      refine Stop.go ?_
      refine wpList_box_own HH.out [_, _, _, _, _, _, _] rfl ?_
      intro pb w3_ H9_
      replace HH := Lib.hid H9_
      clear H9_
      (try clear cc1_); (try clear cc2_); (try clear cc3_); (try clear cc4_); (try clear cc5_); (try clear cc6_); (try clear cc7_)
      have cc1_ := HH.out.cells
      have cc2_ := HH.out.r2.cells
      go_wp2_with fail
      refine (refAdd_c _ p3 limit u3.out h2.out).mono ?_
      rintro e w4_ ⟨rfl, hbel⟩
      replace HH := Lib.hid ((by first | exact Kp.same hbel | exact Kp.drew hbel | exact Kp.below hbel : Kp _ w4_) _ _ (by first | exact HH.out | exact HH.out.drewN _ | exact (HH.out.alloc _).tail | exact ((HH.out.alloc _).drewN _).tail | exact ((HH.out.alloc _).alloc _).tail.tail))
      clear hbel
      (try clear cc1_); (try clear cc2_); (try clear cc3_); (try clear cc4_); (try clear cc5_); (try clear cc6_); (try clear cc7_)
      have cc1_ := HH.out.cells
      have cc2_ := HH.out.r2.cells
      go_wp2_with fail
      go_ret
      exact ⟨rfl, HH.out.tail⟩
    | true =>
      by_cases hb : sadd pn re ≤ top
      · have db' : decide (sadd pn re ≤ top) = true := decide_eq_true hb
        rw [db']
        go_enter Try.func61, Try.ntmps61
        go_wp2_with (with_reducible refine stop_bx ?_)
        refine Stop.go ?_
        refine wpList_box_own HH.out [_, _, _, _, _, _, _] rfl ?_
        intro pb w5_ H9_
        replace HH := Lib.hid H9_
        clear H9_
        (try clear cc1_); (try clear cc2_); (try clear cc3_); (try clear cc4_); (try clear cc5_); (try clear cc6_); (try clear cc7_)
        have cc1_ := HH.out.cells
        have cc2_ := HH.out.r2.cells
        go_wp2_with fail
        refine (refAdd_c _ p3 limit u3.out h2.out).mono ?_
        rintro e w6_ ⟨rfl, hbel⟩
        replace HH := Lib.hid ((by first | exact Kp.same hbel | exact Kp.drew hbel | exact Kp.below hbel : Kp _ w6_) _ _ (by first | exact HH.out | exact HH.out.drewN _ | exact (HH.out.alloc _).tail | exact ((HH.out.alloc _).drewN _).tail | exact ((HH.out.alloc _).alloc _).tail.tail))
        clear hbel
        (try clear cc1_); (try clear cc2_); (try clear cc3_); (try clear cc4_); (try clear cc5_); (try clear cc6_); (try clear cc7_)
        have cc1_ := HH.out.cells
        have cc2_ := HH.out.r2.cells
        go_wp2_with fail
        refine wp_region_reg none HH.out (by kernel_rfl) ?_
        intro wm H9_
        replace HH := Lib.hid H9_
        clear H9_
        refine reg_p (i := 0) rfl (by kernel_rfl) (fun _ _ _ _ h => h) HH.out (fun K hK => ?_)
        go_simp
        first | (refine hK _ ?_; clear hK K) | (apply Exists.intro; refine ⟨?_, hK _ ?_⟩; (focus (intro wx; first | (go_simp; first | rfl) | rfl)); clear hK K)
        refine mixk_q (i := 1) rfl (by kernel_rfl) (fun _ _ _ _ h => h) HH.out (fun K hK => ?_)
        go_simp
        first | (refine hK _ ?_; clear hK K) | (apply Exists.intro; refine ⟨?_, hK _ ?_⟩; (focus (intro wx hx; have x1_ := hx.cells; have x2_ := hx.r2.cells; first | (go_simp; first | rfl | exact ⟨rfl, rfl⟩) | rfl | exact ⟨rfl, rfl⟩)); clear hK K)
        refine reg_p (i := 2) rfl (by kernel_rfl) (fun _ _ _ _ h => h) HH.out (fun K hK => ?_)
        go_simp
        first | (refine hK _ ?_; clear hK K) | (apply Exists.intro; refine ⟨?_, hK _ ?_⟩; (focus (intro wx; first | (go_simp; first | rfl) | rfl)); clear hK K)
        refine reg_p (i := 3) rfl (by kernel_rfl) (fun _ _ _ _ h => h) HH.out (fun K hK => ?_)
        go_simp
        first | (refine hK _ ?_; clear hK K) | (apply Exists.intro; refine ⟨?_, hK _ ?_⟩; (focus (intro wx; first | (go_simp; first | rfl) | rfl)); clear hK K)
        refine reg_p (i := 4) rfl (by kernel_rfl) (fun _ _ _ _ h => h) HH.out (fun K hK => ?_)
        go_simp
        first | (refine hK _ ?_; clear hK K) | (apply Exists.intro; refine ⟨?_, hK _ ?_⟩; (focus (intro wx; first | (go_simp; first | rfl) | rfl)); clear hK K)
        refine mixk_q (i := 5) rfl (by kernel_rfl) (fun _ _ _ _ h => h) HH.out (fun K hK => ?_)
        go_simp
        first | (refine hK _ ?_; clear hK K) | (apply Exists.intro; refine ⟨?_, hK _ ?_⟩; (focus (intro wx hx; have x1_ := hx.cells; have x2_ := hx.r2.cells; first | (go_simp; first | rfl | exact ⟨rfl, rfl⟩) | rfl | exact ⟨rfl, rfl⟩)); clear hK K)
        refine mixk_q (i := 6) rfl (by kernel_rfl) (fun _ _ _ _ h => h) HH.out (fun K hK => ?_)
        go_simp
        first | (refine hK _ ?_; clear hK K) | (apply Exists.intro; refine ⟨?_, hK _ ?_⟩; (focus (intro wx hx; first | (first | (go_at_call 63; (with_reducible refine (refAdd_c wx pn re u1.out h3.out).mono ?_); rintro e wy ⟨rfl, hbel⟩; exact ⟨rfl, (by first | exact Kp.same hbel | exact Kp.drew hbel | exact Kp.below hbel : Kp wx wy)⟩)) | (go_simp; first | rfl | exact ⟨rfl, rfl⟩) | rfl | exact ⟨rfl, rfl⟩)); clear hK K)
        refine reg_p (i := 7) rfl (by kernel_rfl) (fun _ _ _ _ h => h) HH.out (fun K hK => ?_)
        go_simp
        first | (refine hK _ ?_; clear hK K) | (apply Exists.intro; refine ⟨?_, hK _ ?_⟩; (focus (intro wx; first | (go_simp; first | rfl) | rfl)); clear hK K)
        refine reg_p (i := 8) rfl (by kernel_rfl) (fun _ _ _ _ h => h) HH.out (fun K hK => ?_)
        go_simp
        first | (refine hK _ ?_; clear hK K) | (apply Exists.intro; refine ⟨?_, hK _ ?_⟩; (focus (intro wx; first | (go_simp; first | rfl) | rfl)); clear hK K)
        refine reg_p (i := 9) rfl (by kernel_rfl) (fun _ _ _ _ h => h) HH.out (fun K hK => ?_)
        go_simp
        first | (refine hK _ ?_; clear hK K) | (apply Exists.intro; refine ⟨?_, hK _ ?_⟩; (focus (intro wx; first | (go_simp; first | rfl) | rfl)); clear hK K)
        refine mixk_q (i := 10) rfl (by kernel_rfl) (fun _ _ _ _ h => h) HH.out (fun K hK => ?_)
        go_simp
        first | (refine hK _ ?_; clear hK K) | (apply Exists.intro; refine ⟨?_, hK _ ?_⟩; (focus (intro wx hx; have x1_ := hx.cells; have x2_ := hx.r2.cells; first | (go_simp; first | rfl | exact ⟨rfl, rfl⟩) | rfl | exact ⟨rfl, rfl⟩)); clear hK K)
        refine reg_p (i := 11) rfl (by kernel_rfl) (fun _ _ _ _ h => h) HH.out (fun K hK => ?_)
        go_simp
        first | (refine hK _ ?_; clear hK K) | (apply Exists.intro; refine ⟨?_, hK _ ?_⟩; (focus (intro wx; first | (go_simp; first | rfl) | rfl)); clear hK K)
        refine reg_p (i := 12) rfl (by kernel_rfl) (fun _ _ _ _ h => h) HH.out (fun K hK => ?_)
        go_simp
        first | (refine hK _ ?_; clear hK K) | (apply Exists.intro; refine ⟨?_, hK _ ?_⟩; (focus (intro wx; first | (go_simp; first | rfl) | rfl)); clear hK K)
        refine reg_p (i := 13) rfl (by kernel_rfl) (fun _ _ _ _ h => h) HH.out (fun K hK => ?_)
        go_simp
        first | (refine hK _ ?_; clear hK K) | (apply Exists.intro; refine ⟨?_, hK _ ?_⟩; (focus (intro wx; first | (go_simp; first | rfl) | rfl)); clear hK K)
        refine mixk_q (i := 14) rfl (by kernel_rfl) (fun _ _ _ _ h => h) HH.out (fun K hK => ?_)
        go_simp
        first | (refine hK _ ?_; clear hK K) | (apply Exists.intro; refine ⟨?_, hK _ ?_⟩; (focus (intro wx hx; have x1_ := hx.cells; have x2_ := hx.r2.cells; first | (go_simp; first | rfl | exact ⟨rfl, rfl⟩) | rfl | exact ⟨rfl, rfl⟩)); clear hK K)
        refine reg_p (i := 15) rfl (by kernel_rfl) (fun _ _ _ _ h => h) HH.out (fun K hK => ?_)
        go_simp
        first | (refine hK _ ?_; clear hK K) | (apply Exists.intro; refine ⟨?_, hK _ ?_⟩; (focus (intro wx; first | (go_simp; first | rfl) | rfl)); clear hK K)
        refine reg_p (i := 16) rfl (by kernel_rfl) (fun _ _ _ _ h => h) HH.out (fun K hK => ?_)
        go_simp
        first | (refine hK _ ?_; clear hK K) | (apply Exists.intro; refine ⟨?_, hK _ ?_⟩; (focus (intro wx; first | (go_simp; first | rfl) | rfl)); clear hK K)
        refine reg_p (i := 17) rfl (by kernel_rfl) (fun _ _ _ _ h => h) HH.out (fun K hK => ?_)
        go_simp
        first | (refine hK _ ?_; clear hK K) | (apply Exists.intro; refine ⟨?_, hK _ ?_⟩; (focus (intro wx; first | (go_simp; first | rfl) | rfl)); clear hK K)
        refine mixk_q (i := 18) rfl (by kernel_rfl) (fun _ _ _ _ h => h) HH.out (fun K hK => ?_)
        go_simp
        first | (refine hK _ ?_; clear hK K) | (apply Exists.intro; refine ⟨?_, hK _ ?_⟩; (focus (intro wx hx; have x1_ := hx.cells; have x2_ := hx.r2.cells; first | (go_simp; first | rfl | exact ⟨rfl, rfl⟩) | rfl | exact ⟨rfl, rfl⟩)); clear hK K)
        refine reg_p (i := 19) rfl (by kernel_rfl) (fun _ _ _ _ h => h) HH.out (fun K hK => ?_)
        go_simp
        first | (refine hK _ ?_; clear hK K) | (apply Exists.intro; refine ⟨?_, hK _ ?_⟩; (focus (intro wx; first | (go_simp; first | rfl) | rfl)); clear hK K)
        refine reg_p (i := 20) rfl (by kernel_rfl) (fun _ _ _ _ h => h) HH.out (fun K hK => ?_)
        go_simp
        first | (refine hK _ ?_; clear hK K) | (apply Exists.intro; refine ⟨?_, hK _ ?_⟩; (focus (intro wx; first | (go_simp; first | rfl) | rfl)); clear hK K)
        refine reg_p (i := 21) rfl (by kernel_rfl) (fun _ _ _ _ h => h) HH.out (fun K hK => ?_)
        go_simp
        first | (refine hK _ ?_; clear hK K) | (apply Exists.intro; refine ⟨?_, hK _ ?_⟩; (focus (intro wx; first | (go_simp; first | rfl) | rfl)); clear hK K)
        refine reg_p (i := 22) rfl (by kernel_rfl) (fun _ _ _ _ h => h) HH.out (fun K hK => ?_)
        go_simp
        first | (refine hK _ ?_; clear hK K) | (apply Exists.intro; refine ⟨?_, hK _ ?_⟩; (focus (intro wx; first | (go_simp; first | rfl) | rfl)); clear hK K)
        refine mixk_q (i := 23) rfl (by kernel_rfl) (fun _ _ _ _ h => h) HH.out (fun K hK => ?_)
        go_simp
        first | (refine hK _ ?_; clear hK K) | (apply Exists.intro; refine ⟨?_, hK _ ?_⟩; (focus (intro wx hx; have x1_ := hx.cells; have x2_ := hx.r2.cells; first | (go_simp; first | rfl | exact ⟨rfl, rfl⟩) | rfl | exact ⟨rfl, rfl⟩)); clear hK K)
        refine reg_p (i := 24) rfl (by kernel_rfl) (fun _ _ _ _ h => h) HH.out (fun K hK => ?_)
        go_simp
        first | (refine hK _ ?_; clear hK K) | (apply Exists.intro; refine ⟨?_, hK _ ?_⟩; (focus (intro wx; first | (go_simp; first | rfl) | rfl)); clear hK K)
        refine mixk_q (i := 25) rfl (by kernel_rfl) (fun _ _ _ _ h => h) HH.out (fun K hK => ?_)
        go_simp
        first | (refine hK _ ?_; clear hK K) | (apply Exists.intro; refine ⟨?_, hK _ ?_⟩; (focus (intro wx hx; first | (first | (go_at_call 63; (with_reducible refine (refAdd_c wx pn re u1.out h3.out).mono ?_); rintro e wy ⟨rfl, hbel⟩; exact ⟨rfl, (by first | exact Kp.same hbel | exact Kp.drew hbel | exact Kp.below hbel : Kp wx wy)⟩)) | (go_simp; first | rfl | exact ⟨rfl, rfl⟩) | rfl | exact ⟨rfl, rfl⟩)); clear hK K)
        refine reg_p (i := 26) rfl (by kernel_rfl) (fun _ _ _ _ h => h) HH.out (fun K hK => ?_)
        go_simp
        first | (refine hK _ ?_; clear hK K) | (apply Exists.intro; refine ⟨?_, hK _ ?_⟩; (focus (intro wx; first | (go_simp; first | rfl) | rfl)); clear hK K)
        refine reg_p (i := 27) rfl (by kernel_rfl) (fun _ _ _ _ h => h) HH.out (fun K hK => ?_)
        go_simp
        first | (refine hK _ ?_; clear hK K) | (apply Exists.intro; refine ⟨?_, hK _ ?_⟩; (focus (intro wx; first | (go_simp; first | rfl) | rfl)); clear hK K)
        refine reg_p (i := 28) rfl (by kernel_rfl) (fun _ _ _ _ h => h) HH.out (fun K hK => ?_)
        go_simp
        first | (refine hK _ ?_; clear hK K) | (apply Exists.intro; refine ⟨?_, hK _ ?_⟩; (focus (intro wx; first | (go_simp; first | rfl) | rfl)); clear hK K)
        refine reg_p (i := 29) rfl (by kernel_rfl) (fun _ _ _ _ h => h) HH.out (fun K hK => ?_)
        go_simp
        first | (refine hK _ ?_; clear hK K) | (apply Exists.intro; refine ⟨?_, hK _ ?_⟩; (focus (intro wx; first | (go_simp; first | rfl) | rfl)); clear hK K)
        refine reg_p (i := 30) rfl (by kernel_rfl) (fun _ _ _ _ h => h) HH.out (fun K hK => ?_)
        go_simp
        first | (refine hK _ ?_; clear hK K) | (apply Exists.intro; refine ⟨?_, hK _ ?_⟩; (focus (intro wx; first | (go_simp; first | rfl) | rfl)); clear hK K)
        refine mixk_done (by kernel_rfl) (fun w7_ hk => ?_) _
        replace HH := Lib.hid (hk _ _ HH.out)
        clear hk
        go_wp2_with fail
        go_ret
        exact ⟨rfl, HH.out.tail⟩
      · have db' : decide (sadd pn re ≤ top) = false := decide_eq_false hb
        rw [db']
        by_cases hc : pn < top
        · have dc : decide (pn < top) = true := decide_eq_true hc
          rw [dc]
          go_enter Try.func61, Try.ntmps61
          go_wp2_with (with_reducible refine stop_bx ?_)
          refine Stop.go ?_
          refine wpList_box_own HH.out [_, _, _, _, _, _, _] rfl ?_
          intro pb w8_ H9_
          replace HH := Lib.hid H9_
          clear H9_
          (try clear cc1_); (try clear cc2_); (try clear cc3_); (try clear cc4_); (try clear cc5_); (try clear cc6_); (try clear cc7_)
          have cc1_ := HH.out.cells
          have cc2_ := HH.out.r2.cells
          go_wp2_with fail
          refine (refAdd_c _ p3 limit u3.out h2.out).mono ?_
          rintro e w9_ ⟨rfl, hbel⟩
          replace HH := Lib.hid ((by first | exact Kp.same hbel | exact Kp.drew hbel | exact Kp.below hbel : Kp _ w9_) _ _ (by first | exact HH.out | exact HH.out.drewN _ | exact (HH.out.alloc _).tail | exact ((HH.out.alloc _).drewN _).tail | exact ((HH.out.alloc _).alloc _).tail.tail))
          clear hbel
          (try clear cc1_); (try clear cc2_); (try clear cc3_); (try clear cc4_); (try clear cc5_); (try clear cc6_); (try clear cc7_)
          have cc1_ := HH.out.cells
          have cc2_ := HH.out.r2.cells
          clear ha hb hc
          go_wp2_with fail
          refine wp_region_reg none HH.out (by kernel_rfl) ?_
          intro wm H9_
          replace HH := Lib.hid H9_
          clear H9_
          refine reg_p (i := 0) rfl (by kernel_rfl) (fun _ _ _ _ h => h) HH.out (fun K hK => ?_)
          go_simp
          first | (refine hK _ ?_; clear hK K) | (apply Exists.intro; refine ⟨?_, hK _ ?_⟩; (focus (intro wx; first | (go_simp; first | rfl) | rfl)); clear hK K)
          refine mixk_q (i := 1) rfl (by kernel_rfl) (fun _ _ _ _ h => h) HH.out (fun K hK => ?_)
          go_simp
          first | (refine hK _ ?_; clear hK K) | (apply Exists.intro; refine ⟨?_, hK _ ?_⟩; (focus (intro wx hx; have x1_ := hx.cells; have x2_ := hx.r2.cells; first | (go_simp; first | rfl | exact ⟨rfl, rfl⟩) | rfl | exact ⟨rfl, rfl⟩)); clear hK K)
          refine reg_p (i := 2) rfl (by kernel_rfl) (fun _ _ _ _ h => h) HH.out (fun K hK => ?_)
          go_simp
          first | (refine hK _ ?_; clear hK K) | (apply Exists.intro; refine ⟨?_, hK _ ?_⟩; (focus (intro wx; first | (go_simp; first | rfl) | rfl)); clear hK K)
          refine reg_p (i := 3) rfl (by kernel_rfl) (fun _ _ _ _ h => h) HH.out (fun K hK => ?_)
          go_simp
          first | (refine hK _ ?_; clear hK K) | (apply Exists.intro; refine ⟨?_, hK _ ?_⟩; (focus (intro wx; first | (go_simp; first | rfl) | rfl)); clear hK K)
          refine reg_p (i := 4) rfl (by kernel_rfl) (fun _ _ _ _ h => h) HH.out (fun K hK => ?_)
          go_simp
          first | (refine hK _ ?_; clear hK K) | (apply Exists.intro; refine ⟨?_, hK _ ?_⟩; (focus (intro wx; first | (go_simp; first | rfl) | rfl)); clear hK K)
          refine mixk_q (i := 5) rfl (by kernel_rfl) (fun _ _ _ _ h => h) HH.out (fun K hK => ?_)
          go_simp
          first | (refine hK _ ?_; clear hK K) | (apply Exists.intro; refine ⟨?_, hK _ ?_⟩; (focus (intro wx hx; have x1_ := hx.cells; have x2_ := hx.r2.cells; first | (go_simp; first | rfl | exact ⟨rfl, rfl⟩) | rfl | exact ⟨rfl, rfl⟩)); clear hK K)
          refine mixk_q (i := 6) rfl (by kernel_rfl) (fun _ _ _ _ h => h) HH.out (fun K hK => ?_)
          go_simp
          first | (refine hK _ ?_; clear hK K) | (apply Exists.intro; refine ⟨?_, hK _ ?_⟩; (focus (intro wx hx; first | (first | (go_at_call 63; (with_reducible refine (refAdd_c wx pn re u1.out h3.out).mono ?_); rintro e wy ⟨rfl, hbel⟩; exact ⟨rfl, (by first | exact Kp.same hbel | exact Kp.drew hbel | exact Kp.below hbel : Kp wx wy)⟩) | (go_at_call 63; (with_reducible refine (refAdd_c wx p3 delay u3.out h1.out).mono ?_); rintro e wy ⟨rfl, hbel⟩; exact ⟨rfl, (by first | exact Kp.same hbel | exact Kp.drew hbel | exact Kp.below hbel : Kp wx wy)⟩)) | (go_simp; first | rfl | exact ⟨rfl, rfl⟩) | rfl | exact ⟨rfl, rfl⟩)); clear hK K)
          refine reg_p (i := 7) rfl (by kernel_rfl) (fun _ _ _ _ h => h) HH.out (fun K hK => ?_)
          go_simp
          first | (refine hK _ ?_; clear hK K) | (apply Exists.intro; refine ⟨?_, hK _ ?_⟩; (focus (intro wx; first | (go_simp; first | rfl) | rfl)); clear hK K)
          refine reg_p (i := 8) rfl (by kernel_rfl) (fun _ _ _ _ h => h) HH.out (fun K hK => ?_)
          go_simp
          first | (refine hK _ ?_; clear hK K) | (apply Exists.intro; refine ⟨?_, hK _ ?_⟩; (focus (intro wx; first | (go_simp; first | rfl) | rfl)); clear hK K)
          refine reg_p (i := 9) rfl (by kernel_rfl) (fun _ _ _ _ h => h) HH.out (fun K hK => ?_)
          go_simp
          first | (refine hK _ ?_; clear hK K) | (apply Exists.intro; refine ⟨?_, hK _ ?_⟩; (focus (intro wx; first | (go_simp; first | rfl) | rfl)); clear hK K)
          refine mixk_q (i := 10) rfl (by kernel_rfl) (fun _ _ _ _ h => h) HH.out (fun K hK => ?_)
          go_simp
          first | (refine hK _ ?_; clear hK K) | (apply Exists.intro; refine ⟨?_, hK _ ?_⟩; (focus (intro wx hx; have x1_ := hx.cells; have x2_ := hx.r2.cells; first | (go_simp; first | rfl | exact ⟨rfl, rfl⟩) | rfl | exact ⟨rfl, rfl⟩)); clear hK K)
          refine reg_p (i := 11) rfl (by kernel_rfl) (fun _ _ _ _ h => h) HH.out (fun K hK => ?_)
          go_simp
          first | (refine hK _ ?_; clear hK K) | (apply Exists.intro; refine ⟨?_, hK _ ?_⟩; (focus (intro wx; first | (go_simp; first | rfl) | rfl)); clear hK K)
          refine reg_p (i := 12) rfl (by kernel_rfl) (fun _ _ _ _ h => h) HH.out (fun K hK => ?_)
          go_simp
          first | (refine hK _ ?_; clear hK K) | (apply Exists.intro; refine ⟨?_, hK _ ?_⟩; (focus (intro wx; first | (go_simp; first | rfl) | rfl)); clear hK K)
          refine reg_p (i := 13) rfl (by kernel_rfl) (fun _ _ _ _ h => h) HH.out (fun K hK => ?_)
          go_simp
          first | (refine hK _ ?_; clear hK K) | (apply Exists.intro; refine ⟨?_, hK _ ?_⟩; (focus (intro wx; first | (go_simp; first | rfl) | rfl)); clear hK K)
          refine mixk_q (i := 14) rfl (by kernel_rfl) (fun _ _ _ _ h => h) HH.out (fun K hK => ?_)
          go_simp
          first | (refine hK _ ?_; clear hK K) | (apply Exists.intro; refine ⟨?_, hK _ ?_⟩; (focus (intro wx hx; have x1_ := hx.cells; have x2_ := hx.r2.cells; first | (go_simp; first | rfl | exact ⟨rfl, rfl⟩) | rfl | exact ⟨rfl, rfl⟩)); clear hK K)
          refine reg_p (i := 15) rfl (by kernel_rfl) (fun _ _ _ _ h => h) HH.out (fun K hK => ?_)
          go_simp
          first | (refine hK _ ?_; clear hK K) | (apply Exists.intro; refine ⟨?_, hK _ ?_⟩; (focus (intro wx; first | (go_simp; first | rfl) | rfl)); clear hK K)
          refine reg_p (i := 16) rfl (by kernel_rfl) (fun _ _ _ _ h => h) HH.out (fun K hK => ?_)
          go_simp
          first | (refine hK _ ?_; clear hK K) | (apply Exists.intro; refine ⟨?_, hK _ ?_⟩; (focus (intro wx; first | (go_simp; first | rfl) | rfl)); clear hK K)
          refine reg_p (i := 17) rfl (by kernel_rfl) (fun _ _ _ _ h => h) HH.out (fun K hK => ?_)
          go_simp
          first | (refine hK _ ?_; clear hK K) | (apply Exists.intro; refine ⟨?_, hK _ ?_⟩; (focus (intro wx; first | (go_simp; first | rfl) | rfl)); clear hK K)
          refine mixk_q (i := 18) rfl (by kernel_rfl) (fun _ _ _ _ h => h) HH.out (fun K hK => ?_)
          go_simp
          first | (refine hK _ ?_; clear hK K) | (apply Exists.intro; refine ⟨?_, hK _ ?_⟩; (focus (intro wx hx; have x1_ := hx.cells; have x2_ := hx.r2.cells; first | (go_simp; first | rfl | exact ⟨rfl, rfl⟩) | rfl | exact ⟨rfl, rfl⟩)); clear hK K)
          refine reg_p (i := 19) rfl (by kernel_rfl) (fun _ _ _ _ h => h) HH.out (fun K hK => ?_)
          go_simp
          first | (refine hK _ ?_; clear hK K) | (apply Exists.intro; refine ⟨?_, hK _ ?_⟩; (focus (intro wx; first | (go_simp; first | rfl) | rfl)); clear hK K)
          refine reg_p (i := 20) rfl (by kernel_rfl) (fun _ _ _ _ h => h) HH.out (fun K hK => ?_)
          go_simp
          first | (refine hK _ ?_; clear hK K) | (apply Exists.intro; refine ⟨?_, hK _ ?_⟩; (focus (intro wx; first | (go_simp; first | rfl) | rfl)); clear hK K)
          refine reg_p (i := 21) rfl (by kernel_rfl) (fun _ _ _ _ h => h) HH.out (fun K hK => ?_)
          go_simp
          first | (refine hK _ ?_; clear hK K) | (apply Exists.intro; refine ⟨?_, hK _ ?_⟩; (focus (intro wx; first | (go_simp; first | rfl) | rfl)); clear hK K)
          refine reg_p (i := 22) rfl (by kernel_rfl) (fun _ _ _ _ h => h) HH.out (fun K hK => ?_)
          go_simp
          first | (refine hK _ ?_; clear hK K) | (apply Exists.intro; refine ⟨?_, hK _ ?_⟩; (focus (intro wx; first | (go_simp; first | rfl) | rfl)); clear hK K)
          refine mixk_q (i := 23) rfl (by kernel_rfl) (fun _ _ _ _ h => h) HH.out (fun K hK => ?_)
          go_simp
          first | (refine hK _ ?_; clear hK K) | (apply Exists.intro; refine ⟨?_, hK _ ?_⟩; (focus (intro wx hx; have x1_ := hx.cells; have x2_ := hx.r2.cells; first | (go_simp; first | rfl | exact ⟨rfl, rfl⟩) | rfl | exact ⟨rfl, rfl⟩)); clear hK K)
          refine reg_p (i := 24) rfl (by kernel_rfl) (fun _ _ _ _ h => h) HH.out (fun K hK => ?_)
          go_simp
          first | (refine hK _ ?_; clear hK K) | (apply Exists.intro; refine ⟨?_, hK _ ?_⟩; (focus (intro wx; first | (go_simp; first | rfl) | rfl)); clear hK K)
          refine mixk_q (i := 25) rfl (by kernel_rfl) (fun _ _ _ _ h => h) HH.out (fun K hK => ?_)
          go_simp
          first | (refine hK _ ?_; clear hK K) | (apply Exists.intro; refine ⟨?_, hK _ ?_⟩; (focus (intro wx hx; first | (first | (go_at_call 63; (with_reducible refine (refAdd_c wx pn re u1.out h3.out).mono ?_); rintro e wy ⟨rfl, hbel⟩; exact ⟨rfl, (by first | exact Kp.same hbel | exact Kp.drew hbel | exact Kp.below hbel : Kp wx wy)⟩) | (go_at_call 63; (with_reducible refine (refAdd_c wx p3 delay u3.out h1.out).mono ?_); rintro e wy ⟨rfl, hbel⟩; exact ⟨rfl, (by first | exact Kp.same hbel | exact Kp.drew hbel | exact Kp.below hbel : Kp wx wy)⟩)) | (go_simp; first | rfl | exact ⟨rfl, rfl⟩) | rfl | exact ⟨rfl, rfl⟩)); clear hK K)
          refine reg_p (i := 26) rfl (by kernel_rfl) (fun _ _ _ _ h => h) HH.out (fun K hK => ?_)
          go_simp
          first | (refine hK _ ?_; clear hK K) | (apply Exists.intro; refine ⟨?_, hK _ ?_⟩; (focus (intro wx; first | (go_simp; first | rfl) | rfl)); clear hK K)
          refine reg_p (i := 27) rfl (by kernel_rfl) (fun _ _ _ _ h => h) HH.out (fun K hK => ?_)
          go_simp
          first | (refine hK _ ?_; clear hK K) | (apply Exists.intro; refine ⟨?_, hK _ ?_⟩; (focus (intro wx; first | (go_simp; first | rfl) | rfl)); clear hK K)
          refine reg_p (i := 28) rfl (by kernel_rfl) (fun _ _ _ _ h => h) HH.out (fun K hK => ?_)
          go_simp
          first | (refine hK _ ?_; clear hK K) | (apply Exists.intro; refine ⟨?_, hK _ ?_⟩; (focus (intro wx; first | (go_simp; first | rfl) | rfl)); clear hK K)
          refine reg_p (i := 29) rfl (by kernel_rfl) (fun _ _ _ _ h => h) HH.out (fun K hK => ?_)
          go_simp
          first | (refine hK _ ?_; clear hK K) | (apply Exists.intro; refine ⟨?_, hK _ ?_⟩; (focus (intro wx; first | (go_simp; first | rfl) | rfl)); clear hK K)
          refine reg_p (i := 30) rfl (by kernel_rfl) (fun _ _ _ _ h => h) HH.out (fun K hK => ?_)
          go_simp
          first | (refine hK _ ?_; clear hK K) | (apply Exists.intro; refine ⟨?_, hK _ ?_⟩; (focus (intro wx; first | (go_simp; first | rfl) | rfl)); clear hK K)
          refine mixk_done (by kernel_rfl) (fun w10_ hk => ?_) _
          replace HH := Lib.hid (hk _ _ HH.out)
          clear hk
          go_wp2_with fail
          go_ret
          exact ⟨by simp, HH.out.tail⟩
        · have dc : decide (pn < top) = false := decide_eq_false hc
          rw [dc]
          go_enter Try.func61, Try.ntmps61
          go_wp2_with (with_reducible refine stop_bx ?_)
          refine Stop.go ?_
          refine wpList_box_own HH.out [_, _, _, _, _, _, _] rfl ?_
          intro pb w11_ H9_
          replace HH := Lib.hid H9_
          clear H9_
          (try clear cc1_); (try clear cc2_); (try clear cc3_); (try clear cc4_); (try clear cc5_); (try clear cc6_); (try clear cc7_)
          have cc1_ := HH.out.cells
          have cc2_ := HH.out.r2.cells
          go_wp2_with fail
          refine (refAdd_c _ p3 limit u3.out h2.out).mono ?_
          rintro e w12_ ⟨rfl, hbel⟩
          replace HH := Lib.hid ((by first | exact Kp.same hbel | exact Kp.drew hbel | exact Kp.below hbel : Kp _ w12_) _ _ (by first | exact HH.out | exact HH.out.drewN _ | exact (HH.out.alloc _).tail | exact ((HH.out.alloc _).drewN _).tail | exact ((HH.out.alloc _).alloc _).tail.tail))
          clear hbel
          (try clear cc1_); (try clear cc2_); (try clear cc3_); (try clear cc4_); (try clear cc5_); (try clear cc6_); (try clear cc7_)
          have cc1_ := HH.out.cells
          have cc2_ := HH.out.r2.cells
          go_wp2_with fail
          refine wp_region_reg none HH.out (by kernel_rfl) ?_
          intro wm H9_
          replace HH := Lib.hid H9_
          clear H9_
          refine reg_p (i := 0) rfl (by kernel_rfl) (fun _ _ _ _ h => h) HH.out (fun K hK => ?_)
          go_simp
          first | (refine hK _ ?_; clear hK K) | (apply Exists.intro; refine ⟨?_, hK _ ?_⟩; (focus (intro wx; first | (go_simp; first | rfl) | rfl)); clear hK K)
          refine mixk_q (i := 1) rfl (by kernel_rfl) (fun _ _ _ _ h => h) HH.out (fun K hK => ?_)
          go_simp
          first | (refine hK _ ?_; clear hK K) | (apply Exists.intro; refine ⟨?_, hK _ ?_⟩; (focus (intro wx hx; have x1_ := hx.cells; have x2_ := hx.r2.cells; first | (go_simp; first | rfl | exact ⟨rfl, rfl⟩) | rfl | exact ⟨rfl, rfl⟩)); clear hK K)
          refine reg_p (i := 2) rfl (by kernel_rfl) (fun _ _ _ _ h => h) HH.out (fun K hK => ?_)
          go_simp
          first | (refine hK _ ?_; clear hK K) | (apply Exists.intro; refine ⟨?_, hK _ ?_⟩; (focus (intro wx; first | (go_simp; first | rfl) | rfl)); clear hK K)
          refine reg_p (i := 3) rfl (by kernel_rfl) (fun _ _ _ _ h => h) HH.out (fun K hK => ?_)
          go_simp
          first | (refine hK _ ?_; clear hK K) | (apply Exists.intro; refine ⟨?_, hK _ ?_⟩; (focus (intro wx; first | (go_simp; first | rfl) | rfl)); clear hK K)
          refine reg_p (i := 4) rfl (by kernel_rfl) (fun _ _ _ _ h => h) HH.out (fun K hK => ?_)
          go_simp
          first | (refine hK _ ?_; clear hK K) | (apply Exists.intro; refine ⟨?_, hK _ ?_⟩; (focus (intro wx; first | (go_simp; first | rfl) | rfl)); clear hK K)
          refine mixk_q (i := 5) rfl (by kernel_rfl) (fun _ _ _ _ h => h) HH.out (fun K hK => ?_)
          go_simp
          first | (refine hK _ ?_; clear hK K) | (apply Exists.intro; refine ⟨?_, hK _ ?_⟩; (focus (intro wx hx; have x1_ := hx.cells; have x2_ := hx.r2.cells; first | (go_simp; first | rfl | exact ⟨rfl, rfl⟩) | rfl | exact ⟨rfl, rfl⟩)); clear hK K)
          refine mixk_q (i := 6) rfl (by kernel_rfl) (fun _ _ _ _ h => h) HH.out (fun K hK => ?_)
          go_simp
          first | (refine hK _ ?_; clear hK K) | (apply Exists.intro; refine ⟨?_, hK _ ?_⟩; (focus (intro wx hx; first | (first | (go_at_call 63; (with_reducible refine (refAdd_c wx pn re u1.out h3.out).mono ?_); rintro e wy ⟨rfl, hbel⟩; exact ⟨rfl, (by first | exact Kp.same hbel | exact Kp.drew hbel | exact Kp.below hbel : Kp wx wy)⟩)) | (go_simp; first | rfl | exact ⟨rfl, rfl⟩) | rfl | exact ⟨rfl, rfl⟩)); clear hK K)
          refine reg_p (i := 7) rfl (by kernel_rfl) (fun _ _ _ _ h => h) HH.out (fun K hK => ?_)
          go_simp
          first | (refine hK _ ?_; clear hK K) | (apply Exists.intro; refine ⟨?_, hK _ ?_⟩; (focus (intro wx; first | (go_simp; first | rfl) | rfl)); clear hK K)
          refine reg_p (i := 8) rfl (by kernel_rfl) (fun _ _ _ _ h => h) HH.out (fun K hK => ?_)
          go_simp
          first | (refine hK _ ?_; clear hK K) | (apply Exists.intro; refine ⟨?_, hK _ ?_⟩; (focus (intro wx; first | (go_simp; first | rfl) | rfl)); clear hK K)
          refine reg_p (i := 9) rfl (by kernel_rfl) (fun _ _ _ _ h => h) HH.out (fun K hK => ?_)
          go_simp
          first | (refine hK _ ?_; clear hK K) | (apply Exists.intro; refine ⟨?_, hK _ ?_⟩; (focus (intro wx; first | (go_simp; first | rfl) | rfl)); clear hK K)
          refine mixk_q (i := 10) rfl (by kernel_rfl) (fun _ _ _ _ h => h) HH.out (fun K hK => ?_)
          go_simp
          first | (refine hK _ ?_; clear hK K) | (apply Exists.intro; refine ⟨?_, hK _ ?_⟩; (focus (intro wx hx; have x1_ := hx.cells; have x2_ := hx.r2.cells; first | (go_simp; first | rfl | exact ⟨rfl, rfl⟩) | rfl | exact ⟨rfl, rfl⟩)); clear hK K)
          refine reg_p (i := 11) rfl (by kernel_rfl) (fun _ _ _ _ h => h) HH.out (fun K hK => ?_)
          go_simp
          first | (refine hK _ ?_; clear hK K) | (apply Exists.intro; refine ⟨?_, hK _ ?_⟩; (focus (intro wx; first | (go_simp; first | rfl) | rfl)); clear hK K)
          refine reg_p (i := 12) rfl (by kernel_rfl) (fun _ _ _ _ h => h) HH.out (fun K hK => ?_)
          go_simp
          first | (refine hK _ ?_; clear hK K) | (apply Exists.intro; refine ⟨?_, hK _ ?_⟩; (focus (intro wx; first | (go_simp; first | rfl) | rfl)); clear hK K)
          refine reg_p (i := 13) rfl (by kernel_rfl) (fun _ _ _ _ h => h) HH.out (fun K hK => ?_)
          go_simp
          first | (refine hK _ ?_; clear hK K) | (apply Exists.intro; refine ⟨?_, hK _ ?_⟩; (focus (intro wx; first | (go_simp; first | rfl) | rfl)); clear hK K)
          refine mixk_q (i := 14) rfl (by kernel_rfl) (fun _ _ _ _ h => h) HH.out (fun K hK => ?_)
          go_simp
          first | (refine hK _ ?_; clear hK K) | (apply Exists.intro; refine ⟨?_, hK _ ?_⟩; (focus (intro wx hx; have x1_ := hx.cells; have x2_ := hx.r2.cells; first | (go_simp; first | rfl | exact ⟨rfl, rfl⟩) | rfl | exact ⟨rfl, rfl⟩)); clear hK K)
          refine reg_p (i := 15) rfl (by kernel_rfl) (fun _ _ _ _ h => h) HH.out (fun K hK => ?_)
          go_simp
          first | (refine hK _ ?_; clear hK K) | (apply Exists.intro; refine ⟨?_, hK _ ?_⟩; (focus (intro wx; first | (go_simp; first | rfl) | rfl)); clear hK K)
          refine reg_p (i := 16) rfl (by kernel_rfl) (fun _ _ _ _ h => h) HH.out (fun K hK => ?_)
          go_simp
          first | (refine hK _ ?_; clear hK K) | (apply Exists.intro; refine ⟨?_, hK _ ?_⟩; (focus (intro wx; first | (go_simp; first | rfl) | rfl)); clear hK K)
          refine reg_p (i := 17) rfl (by kernel_rfl) (fun _ _ _ _ h => h) HH.out (fun K hK => ?_)
          go_simp
          first | (refine hK _ ?_; clear hK K) | (apply Exists.intro; refine ⟨?_, hK _ ?_⟩; (focus (intro wx; first | (go_simp; first | rfl) | rfl)); clear hK K)
          refine mixk_q (i := 18) rfl (by kernel_rfl) (fun _ _ _ _ h => h) HH.out (fun K hK => ?_)
          go_simp
          first | (refine hK _ ?_; clear hK K) | (apply Exists.intro; refine ⟨?_, hK _ ?_⟩; (focus (intro wx hx; have x1_ := hx.cells; have x2_ := hx.r2.cells; first | (go_simp; first | rfl | exact ⟨rfl, rfl⟩) | rfl | exact ⟨rfl, rfl⟩)); clear hK K)
          refine reg_p (i := 19) rfl (by kernel_rfl) (fun _ _ _ _ h => h) HH.out (fun K hK => ?_)
          go_simp
          first | (refine hK _ ?_; clear hK K) | (apply Exists.intro; refine ⟨?_, hK _ ?_⟩; (focus (intro wx; first | (go_simp; first | rfl) | rfl)); clear hK K)
          refine reg_p (i := 20) rfl (by kernel_rfl) (fun _ _ _ _ h => h) HH.out (fun K hK => ?_)
          go_simp
          first | (refine hK _ ?_; clear hK K) | (apply Exists.intro; refine ⟨?_, hK _ ?_⟩; (focus (intro wx; first | (go_simp; first | rfl) | rfl)); clear hK K)
          refine reg_p (i := 21) rfl (by kernel_rfl) (fun _ _ _ _ h => h) HH.out (fun K hK => ?_)
          go_simp
          first | (refine hK _ ?_; clear hK K) | (apply Exists.intro; refine ⟨?_, hK _ ?_⟩; (focus (intro wx; first | (go_simp; first | rfl) | rfl)); clear hK K)
          refine reg_p (i := 22) rfl (by kernel_rfl) (fun _ _ _ _ h => h) HH.out (fun K hK => ?_)
          go_simp
          first | (refine hK _ ?_; clear hK K) | (apply Exists.intro; refine ⟨?_, hK _ ?_⟩; (focus (intro wx; first | (go_simp; first | rfl) | rfl)); clear hK K)
          refine mixk_q (i := 23) rfl (by kernel_rfl) (fun _ _ _ _ h => h) HH.out (fun K hK => ?_)
          go_simp
          first | (refine hK _ ?_; clear hK K) | (apply Exists.intro; refine ⟨?_, hK _ ?_⟩; (focus (intro wx hx; have x1_ := hx.cells; have x2_ := hx.r2.cells; first | (go_simp; first | rfl | exact ⟨rfl, rfl⟩) | rfl | exact ⟨rfl, rfl⟩)); clear hK K)
          refine reg_p (i := 24) rfl (by kernel_rfl) (fun _ _ _ _ h => h) HH.out (fun K hK => ?_)
          go_simp
          first | (refine hK _ ?_; clear hK K) | (apply Exists.intro; refine ⟨?_, hK _ ?_⟩; (focus (intro wx; first | (go_simp; first | rfl) | rfl)); clear hK K)
          refine mixk_q (i := 25) rfl (by kernel_rfl) (fun _ _ _ _ h => h) HH.out (fun K hK => ?_)
          go_simp
          first | (refine hK _ ?_; clear hK K) | (apply Exists.intro; refine ⟨?_, hK _ ?_⟩; (focus (intro wx hx; first | (first | (go_at_call 63; (with_reducible refine (refAdd_c wx pn re u1.out h3.out).mono ?_); rintro e wy ⟨rfl, hbel⟩; exact ⟨rfl, (by first | exact Kp.same hbel | exact Kp.drew hbel | exact Kp.below hbel : Kp wx wy)⟩)) | (go_simp; first | rfl | exact ⟨rfl, rfl⟩) | rfl | exact ⟨rfl, rfl⟩)); clear hK K)
          refine reg_p (i := 26) rfl (by kernel_rfl) (fun _ _ _ _ h => h) HH.out (fun K hK => ?_)
          go_simp
          first | (refine hK _ ?_; clear hK K) | (apply Exists.intro; refine ⟨?_, hK _ ?_⟩; (focus (intro wx; first | (go_simp; first | rfl) | rfl)); clear hK K)
          refine reg_p (i := 27) rfl (by kernel_rfl) (fun _ _ _ _ h => h) HH.out (fun K hK => ?_)
          go_simp
          first | (refine hK _ ?_; clear hK K) | (apply Exists.intro; refine ⟨?_, hK _ ?_⟩; (focus (intro wx; first | (go_simp; first | rfl) | rfl)); clear hK K)
          refine reg_p (i := 28) rfl (by kernel_rfl) (fun _ _ _ _ h => h) HH.out (fun K hK => ?_)
          go_simp
          first | (refine hK _ ?_; clear hK K) | (apply Exists.intro; refine ⟨?_, hK _ ?_⟩; (focus (intro wx; first | (go_simp; first | rfl) | rfl)); clear hK K)
          refine reg_p (i := 29) rfl (by kernel_rfl) (fun _ _ _ _ h => h) HH.out (fun K hK => ?_)
          go_simp
          first | (refine hK _ ?_; clear hK K) | (apply Exists.intro; refine ⟨?_, hK _ ?_⟩; (focus (intro wx; first | (go_simp; first | rfl) | rfl)); clear hK K)
          refine reg_p (i := 30) rfl (by kernel_rfl) (fun _ _ _ _ h => h) HH.out (fun K hK => ?_)
          go_simp
          first | (refine hK _ ?_; clear hK K) | (apply Exists.intro; refine ⟨?_, hK _ ?_⟩; (focus (intro wx; first | (go_simp; first | rfl) | rfl)); clear hK K)
          refine mixk_done (by kernel_rfl) (fun w13_ hk => ?_) _
          replace HH := Lib.hid (hk _ _ HH.out)
          clear hk
          go_wp2_with fail
          go_ret
          exact ⟨rfl, HH.out.tail⟩
/-- A packet, and whether it is out, of the document's ledger, in memory. -/
theorem rled_item {A1 A2 : Option Addr} {c1 c2 n : Nat} {q : List En} {i : Nat} {e : En} (H : Own ε w (slcP (.slice A1 n c1) (psOf q) :: slcB (.slice A2 n c2) (osOf q) :: R)) (he : q[i]? = some e) :
    ∃ g1 o1 g2, A1 = some ⟨g1, o1, none⟩ ∧ A2 = some ⟨g2, 0, none⟩ ∧ (w.cell? ⟨g1, o1 + i * 7, none⟩ = some (.int .u64 e.p.n) ∧ w.cell? ⟨g1, o1 + i * 7 + 1, none⟩ = some (.int .u64 e.p.size) ∧ w.cell? ⟨g1, o1 + i * 7 + 2, none⟩ = some (.int .u64 e.p.sent) ∧ w.cell? ⟨g1, o1 + i * 7 + 3, none⟩ = some (.int .u64 e.p.first) ∧ w.cell? ⟨g1, o1 + i * 7 + 4, none⟩ = some (.int .u64 e.p.deliv) ∧ w.cell? ⟨g1, o1 + i * 7 + 5, none⟩ = some (.int .u64 e.p.at') ∧ w.cell? ⟨g1, o1 + i * 7 + 6, none⟩ = some (.bool e.p.lim)) ∧
      w.cell? ⟨g2, i, none⟩ = some (.bool e.o) ∧ w.frozen? ⟨g2, i, none⟩ = false := by
  obtain ⟨_, _, _, e1, _, _, hpk⟩ := H.slcP_val
  cases e1
  obtain ⟨_, _, e2, hbl⟩ := blr_there H.r2
  cases e2
  have hi : i < q.length := (List.getElem?_eq_some_iff.1 he).1
  obtain ⟨g1, o1, p, rfl, hp, hc⟩ := hpk.cells (i := i) (by rw [← hpk.1, List.length_map]; exact hi)
  obtain ⟨g2, rfl, h1, h2⟩ := hbl i e.o (by rw [List.getElem?_map, he]; rfl)
  obtain rfl : e.p = p := by rw [List.getElem?_map, he] at hp; exact Option.some.inj hp
  exact ⟨g1, o1, g2, rfl, rfl, hc, h1, h2⟩
end
end Go.Proofs.Ytlhncdbigjgmnaa
namespace Go.Proofs.Ytlhncdbigjgmnaa
open Go.RowKit
section
variable (ε w : World) (R : List Asn) (b : Nat)
set_option maxRecDepth 100000 in
set_option maxHeartbeats 3200000 in
theorem rAll_c (m : RLd) (hl : m.q.length ≤ 1000000) (H : Own ε w (rled b m :: R)) :
    Calls Try.prog 47 #[.pointer (some ⟨b, 0, none⟩)] w fun e w' => ∃ v, e = .returned v ∧ Own ε w' (slcP v (outs m.q) :: rled b m :: R) := by
  obtain ⟨A1, c1, A2, c2, H⟩ := H.rled_open
  have HH := Lib.hid H; clear H
  obtain ⟨n, hn⟩ : ∃ n, n = m.q.length := ⟨_, rfl⟩
  rw [← hn] at HH hl
  replace hn := Lib.hid hn
  replace hl := Lib.hid hl
  obtain ⟨q, hq⟩ : ∃ q, q = m.q := ⟨_, rfl⟩
  rw [← hq] at hn ⊢
  replace HH := Lib.hid (show Own ε w (rldN b (.slice A1 n c1) (.slice A2 n c2) m :: slcP (.slice A1 n c1) (psOf q) :: slcB (.slice A2 n c2) (osOf q) :: R) by rw [hq]; exact HH.out)
  replace hq := Lib.hid hq
  go_enter Try.func47, Try.ntmps47
  replace HH := Lib.hid (HH.out.slc_none (T := 50) (sz := 7))
  go_wp2_with fail
  go_loopw [3, 4] (fun v iv wr => ∃ k : Nat, k ≤ n ∧ iv = .int .i64 k ∧ Own ε wr (slcP v (outs (q.take k)) :: rldN b (.slice A1 n c1) (.slice A2 n c2) m :: slcP (.slice A1 n c1) (psOf q) :: slcB (.slice A2 n c2) (osOf q) :: R)) (fun _ iv _ => n - (intOf iv).toNat)
  case atStart => exact ⟨0, Nat.zero_le _, rfl, HH.out⟩
  case round =>
    clear HH
    obtain ⟨k, hk, rfl, HR⟩ := hrel
    have HH := Lib.hid HR
    clear HR
    by_cases hlt : k < n
    · have hkq : k < q.length := by rw [← hn.out]; exact hlt
      obtain ⟨e, he⟩ : ∃ e, q[k]? = some e := ⟨q[k], List.getElem?_eq_getElem hkq⟩
      obtain ⟨g1, o1, g2, rfl, rfl, ⟨y0_, y1_, y2_, y3_, y4_, y5_, y6_⟩, z0, _⟩ := rled_item ε _ _ ((Own.pm (HH.out) (by repeat (first | with_reducible exact Pm.refl _ | with_reducible exact Pm.nil _ | with_reducible refine Pm.here ?_ | with_reducible refine Pm.at2 ?_ | with_reducible refine Pm.at3 ?_ | with_reducible refine Pm.at4 ?_ | with_reducible refine Pm.at5 ?_ | with_reducible refine Pm.at6 ?_ | with_reducible refine Pm.at7 ?_ | with_reducible refine Pm.at8 ?_ | with_reducible refine Pm.skip ?_))) : Own ε _ (slcP _ (psOf q) :: slcB _ (osOf q) :: rldN b _ _ m :: R)) he
      have e1 := outs_next he
      have hpl := outs_len (q.take k)
      have h9 : (q.take k).length = k := by simp; omega
      obtain ⟨eb, ⟨pn, ps, p3, p4, p5, p6, p7⟩, o⟩ := e
      obtain ⟨pre, hpre⟩ : ∃ pre, pre = outs (q.take k) := ⟨_, rfl⟩
      rw [← hpre] at e1 hpl HH
      have hp1 : pre.length ≤ 1000000 := by have := hl.out; omega
      clear hpre hpl h9
      have hlti : (k : Int) < (n : Int) := by omega
      have hk9 : k < 1000000 := by have := hl.out; omega
      have hw2 : IntKind.i64.wrap ((k : Int) + 1) = ((k + 1 : Nat) : Int) := by rw [IntKind.wrap_i64]; omega
      replace he := Lib.hid he
      simp only at e1
      cases o with
      | true =>
        simp only [if_true] at e1
        replace e1 := Lib.hid e1
        (try clear cc1_); (try clear cc2_); (try clear cc3_); (try clear cc4_); (try clear cc5_); (try clear cc6_); (try clear cc7_)
        have cc2_ := HH.out.r2.cells
        go_wp2_with (with_reducible refine stop_bs ?_)
        refine Stop.go ?_
        refine wpList_bs1_own HH.out #[_, _, _, _, _, _, _] 7 56 Try.underlying40 (by kernel_rfl) (by decide) (by decide) rfl rfl ?_
        intro g_ w1_ H9_
        replace HH := Lib.hid H9_
        clear H9_
        go_wp2_with (with_reducible refine stop_app ?_)
        refine Stop.go ?_
        refine wpList_app1_own rfl _ _ 40 rfl 50 7 56 Try.underlying40 (by kernel_rfl) (by decide) (pre.length) rfl rfl HH.out (flat_pks_len pre) rfl (by repeat (first | (refine List.forall_mem_cons.2 ⟨(by first | with_reducible assumption | rfl), ?_⟩) | exact fun _ h => absurd h List.not_mem_nil)) (by simp only [maxLen]; omega) (by omega) ?_
        intro v1 w2_ H9_
        obtain ⟨A_v1, n_v1, c_v1, rfl⟩ := H9_.slc_isv
        replace HH := Lib.hid H9_
        clear H9_
        go_wp2_with fail
        go_roundw
        case rel =>
          refine ⟨k + 1, by omega, by go_num, ?_⟩
          rw [e1.out]
          have H6 := show Own ε _ (slc 50 7 (.slice A_v1 n_v1 c_v1) ((pks pre).flatten ++ [.int .u64 pn, .int .u64 ps, .int .u64 p3, .int .u64 p4, .int .u64 p5, .int .u64 p6, .bool p7]) :: _) from HH.out
          rw [show (pks pre).flatten ++ [.int .u64 pn, .int .u64 ps, .int .u64 p3, .int .u64 p4, .int .u64 p5, .int .u64 p6, .bool p7] = (pks (pre ++ [⟨pn, ps, p3, p4, p5, p6, p7⟩])).flatten from (flat_pks_snoc pre (⟨pn, ps, p3, p4, p5, p6, p7⟩ : Pk)).symm] at H6
          exact (Own.pm (H6) (by repeat (first | with_reducible exact Pm.refl _ | with_reducible exact Pm.nil _ | with_reducible refine Pm.here ?_ | with_reducible refine Pm.at2 ?_ | with_reducible refine Pm.at3 ?_ | with_reducible refine Pm.at4 ?_ | with_reducible refine Pm.at5 ?_ | with_reducible refine Pm.at6 ?_ | with_reducible refine Pm.at7 ?_ | with_reducible refine Pm.at8 ?_ | with_reducible refine Pm.skip ?_)))
        case measure => simp [intOf]; omega
      | false =>
        simp only [Bool.false_eq_true, if_false, List.append_nil] at e1
        replace e1 := Lib.hid e1
        (try clear cc1_); (try clear cc2_); (try clear cc3_); (try clear cc4_); (try clear cc5_); (try clear cc6_); (try clear cc7_)
        have cc2_ := HH.out.r2.cells
        go_wp2_with fail
        go_roundw
        case rel => exact ⟨k + 1, by omega, by go_num, by rw [e1.out]; exact HH.out⟩
        case measure => simp [intOf]; omega
    · have hkn : ¬ (k : Int) < (n : Int) := by omega
      obtain rfl : k = n := by omega
      rw [show q.take k = q by rw [hn.out, List.take_length]] at HH
      (try clear cc1_); (try clear cc2_); (try clear cc3_); (try clear cc4_); (try clear cc5_); (try clear cc6_); (try clear cc7_)
      have cc2_ := HH.out.r2.cells
      go_wp2_with fail
      go_ret
      have H6 := HH.out
      rw [hq.out] at H6
      have H7 := ((Own.pm (H6) (by repeat (first | with_reducible exact Pm.refl _ | with_reducible exact Pm.nil _ | with_reducible refine Pm.here ?_ | with_reducible refine Pm.at2 ?_ | with_reducible refine Pm.at3 ?_ | with_reducible refine Pm.at4 ?_ | with_reducible refine Pm.at5 ?_ | with_reducible refine Pm.at6 ?_ | with_reducible refine Pm.at7 ?_ | with_reducible refine Pm.at8 ?_ | with_reducible refine Pm.skip ?_))) : Own ε _ (rldN b _ _ m :: slcP _ (psOf m.q) :: slcB _ (osOf m.q) :: slcP _ (outs m.q) :: R))
      refine ⟨_, rfl, ?_⟩
      rw [hq.out]
      exact Own.l2 (Own.rled_mk H7)
set_option maxRecDepth 100000 in
set_option maxHeartbeats 3200000 in
theorem rInFlight_c (m : RLd) (hl : m.q.length ≤ 1000000) (hok : ∀ e ∈ m.q, e.p.Ok) (H : Own ε w (rled b m :: R)) :
    Calls Try.prog 48 #[.pointer (some ⟨b, 0, none⟩)] w fun e w' => e = .returned (.int .u64 (bytesP (outs m.q))) ∧ w = w' := by
  obtain ⟨A1, c1, A2, c2, H⟩ := H.rled_open
  have HH := Lib.hid H; clear H
  obtain ⟨n, hn⟩ : ∃ n, n = m.q.length := ⟨_, rfl⟩
  rw [← hn] at HH hl
  replace hn := Lib.hid hn
  replace hl := Lib.hid hl
  obtain ⟨q, hq⟩ : ∃ q, q = m.q := ⟨_, rfl⟩
  rw [← hq] at hn hok
  replace HH := Lib.hid (show Own ε w (rldN b (.slice A1 n c1) (.slice A2 n c2) m :: slcP (.slice A1 n c1) (psOf q) :: slcB (.slice A2 n c2) (osOf q) :: R) by rw [hq]; exact HH.out)
  obtain ⟨res, hres⟩ : ∃ res, res = bytesP (outs q) := ⟨_, rfl⟩
  rw [← hq, ← hres]
  replace hq := Lib.hid hq
  replace hres := Lib.hid hres
  replace hok := Lib.hid hok
  go_enter Try.func48, Try.ntmps48
  (try clear cc1_); (try clear cc2_); (try clear cc3_); (try clear cc4_); (try clear cc5_); (try clear cc6_); (try clear cc7_)
  have cc1_ := HH.out.cells
  go_wp2_with fail
  go_loopw [3, 4] (fun t iv wr => ∃ k : Nat, k ≤ n ∧ iv = .int .i64 k ∧ t = .int .u64 (bytesP (outs (q.take k))) ∧ U (bytesP (outs (q.take k))) ∧ wr = w) (fun _ iv _ => n - (intOf iv).toNat)
  case atStart => exact ⟨0, Nat.zero_le _, rfl, rfl, U_zero, rfl⟩
  case round =>
    obtain ⟨k, hk, rfl, rfl, hu, rfl⟩ := hrel
    by_cases hlt : k < n
    · have hkq : k < q.length := by rw [← hn.out]; exact hlt
      obtain ⟨e, he⟩ : ∃ e, q[k]? = some e := ⟨q[k], List.getElem?_eq_getElem hkq⟩
      obtain ⟨g1, o1, g2, rfl, rfl, ⟨y0_, y1_, y2_, y3_, y4_, y5_, y6_⟩, z0, _⟩ := rled_item ε _ _ ((Own.pm (HH.out) (by repeat (first | with_reducible exact Pm.refl _ | with_reducible exact Pm.nil _ | with_reducible refine Pm.here ?_ | with_reducible refine Pm.at2 ?_ | with_reducible refine Pm.at3 ?_ | with_reducible refine Pm.at4 ?_ | with_reducible refine Pm.at5 ?_ | with_reducible refine Pm.at6 ?_ | with_reducible refine Pm.at7 ?_ | with_reducible refine Pm.at8 ?_ | with_reducible refine Pm.skip ?_))) : Own ε _ (slcP _ (psOf q) :: slcB _ (osOf q) :: rldN b _ _ m :: R)) he
      have e1 := outs_next he
      have hps := (hok.out e (List.mem_of_getElem? he)).2.1
      obtain ⟨eb, ⟨pn, ps, p3, p4, p5, p6, p7⟩, o⟩ := e
      have hlti : (k : Int) < (n : Int) := by omega
      have hk9 : k < 1000000 := by have := hl.out; omega
      have hw2 : IntKind.i64.wrap ((k : Int) + 1) = ((k + 1 : Nat) : Int) := by rw [IntKind.wrap_i64]; omega
      replace he := Lib.hid he
      simp only at e1 hps
      have e2 : bytesP (outs (q.take (k + 1))) = if o then sadd (bytesP (outs (q.take k))) ps else bytesP (outs (q.take k)) := by
        rw [e1]
        unfold bytesP
        cases o <;> simp
      obtain ⟨t, ht⟩ : ∃ t, t = bytesP (outs (q.take k)) := ⟨_, rfl⟩
      rw [← ht] at e2 hu ⊢
      clear ht e1
      cases o with
      | true =>
        simp only [if_true] at e2
        replace e2 := Lib.hid e2
        go_wp2_with fail
        refine (refAdd_c _ t ps hu hps).mono ?_
        rintro e w' ⟨rfl, rfl⟩
        go_wp2_with fail
        go_roundw
        case rel => exact ⟨k + 1, by omega, by go_num, by rw [e2.out], by rw [e2.out]; exact U_sadd hu hps, by trivial⟩
        case measure => simp [intOf]; omega
      | false =>
        simp only [Bool.false_eq_true, if_false] at e2
        replace e2 := Lib.hid e2
        go_wp2_with fail
        go_roundw
        case rel => exact ⟨k + 1, by omega, by go_num, by rw [e2.out], by rw [e2.out]; exact hu, by trivial⟩
        case measure => simp [intOf]; omega
    · have hkn : ¬ (k : Int) < (n : Int) := by omega
      obtain rfl : k = n := by omega
      have e9 : bytesP (outs (q.take k)) = res := by rw [hn.out, List.take_length, hres.out]
      rw [e9] at hu ⊢
      clear e9
      go_wp2_with fail
      go_ret
      exact ⟨rfl, rfl⟩
end
end Go.Proofs.Ytlhncdbigjgmnaa
namespace Go.Proofs.Ytlhncdbigjgmnaa
open Go.RowKit
theorem ps_marks (is : Pk → Bool) (q : List En) (k : Nat) : psOf (marks is q k) = psOf q := by
  unfold marks marked psOf
  rw [List.map_append, List.map_map]
  have : ((fun x : En => x.p) ∘ En.mark is) = (fun x : En => x.p) := rfl
  rw [this, ← List.map_append, List.take_append_drop]
theorem os_next {is : Pk → Bool} {q : List En} {k : Nat} {e : En} (h : q[k]? = some e) : osOf (marks is q (k + 1)) = (osOf (marks is q k)).set k (e.o && !is e.p) := by
  rw [marks_next h]
  unfold osOf
  rw [List.map_set]
  rfl
theorem os_same {is : Pk → Bool} {q : List En} {k : Nat} {e : En} (h : q[k]? = some e) (hs : (e.o && is e.p) = false) : osOf (marks is q (k + 1)) = osOf (marks is q k) := by rw [marks_same h hs]
theorem blr_rd {ε w : World} {R : List Asn} {g n cap i : Nat} {l : List Bool} {x : Bool} (H : Own ε w (slcB (.slice (some ⟨g, 0, none⟩) n cap) l :: R)) (hx : l[i]? = some x) : w.cell? ⟨g, i, none⟩ = some (.bool x) ∧ w.frozen? ⟨g, i, none⟩ = false := by
  obtain ⟨_, _, e, h⟩ := blr_there H
  cases e
  obtain ⟨g', e, h1, h2⟩ := h i x hx
  cases e
  exact ⟨h1, h2⟩
theorem pk_rd8 {ε w : World} {R : List Asn} {g off n cap i : Nat} {l : List Pk} {p : Pk} (H : Own ε w (slcP (.slice (some ⟨g, off, none⟩) n cap) l :: R)) (hp : l[i]? = some p) : w.cell? ⟨g, off + i * 7, none⟩ = some (.int .u64 p.n) ∧ w.cell? ⟨g, off + i * 7 + 1, none⟩ = some (.int .u64 p.size) ∧ w.cell? ⟨g, off + i * 7 + 2, none⟩ = some (.int .u64 p.sent) ∧ w.cell? ⟨g, off + i * 7 + 3, none⟩ = some (.int .u64 p.first) ∧ w.cell? ⟨g, off + i * 7 + 4, none⟩ = some (.int .u64 p.deliv) ∧ w.cell? ⟨g, off + i * 7 + 5, none⟩ = some (.int .u64 p.at') ∧ w.cell? ⟨g, off + i * 7 + 6, none⟩ = some (.bool p.lim) := by
  obtain ⟨_, _, _, e, _, _, h⟩ := H.slcP_val
  cases e
  obtain ⟨hi, rfl⟩ := List.getElem?_eq_some_iff.1 hp
  obtain ⟨g', off', e, hc⟩ := h.2 i hi
  cases e
  exact ⟨hc 0 _ rfl, hc 1 _ rfl, hc 2 _ rfl, hc 3 _ rfl, hc 4 _ rfl, hc 5 _ rfl, hc 6 _ rfl⟩
section
variable (ε w : World) (R : List Asn) (b : Nat)
set_option maxRecDepth 100000 in
set_option maxHeartbeats 3200000 in
theorem rLost_c (m : RLd) (hl : m.q.length ≤ 1000000) (hok : ∀ e ∈ m.q, e.p.Ok) (h3 : U m.re) (now delay limit : Int) (h1 : U delay) (h2 : U limit) (H : Own ε w (rled b m :: R)) :
    Calls Try.prog 43 #[.pointer (some ⟨b, 0, none⟩), .int .u64 now, .int .u64 delay, .int .u64 limit] w fun e w' => ∃ v, e = .returned v ∧ Own ε w' (slcP v (m.lost now delay limit).1 :: rled b (m.lost now delay limit).2 :: R) := by
  obtain ⟨A1, c1, A2, c2, H⟩ := H.rled_open
  obtain ⟨re, q, top, sm⟩ := m
  simp only at hl hok h3 H
  have hI : ∀ (p : Pk) (W : World) (X : List Asn), p.Ok → Own ε W (rldN b (.slice A1 q.length c1) (.slice A2 q.length c2) ⟨re, q, top, sm⟩ :: X) → Calls Try.prog 61 #[.pointer (some ⟨b, 0, none⟩), .agg #[.int .u64 p.n, .int .u64 p.size, .int .u64 p.sent, .int .u64 p.first, .int .u64 p.deliv, .int .u64 p.at', .bool p.lim], .int .u64 now, .int .u64 delay, .int .u64 limit] W fun e w' => e = .returned (.bool (lostB re top sm now delay limit p)) ∧ Own ε w' (rldN b (.slice A1 q.length c1) (.slice A2 q.length c2) ⟨re, q, top, sm⟩ :: X) :=
    fun p W X hp H => rlost1_c ε W X b _ _ ⟨re, q, top, sm⟩ h3 now delay limit h1 h2 p hp H
  rw [show (⟨re, q, top, sm⟩ : RLd).lost now delay limit = (taken (lostB re top sm now delay limit) q, ⟨re, marked (lostB re top sm now delay limit) q, top, sm⟩) from rfl]
  obtain ⟨is, his⟩ : ∃ is, is = lostB re top sm now delay limit := ⟨_, rfl⟩
  rw [← his] at hI ⊢
  simp only
  clear his h1 h2 h3
  have HH := Lib.hid H; clear H
  obtain ⟨n, hn⟩ : ∃ n, n = q.length := ⟨_, rfl⟩
  rw [← hn] at HH hl hI
  obtain ⟨q0, hq0⟩ : ∃ q0, q0 = q := ⟨_, rfl⟩
  rw [← hq0] at hI
  replace HH := Lib.hid (show Own ε w (rldN b (.slice A1 n c1) (.slice A2 n c2) ⟨re, q0, top, sm⟩ :: slcP (.slice A1 n c1) (psOf q) :: slcB (.slice A2 n c2) (osOf q) :: R) by rw [hq0]; exact HH.out)
  replace hq0 := Lib.hid hq0
  replace hn := Lib.hid hn
  replace hl := Lib.hid hl
  replace hI := Lib.hid hI
  replace hok := Lib.hid hok
  go_enter Try.func43, Try.ntmps43
  replace HH := Lib.hid (HH.out.slc_none (T := 50) (sz := 7))
  go_wp2_with fail
  go_loopw [9, 10] (fun v iv wr => ∃ k : Nat, k ≤ n ∧ iv = .int .i64 k ∧ Own ε wr (slcP v (taken is (q.take k)) :: rldN b (.slice A1 n c1) (.slice A2 n c2) ⟨re, q0, top, sm⟩ :: slcP (.slice A1 n c1) (psOf q) :: slcB (.slice A2 n c2) (osOf (marks is q k)) :: R)) (fun _ iv _ => n - (intOf iv).toNat)
  case atStart => exact ⟨0, Nat.zero_le _, rfl, HH.out⟩
  case round =>
    clear HH
    obtain ⟨k, hk, rfl, HR⟩ := hrel
    have HH := Lib.hid HR
    clear HR
    by_cases hlt : k < n
    · have hkq : k < q.length := by rw [← hn.out]; exact hlt
      obtain ⟨e, he⟩ : ∃ e, q[k]? = some e := ⟨q[k], List.getElem?_eq_getElem hkq⟩
      have he2 : (marks is q k)[k]? = some e := by rw [marks_at hkq]; exact he
      have hH : Own ε wr (slcP (.slice A1 n c1) (psOf (marks is q k)) :: slcB (.slice A2 n c2) (osOf (marks is q k)) :: R) := by rw [ps_marks]; exact (Own.pm (HH.out) (by repeat (first | with_reducible exact Pm.refl _ | with_reducible exact Pm.nil _ | with_reducible refine Pm.here ?_ | with_reducible refine Pm.at2 ?_ | with_reducible refine Pm.at3 ?_ | with_reducible refine Pm.at4 ?_ | with_reducible refine Pm.at5 ?_ | with_reducible refine Pm.at6 ?_ | with_reducible refine Pm.at7 ?_ | with_reducible refine Pm.at8 ?_ | with_reducible refine Pm.skip ?_)))
      obtain ⟨g1, o1, g2, rfl, rfl, ⟨y0_, y1_, y2_, y3_, y4_, y5_, y6_⟩, _, _⟩ := rled_item ε _ _ hH he2
      clear hH
      have e1 := taken_next (is := is) he
      have e2 := os_next (is := is) he
      have hpl := taken_len is (q.take k)
      have h9 : (q.take k).length = k := by simp; omega
      have hp := hok.out e (List.mem_of_getElem? he)
      have hos : (osOf (marks is q k))[k]? = some e.o := by rw [List.getElem?_map, he2]; rfl
      obtain ⟨eb, ⟨pn, ps, p3, p4, p5, p6, p7⟩, o⟩ := e
      obtain ⟨pre, hpre⟩ : ∃ pre, pre = taken is (q.take k) := ⟨_, rfl⟩
      rw [← hpre] at e1 hpl HH
      have hp1 : pre.length ≤ 1000000 := by have := hl.out; omega
      clear hpre hpl h9 he2
      obtain ⟨os, hoseq⟩ : ∃ os, os = osOf (marks is q k) := ⟨_, rfl⟩
      rw [← hoseq] at e2 hos HH
      clear hoseq
      have hlti : (k : Int) < (n : Int) := by omega
      have hk9 : k < 1000000 := by have := hl.out; omega
      have hw2 : IntKind.i64.wrap ((k : Int) + 1) = ((k + 1 : Nat) : Int) := by rw [IntKind.wrap_i64]; omega
      replace he := Lib.hid he
      replace hp := Lib.hid hp
      simp only at e1 e2 hos
      cases hq : is ⟨pn, ps, p3, p4, p5, p6, p7⟩ with
      | false =>
        rw [hq] at e1 e2
        simp only [Bool.and_false, Bool.false_eq_true, if_false, List.append_nil, Bool.not_false, Bool.and_true] at e1 e2
        have e3 : os.set k o = os := by
          obtain ⟨h, rfl⟩ := List.getElem?_eq_some_iff.1 hos
          exact List.set_getElem_self h
        rw [e3] at e2
        clear e3
        replace e1 := Lib.hid e1
        replace e2 := Lib.hid e2
        replace hq := Lib.hid hq
        (try clear cc1_); (try clear cc2_); (try clear cc3_); (try clear cc4_); (try clear cc5_); (try clear cc6_); (try clear cc7_)
        have cc2_ := HH.out.r2.cells
        go_wp2_with fail
        refine (hI.out ⟨pn, ps, p3, p4, p5, p6, p7⟩ _ _ hp.out HH.out.r2).mono ?_
        rw [hq.out]
        rintro e w1_ ⟨rfl, H9_⟩
        replace HH := Lib.hid H9_
        clear H9_
        obtain ⟨z0, _⟩ := blr_rd ((Own.pm (HH.out) (by repeat (first | with_reducible exact Pm.refl _ | with_reducible exact Pm.nil _ | with_reducible refine Pm.here ?_ | with_reducible refine Pm.at2 ?_ | with_reducible refine Pm.at3 ?_ | with_reducible refine Pm.at4 ?_ | with_reducible refine Pm.at5 ?_ | with_reducible refine Pm.at6 ?_ | with_reducible refine Pm.at7 ?_ | with_reducible refine Pm.at8 ?_ | with_reducible refine Pm.skip ?_))) : Own ε w1_ (slcB (.slice (some ⟨g2, 0, none⟩) n c2) os :: R)) hos
        replace hos := Lib.hid hos
        (try clear cc1_); (try clear cc2_); (try clear cc3_); (try clear cc4_); (try clear cc5_); (try clear cc6_); (try clear cc7_)
        have cc1_ := HH.out.cells
        cases o with
        | true =>
          go_wp2_with fail
          go_roundw
          case rel => exact ⟨k + 1, by omega, by go_num, by rw [e1.out, e2.out]; exact (Own.pm (HH.out) (by repeat (first | with_reducible exact Pm.refl _ | with_reducible exact Pm.nil _ | with_reducible refine Pm.here ?_ | with_reducible refine Pm.at2 ?_ | with_reducible refine Pm.at3 ?_ | with_reducible refine Pm.at4 ?_ | with_reducible refine Pm.at5 ?_ | with_reducible refine Pm.at6 ?_ | with_reducible refine Pm.at7 ?_ | with_reducible refine Pm.at8 ?_ | with_reducible refine Pm.skip ?_)))⟩
          case measure => simp [intOf]; omega
        | false =>
          go_wp2_with fail
          go_roundw
          case rel => exact ⟨k + 1, by omega, by go_num, by rw [e1.out, e2.out]; exact (Own.pm (HH.out) (by repeat (first | with_reducible exact Pm.refl _ | with_reducible exact Pm.nil _ | with_reducible refine Pm.here ?_ | with_reducible refine Pm.at2 ?_ | with_reducible refine Pm.at3 ?_ | with_reducible refine Pm.at4 ?_ | with_reducible refine Pm.at5 ?_ | with_reducible refine Pm.at6 ?_ | with_reducible refine Pm.at7 ?_ | with_reducible refine Pm.at8 ?_ | with_reducible refine Pm.skip ?_)))⟩
          case measure => simp [intOf]; omega
      | true =>
        rw [hq] at e1 e2
        simp only [Bool.and_true, Bool.not_true, Bool.and_false] at e1 e2
        replace hq := Lib.hid hq
        (try clear cc1_); (try clear cc2_); (try clear cc3_); (try clear cc4_); (try clear cc5_); (try clear cc6_); (try clear cc7_)
        have cc2_ := HH.out.r2.cells
        go_wp2_with fail
        refine (hI.out ⟨pn, ps, p3, p4, p5, p6, p7⟩ _ _ hp.out HH.out.r2).mono ?_
        rw [hq.out]
        rintro e w2_ ⟨rfl, H9_⟩
        replace HH := Lib.hid H9_
        clear H9_
        have HS := Own.slc_set ((Own.pm (HH.out) (by repeat (first | with_reducible exact Pm.refl _ | with_reducible exact Pm.nil _ | with_reducible refine Pm.here ?_ | with_reducible refine Pm.at2 ?_ | with_reducible refine Pm.at3 ?_ | with_reducible refine Pm.at4 ?_ | with_reducible refine Pm.at5 ?_ | with_reducible refine Pm.at6 ?_ | with_reducible refine Pm.at7 ?_ | with_reducible refine Pm.at8 ?_ | with_reducible refine Pm.skip ?_))) : Own ε w2_ (slcB (.slice (some ⟨g2, 0, none⟩) n c2) os :: rldN b (.slice (some ⟨g1, o1, none⟩) n c1) (.slice (some ⟨g2, 0, none⟩) n c2) ⟨re, q0, top, sm⟩ :: slcP _ pre :: slcP (.slice (some ⟨g1, o1, none⟩) n c1) (psOf q) :: R)) k (.bool false)
        obtain ⟨z0, z1⟩ := blr_rd ((Own.pm (HH.out) (by repeat (first | with_reducible exact Pm.refl _ | with_reducible exact Pm.nil _ | with_reducible refine Pm.here ?_ | with_reducible refine Pm.at2 ?_ | with_reducible refine Pm.at3 ?_ | with_reducible refine Pm.at4 ?_ | with_reducible refine Pm.at5 ?_ | with_reducible refine Pm.at6 ?_ | with_reducible refine Pm.at7 ?_ | with_reducible refine Pm.at8 ?_ | with_reducible refine Pm.skip ?_))) : Own ε w2_ (slcB (.slice (some ⟨g2, 0, none⟩) n c2) os :: R)) hos
        have hpk := ((Own.pm (HH.out) (by repeat (first | with_reducible exact Pm.refl _ | with_reducible exact Pm.nil _ | with_reducible refine Pm.here ?_ | with_reducible refine Pm.at2 ?_ | with_reducible refine Pm.at3 ?_ | with_reducible refine Pm.at4 ?_ | with_reducible refine Pm.at5 ?_ | with_reducible refine Pm.at6 ?_ | with_reducible refine Pm.at7 ?_ | with_reducible refine Pm.at8 ?_ | with_reducible refine Pm.skip ?_))) : Own ε w2_ (slcP (.slice (some ⟨g1, o1, none⟩) n c1) (psOf q) :: R))
        have hps : (psOf q)[k]? = some ⟨pn, ps, p3, p4, p5, p6, p7⟩ := by rw [List.getElem?_map, he.out]; rfl
        have hpk2 := pk_rd8 hpk hps
        obtain ⟨y0_, y1_, y2_, y3_, y4_, y5_, y6_⟩ := hpk2
        clear hpk hps
        replace hos := Lib.hid hos
        (try clear cc1_); (try clear cc2_); (try clear cc3_); (try clear cc4_); (try clear cc5_); (try clear cc6_); (try clear cc7_)
        have cc1_ := HH.out.cells
        cases o with
        | true =>
          simp only [if_true] at e1
          rw [blr_set, ← e2] at HS
          replace e1 := Lib.hid e1
          clear e2
          replace HS := Lib.hid HS
          go_wp2_with (with_reducible refine stop_st ?_)
          refine Stop.go ?_
          go_step
          go_simp
          have H9 := Lib.hid (HS.out)
          generalize w2_.setCell ⟨g2, k, none⟩ (.bool false) = w9 at *
          clear z0 z1
          replace HH := Lib.hid ((Own.pm (H9.out) (by repeat (first | with_reducible exact Pm.refl _ | with_reducible exact Pm.nil _ | with_reducible refine Pm.here ?_ | with_reducible refine Pm.at2 ?_ | with_reducible refine Pm.at3 ?_ | with_reducible refine Pm.at4 ?_ | with_reducible refine Pm.at5 ?_ | with_reducible refine Pm.at6 ?_ | with_reducible refine Pm.at7 ?_ | with_reducible refine Pm.at8 ?_ | with_reducible refine Pm.skip ?_))) : Own ε w9 (slcP _ pre :: rldN b (.slice (some ⟨g1, o1, none⟩) n c1) (.slice (some ⟨g2, 0, none⟩) n c2) ⟨re, q0, top, sm⟩ :: slcP (.slice (some ⟨g1, o1, none⟩) n c1) (psOf q) :: slcB (.slice (some ⟨g2, 0, none⟩) n c2) (osOf (marks is q (k + 1))) :: R))
          clear H9 HS
          have hps : (psOf q)[k]? = some ⟨pn, ps, p3, p4, p5, p6, p7⟩ := by rw [List.getElem?_map, he.out]; rfl
          obtain ⟨y0_, y1_, y2_, y3_, y4_, y5_, y6_⟩ := pk_rd8 HH.out.r3 hps
          clear hps
          (try clear cc1_); (try clear cc2_); (try clear cc3_); (try clear cc4_); (try clear cc5_); (try clear cc6_); (try clear cc7_)
          have cc2_ := HH.out.r2.cells
          go_wp2_with (with_reducible refine stop_bs ?_)
          refine Stop.go ?_
          refine wpList_bs1_own HH.out #[_, _, _, _, _, _, _] 7 56 Try.underlying40 (by kernel_rfl) (by decide) (by decide) rfl rfl ?_
          intro g_ w3_ H9_
          replace HH := Lib.hid H9_
          clear H9_
          go_wp2_with (with_reducible refine stop_app ?_)
          refine Stop.go ?_
          refine wpList_app1_own rfl _ _ 40 rfl 50 7 56 Try.underlying40 (by kernel_rfl) (by decide) (pre.length) rfl rfl HH.out (flat_pks_len pre) rfl (by repeat (first | (refine List.forall_mem_cons.2 ⟨(by first | with_reducible assumption | rfl), ?_⟩) | exact fun _ h => absurd h List.not_mem_nil)) (by simp only [maxLen]; omega) (by omega) ?_
          intro v1 w4_ H9_
          obtain ⟨A_v1, n_v1, c_v1, rfl⟩ := H9_.slc_isv
          replace HH := Lib.hid H9_
          clear H9_
          go_wp2_with fail
          go_roundw
          case rel =>
            refine ⟨k + 1, by omega, by go_num, ?_⟩
            rw [e1.out]
            have H6 := show Own ε _ (slc 50 7 (.slice A_v1 n_v1 c_v1) ((pks pre).flatten ++ [.int .u64 pn, .int .u64 ps, .int .u64 p3, .int .u64 p4, .int .u64 p5, .int .u64 p6, .bool p7]) :: _) from HH.out
            rw [show (pks pre).flatten ++ [.int .u64 pn, .int .u64 ps, .int .u64 p3, .int .u64 p4, .int .u64 p5, .int .u64 p6, .bool p7] = (pks (pre ++ [⟨pn, ps, p3, p4, p5, p6, p7⟩])).flatten from (flat_pks_snoc pre (⟨pn, ps, p3, p4, p5, p6, p7⟩ : Pk)).symm] at H6
            exact (Own.pm (H6) (by repeat (first | with_reducible exact Pm.refl _ | with_reducible exact Pm.nil _ | with_reducible refine Pm.here ?_ | with_reducible refine Pm.at2 ?_ | with_reducible refine Pm.at3 ?_ | with_reducible refine Pm.at4 ?_ | with_reducible refine Pm.at5 ?_ | with_reducible refine Pm.at6 ?_ | with_reducible refine Pm.at7 ?_ | with_reducible refine Pm.at8 ?_ | with_reducible refine Pm.skip ?_)))
          case measure => simp [intOf]; omega
        | false =>
          simp only [Bool.false_eq_true, if_false, List.append_nil] at e1
          have e3 : os.set k false = os := by
            obtain ⟨h, e4⟩ := List.getElem?_eq_some_iff.1 hos.out
            rw [← e4]
            exact List.set_getElem_self h
          rw [e3] at e2
          clear e3 HS
          replace e1 := Lib.hid e1
          replace e2 := Lib.hid e2
          go_wp2_with fail
          go_roundw
          case rel => exact ⟨k + 1, by omega, by go_num, by rw [e1.out, e2.out]; exact (Own.pm (HH.out) (by repeat (first | with_reducible exact Pm.refl _ | with_reducible exact Pm.nil _ | with_reducible refine Pm.here ?_ | with_reducible refine Pm.at2 ?_ | with_reducible refine Pm.at3 ?_ | with_reducible refine Pm.at4 ?_ | with_reducible refine Pm.at5 ?_ | with_reducible refine Pm.at6 ?_ | with_reducible refine Pm.at7 ?_ | with_reducible refine Pm.at8 ?_ | with_reducible refine Pm.skip ?_)))⟩
          case measure => simp [intOf]; omega
    · have hkn : ¬ (k : Int) < (n : Int) := by omega
      obtain rfl : k = n := by omega
      rw [show marks is q k = marked is q by rw [hn.out, marks_all], show q.take k = q by rw [hn.out, List.take_length]] at HH
      (try clear cc1_); (try clear cc2_); (try clear cc3_); (try clear cc4_); (try clear cc5_); (try clear cc6_); (try clear cc7_)
      have cc2_ := HH.out.r2.cells
      go_wp2_with fail
      go_ret
      have H7 := ((Own.pm (HH.out) (by repeat (first | with_reducible exact Pm.refl _ | with_reducible exact Pm.nil _ | with_reducible refine Pm.here ?_ | with_reducible refine Pm.at2 ?_ | with_reducible refine Pm.at3 ?_ | with_reducible refine Pm.at4 ?_ | with_reducible refine Pm.at5 ?_ | with_reducible refine Pm.at6 ?_ | with_reducible refine Pm.at7 ?_ | with_reducible refine Pm.at8 ?_ | with_reducible refine Pm.skip ?_))) : Own ε _ (rldN b _ _ ⟨re, q0, top, sm⟩ :: slcP _ (psOf q) :: slcB _ (osOf (marked is q)) :: slcP _ (taken is q) :: R))
      rw [show psOf q = psOf (marked is q) by rw [← marks_all, ps_marks]] at H7
      exact ⟨_, rfl, Own.l2 (Own.rled_mk (m := ⟨re, marked is q, top, sm⟩) H7)⟩
end
end Go.Proofs.Ytlhncdbigjgmnaa
namespace Go.Proofs.Ytlhncdbigjgmnaa
open Go.RowKit
theorem topOf_next (t : Int) (l : List Pk) (p : Pk) : topOf t (l ++ [p]) = max (topOf t l) p.n := by unfold topOf; rw [List.foldl_append]; rfl
theorem some_next (l : List Pk) (p : Pk) : (!(l ++ [p]).isEmpty) = true := by cases l <;> rfl
section
variable (ε w : World) (R : List Asn) (b : Nat)
set_option maxRecDepth 100000 in
set_option maxHeartbeats 6400000 in
theorem rAck_c (m : RLd) (hl : m.q.length ≤ 1000000) (xs : List Rg) (A : Option Addr) (len cap : Nat) (hA : ∀ wx, Own ε wx R → itAt encRg 2 wx A len xs) (hm : len ≤ 1000000) (H : Own ε w (rled b m :: R)) :
    Calls Try.prog 41 #[.pointer (some ⟨b, 0, none⟩), .slice A len cap] w fun e w' => ∃ v, e = .returned (.tuple #[v, .int .i64 (m.ack xs).2.1]) ∧ Own ε w' (slcP v (m.ack xs).1 :: rled b (m.ack xs).2.2 :: R) := by
  have HH := Lib.hid H; clear H
  replace hA := Lib.hid hA
  cases hb : xs.any badR with
  | true =>
    rw [show m.ack xs = ([], 1, m) from if_pos hb]
    go_enter Try.func41, Try.ntmps41
    go_wp2_with fail
    refine (ref07Right_c ε _ _ xs A len cap (fun wx Hx => hA.out wx Hx.tail) (by omega) HH.out).mono ?_
    rw [hb]
    rintro e w1_ ⟨rfl, H9_⟩
    replace HH := Lib.hid H9_
    clear H9_
    go_wp2_with fail
    go_ret2
    exact ⟨_, rfl, HH.out.slc_none⟩
  | false =>
    rw [show m.ack xs = (taken (inB xs) m.q, 0, ⟨m.re, marked (inB xs) m.q, topOf m.top (taken (inB xs) m.q), m.some || !(taken (inB xs) m.q).isEmpty⟩) from if_neg (by rw [hb]; decide)]
    obtain ⟨A1, c1, A2, c2, H⟩ := HH.out.rled_open
    obtain ⟨re, q, top, sm⟩ := m
    simp only at hl H ⊢
    obtain ⟨is, his⟩ : ∃ is, is = inB xs := ⟨_, rfl⟩
    rw [← his]
    have hI : ∀ p, hasB xs p.n = is p := fun p => by rw [his]; rfl
    clear his
    replace HH := Lib.hid H
    clear H
    obtain ⟨n, hn⟩ : ∃ n, n = q.length := ⟨_, rfl⟩
    rw [← hn] at HH hl
    obtain ⟨q0, hq0⟩ : ∃ q0, q0 = q := ⟨_, rfl⟩
    replace HH := Lib.hid (show Own ε w (rldN b (.slice A1 n c1) (.slice A2 n c2) ⟨re, q0, top, sm⟩ :: slcP (.slice A1 n c1) (psOf q) :: slcB (.slice A2 n c2) (osOf q) :: R) by rw [hq0]; exact HH.out)
    replace hq0 := Lib.hid hq0
    replace hn := Lib.hid hn
    replace hl := Lib.hid hl
    replace hI := Lib.hid hI
    go_enter Try.func41, Try.ntmps41
    go_wp2_with fail
    refine (ref07Right_c ε _ _ xs A len cap (fun wx Hx => hA.out wx Hx.tail.tail.tail) (by omega) HH.out).mono ?_
    rw [hb]
    rintro e w2_ ⟨rfl, H9_⟩
    replace HH := Lib.hid H9_
    clear H9_
    replace HH := Lib.hid (HH.out.slc_none (T := 50) (sz := 7))
    go_wp2_with fail
    go_loopw [7, 8] (fun v iv wr => ∃ (k : Nat) (tp : Int) (sb : Bool), k ≤ n ∧ iv = .int .i64 k ∧ tp = topOf top (taken is (q.take k)) ∧ sb = (sm || !(taken is (q.take k)).isEmpty) ∧ Own ε wr (slcP v (taken is (q.take k)) :: rldN b (.slice A1 n c1) (.slice A2 n c2) ⟨re, q0, tp, sb⟩ :: slcP (.slice A1 n c1) (psOf q) :: slcB (.slice A2 n c2) (osOf (marks is q k)) :: R)) (fun _ iv _ => n - (intOf iv).toNat)
    case atStart => exact ⟨0, top, sm, Nat.zero_le _, rfl, rfl, by cases sm <;> rfl, HH.out⟩
    case round =>
      clear HH
      obtain ⟨k, tp, sb, hk, rfl, htp, hsb, HR⟩ := hrel
      have HH := Lib.hid HR
      clear HR
      by_cases hlt : k < n
      · have hkq : k < q.length := by rw [← hn.out]; exact hlt
        obtain ⟨e, he⟩ : ∃ e, q[k]? = some e := ⟨q[k], List.getElem?_eq_getElem hkq⟩
        have he2 : (marks is q k)[k]? = some e := by rw [marks_at hkq]; exact he
        have hH : Own ε wr (slcP (.slice A1 n c1) (psOf (marks is q k)) :: slcB (.slice A2 n c2) (osOf (marks is q k)) :: R) := by rw [ps_marks]; exact (Own.pm (HH.out) (by repeat (first | with_reducible exact Pm.refl _ | with_reducible exact Pm.nil _ | with_reducible refine Pm.here ?_ | with_reducible refine Pm.at2 ?_ | with_reducible refine Pm.at3 ?_ | with_reducible refine Pm.at4 ?_ | with_reducible refine Pm.at5 ?_ | with_reducible refine Pm.at6 ?_ | with_reducible refine Pm.at7 ?_ | with_reducible refine Pm.at8 ?_ | with_reducible refine Pm.skip ?_)))
        obtain ⟨g1, o1, g2, rfl, rfl, ⟨y0_, y1_, y2_, y3_, y4_, y5_, y6_⟩, z0, z1⟩ := rled_item ε _ _ hH he2
        clear hH
        have e1 := taken_next (is := is) he
        have e2 := os_next (is := is) he
        have hpl := taken_len is (q.take k)
        have h9 : (q.take k).length = k := by simp; omega
        have hos : (osOf (marks is q k))[k]? = some e.o := by rw [List.getElem?_map, he2]; rfl
        obtain ⟨eb, ⟨pn, ps, p3, p4, p5, p6, p7⟩, o⟩ := e
        obtain ⟨pre, hpre⟩ : ∃ pre, pre = taken is (q.take k) := ⟨_, rfl⟩
        rw [← hpre] at e1 hpl htp hsb HH
        have hp1 : pre.length ≤ 1000000 := by have := hl.out; omega
        clear hpre hpl h9 he2
        obtain ⟨os, hoseq⟩ : ∃ os, os = osOf (marks is q k) := ⟨_, rfl⟩
        rw [← hoseq] at e2 hos HH
        clear hoseq
        have hlti : (k : Int) < (n : Int) := by omega
        have hk9 : k < 1000000 := by have := hl.out; omega
        have hw2 : IntKind.i64.wrap ((k : Int) + 1) = ((k + 1 : Nat) : Int) := by rw [IntKind.wrap_i64]; omega
        have hit := hA.out wr (Own.pm (HH.out) (by repeat (first | with_reducible exact Pm.refl _ | with_reducible exact Pm.nil _ | with_reducible refine Pm.here ?_ | with_reducible refine Pm.at2 ?_ | with_reducible refine Pm.at3 ?_ | with_reducible refine Pm.at4 ?_ | with_reducible refine Pm.at5 ?_ | with_reducible refine Pm.at6 ?_ | with_reducible refine Pm.at7 ?_ | with_reducible refine Pm.at8 ?_ | with_reducible refine Pm.skip ?_)))
        replace hit := Lib.hid hit
        replace htp := Lib.hid htp
        replace hsb := Lib.hid hsb
        simp only at e1 e2 hos
        have hqI := hI.out ⟨pn, ps, p3, p4, p5, p6, p7⟩
        simp only at hqI
        cases hq : is ⟨pn, ps, p3, p4, p5, p6, p7⟩ with
        | false =>
          rw [hq] at e1 e2 hqI
          simp only [Bool.and_false, Bool.false_eq_true, if_false, List.append_nil, Bool.not_false, Bool.and_true] at e1 e2
          have e3 : os.set k o = os := by
            obtain ⟨h, rfl⟩ := List.getElem?_eq_some_iff.1 hos
            exact List.set_getElem_self h
          rw [e3] at e2
          clear e3 hos
          replace e1 := Lib.hid e1
          replace e2 := Lib.hid e2
          replace hqI := Lib.hid hqI
          replace he := Lib.hid he
          clear hq
          (try clear cc1_); (try clear cc2_); (try clear cc3_); (try clear cc4_); (try clear cc5_); (try clear cc6_); (try clear cc7_)
          have cc2_ := HH.out.r2.cells
          go_wp2_with fail
          refine (rHas_c _ xs pn A len cap hit.out hm).mono ?_
          rintro e w' ⟨rfl, rfl⟩
          rw [hqI.out]
          cases o with
          | true =>
            go_wp2_with fail
            go_roundw
            case rel => exact ⟨k + 1, tp, sb, by omega, by go_num, by rw [e1.out]; exact htp.out, by rw [e1.out]; exact hsb.out, by rw [e1.out, e2.out]; exact HH.out⟩
            case measure => simp [intOf]; omega
          | false =>
            go_wp2_with fail
            go_roundw
            case rel => exact ⟨k + 1, tp, sb, by omega, by go_num, by rw [e1.out]; exact htp.out, by rw [e1.out]; exact hsb.out, by rw [e1.out, e2.out]; exact HH.out⟩
            case measure => simp [intOf]; omega
        | true =>
          rw [hq] at e1 e2 hqI
          simp only [Bool.and_true, Bool.not_true, Bool.and_false] at e1 e2
          replace hqI := Lib.hid hqI
          clear hq
          have HS := Own.slc_set ((Own.pm (HH.out) (by repeat (first | with_reducible exact Pm.refl _ | with_reducible exact Pm.nil _ | with_reducible refine Pm.here ?_ | with_reducible refine Pm.at2 ?_ | with_reducible refine Pm.at3 ?_ | with_reducible refine Pm.at4 ?_ | with_reducible refine Pm.at5 ?_ | with_reducible refine Pm.at6 ?_ | with_reducible refine Pm.at7 ?_ | with_reducible refine Pm.at8 ?_ | with_reducible refine Pm.skip ?_))) : Own ε wr (slcB (.slice (some ⟨g2, 0, none⟩) n c2) os :: rldN b (.slice (some ⟨g1, o1, none⟩) n c1) (.slice (some ⟨g2, 0, none⟩) n c2) ⟨re, q0, tp, sb⟩ :: slcP _ pre :: slcP (.slice (some ⟨g1, o1, none⟩) n c1) (psOf q) :: R)) k (.bool false)
          replace hos := Lib.hid hos
          replace he := Lib.hid he
          cases o with
          | true =>
            simp only [if_true] at e1
            rw [blr_set, ← e2] at HS
            replace e1 := Lib.hid e1
            clear e2
            replace HS := Lib.hid HS
            (try clear cc1_); (try clear cc2_); (try clear cc3_); (try clear cc4_); (try clear cc5_); (try clear cc6_); (try clear cc7_)
            have cc2_ := HH.out.r2.cells
            go_wp2_with fail
            refine (rHas_c _ xs pn A len cap hit.out hm).mono ?_
            rintro e w' ⟨rfl, rfl⟩
            rw [hqI.out]
            go_wp2_with (with_reducible refine stop_st ?_)
            refine Stop.go ?_
            go_step
            go_simp
            have H9 := Lib.hid (HS.out)
            generalize wr.setCell ⟨g2, k, none⟩ (.bool false) = w9 at *
            clear z0 z1
            replace HH := Lib.hid ((Own.pm (H9.out) (by repeat (first | with_reducible exact Pm.refl _ | with_reducible exact Pm.nil _ | with_reducible refine Pm.here ?_ | with_reducible refine Pm.at2 ?_ | with_reducible refine Pm.at3 ?_ | with_reducible refine Pm.at4 ?_ | with_reducible refine Pm.at5 ?_ | with_reducible refine Pm.at6 ?_ | with_reducible refine Pm.at7 ?_ | with_reducible refine Pm.at8 ?_ | with_reducible refine Pm.skip ?_))) : Own ε w9 (slcP _ pre :: rldN b (.slice (some ⟨g1, o1, none⟩) n c1) (.slice (some ⟨g2, 0, none⟩) n c2) ⟨re, q0, tp, sb⟩ :: slcP (.slice (some ⟨g1, o1, none⟩) n c1) (psOf q) :: slcB (.slice (some ⟨g2, 0, none⟩) n c2) (osOf (marks is q (k + 1))) :: R))
            clear H9 HS y0_ y1_ y2_ y3_ y4_ y5_ y6_
            have hps : (psOf q)[k]? = some ⟨pn, ps, p3, p4, p5, p6, p7⟩ := by rw [List.getElem?_map, he.out]; rfl
            obtain ⟨y0_, y1_, y2_, y3_, y4_, y5_, y6_⟩ := pk_rd8 HH.out.r3 hps
            replace hps := Lib.hid hps
            (try clear cc1_); (try clear cc2_); (try clear cc3_); (try clear cc4_); (try clear cc5_); (try clear cc6_); (try clear cc7_)
            have cc2_ := HH.out.r2.cells
            go_wp2_with (with_reducible refine stop_bs ?_)
            refine Stop.go ?_
            refine wpList_bs1_own HH.out #[_, _, _, _, _, _, _] 7 56 Try.underlying40 (by kernel_rfl) (by decide) (by decide) rfl rfl ?_
            intro g_ w3_ H9_
            replace HH := Lib.hid H9_
            clear H9_
            go_wp2_with (with_reducible refine stop_app ?_)
            refine Stop.go ?_
            refine wpList_app1_own rfl _ _ 40 rfl 50 7 56 Try.underlying40 (by kernel_rfl) (by decide) (pre.length) rfl rfl HH.out (flat_pks_len pre) rfl (by repeat (first | (refine List.forall_mem_cons.2 ⟨(by first | with_reducible assumption | rfl), ?_⟩) | exact fun _ h => absurd h List.not_mem_nil)) (by simp only [maxLen]; omega) (by omega) ?_
            intro v1 w4_ H9_
            obtain ⟨A_v1, n_v1, c_v1, rfl⟩ := H9_.slc_isv
            replace HH := Lib.hid H9_
            clear H9_
            clear y0_ y1_ y2_ y3_ y4_ y5_ y6_
            have im := ite_max
            replace HH := Lib.hid (show Own ε _ (slc 50 7 (.slice A_v1 n_v1 c_v1) ((pks pre).flatten ++ [.int .u64 pn, .int .u64 ps, .int .u64 p3, .int .u64 p4, .int .u64 p5, .int .u64 p6, .bool p7]) :: rldN b (.slice (some ⟨g1, o1, none⟩) n c1) (.slice (some ⟨g2, 0, none⟩) n c2) ⟨re, q0, tp, sb⟩ :: slcP (.slice (some ⟨g1, o1, none⟩) n c1) (psOf q) :: slcB (.slice (some ⟨g2, 0, none⟩) n c2) (osOf (marks is q (k + 1))) :: R) from HH.out)
            go_wp2_with fail
            refine wp_region_reg (some 16) HH.out (by kernel_rfl) ?_
            intro wm H9_
            replace HH := Lib.hid H9_
            clear H9_
            refine reg_p (i := 0) rfl (by kernel_rfl) (fun _ _ _ _ h => h) HH.out (fun K hK => ?_)
            go_simp
            first | (refine hK _ ?_; clear hK K) | (apply Exists.intro; refine ⟨?_, hK _ ?_⟩; (focus (intro wx; first | (go_simp; first | rfl) | rfl)); clear hK K)
            refine reg_p (i := 1) rfl (by kernel_rfl) (fun _ _ _ _ h => h) HH.out (fun K hK => ?_)
            go_simp
            first | (refine hK _ ?_; clear hK K) | (apply Exists.intro; refine ⟨?_, hK _ ?_⟩; (focus (intro wx; first | (go_simp; first | rfl) | rfl)); clear hK K)
            refine reg_p (i := 2) rfl (by kernel_rfl) (fun _ _ _ _ h => h) HH.out (fun K hK => ?_)
            go_simp
            first | (refine hK _ ?_; clear hK K) | (apply Exists.intro; refine ⟨?_, hK _ ?_⟩; (focus (intro wx; first | (go_simp; first | rfl) | rfl)); clear hK K)
            refine reg_p (i := 3) rfl (by kernel_rfl) (fun _ _ _ _ h => h) HH.out (fun K hK => ?_)
            go_simp
            first | (refine hK _ ?_; clear hK K) | (apply Exists.intro; refine ⟨?_, hK _ ?_⟩; (focus (intro wx; first | (go_simp; first | rfl) | rfl)); clear hK K)
            refine mixk_q (i := 4) rfl (by kernel_rfl) (fun _ _ _ _ h => h) HH.out (fun K hK => ?_)
            go_simp
            first | (refine hK _ ?_; clear hK K) | (apply Exists.intro; refine ⟨?_, hK _ ?_⟩; (focus (intro wx hx; have x2_ := hx.r2.cells; have y0_ := (pk_rd8 ((Own.pm (hx) (by repeat (first | with_reducible exact Pm.refl _ | with_reducible exact Pm.nil _ | with_reducible refine Pm.here ?_ | with_reducible refine Pm.at2 ?_ | with_reducible refine Pm.at3 ?_ | with_reducible refine Pm.at4 ?_ | with_reducible refine Pm.at5 ?_ | with_reducible refine Pm.at6 ?_ | with_reducible refine Pm.at7 ?_ | with_reducible refine Pm.at8 ?_ | with_reducible refine Pm.skip ?_))) : Own ε _ (slcP (.slice (some ⟨g1, o1, none⟩) n c1) (psOf q) :: R)) hps.out).1; first | (go_simp; first | rfl | exact ⟨rfl, rfl⟩) | rfl | exact ⟨rfl, rfl⟩)); clear hK K)
            refine reg_p (i := 5) rfl (by kernel_rfl) (fun _ _ _ _ h => h) HH.out (fun K hK => ?_)
            go_simp
            first | (refine hK _ ?_; clear hK K) | (apply Exists.intro; refine ⟨?_, hK _ ?_⟩; (focus (intro wx; first | (go_simp; first | rfl) | rfl)); clear hK K)
            refine reg_p (i := 6) rfl (by kernel_rfl) (fun _ _ _ _ h => h) HH.out (fun K hK => ?_)
            go_simp
            first | (refine hK _ ?_; clear hK K) | (apply Exists.intro; refine ⟨?_, hK _ ?_⟩; (focus (intro wx; first | (go_simp; first | rfl) | rfl)); clear hK K)
            refine reg_p (i := 7) rfl (by kernel_rfl) (fun _ _ _ _ h => h) HH.out (fun K hK => ?_)
            go_simp
            first | (refine hK _ ?_; clear hK K) | (apply Exists.intro; refine ⟨?_, hK _ ?_⟩; (focus (intro wx; first | (go_simp; first | rfl) | rfl)); clear hK K)
            refine mixk_q (i := 8) rfl (by kernel_rfl) (fun _ _ _ _ h => h) HH.out (fun K hK => ?_)
            go_simp
            first | (refine hK _ ?_; clear hK K) | (apply Exists.intro; refine ⟨?_, hK _ ?_⟩; (focus (intro wx hx; have x2_ := hx.r2.cells; have y0_ := (pk_rd8 ((Own.pm (hx) (by repeat (first | with_reducible exact Pm.refl _ | with_reducible exact Pm.nil _ | with_reducible refine Pm.here ?_ | with_reducible refine Pm.at2 ?_ | with_reducible refine Pm.at3 ?_ | with_reducible refine Pm.at4 ?_ | with_reducible refine Pm.at5 ?_ | with_reducible refine Pm.at6 ?_ | with_reducible refine Pm.at7 ?_ | with_reducible refine Pm.at8 ?_ | with_reducible refine Pm.skip ?_))) : Own ε _ (slcP (.slice (some ⟨g1, o1, none⟩) n c1) (psOf q) :: R)) hps.out).1; first | (go_simp; first | rfl | exact ⟨rfl, rfl⟩) | rfl | exact ⟨rfl, rfl⟩)); clear hK K)
            refine reg_p (i := 9) rfl (by kernel_rfl) (fun _ _ _ _ h => h) HH.out (fun K hK => ?_)
            go_simp
            first | (refine hK _ ?_; clear hK K) | (apply Exists.intro; refine ⟨?_, hK _ ?_⟩; (focus (intro wx; first | (go_simp; first | rfl) | rfl)); clear hK K)
            refine reg_p (i := 10) rfl (by kernel_rfl) (fun _ _ _ _ h => h) HH.out (fun K hK => ?_)
            go_simp
            first | (refine hK _ ?_; clear hK K) | (apply Exists.intro; refine ⟨?_, hK _ ?_⟩; (focus (intro wx; first | (go_simp; first | rfl) | rfl)); clear hK K)
            refine reg_p (i := 11) rfl (by kernel_rfl) (fun _ _ _ _ h => h) HH.out (fun K hK => ?_)
            go_simp
            first | (refine hK _ ?_; clear hK K) | (apply Exists.intro; refine ⟨?_, hK _ ?_⟩; (focus (intro wx; first | (go_simp; first | rfl) | rfl)); clear hK K)
            refine mixk_q (i := 12) rfl (by kernel_rfl) (fun _ _ _ _ h => h) HH.out (fun K hK => ?_)
            go_simp
            first | (refine hK _ ?_; clear hK K) | (apply Exists.intro; refine ⟨?_, hK _ ?_⟩; (focus (intro wx hx; have x2_ := hx.r2.cells; have y0_ := (pk_rd8 ((Own.pm (hx) (by repeat (first | with_reducible exact Pm.refl _ | with_reducible exact Pm.nil _ | with_reducible refine Pm.here ?_ | with_reducible refine Pm.at2 ?_ | with_reducible refine Pm.at3 ?_ | with_reducible refine Pm.at4 ?_ | with_reducible refine Pm.at5 ?_ | with_reducible refine Pm.at6 ?_ | with_reducible refine Pm.at7 ?_ | with_reducible refine Pm.at8 ?_ | with_reducible refine Pm.skip ?_))) : Own ε _ (slcP (.slice (some ⟨g1, o1, none⟩) n c1) (psOf q) :: R)) hps.out).1; first | (go_simp; first | rfl | exact ⟨rfl, rfl⟩) | rfl | exact ⟨rfl, rfl⟩)); clear hK K)
            refine reg_p (i := 13) rfl (by kernel_rfl) (fun _ _ _ _ h => h) HH.out (fun K hK => ?_)
            go_simp
            first | (refine hK _ ?_; clear hK K) | (apply Exists.intro; refine ⟨?_, hK _ ?_⟩; (focus (intro wx; first | (go_simp; first | rfl) | rfl)); clear hK K)
            refine reg_p (i := 14) rfl (by kernel_rfl) (fun _ _ _ _ h => h) HH.out (fun K hK => ?_)
            go_simp
            first | (refine hK _ ?_; clear hK K) | (apply Exists.intro; refine ⟨?_, hK _ ?_⟩; (focus (intro wx; first | (go_simp; first | rfl) | rfl)); clear hK K)
            refine reg_p (i := 15) rfl (by kernel_rfl) (fun _ _ _ _ h => h) HH.out (fun K hK => ?_)
            go_simp
            first | (refine hK _ ?_; clear hK K) | (apply Exists.intro; refine ⟨?_, hK _ ?_⟩; (focus (intro wx; first | (go_simp; first | rfl) | rfl)); clear hK K)
            refine reg_l none (i := 16) rfl (by kernel_rfl) (fun wn hk K hK => ?_)
            replace HH := Lib.hid (hk _ _ HH.out)
            clear hk
            have hx := HH.out
            have x2_ := hx.r2.cells
            have y0_ := (pk_rd8 ((Own.pm (hx) (by repeat (first | with_reducible exact Pm.refl _ | with_reducible exact Pm.nil _ | with_reducible refine Pm.here ?_ | with_reducible refine Pm.at2 ?_ | with_reducible refine Pm.at3 ?_ | with_reducible refine Pm.at4 ?_ | with_reducible refine Pm.at5 ?_ | with_reducible refine Pm.at6 ?_ | with_reducible refine Pm.at7 ?_ | with_reducible refine Pm.at8 ?_ | with_reducible refine Pm.skip ?_))) : Own ε _ (slcP (.slice (some ⟨g1, o1, none⟩) n c1) (psOf q) :: R)) hps.out).1
            go_simp
            replace HH := Lib.hid (HH.out.r2.set 3 (.int .u64 (max tp pn)))
            simp only [List.setIfInBounds_toArray, List.set_cons_succ, List.set_cons_zero] at HH
            generalize wn.setCell ⟨b, 3, none⟩ (.int .u64 (max tp pn)) = wm at *
            clear hx x2_
            refine hK _ _ _ HH.out (.inl (by kernel_rfl)) ?_
            clear hK K
            refine mixk_done (by kernel_rfl) (fun w5_ hk => ?_) _
            replace HH := Lib.hid (hk _ _ HH.out)
            clear hk
            clear im
            (try clear cc1_); (try clear cc2_); (try clear cc3_); (try clear cc4_); (try clear cc5_); (try clear cc6_); (try clear cc7_)
            have cc1_ := HH.out.cells
            go_wp2_with (with_reducible refine stop_st ?_)
            refine Stop.go ?_
            refine wpList_store1_own (v := .bool true) (k := 4) rfl rfl HH.out (by kernel_rfl) (by simp) (by first | rfl | assumption) ?_
            intro w6_ H9_
            replace HH := Lib.hid H9_
            clear H9_
            simp only [List.setIfInBounds_toArray, List.set_cons_succ, List.set_cons_zero] at HH
            go_wp2_with fail
            go_roundw
            case rel =>
              refine ⟨k + 1, max tp pn, true, by omega, by go_num, by rw [e1.out, topOf_next, ← htp.out], by rw [e1.out, some_next, Bool.or_true], ?_⟩
              rw [e1.out]
              have H6 := ((Own.pm (HH.out) (by repeat (first | with_reducible exact Pm.refl _ | with_reducible exact Pm.nil _ | with_reducible refine Pm.here ?_ | with_reducible refine Pm.at2 ?_ | with_reducible refine Pm.at3 ?_ | with_reducible refine Pm.at4 ?_ | with_reducible refine Pm.at5 ?_ | with_reducible refine Pm.at6 ?_ | with_reducible refine Pm.at7 ?_ | with_reducible refine Pm.at8 ?_ | with_reducible refine Pm.skip ?_))) : Own ε _ (slc 50 7 (.slice A_v1 n_v1 c_v1) ((pks pre).flatten ++ [.int .u64 pn, .int .u64 ps, .int .u64 p3, .int .u64 p4, .int .u64 p5, .int .u64 p6, .bool p7]) :: pts b _ :: slcP (.slice (some ⟨g1, o1, none⟩) n c1) (psOf q) :: slcB (.slice (some ⟨g2, 0, none⟩) n c2) (osOf (marks is q (k + 1))) :: R))
              rw [show (pks pre).flatten ++ [.int .u64 pn, .int .u64 ps, .int .u64 p3, .int .u64 p4, .int .u64 p5, .int .u64 p6, .bool p7] = (pks (pre ++ [⟨pn, ps, p3, p4, p5, p6, p7⟩])).flatten from (flat_pks_snoc pre (⟨pn, ps, p3, p4, p5, p6, p7⟩ : Pk)).symm] at H6
              exact H6
            case measure => simp [intOf]; omega
          | false =>
            simp only [Bool.false_eq_true, if_false, List.append_nil] at e1
            have e3 : os.set k false = os := by
              obtain ⟨h, e4⟩ := List.getElem?_eq_some_iff.1 hos.out
              rw [← e4]
              exact List.set_getElem_self h
            rw [e3] at e2
            clear e3 HS
            replace e1 := Lib.hid e1
            replace e2 := Lib.hid e2
            (try clear cc1_); (try clear cc2_); (try clear cc3_); (try clear cc4_); (try clear cc5_); (try clear cc6_); (try clear cc7_)
            have cc2_ := HH.out.r2.cells
            go_wp2_with fail
            refine (rHas_c _ xs pn A len cap hit.out hm).mono ?_
            rintro e w' ⟨rfl, rfl⟩
            rw [hqI.out]
            go_wp2_with fail
            go_roundw
            case rel => exact ⟨k + 1, tp, sb, by omega, by go_num, by rw [e1.out]; exact htp.out, by rw [e1.out]; exact hsb.out, by rw [e1.out, e2.out]; exact HH.out⟩
            case measure => simp [intOf]; omega
      · have hkn : ¬ (k : Int) < (n : Int) := by omega
        obtain rfl : k = n := by omega
        rw [show q.take k = q by rw [hn.out, List.take_length]] at htp hsb
        rw [show marks is q k = marked is q by rw [hn.out, marks_all], show q.take k = q by rw [hn.out, List.take_length]] at HH
        replace htp := Lib.hid htp
        replace hsb := Lib.hid hsb
        (try clear cc1_); (try clear cc2_); (try clear cc3_); (try clear cc4_); (try clear cc5_); (try clear cc6_); (try clear cc7_)
        have cc2_ := HH.out.r2.cells
        go_wp2_with fail
        go_ret2
        have H7 := ((Own.pm (HH.out) (by repeat (first | with_reducible exact Pm.refl _ | with_reducible exact Pm.nil _ | with_reducible refine Pm.here ?_ | with_reducible refine Pm.at2 ?_ | with_reducible refine Pm.at3 ?_ | with_reducible refine Pm.at4 ?_ | with_reducible refine Pm.at5 ?_ | with_reducible refine Pm.at6 ?_ | with_reducible refine Pm.at7 ?_ | with_reducible refine Pm.at8 ?_ | with_reducible refine Pm.skip ?_))) : Own ε _ (rldN b _ _ ⟨re, q0, tp, sb⟩ :: slcP _ (psOf q) :: slcB _ (osOf (marked is q)) :: slcP _ (taken is q) :: R))
        rw [show psOf q = psOf (marked is q) by rw [← marks_all, ps_marks]] at H7
        rw [← htp.out, ← hsb.out]
        exact ⟨_, rfl, Own.l2 (Own.rled_mk (m := ⟨re, marked is q, tp, sb⟩) H7)⟩
end
end Go.Proofs.Ytlhncdbigjgmnaa
namespace Go.Proofs.Ytlhncdbigjgmnaa
open Go.RowKit
theorem slc_src {ε w : World} {R : List Asn} {T : TypeId} {sz n c : Nat} {A : Option Addr} {xs : List Value} (H : Own ε w (slc T sz (.slice A n c) xs :: R)) : srcAt w A n sz xs := by
  rcases H.slc_val with ⟨e, rfl⟩ | ⟨g, n', c', e, _, _, hl, hv, _⟩
  · cases e
    exact ⟨by simp, .inl rfl⟩
  · cases e
    exact ⟨hl, .inr ⟨g, 0, rfl, fun j u hj => by rw [Nat.zero_add]; exact hv j u hj⟩⟩
theorem blr_one (l : List Bool) : ∀ u ∈ blr l, u.oneCell' = true := by
  intro u hu
  obtain ⟨x, _, rfl⟩ := List.mem_map.1 hu
  rfl
section
variable (ε w : World) (R : List Asn) (b : Nat)
set_option maxRecDepth 100000 in
set_option maxHeartbeats 3200000 in
theorem rCopy_c (m : RLd) (hl : m.q.length ≤ 1000000) (H : Own ε w (rled b m :: R)) :
    Calls Try.prog 21 #[.pointer (some ⟨b, 0, none⟩)] w fun e w' => ∃ c, e = .returned (.pointer (some ⟨c, 0, none⟩)) ∧ Own ε w' (rled c m :: rled b m :: R) := by
  obtain ⟨A1, c1, A2, c2, H⟩ := H.rled_open
  obtain ⟨re, q, top, sm⟩ := m
  simp only at hl H
  have HH := Lib.hid H; clear H
  obtain ⟨n, hn⟩ : ∃ n, n = q.length := ⟨_, rfl⟩
  rw [← hn] at HH hl
  have hfl : (pks (psOf q)).flatten.length ≤ 7000000 := by rw [flat_pks_len, List.length_map, ← hn]; omega
  have hbl : (blr (osOf q)).length ≤ 1000000 := by rw [blr_len, List.length_map, ← hn]; exact hl
  replace hn := Lib.hid hn
  obtain ⟨X, hX⟩ : ∃ X, X = (pks (psOf q)).flatten := ⟨_, rfl⟩
  obtain ⟨Y, hY⟩ : ∃ Y, Y = blr (osOf q) := ⟨_, rfl⟩
  have hX1 : ∀ u ∈ X, u.oneCell' = true := by rw [hX]; exact flat_pks_one _
  have hY1 : ∀ u ∈ Y, u.oneCell' = true := by rw [hY]; exact blr_one _
  rw [← hX] at hfl
  rw [← hY] at hbl
  replace HH := Lib.hid (show Own ε w (rldN b (.slice A1 n c1) (.slice A2 n c2) ⟨re, q, top, sm⟩ :: slc 50 7 (.slice A1 n c1) X :: slc 4 1 (.slice A2 n c2) Y :: R) by rw [hX, hY]; exact HH.out)
  have hmk : ∀ (W : World) (v1 v2 : Value) (bb : Nat) (S : List Asn), Own ε W (rldN bb v1 v2 ⟨re, q, top, sm⟩ :: slc 50 7 v1 X :: slc 4 1 v2 Y :: S) → Own ε W (rled bb ⟨re, q, top, sm⟩ :: S) := fun W v1 v2 bb S H => Own.rled_mk (m := ⟨re, q, top, sm⟩) (by simp only; rw [hX, hY] at H; exact H)
  replace hmk := Lib.hid hmk
  clear hX hY
  replace hX1 := Lib.hid hX1
  replace hY1 := Lib.hid hY1
  replace hfl := Lib.hid hfl
  replace hbl := Lib.hid hbl
  go_enter Try.func21, Try.ntmps21
  go_wp2_with fail
  refine wp_region_reg none HH.out (by kernel_rfl) ?_
  intro wm H9_
  replace HH := Lib.hid H9_
  clear H9_
  refine reg_p (i := 0) rfl (by kernel_rfl) (fun _ _ _ _ h => h) HH.out (fun K hK => ?_)
  go_simp
  first | (refine hK _ ?_; clear hK K) | (apply Exists.intro; refine ⟨?_, hK _ ?_⟩; (focus (intro wx; first | (go_simp; first | rfl) | rfl)); clear hK K)
  refine reg_p (i := 1) rfl (by kernel_rfl) (fun _ _ _ _ h => h) HH.out (fun K hK => ?_)
  go_simp
  first | (refine hK _ ?_; clear hK K) | (apply Exists.intro; refine ⟨?_, hK _ ?_⟩; (focus (intro wx; first | (go_simp; first | rfl) | rfl)); clear hK K)
  refine reg_p (i := 2) rfl (by kernel_rfl) (fun _ _ _ _ h => h) HH.out (fun K hK => ?_)
  go_simp
  first | (refine hK _ ?_; clear hK K) | (apply Exists.intro; refine ⟨?_, hK _ ?_⟩; (focus (intro wx; first | (go_simp; first | rfl) | rfl)); clear hK K)
  refine mixk_q (i := 3) rfl (by kernel_rfl) (fun _ _ _ _ h => h) HH.out (fun K hK => ?_)
  go_simp
  first | (refine hK _ ?_; clear hK K) | (apply Exists.intro; refine ⟨?_, hK _ ?_⟩; (focus (intro wx hx; have x1_ := hx.cells; first | (go_simp; first | rfl | exact ⟨rfl, rfl⟩) | rfl | exact ⟨rfl, rfl⟩)); clear hK K)
  refine reg_p (i := 4) rfl (by kernel_rfl) (fun _ _ _ _ h => h) HH.out (fun K hK => ?_)
  go_simp
  first | (refine hK _ ?_; clear hK K) | (apply Exists.intro; refine ⟨?_, hK _ ?_⟩; (focus (intro wx; first | (go_simp; first | rfl) | rfl)); clear hK K)
  refine reg_p (i := 5) rfl (by kernel_rfl) (fun _ _ _ _ h => h) HH.out (fun K hK => ?_)
  go_simp
  first | (refine hK _ ?_; clear hK K) | (apply Exists.intro; refine ⟨?_, hK _ ?_⟩; (focus (intro wx; first | (go_simp; first | rfl) | rfl)); clear hK K)
  refine reg_p (i := 6) rfl (by kernel_rfl) (fun _ _ _ _ h => h) HH.out (fun K hK => ?_)
  go_simp
  first | (refine hK _ ?_; clear hK K) | (apply Exists.intro; refine ⟨?_, hK _ ?_⟩; (focus (intro wx; first | (go_simp; first | rfl) | rfl)); clear hK K)
  refine mixk_q (i := 7) rfl (by kernel_rfl) (fun _ _ _ _ h => h) HH.out (fun K hK => ?_)
  go_simp
  first | (refine hK _ ?_; clear hK K) | (apply Exists.intro; refine ⟨?_, hK _ ?_⟩; (focus (intro wx hx; have x1_ := hx.cells; first | (go_simp; first | rfl | exact ⟨rfl, rfl⟩) | rfl | exact ⟨rfl, rfl⟩)); clear hK K)
  refine reg_p (i := 8) rfl (by kernel_rfl) (fun _ _ _ _ h => h) HH.out (fun K hK => ?_)
  go_simp
  first | (refine hK _ ?_; clear hK K) | (apply Exists.intro; refine ⟨?_, hK _ ?_⟩; (focus (intro wx; first | (go_simp; first | rfl) | rfl)); clear hK K)
  refine reg_p (i := 9) rfl (by kernel_rfl) (fun _ _ _ _ h => h) HH.out (fun K hK => ?_)
  go_simp
  first | (refine hK _ ?_; clear hK K) | (apply Exists.intro; refine ⟨?_, hK _ ?_⟩; (focus (intro wx; first | (go_simp; first | rfl) | rfl)); clear hK K)
  refine reg_p (i := 10) rfl (by kernel_rfl) (fun _ _ _ _ h => h) HH.out (fun K hK => ?_)
  go_simp
  first | (refine hK _ ?_; clear hK K) | (apply Exists.intro; refine ⟨?_, hK _ ?_⟩; (focus (intro wx; first | (go_simp; first | rfl) | rfl)); clear hK K)
  refine mixk_q (i := 11) rfl (by kernel_rfl) (fun _ _ _ _ h => h) HH.out (fun K hK => ?_)
  go_simp
  first | (refine hK _ ?_; clear hK K) | (apply Exists.intro; refine ⟨?_, hK _ ?_⟩; (focus (intro wx hx; have x1_ := hx.cells; first | (go_simp; first | rfl | exact ⟨rfl, rfl⟩) | rfl | exact ⟨rfl, rfl⟩)); clear hK K)
  refine reg_p (i := 12) rfl (by kernel_rfl) (fun _ _ _ _ h => h) HH.out (fun K hK => ?_)
  go_simp
  first | (refine hK _ ?_; clear hK K) | (apply Exists.intro; refine ⟨?_, hK _ ?_⟩; (focus (intro wx; first | (go_simp; first | rfl) | rfl)); clear hK K)
  refine reg_l none (i := 13) rfl (by kernel_rfl) (fun wn hk K hK => ?_)
  replace HH := Lib.hid (hk _ _ HH.out)
  clear hk
  go_simp
  replace HH := Lib.hid (HH.out.alloc (.cells #[.int .u64 re, .slice none 0 0, .slice none 0 0, .int .u64 top, .bool sm] 55))
  generalize wn.alloc (.cells #[.int .u64 re, .slice none 0 0, .slice none 0 0, .int .u64 top, .bool sm] 55) = wm at *
  generalize wn.heap.size = xb at *
  refine hK _ _ _ HH.out (.inr ⟨rfl, fun _ h => h.tail⟩) ?_
  clear hK K
  refine reg_p (i := 14) rfl (by kernel_rfl) (fun _ _ _ _ h => h) HH.out (fun K hK => ?_)
  go_simp
  first | (refine hK _ ?_; clear hK K) | (apply Exists.intro; refine ⟨?_, hK _ ?_⟩; (focus (intro wx; first | (go_simp; first | rfl) | rfl)); clear hK K)
  refine mixk_done (by kernel_rfl) (fun w1_ hk => ?_) _
  replace HH := Lib.hid (hk _ _ HH.out)
  clear hk
  replace HH := Lib.hid ((Own.pm (HH.out) (by repeat (first | with_reducible exact Pm.refl _ | with_reducible exact Pm.nil _ | with_reducible refine Pm.here ?_ | with_reducible refine Pm.at2 ?_ | with_reducible refine Pm.at3 ?_ | with_reducible refine Pm.at4 ?_ | with_reducible refine Pm.at5 ?_ | with_reducible refine Pm.at6 ?_ | with_reducible refine Pm.at7 ?_ | with_reducible refine Pm.at8 ?_ | with_reducible refine Pm.skip ?_))) : Own _ _ (pts xb _ :: pts b _ :: slc 50 7 (.slice A1 n c1) X :: slc 4 1 (.slice A2 n c2) Y :: R))
  replace HH := Lib.hid (HH.out.slc_none (T := 50) (sz := 7))
  go_wp2_with fail
  refine wp_region_reg (some 9) HH.out (by kernel_rfl) ?_
  intro wm H9_
  replace HH := Lib.hid H9_
  clear H9_
  refine reg_p (i := 0) rfl (by kernel_rfl) (fun _ _ _ _ h => h) HH.out (fun K hK => ?_)
  go_simp
  first | (refine hK _ ?_; clear hK K) | (apply Exists.intro; refine ⟨?_, hK _ ?_⟩; (focus (intro wx; first | (go_simp; first | rfl) | rfl)); clear hK K)
  refine reg_p (i := 1) rfl (by kernel_rfl) (fun _ _ _ _ h => h) HH.out (fun K hK => ?_)
  go_simp
  first | (refine hK _ ?_; clear hK K) | (apply Exists.intro; refine ⟨?_, hK _ ?_⟩; (focus (intro wx; first | (go_simp; first | rfl) | rfl)); clear hK K)
  refine reg_p (i := 2) rfl (by kernel_rfl) (fun _ _ _ _ h => h) HH.out (fun K hK => ?_)
  go_simp
  first | (refine hK _ ?_; clear hK K) | (apply Exists.intro; refine ⟨?_, hK _ ?_⟩; (focus (intro wx; first | (go_simp; first | rfl) | rfl)); clear hK K)
  refine reg_p (i := 3) rfl (by kernel_rfl) (fun _ _ _ _ h => h) HH.out (fun K hK => ?_)
  go_simp
  first | (refine hK _ ?_; clear hK K) | (apply Exists.intro; refine ⟨?_, hK _ ?_⟩; (focus (intro wx; first | (go_simp; first | rfl) | rfl)); clear hK K)
  refine mixk_q (i := 4) rfl (by kernel_rfl) (fun _ _ _ _ h => h) HH.out (fun K hK => ?_)
  go_simp
  first | (refine hK _ ?_; clear hK K) | (apply Exists.intro; refine ⟨?_, hK _ ?_⟩; (focus (intro wx hx; have x2_ := hx.r2.cells; have x3_ := hx.r3.cells; first | (go_simp; first | rfl | exact ⟨rfl, rfl⟩) | rfl | exact ⟨rfl, rfl⟩)); clear hK K)
  refine reg_p (i := 5) rfl (by kernel_rfl) (fun _ _ _ _ h => h) HH.out (fun K hK => ?_)
  go_simp
  first | (refine hK _ ?_; clear hK K) | (apply Exists.intro; refine ⟨?_, hK _ ?_⟩; (focus (intro wx; first | (go_simp; first | rfl) | rfl)); clear hK K)
  refine reg_p (i := 6) rfl (by kernel_rfl) (fun _ _ _ _ h => h) HH.out (fun K hK => ?_)
  go_simp
  first | (refine hK _ ?_; clear hK K) | (apply Exists.intro; refine ⟨?_, hK _ ?_⟩; (focus (intro wx; first | (go_simp; first | rfl) | rfl)); clear hK K)
  refine reg_p (i := 7) rfl (by kernel_rfl) (fun _ _ _ _ h => h) HH.out (fun K hK => ?_)
  go_simp
  first | (refine hK _ ?_; clear hK K) | (apply Exists.intro; refine ⟨?_, hK _ ?_⟩; (focus (intro wx; first | (go_simp; first | rfl) | rfl)); clear hK K)
  refine mixk_q (i := 8) rfl (by kernel_rfl) (fun _ _ _ _ h => h) HH.out (fun K hK => ?_)
  go_simp
  first | (refine hK _ ?_; clear hK K) | (apply Exists.intro; refine ⟨?_, hK _ ?_⟩; (focus (intro wx hx; have x2_ := hx.r2.cells; have x3_ := hx.r3.cells; first | (go_simp; first | rfl | exact ⟨rfl, rfl⟩) | rfl | exact ⟨rfl, rfl⟩)); clear hK K)
  refine reg_l (some 12) (i := 9) rfl (by kernel_rfl) (fun wn hk K hK => ?_)
  replace HH := Lib.hid (hk _ _ HH.out)
  clear hk
  refine want rfl (wp_append_slc _ _ 40 rfl 50 7 56 Try.underlying40 (by kernel_rfl) (by decide) rfl (HH.out) rfl ((show ([] : List Value).length = 0 * 7 from rfl)) ((slc_src (HH.out.r4))) (hX1.out) (by simp only [maxLen]; omega) (by omega) ?_)
  intro v1 wm H9_
  obtain ⟨A_v1, n_v1, c_v1, rfl⟩ := H9_.slc_isv
  replace HH := Lib.hid H9_
  clear H9_
  refine hK _ _ _ HH.out (.inl (by kernel_rfl)) ?_
  clear hK K
  refine reg_p (i := 10) rfl (by kernel_rfl) (fun _ _ _ _ h => h) HH.out (fun K hK => ?_)
  go_simp
  first | (refine hK _ ?_; clear hK K) | (apply Exists.intro; refine ⟨?_, hK _ ?_⟩; (focus (intro wx; first | (go_simp; first | rfl) | rfl)); clear hK K)
  refine reg_p (i := 11) rfl (by kernel_rfl) (fun _ _ _ _ h => h) HH.out (fun K hK => ?_)
  go_simp
  first | (refine hK _ ?_; clear hK K) | (apply Exists.intro; refine ⟨?_, hK _ ?_⟩; (focus (intro wx; first | (go_simp; first | rfl) | rfl)); clear hK K)
  refine reg_l none (i := 12) rfl (by kernel_rfl) (fun wn hk K hK => ?_)
  replace HH := Lib.hid (hk _ _ HH.out)
  clear hk
  have hx := HH.out
  have x2_ := hx.r2.cells
  have x3_ := hx.r3.cells
  go_simp
  replace HH := Lib.hid (HH.out.r2.set 1 (.slice A_v1 n_v1 c_v1))
  simp only [List.setIfInBounds_toArray, List.set_cons_succ, List.set_cons_zero] at HH
  generalize wn.setCell ⟨xb, 1, none⟩ (.slice A_v1 n_v1 c_v1) = wm at *
  clear hx x2_ x3_
  refine hK _ _ _ HH.out (.inl (by kernel_rfl)) ?_
  clear hK K
  refine mixk_done (by kernel_rfl) (fun w2_ hk => ?_) _
  replace HH := Lib.hid (hk _ _ HH.out)
  clear hk
  replace HH := Lib.hid ((Own.pm (HH.out) (by repeat (first | with_reducible exact Pm.refl _ | with_reducible exact Pm.nil _ | with_reducible refine Pm.here ?_ | with_reducible refine Pm.at2 ?_ | with_reducible refine Pm.at3 ?_ | with_reducible refine Pm.at4 ?_ | with_reducible refine Pm.at5 ?_ | with_reducible refine Pm.at6 ?_ | with_reducible refine Pm.at7 ?_ | with_reducible refine Pm.at8 ?_ | with_reducible refine Pm.skip ?_))) : Own _ _ (pts xb _ :: pts b _ :: slc 50 7 (.slice A_v1 n_v1 c_v1) ([] ++ X) :: slc 50 7 (.slice A1 n c1) X :: slc 4 1 (.slice A2 n c2) Y :: R))
  replace HH := Lib.hid (HH.out.slc_none (T := 4) (sz := 1))
  go_wp2_with fail
  refine wp_region_reg (some 9) HH.out (by kernel_rfl) ?_
  intro wm H9_
  replace HH := Lib.hid H9_
  clear H9_
  refine reg_p (i := 0) rfl (by kernel_rfl) (fun _ _ _ _ h => h) HH.out (fun K hK => ?_)
  go_simp
  first | (refine hK _ ?_; clear hK K) | (apply Exists.intro; refine ⟨?_, hK _ ?_⟩; (focus (intro wx; first | (go_simp; first | rfl) | rfl)); clear hK K)
  refine reg_p (i := 1) rfl (by kernel_rfl) (fun _ _ _ _ h => h) HH.out (fun K hK => ?_)
  go_simp
  first | (refine hK _ ?_; clear hK K) | (apply Exists.intro; refine ⟨?_, hK _ ?_⟩; (focus (intro wx; first | (go_simp; first | rfl) | rfl)); clear hK K)
  refine reg_p (i := 2) rfl (by kernel_rfl) (fun _ _ _ _ h => h) HH.out (fun K hK => ?_)
  go_simp
  first | (refine hK _ ?_; clear hK K) | (apply Exists.intro; refine ⟨?_, hK _ ?_⟩; (focus (intro wx; first | (go_simp; first | rfl) | rfl)); clear hK K)
  refine reg_p (i := 3) rfl (by kernel_rfl) (fun _ _ _ _ h => h) HH.out (fun K hK => ?_)
  go_simp
  first | (refine hK _ ?_; clear hK K) | (apply Exists.intro; refine ⟨?_, hK _ ?_⟩; (focus (intro wx; first | (go_simp; first | rfl) | rfl)); clear hK K)
  refine mixk_q (i := 4) rfl (by kernel_rfl) (fun _ _ _ _ h => h) HH.out (fun K hK => ?_)
  go_simp
  first | (refine hK _ ?_; clear hK K) | (apply Exists.intro; refine ⟨?_, hK _ ?_⟩; (focus (intro wx hx; have x2_ := hx.r2.cells; have x3_ := hx.r3.cells; first | (go_simp; first | rfl | exact ⟨rfl, rfl⟩) | rfl | exact ⟨rfl, rfl⟩)); clear hK K)
  refine reg_p (i := 5) rfl (by kernel_rfl) (fun _ _ _ _ h => h) HH.out (fun K hK => ?_)
  go_simp
  first | (refine hK _ ?_; clear hK K) | (apply Exists.intro; refine ⟨?_, hK _ ?_⟩; (focus (intro wx; first | (go_simp; first | rfl) | rfl)); clear hK K)
  refine reg_p (i := 6) rfl (by kernel_rfl) (fun _ _ _ _ h => h) HH.out (fun K hK => ?_)
  go_simp
  first | (refine hK _ ?_; clear hK K) | (apply Exists.intro; refine ⟨?_, hK _ ?_⟩; (focus (intro wx; first | (go_simp; first | rfl) | rfl)); clear hK K)
  refine reg_p (i := 7) rfl (by kernel_rfl) (fun _ _ _ _ h => h) HH.out (fun K hK => ?_)
  go_simp
  first | (refine hK _ ?_; clear hK K) | (apply Exists.intro; refine ⟨?_, hK _ ?_⟩; (focus (intro wx; first | (go_simp; first | rfl) | rfl)); clear hK K)
  refine mixk_q (i := 8) rfl (by kernel_rfl) (fun _ _ _ _ h => h) HH.out (fun K hK => ?_)
  go_simp
  first | (refine hK _ ?_; clear hK K) | (apply Exists.intro; refine ⟨?_, hK _ ?_⟩; (focus (intro wx hx; have x2_ := hx.r2.cells; have x3_ := hx.r3.cells; first | (go_simp; first | rfl | exact ⟨rfl, rfl⟩) | rfl | exact ⟨rfl, rfl⟩)); clear hK K)
  refine reg_l (some 12) (i := 9) rfl (by kernel_rfl) (fun wn hk K hK => ?_)
  replace HH := Lib.hid (hk _ _ HH.out)
  clear hk
  refine want rfl (wp_append_slc _ _ 39 rfl 4 1 1 Try.underlying39 (by kernel_rfl) (by decide) rfl (HH.out) rfl ((show ([] : List Value).length = 0 * 1 from rfl)) ((slc_src (HH.out.r6))) (hY1.out) (by simp only [maxLen]; omega) (by omega) ?_)
  intro v2 wm H9_
  obtain ⟨A_v2, n_v2, c_v2, rfl⟩ := H9_.slc_isv
  replace HH := Lib.hid H9_
  clear H9_
  refine hK _ _ _ HH.out (.inl (by kernel_rfl)) ?_
  clear hK K
  refine reg_p (i := 10) rfl (by kernel_rfl) (fun _ _ _ _ h => h) HH.out (fun K hK => ?_)
  go_simp
  first | (refine hK _ ?_; clear hK K) | (apply Exists.intro; refine ⟨?_, hK _ ?_⟩; (focus (intro wx; first | (go_simp; first | rfl) | rfl)); clear hK K)
  refine reg_p (i := 11) rfl (by kernel_rfl) (fun _ _ _ _ h => h) HH.out (fun K hK => ?_)
  go_simp
  first | (refine hK _ ?_; clear hK K) | (apply Exists.intro; refine ⟨?_, hK _ ?_⟩; (focus (intro wx; first | (go_simp; first | rfl) | rfl)); clear hK K)
  refine reg_l none (i := 12) rfl (by kernel_rfl) (fun wn hk K hK => ?_)
  replace HH := Lib.hid (hk _ _ HH.out)
  clear hk
  have hx := HH.out
  have x2_ := hx.r2.cells
  have x3_ := hx.r3.cells
  go_simp
  replace HH := Lib.hid (HH.out.r2.set 2 (.slice A_v2 n_v2 c_v2))
  simp only [List.setIfInBounds_toArray, List.set_cons_succ, List.set_cons_zero] at HH
  generalize wn.setCell ⟨xb, 2, none⟩ (.slice A_v2 n_v2 c_v2) = wm at *
  clear hx x2_ x3_
  refine hK _ _ _ HH.out (.inl (by kernel_rfl)) ?_
  clear hK K
  refine mixk_done (by kernel_rfl) (fun w3_ hk => ?_) _
  replace HH := Lib.hid (hk _ _ HH.out)
  clear hk
  go_wp2_with fail
  go_ret
  refine ⟨_, rfl, ?_⟩
  have H7 := HH.out
  rw [List.nil_append, List.nil_append] at H7
  have H9 := hmk.out _ (.slice A_v1 n_v1 c_v1) (.slice A_v2 n_v2 c_v2) xb _ ((Own.pm (H7) (by repeat (first | with_reducible exact Pm.refl _ | with_reducible exact Pm.nil _ | with_reducible refine Pm.here ?_ | with_reducible refine Pm.at2 ?_ | with_reducible refine Pm.at3 ?_ | with_reducible refine Pm.at4 ?_ | with_reducible refine Pm.at5 ?_ | with_reducible refine Pm.at6 ?_ | with_reducible refine Pm.at7 ?_ | with_reducible refine Pm.at8 ?_ | with_reducible refine Pm.skip ?_))) : Own ε _ (pts xb _ :: slc 50 7 (.slice A_v1 n_v1 c_v1) X :: slc 4 1 (.slice A_v2 n_v2 c_v2) Y :: pts b _ :: slc 50 7 (.slice A1 n c1) X :: slc 4 1 (.slice A2 n c2) Y :: R))
  have H8 := hmk.out _ (.slice A1 n c1) (.slice A2 n c2) b _ ((Own.pm (H9) (by repeat (first | with_reducible exact Pm.refl _ | with_reducible exact Pm.nil _ | with_reducible refine Pm.here ?_ | with_reducible refine Pm.at2 ?_ | with_reducible refine Pm.at3 ?_ | with_reducible refine Pm.at4 ?_ | with_reducible refine Pm.at5 ?_ | with_reducible refine Pm.at6 ?_ | with_reducible refine Pm.at7 ?_ | with_reducible refine Pm.at8 ?_ | with_reducible refine Pm.skip ?_))) : Own ε _ (pts b _ :: slc 50 7 (.slice A1 n c1) X :: slc 4 1 (.slice A2 n c2) Y :: rled xb _ :: R))
  exact H8.l2
end
end Go.Proofs.Ytlhncdbigjgmnaa
namespace Go.Proofs.Ytlhncdbigjgmnaa
open Go.RowKit
theorem pk_thereS {ε w : World} {R : List Asn} {A : Option Addr} {n cap : Nat} {l : List Pk} (H : Own ε w (slcP (.slice A n cap) l :: R)) : pkAt w A n l := by
  obtain ⟨_, _, _, e, _, _, h⟩ := H.slcP_val
  cases e
  exact h
/-- What an act leaves. -/
def ActEnd (ε : World) (b mb : Nat) (s : Led) (m : RLd) (R : List Asn) (w' : World) : Prop := ∃ s' m', Tie s' m' ∧ s'.re = s.re ∧ m'.q.length ≤ m.q.length + 1 ∧ Own ε w' (led b s' :: rled mb m' :: R)
section
variable (ε w : World) (R : List Asn) (b mb : Nat)
set_option maxRecDepth 100000 in
set_option maxHeartbeats 6400000 in
theorem act08_c (s : Led) (m : RLd) (hT : Tie s m) (hl : m.q.length ≤ 1000) (hre : U s.re) (kd size at' delay limit : Int) (hk0 : 0 ≤ kd) (hk1 : kd < 256) (u1 : U size) (u2 : U at') (u3 : U delay) (u4 : U limit)
    (xs : List Rg) (hU : ∀ x ∈ xs, U x.1 ∧ U x.2) (A : Option Addr) (len cap : Nat) (hA : ∀ wx, Own ε wx R → itAt encRg 2 wx A len xs) (hm : len ≤ 1000) (H : Own ε w (led b s :: rled mb m :: R)) :
    Calls Try.prog 19 #[.pointer (some ⟨b, 0, none⟩), .pointer (some ⟨mb, 0, none⟩), .agg #[.int .u8 kd, .int .u64 size, .int .u64 at', .slice A len cap, .int .u64 delay, .int .u64 limit]] w fun e w' => e = .returned (.bool true) ∧ ActEnd ε b mb s m R w' := by
  have HH := Lib.hid H; clear H
  have hlen := hT.len
  have hok := hT.rowOk
  have hr9 : s.row.length ≤ 1000000 := by omega
  have hb1 : (s.next == (m.q.length : Int)) = true := by rw [hT.next]; simp
  have hnx := hT.next
  replace hT := Lib.hid hT
  replace hlen := Lib.hid hlen
  replace hok := Lib.hid hok
  replace hl := Lib.hid hl
  replace hre := Lib.hid hre
  replace hr9 := Lib.hid hr9
  replace hnx := Lib.hid hnx
  replace hU := Lib.hid hU
  replace hA := Lib.hid hA
  replace hm := Lib.hid hm
  replace u1 := Lib.hid u1
  replace u2 := Lib.hid u2
  replace u3 := Lib.hid u3
  replace u4 := Lib.hid u4
  rcases (show kd % 3 = 0 ∨ kd % 3 = 1 ∨ kd % 3 = 2 by omega) with h3 | h3 | h3
  · go_enter Try.func19, Try.ntmps19
    go_wp2_with (with_reducible refine stop_bx ?_)
    refine Stop.go ?_
    refine wpList_box_own HH.out [_, _, _, _, _, _] rfl ?_
    intro ab w1_ H9_
    replace HH := Lib.hid H9_
    clear H9_
    (try clear cc1_); (try clear cc2_); (try clear cc3_); (try clear cc4_); (try clear cc5_); (try clear cc6_); (try clear cc7_)
    have cc1_ := HH.out.cells
    go_wp2_with (with_reducible refine stop_al ?_)
    refine Stop.go ?_
    refine wpList_alloc_own HH.out [.int .u64 0, .int .u64 0, .int .u64 0, .int .u64 0, .bool false] (by kernel_rfl) ?_
    intro sp w2_ H9_
    replace HH := Lib.hid H9_
    clear H9_
    go_wp2_with (with_reducible refine stop_st ?_)
    refine Stop.go ?_
    refine wpList_store_own _ #[_, _, _, _, _] rfl rfl HH.out (by kernel_rfl) rfl (by repeat (first | (refine List.forall_mem_cons.2 ⟨(by first | with_reducible assumption | rfl), ?_⟩) | exact fun _ h => absurd h List.not_mem_nil)) ?_
    intro w3_ H9_
    replace HH := Lib.hid H9_
    clear H9_
    replace HH := Lib.hid (show Own ε _ (pts sp (.cells #[.int .u64 at', .int .u64 0, .int .u64 delay, .int .u64 0, .bool false] 45 (0, 0)) :: pts ab (.cells #[.int .u8 kd, .int .u64 size, .int .u64 at', .slice A len cap, .int .u64 delay, .int .u64 limit] 42 (0, 0)) :: _) from HH.out)
    go_wp2_with fail
    refine wp_region_regK (some 9) [pts sp (.cells #[.int .u64 at', .int .u64 0, .int .u64 delay, .int .u64 0, .bool false] 45 (0, 0)), pts ab (.cells #[.int .u8 kd, .int .u64 size, .int .u64 at', .slice A len cap, .int .u64 delay, .int .u64 limit] 42 (0, 0))] HH.out (by kernel_rfl) ?_
    intro wm H9_
    replace HH := Lib.hid H9_
    clear H9_
    have HS : Own _ wm [pts sp (.cells #[.int .u64 at', .int .u64 0, .int .u64 delay, .int .u64 0, .bool false] 45 (0, 0)), pts ab (.cells #[.int .u8 kd, .int .u64 size, .int .u64 at', .slice A len cap, .int .u64 delay, .int .u64 limit] 42 (0, 0))] := (Own.pm (HH.out) (by repeat (first | with_reducible exact Pm.refl _ | with_reducible exact Pm.nil _ | with_reducible refine Pm.here ?_ | with_reducible refine Pm.at2 ?_ | with_reducible refine Pm.at3 ?_ | with_reducible refine Pm.at4 ?_ | with_reducible refine Pm.at5 ?_ | with_reducible refine Pm.at6 ?_ | with_reducible refine Pm.at7 ?_ | with_reducible refine Pm.at8 ?_ | with_reducible refine Pm.skip ?_)))
    refine reg_p (i := 0) rfl (by kernel_rfl) (fun _ _ _ _ h => h) HS (fun K hK => ?_)
    go_simp
    first | (refine hK _ ?_; clear hK K) | (apply Exists.intro; refine ⟨?_, hK _ ?_⟩; (focus (intro wx; first | (go_simp; first | rfl) | rfl)); clear hK K)
    refine reg_p (i := 1) rfl (by kernel_rfl) (fun _ _ _ _ h => h) HS (fun K hK => ?_)
    go_simp
    first | (refine hK _ ?_; clear hK K) | (apply Exists.intro; refine ⟨?_, hK _ ?_⟩; (focus (intro wx; first | (go_simp; first | rfl) | rfl)); clear hK K)
    refine mixk_q (i := 2) rfl (by kernel_rfl) (fun _ _ _ _ h => h) HS (fun K hK => ?_)
    go_simp
    first | (refine hK _ ?_; clear hK K) | (apply Exists.intro; refine ⟨?_, hK _ ?_⟩; (focus (intro wx hx; have x1_ := hx.cells; have x2_ := hx.r2.cells; first | (go_simp; first | rfl | exact ⟨rfl, rfl⟩) | rfl | exact ⟨rfl, rfl⟩)); clear hK K)
    refine mixk_q (i := 3) rfl (by kernel_rfl) (fun _ _ _ _ h => h) HS (fun K hK => ?_)
    go_simp
    first | (refine hK _ ?_; clear hK K) | (apply Exists.intro; refine ⟨?_, hK _ ?_⟩; (focus (intro wx hx; have x1_ := hx.cells; have x2_ := hx.r2.cells; first | (go_simp; first | rfl | exact ⟨rfl, rfl⟩) | rfl | exact ⟨rfl, rfl⟩)); clear hK K)
    refine reg_p (i := 5) rfl (by kernel_rfl) (fun _ _ _ _ h => h) HS (fun K hK => ?_)
    go_simp
    first | (refine hK _ ?_; clear hK K) | (apply Exists.intro; refine ⟨?_, hK _ ?_⟩; (focus (intro wx; first | (go_simp; first | rfl) | rfl)); clear hK K)
    refine reg_p (i := 6) rfl (by kernel_rfl) (fun _ _ _ _ h => h) HS (fun K hK => ?_)
    go_simp
    first | (refine hK _ ?_; clear hK K) | (apply Exists.intro; refine ⟨?_, hK _ ?_⟩; (focus (intro wx; first | (go_simp; first | rfl) | rfl)); clear hK K)
    refine mixk_q (i := 7) rfl (by kernel_rfl) (fun _ _ _ _ h => h) HS (fun K hK => ?_)
    go_simp
    first | (refine hK _ ?_; clear hK K) | (apply Exists.intro; refine ⟨?_, hK _ ?_⟩; (focus (intro wx hx; have x1_ := hx.cells; have x2_ := hx.r2.cells; first | (go_simp; first | rfl | exact ⟨rfl, rfl⟩) | rfl | exact ⟨rfl, rfl⟩)); clear hK K)
    refine mixk_q (i := 8) rfl (by kernel_rfl) (fun _ _ _ _ h => h) HS (fun K hK => ?_)
    go_simp
    first | (refine hK _ ?_; clear hK K) | (apply Exists.intro; refine ⟨?_, hK _ ?_⟩; (focus (intro wx hx; have x1_ := hx.cells; have x2_ := hx.r2.cells; first | (go_simp; first | rfl | exact ⟨rfl, rfl⟩) | rfl | exact ⟨rfl, rfl⟩)); clear hK K)
    refine reg_l (some 9) (i := 4) rfl (by kernel_rfl) (fun wn hk K hK => ?_)
    replace HH := Lib.hid (hk _ _ HH.out)
    clear hk HS
    go_simp
    refine (ledSend_c ε wn _ b s size at' 0 delay 0 false hr9.out (by rw [hnx.out]; omega) (by rw [hnx.out]; have := hl.out; omega) HH.out.r3).mono ?_
    rintro e wm ⟨eb, rfl, H9_⟩
    replace HH := Lib.hid H9_
    clear H9_
    have HS : Own _ wm [pts sp (.cells #[.int .u64 at', .int .u64 0, .int .u64 delay, .int .u64 0, .bool false] 45 (0, 0)), pts ab (.cells #[.int .u8 kd, .int .u64 size, .int .u64 at', .slice A len cap, .int .u64 delay, .int .u64 limit] 42 (0, 0))] := (Own.pm (HH.out) (by repeat (first | with_reducible exact Pm.refl _ | with_reducible exact Pm.nil _ | with_reducible refine Pm.here ?_ | with_reducible refine Pm.at2 ?_ | with_reducible refine Pm.at3 ?_ | with_reducible refine Pm.at4 ?_ | with_reducible refine Pm.at5 ?_ | with_reducible refine Pm.at6 ?_ | with_reducible refine Pm.at7 ?_ | with_reducible refine Pm.at8 ?_ | with_reducible refine Pm.skip ?_)))
    refine hK _ _ [pts sp (.cells #[.int .u64 at', .int .u64 0, .int .u64 delay, .int .u64 0, .bool false] 45 (0, 0)), pts ab (.cells #[.int .u8 kd, .int .u64 size, .int .u64 at', .slice A len cap, .int .u64 delay, .int .u64 limit] 42 (0, 0))] HS (.inr ⟨rfl, fun _ h => h⟩) ?_
    clear hK K
    refine reg_l none (i := 9) rfl (by kernel_rfl) (fun wn hk K hK => ?_)
    replace HH := Lib.hid (hk _ _ HH.out)
    clear hk HS
    go_simp
    refine (rSend_c ε wn _ mb m (by have := hl.out; omega) size at' 0 delay 0 false HH.out.r4).mono ?_
    rintro e wm ⟨rfl, H9_⟩
    replace HH := Lib.hid H9_
    clear H9_
    refine hK _ _ _ HH.out (.inl (by kernel_rfl)) ?_
    clear hK K
    refine reg_p (i := 10) rfl (by kernel_rfl) (fun _ _ _ _ h => h) HH.out (fun K hK => ?_)
    go_simp
    first | (refine hK _ ?_; clear hK K) | (apply Exists.intro; refine ⟨?_, hK _ ?_⟩; (focus (intro wx; first | (go_simp; first | rfl) | rfl)); clear hK K)
    refine reg_p (i := 11) rfl (by kernel_rfl) (fun _ _ _ _ h => h) HH.out (fun K hK => ?_)
    go_simp
    first | (refine hK _ ?_; clear hK K) | (apply Exists.intro; refine ⟨?_, hK _ ?_⟩; (focus (intro wx; first | (go_simp; first | rfl) | rfl)); clear hK K)
    refine mixk_done (by kernel_rfl) (fun w4_ hk => ?_) _
    replace HH := Lib.hid (hk _ _ HH.out)
    clear hk
    go_wp2_with fail
    go_ret
    exact ⟨rfl, _, _, hT.out.send (by have := hl.out; omega) eb size at' 0 delay 0 false u1.out u2.out U_zero u3.out U_zero, rfl, by simp [RLd.send], (Own.pm (HH.out) (by repeat (first | with_reducible exact Pm.refl _ | with_reducible exact Pm.nil _ | with_reducible refine Pm.here ?_ | with_reducible refine Pm.at2 ?_ | with_reducible refine Pm.at3 ?_ | with_reducible refine Pm.at4 ?_ | with_reducible refine Pm.at5 ?_ | with_reducible refine Pm.at6 ?_ | with_reducible refine Pm.at7 ?_ | with_reducible refine Pm.at8 ?_ | with_reducible refine Pm.skip ?_)))⟩
  · have hTk := hT.out.ack (xs := xs) hU.out
    obtain ⟨⟨tk, ea, s2⟩, hs⟩ : ∃ x, s.ack xs = x := ⟨_, rfl⟩
    obtain ⟨⟨tk', ea', m2⟩, hm2⟩ : ∃ x, m.ack xs = x := ⟨_, rfl⟩
    have hre2 := ack_re s xs
    have hml := Tie.len_ack (m := m) xs
    rw [hs] at hTk hre2
    rw [hm2] at hTk hml
    obtain ⟨rfl, rfl, hT2⟩ := hTk
    simp only at hT2 hml hre2
    replace hs := Lib.hid hs
    replace hm2 := Lib.hid hm2
    replace hT2 := Lib.hid hT2
    replace hml := Lib.hid hml
    replace hre2 := Lib.hid hre2
    go_enter Try.func19, Try.ntmps19
    go_wp2_with (with_reducible refine stop_bx ?_)
    refine Stop.go ?_
    refine wpList_box_own HH.out [_, _, _, _, _, _] rfl ?_
    intro ab w5_ H9_
    replace HH := Lib.hid H9_
    clear H9_
    replace HH := Lib.hid (show Own ε _ (pts ab (.cells #[.int .u8 kd, .int .u64 size, .int .u64 at', .slice A len cap, .int .u64 delay, .int .u64 limit] 42 (0, 0)) :: _) from HH.out)
    (try clear cc1_); (try clear cc2_); (try clear cc3_); (try clear cc4_); (try clear cc5_); (try clear cc6_); (try clear cc7_)
    have cc1_ := HH.out.cells
    go_wp2_with fail
    refine (ledAck_c ε _ _ b s hr9.out hok.out xs hU.out A len cap (fun wx Hx => hA.out wx (Own.pm (Hx) (by repeat (first | with_reducible exact Pm.refl _ | with_reducible exact Pm.nil _ | with_reducible refine Pm.here ?_ | with_reducible refine Pm.at2 ?_ | with_reducible refine Pm.at3 ?_ | with_reducible refine Pm.at4 ?_ | with_reducible refine Pm.at5 ?_ | with_reducible refine Pm.at6 ?_ | with_reducible refine Pm.at7 ?_ | with_reducible refine Pm.at8 ?_ | with_reducible refine Pm.skip ?_)))) (by have := hm.out; omega) HH.out.r2).mono ?_
    rw [hs.out]
    rintro e w6_ ⟨v, rfl, H9_⟩
    replace HH := Lib.hid H9_
    clear H9_
    replace HH := Lib.hid ((Own.pm ((show Own ε _ (slcP v tk :: led b s2 :: pts ab (.cells #[.int .u8 kd, .int .u64 size, .int .u64 at', .slice A len cap, .int .u64 delay, .int .u64 limit] 42 (0, 0)) :: rled mb m :: R) from HH.out)) (by repeat (first | with_reducible exact Pm.refl _ | with_reducible exact Pm.nil _ | with_reducible refine Pm.here ?_ | with_reducible refine Pm.at2 ?_ | with_reducible refine Pm.at3 ?_ | with_reducible refine Pm.at4 ?_ | with_reducible refine Pm.at5 ?_ | with_reducible refine Pm.at6 ?_ | with_reducible refine Pm.at7 ?_ | with_reducible refine Pm.at8 ?_ | with_reducible refine Pm.skip ?_))) : Own ε _ (rled mb m :: pts ab (.cells #[.int .u8 kd, .int .u64 size, .int .u64 at', .slice A len cap, .int .u64 delay, .int .u64 limit] 42 (0, 0)) :: slcP v tk :: led b s2 :: R))
    (try clear cc1_); (try clear cc2_); (try clear cc3_); (try clear cc4_); (try clear cc5_); (try clear cc6_); (try clear cc7_)
    have cc2_ := HH.out.r2.cells
    go_wp2_with fail
    refine (rAck_c ε _ _ mb m (by have := hl.out; omega) xs A len cap (fun wx Hx => hA.out wx (Own.pm (Hx) (by repeat (first | with_reducible exact Pm.refl _ | with_reducible exact Pm.nil _ | with_reducible refine Pm.here ?_ | with_reducible refine Pm.at2 ?_ | with_reducible refine Pm.at3 ?_ | with_reducible refine Pm.at4 ?_ | with_reducible refine Pm.at5 ?_ | with_reducible refine Pm.at6 ?_ | with_reducible refine Pm.at7 ?_ | with_reducible refine Pm.at8 ?_ | with_reducible refine Pm.skip ?_)))) (by have := hm.out; omega) HH.out).mono ?_
    rw [hm2.out]
    rintro e w7_ ⟨v2, rfl, H9_⟩
    replace HH := Lib.hid H9_
    clear H9_
    replace HH := Lib.hid (show Own ε _ (slcP v2 tk :: rled mb m2 :: pts ab (.cells #[.int .u8 kd, .int .u64 size, .int .u64 at', .slice A len cap, .int .u64 delay, .int .u64 limit] 42 (0, 0)) :: slcP v tk :: led b s2 :: R) from HH.out)
    obtain ⟨A1, n1, c1, rfl, hc1, hc2, _⟩ := HH.out.slcP_val
    obtain ⟨A2, n2, c2, rfl, hc3, hc4, _⟩ := HH.out.r4.slcP_val
    go_wp2_with fail
    refine (same08_c _ A2 A1 n2 n1 c2 c1 tk tk (pk_thereS HH.out.r4) (pk_thereS HH.out) (by omega)).mono ?_
    rw [show decide (tk = tk) = true from by first | rfl | decide | simp]
    rintro e w8_ ⟨rfl, nd, hnd⟩
    replace HH := Lib.hid (HH.out.drewN nd)
    rw [← hnd] at HH
    clear hnd
    clear hc1 hc2 hc3 hc4
    go_wp2_with fail
    go_ret
    exact ⟨rfl, s2, m2, hT2.out, hre2.out, by rw [hml.out]; omega, (Own.pm (HH.out) (by repeat (first | with_reducible exact Pm.refl _ | with_reducible exact Pm.nil _ | with_reducible refine Pm.here ?_ | with_reducible refine Pm.at2 ?_ | with_reducible refine Pm.at3 ?_ | with_reducible refine Pm.at4 ?_ | with_reducible refine Pm.at5 ?_ | with_reducible refine Pm.at6 ?_ | with_reducible refine Pm.at7 ?_ | with_reducible refine Pm.at8 ?_ | with_reducible refine Pm.skip ?_)))⟩
  · have hTk := hT.out.lost at' delay limit
    have hmre : U m.re := by rw [← hT.out.re]; exact hre.out
    have hmok := hT.out.ok
    obtain ⟨⟨tk, s2⟩, hs⟩ : ∃ x, s.lost at' delay limit = x := ⟨_, rfl⟩
    obtain ⟨⟨tk', m2⟩, hm2⟩ : ∃ x, m.lost at' delay limit = x := ⟨_, rfl⟩
    have hre2 : (s.lost at' delay limit).2.re = s.re := rfl
    have hml := Tie.len_lost (m := m) at' delay limit
    rw [hs] at hTk hre2
    rw [hm2] at hTk hml
    obtain ⟨rfl, hT2⟩ := hTk
    simp only at hT2 hml hre2
    replace hs := Lib.hid hs
    replace hm2 := Lib.hid hm2
    replace hT2 := Lib.hid hT2
    replace hml := Lib.hid hml
    replace hre2 := Lib.hid hre2
    replace hmre := Lib.hid hmre
    replace hmok := Lib.hid hmok
    go_enter Try.func19, Try.ntmps19
    go_wp2_with (with_reducible refine stop_bx ?_)
    refine Stop.go ?_
    refine wpList_box_own HH.out [_, _, _, _, _, _] rfl ?_
    intro ab w9_ H9_
    replace HH := Lib.hid H9_
    clear H9_
    replace HH := Lib.hid (show Own ε _ (pts ab (.cells #[.int .u8 kd, .int .u64 size, .int .u64 at', .slice A len cap, .int .u64 delay, .int .u64 limit] 42 (0, 0)) :: _) from HH.out)
    (try clear cc1_); (try clear cc2_); (try clear cc3_); (try clear cc4_); (try clear cc5_); (try clear cc6_); (try clear cc7_)
    have cc1_ := HH.out.cells
    go_wp2_with fail
    refine (ledLost_c ε _ _ b s hr9.out hok.out at' delay limit u3.out u4.out hre.out HH.out.r2).mono ?_
    rw [hs.out]
    rintro e w10_ ⟨v, rfl, H9_⟩
    replace HH := Lib.hid H9_
    clear H9_
    replace HH := Lib.hid ((Own.pm ((show Own ε _ (slcP v tk :: led b s2 :: pts ab (.cells #[.int .u8 kd, .int .u64 size, .int .u64 at', .slice A len cap, .int .u64 delay, .int .u64 limit] 42 (0, 0)) :: rled mb m :: R) from HH.out)) (by repeat (first | with_reducible exact Pm.refl _ | with_reducible exact Pm.nil _ | with_reducible refine Pm.here ?_ | with_reducible refine Pm.at2 ?_ | with_reducible refine Pm.at3 ?_ | with_reducible refine Pm.at4 ?_ | with_reducible refine Pm.at5 ?_ | with_reducible refine Pm.at6 ?_ | with_reducible refine Pm.at7 ?_ | with_reducible refine Pm.at8 ?_ | with_reducible refine Pm.skip ?_))) : Own ε _ (rled mb m :: pts ab (.cells #[.int .u8 kd, .int .u64 size, .int .u64 at', .slice A len cap, .int .u64 delay, .int .u64 limit] 42 (0, 0)) :: slcP v tk :: led b s2 :: R))
    (try clear cc1_); (try clear cc2_); (try clear cc3_); (try clear cc4_); (try clear cc5_); (try clear cc6_); (try clear cc7_)
    have cc2_ := HH.out.r2.cells
    go_wp2_with fail
    refine (rLost_c ε _ _ mb m (by have := hl.out; omega) hmok.out hmre.out at' delay limit u3.out u4.out HH.out).mono ?_
    rw [hm2.out]
    rintro e w11_ ⟨v2, rfl, H9_⟩
    replace HH := Lib.hid H9_
    clear H9_
    replace HH := Lib.hid (show Own ε _ (slcP v2 tk :: rled mb m2 :: pts ab (.cells #[.int .u8 kd, .int .u64 size, .int .u64 at', .slice A len cap, .int .u64 delay, .int .u64 limit] 42 (0, 0)) :: slcP v tk :: led b s2 :: R) from HH.out)
    obtain ⟨A1, n1, c1, rfl, hc1, hc2, _⟩ := HH.out.slcP_val
    obtain ⟨A2, n2, c2, rfl, hc3, hc4, _⟩ := HH.out.r4.slcP_val
    go_wp2_with fail
    refine (same08_c _ A2 A1 n2 n1 c2 c1 tk tk (pk_thereS HH.out.r4) (pk_thereS HH.out) (by omega)).mono ?_
    rw [show decide (tk = tk) = true from by first | rfl | decide | simp]
    rintro e w12_ ⟨rfl, nd, hnd⟩
    replace HH := Lib.hid (HH.out.drewN nd)
    rw [← hnd] at HH
    clear hnd
    clear hc1 hc2 hc3 hc4
    go_wp2_with fail
    go_ret
    exact ⟨rfl, s2, m2, hT2.out, hre2.out, by rw [hml.out]; omega, (Own.pm (HH.out) (by repeat (first | with_reducible exact Pm.refl _ | with_reducible exact Pm.nil _ | with_reducible refine Pm.here ?_ | with_reducible refine Pm.at2 ?_ | with_reducible refine Pm.at3 ?_ | with_reducible refine Pm.at4 ?_ | with_reducible refine Pm.at5 ?_ | with_reducible refine Pm.at6 ?_ | with_reducible refine Pm.at7 ?_ | with_reducible refine Pm.at8 ?_ | with_reducible refine Pm.skip ?_)))⟩
set_option maxRecDepth 100000 in
set_option maxHeartbeats 6400000 in
theorem same08q_c (s : Led) (m : RLd) (hT : Tie s m) (hl : m.q.length ≤ 1000) (H : Own ε w (led b s :: rled mb m :: R)) :
    Calls Try.prog 22 #[.pointer (some ⟨b, 0, none⟩), .pointer (some ⟨mb, 0, none⟩)] w fun e w' => e = .returned (.bool true) ∧ Own ε w' (led b s :: rled mb m :: R) := by
  have HH := Lib.hid H; clear H
  have hlen := hT.len
  have hok := hT.rowOk
  have hmok := hT.ok
  have hr9 : s.row.length ≤ 1000000 := by omega
  have hm9 : m.q.length ≤ 1000000 := by omega
  have ho := hT.outs
  have hnx := hT.next
  have htp := hT.top
  have hsm := hT.some
  clear hT hlen
  have hwc : IntKind.u64.wrap ((m.q.length : Nat) : Int) = ((m.q.length : Nat) : Int) := by rw [IntKind.wrap_u64]; omega
  have hb1 : (s.next == (m.q.length : Int)) = true := by rw [hnx]; simp
  have hb2 : (s.top == m.top) = true := by rw [htp]; simp
  have hb3 : (s.some == m.some) = true := by rw [hsm]; simp
  have hb4 : (bytesP (outs s.row) == bytesP (outs m.q)) = true := by rw [ho]; simp
  replace hr9 := Lib.hid hr9
  replace hm9 := Lib.hid hm9
  replace hok := Lib.hid hok
  replace hmok := Lib.hid hmok
  replace ho := Lib.hid ho
  replace hl := Lib.hid hl
  clear hnx htp hsm
  go_enter Try.func22, Try.ntmps22
  go_wp2_with fail
  refine (ledTop_c ε _ _ b s HH.out).mono ?_
  rintro e w13_ ⟨rfl, nd, hnd⟩
  replace HH := Lib.hid (HH.out.drewN nd)
  rw [← hnd] at HH
  clear hnd
  go_wp2_with fail
  refine (ledOut_c ε _ _ b 0 s hr9.out HH.out).mono ?_
  rintro e w14_ ⟨v, rfl, H9_⟩
  replace HH := Lib.hid H9_
  clear H9_
  go_wp2_with fail
  refine (rAll_c ε _ _ mb m hm9.out HH.out.r3).mono ?_
  rintro e w15_ ⟨v2, rfl, H9_⟩
  replace HH := Lib.hid H9_
  clear H9_
  rw [← ho.out] at HH
  obtain ⟨A1, n1, c1, rfl, hc1, hc2, _⟩ := HH.out.slcP_val
  obtain ⟨A2, n2, c2, rfl, hc3, hc4, _⟩ := HH.out.r3.slcP_val
  go_wp2_with fail
  refine (same08_c _ A2 A1 n2 n1 c2 c1 (outs s.row) (outs s.row) (pk_thereS HH.out.r3) (pk_thereS HH.out) (by omega)).mono ?_
  rw [show decide (outs s.row = outs s.row) = true from by first | rfl | decide | simp]
  rintro e w16_ ⟨rfl, nd, hnd⟩
  replace HH := Lib.hid (HH.out.drewN nd)
  rw [← hnd] at HH
  clear hnd
  clear hc1 hc2 hc3 hc4
  obtain ⟨B1, d1, B2, d2, H5⟩ := ((Own.pm (HH.out) (by repeat (first | with_reducible exact Pm.refl _ | with_reducible exact Pm.nil _ | with_reducible refine Pm.here ?_ | with_reducible refine Pm.at2 ?_ | with_reducible refine Pm.at3 ?_ | with_reducible refine Pm.at4 ?_ | with_reducible refine Pm.at5 ?_ | with_reducible refine Pm.at6 ?_ | with_reducible refine Pm.at7 ?_ | with_reducible refine Pm.at8 ?_ | with_reducible refine Pm.skip ?_))) : Own ε _ (rled mb m :: led b s :: R)).rled_open
  replace HH := Lib.hid ((Own.pm (H5) (by repeat (first | with_reducible exact Pm.refl _ | with_reducible exact Pm.nil _ | with_reducible refine Pm.here ?_ | with_reducible refine Pm.at2 ?_ | with_reducible refine Pm.at3 ?_ | with_reducible refine Pm.at4 ?_ | with_reducible refine Pm.at5 ?_ | with_reducible refine Pm.at6 ?_ | with_reducible refine Pm.at7 ?_ | with_reducible refine Pm.at8 ?_ | with_reducible refine Pm.skip ?_))) : Own ε _ (rldN mb (.slice B1 m.q.length d1) (.slice B2 m.q.length d2) m :: led b s :: slcP (.slice B1 m.q.length d1) (psOf m.q) :: slcB (.slice B2 m.q.length d2) (osOf m.q) :: R))
  clear H5
  go_wp2_with fail
  refine wp_region_reg none HH.out (by kernel_rfl) ?_
  intro wm H9_
  replace HH := Lib.hid H9_
  clear H9_
  refine reg_p (i := 0) rfl (by kernel_rfl) (fun _ _ _ _ h => h) HH.out (fun K hK => ?_)
  go_simp
  first | (refine hK _ ?_; clear hK K) | (apply Exists.intro; refine ⟨?_, hK _ ?_⟩; (focus (intro wx; first | (go_simp; first | rfl) | rfl)); clear hK K)
  refine reg_p (i := 1) rfl (by kernel_rfl) (fun _ _ _ _ h => h) HH.out (fun K hK => ?_)
  go_simp
  first | (refine hK _ ?_; clear hK K) | (apply Exists.intro; refine ⟨?_, hK _ ?_⟩; (focus (intro wx; first | (go_simp; first | rfl) | rfl)); clear hK K)
  refine reg_p (i := 2) rfl (by kernel_rfl) (fun _ _ _ _ h => h) HH.out (fun K hK => ?_)
  go_simp
  first | (refine hK _ ?_; clear hK K) | (apply Exists.intro; refine ⟨?_, hK _ ?_⟩; (focus (intro wx; first | (go_simp; first | rfl) | rfl)); clear hK K)
  refine reg_p (i := 4) rfl (by kernel_rfl) (fun _ _ _ _ h => h) HH.out (fun K hK => ?_)
  go_simp
  first | (refine hK _ ?_; clear hK K) | (apply Exists.intro; refine ⟨?_, hK _ ?_⟩; (focus (intro wx; first | (go_simp; first | rfl) | rfl)); clear hK K)
  refine reg_l none (i := 3) rfl (by kernel_rfl) (fun wn hk K hK => ?_)
  replace HH := Lib.hid (hk _ _ HH.out)
  clear hk
  go_simp
  refine (ledInFlight_c ε wn _ b s hr9.out hok.out HH.out.r2).mono ?_
  rintro e wm ⟨rfl, H9_⟩
  replace HH := Lib.hid H9_
  clear H9_
  refine hK _ _ _ HH.out (.inr ⟨rfl, fun _ h => (Own.pm (h) (by repeat (first | with_reducible exact Pm.refl _ | with_reducible exact Pm.nil _ | with_reducible refine Pm.here ?_ | with_reducible refine Pm.at2 ?_ | with_reducible refine Pm.at3 ?_ | with_reducible refine Pm.at4 ?_ | with_reducible refine Pm.at5 ?_ | with_reducible refine Pm.at6 ?_ | with_reducible refine Pm.at7 ?_ | with_reducible refine Pm.at8 ?_ | with_reducible refine Pm.skip ?_)))⟩) ?_
  clear hK K
  refine mixk_q (i := 5) rfl (by kernel_rfl) (fun _ _ _ _ h => h) HH.out (fun K hK => ?_)
  go_simp
  first | (refine hK _ ?_; clear hK K) | (apply Exists.intro; refine ⟨?_, hK _ ?_⟩; (focus (intro wx hx; first | (first | (go_at_call 48; refine (rInFlight_c ε wx _ mb m hm9.out hmok.out (Own.rled_mk ((Own.pm (hx) (by repeat (first | with_reducible exact Pm.refl _ | with_reducible exact Pm.nil _ | with_reducible refine Pm.here ?_ | with_reducible refine Pm.at2 ?_ | with_reducible refine Pm.at3 ?_ | with_reducible refine Pm.at4 ?_ | with_reducible refine Pm.at5 ?_ | with_reducible refine Pm.at6 ?_ | with_reducible refine Pm.at7 ?_ | with_reducible refine Pm.at8 ?_ | with_reducible refine Pm.skip ?_))) : Own ε wx (rldN mb (.slice B1 m.q.length d1) (.slice B2 m.q.length d2) m :: slcP (.slice B1 m.q.length d1) (psOf m.q) :: slcB (.slice B2 m.q.length d2) (osOf m.q) :: R)))).mono ?_; rintro e wy ⟨rfl, hbel⟩; exact ⟨rfl, (by first | exact Kp.same hbel | exact Kp.drew hbel | exact Kp.below hbel : Kp wx wy)⟩)) | (go_simp; first | rfl | exact ⟨rfl, rfl⟩) | rfl | exact ⟨rfl, rfl⟩)); clear hK K)
  refine reg_p (i := 6) rfl (by kernel_rfl) (fun _ _ _ _ h => h) HH.out (fun K hK => ?_)
  go_simp
  first | (refine hK _ ?_; clear hK K) | (apply Exists.intro; refine ⟨?_, hK _ ?_⟩; (focus (intro wx; first | (go_simp; first | rfl) | rfl)); clear hK K)
  refine reg_p (i := 7) rfl (by kernel_rfl) (fun _ _ _ _ h => h) HH.out (fun K hK => ?_)
  go_simp
  first | (refine hK _ ?_; clear hK K) | (apply Exists.intro; refine ⟨?_, hK _ ?_⟩; (focus (intro wx; first | (go_simp; first | rfl) | rfl)); clear hK K)
  refine reg_p (i := 8) rfl (by kernel_rfl) (fun _ _ _ _ h => h) HH.out (fun K hK => ?_)
  go_simp
  first | (refine hK _ ?_; clear hK K) | (apply Exists.intro; refine ⟨?_, hK _ ?_⟩; (focus (intro wx; first | (go_simp; first | rfl) | rfl)); clear hK K)
  refine reg_p (i := 9) rfl (by kernel_rfl) (fun _ _ _ _ h => h) HH.out (fun K hK => ?_)
  go_simp
  first | (refine hK _ ?_; clear hK K) | (apply Exists.intro; refine ⟨?_, hK _ ?_⟩; (focus (intro wx; first | (go_simp; first | rfl) | rfl)); clear hK K)
  refine mixk_q (i := 10) rfl (by kernel_rfl) (fun _ _ _ _ h => h) HH.out (fun K hK => ?_)
  go_simp
  first | (refine hK _ ?_; clear hK K) | (apply Exists.intro; refine ⟨?_, hK _ ?_⟩; (focus (intro wx hx; first | (first | (go_at_call 25; refine (ledNext_c ε wx _ b s ((Own.pm (hx) (by repeat (first | with_reducible exact Pm.refl _ | with_reducible exact Pm.nil _ | with_reducible refine Pm.here ?_ | with_reducible refine Pm.at2 ?_ | with_reducible refine Pm.at3 ?_ | with_reducible refine Pm.at4 ?_ | with_reducible refine Pm.at5 ?_ | with_reducible refine Pm.at6 ?_ | with_reducible refine Pm.at7 ?_ | with_reducible refine Pm.at8 ?_ | with_reducible refine Pm.skip ?_))) : Own ε wx (led b s :: R))).mono ?_; rintro e wy ⟨rfl, hbel⟩; exact ⟨rfl, (by first | exact Kp.same hbel | exact Kp.drew hbel | exact Kp.below hbel : Kp wx wy)⟩)) | (go_simp; first | rfl | exact ⟨rfl, rfl⟩) | rfl | exact ⟨rfl, rfl⟩)); clear hK K)
  refine reg_p (i := 11) rfl (by kernel_rfl) (fun _ _ _ _ h => h) HH.out (fun K hK => ?_)
  go_simp
  first | (refine hK _ ?_; clear hK K) | (apply Exists.intro; refine ⟨?_, hK _ ?_⟩; (focus (intro wx; first | (go_simp; first | rfl) | rfl)); clear hK K)
  refine reg_p (i := 12) rfl (by kernel_rfl) (fun _ _ _ _ h => h) HH.out (fun K hK => ?_)
  go_simp
  first | (refine hK _ ?_; clear hK K) | (apply Exists.intro; refine ⟨?_, hK _ ?_⟩; (focus (intro wx; first | (go_simp; first | rfl) | rfl)); clear hK K)
  refine reg_p (i := 13) rfl (by kernel_rfl) (fun _ _ _ _ h => h) HH.out (fun K hK => ?_)
  go_simp
  first | (refine hK _ ?_; clear hK K) | (apply Exists.intro; refine ⟨?_, hK _ ?_⟩; (focus (intro wx; first | (go_simp; first | rfl) | rfl)); clear hK K)
  refine mixk_q (i := 14) rfl (by kernel_rfl) (fun _ _ _ _ h => h) HH.out (fun K hK => ?_)
  go_simp
  first | (refine hK _ ?_; clear hK K) | (apply Exists.intro; refine ⟨?_, hK _ ?_⟩; (focus (intro wx hx; have x1_ := hx.r2.cells; first | (go_simp; first | rfl | exact ⟨rfl, rfl⟩) | rfl | exact ⟨rfl, rfl⟩)); clear hK K)
  refine reg_p (i := 15) rfl (by kernel_rfl) (fun _ _ _ _ h => h) HH.out (fun K hK => ?_)
  go_simp
  first | (refine hK _ ?_; clear hK K) | (apply Exists.intro; refine ⟨?_, hK _ ?_⟩; (focus (intro wx; first | (go_simp; first | rfl) | rfl)); clear hK K)
  refine reg_p (i := 16) rfl (by kernel_rfl) (fun _ _ _ _ h => h) HH.out (fun K hK => ?_)
  go_simp
  first | (refine hK _ ?_; clear hK K) | (apply Exists.intro; refine ⟨?_, hK _ ?_⟩; (focus (intro wx; first | (go_simp; first | rfl) | rfl)); clear hK K)
  refine reg_p (i := 17) rfl (by kernel_rfl) (fun _ _ _ _ h => h) HH.out (fun K hK => ?_)
  go_simp
  first | (refine hK _ ?_; clear hK K) | (apply Exists.intro; refine ⟨?_, hK _ ?_⟩; (focus (intro wx; first | (go_simp; first | rfl) | rfl)); clear hK K)
  refine reg_p (i := 18) rfl (by kernel_rfl) (fun _ _ _ _ h => h) HH.out (fun K hK => ?_)
  go_simp
  first | (refine hK _ ?_; clear hK K) | (apply Exists.intro; refine ⟨?_, hK _ ?_⟩; (focus (intro wx; first | (go_simp; first | rfl) | rfl)); clear hK K)
  refine reg_p (i := 19) rfl (by kernel_rfl) (fun _ _ _ _ h => h) HH.out (fun K hK => ?_)
  go_simp
  first | (refine hK _ ?_; clear hK K) | (apply Exists.intro; refine ⟨?_, hK _ ?_⟩; (focus (intro wx; first | (go_simp; first | rfl) | rfl)); clear hK K)
  refine reg_p (i := 20) rfl (by kernel_rfl) (fun _ _ _ _ h => h) HH.out (fun K hK => ?_)
  go_simp
  first | (refine hK _ ?_; clear hK K) | (apply Exists.intro; refine ⟨?_, hK _ ?_⟩; (focus (intro wx; first | (go_simp; first | rfl) | rfl)); clear hK K)
  refine reg_p (i := 21) rfl (by kernel_rfl) (fun _ _ _ _ h => h) HH.out (fun K hK => ?_)
  go_simp
  first | (refine hK _ ?_; clear hK K) | (apply Exists.intro; refine ⟨?_, hK _ ?_⟩; (focus (intro wx; first | (go_simp; first | rfl) | rfl)); clear hK K)
  refine reg_p (i := 22) rfl (by kernel_rfl) (fun _ _ _ _ h => h) HH.out (fun K hK => ?_)
  go_simp
  first | (refine hK _ ?_; clear hK K) | (apply Exists.intro; refine ⟨?_, hK _ ?_⟩; (focus (intro wx; first | (go_simp; first | rfl) | rfl)); clear hK K)
  refine reg_p (i := 23) rfl (by kernel_rfl) (fun _ _ _ _ h => h) HH.out (fun K hK => ?_)
  go_simp
  first | (refine hK _ ?_; clear hK K) | (apply Exists.intro; refine ⟨?_, hK _ ?_⟩; (focus (intro wx; first | (go_simp; first | rfl) | rfl)); clear hK K)
  refine mixk_q (i := 24) rfl (by kernel_rfl) (fun _ _ _ _ h => h) HH.out (fun K hK => ?_)
  go_simp
  first | (refine hK _ ?_; clear hK K) | (apply Exists.intro; refine ⟨?_, hK _ ?_⟩; (focus (intro wx hx; have x1_ := hx.r2.cells; first | (go_simp; first | rfl | exact ⟨rfl, rfl⟩) | rfl | exact ⟨rfl, rfl⟩)); clear hK K)
  refine reg_p (i := 25) rfl (by kernel_rfl) (fun _ _ _ _ h => h) HH.out (fun K hK => ?_)
  go_simp
  first | (refine hK _ ?_; clear hK K) | (apply Exists.intro; refine ⟨?_, hK _ ?_⟩; (focus (intro wx; first | (go_simp; first | rfl) | rfl)); clear hK K)
  refine reg_p (i := 26) rfl (by kernel_rfl) (fun _ _ _ _ h => h) HH.out (fun K hK => ?_)
  go_simp
  first | (refine hK _ ?_; clear hK K) | (apply Exists.intro; refine ⟨?_, hK _ ?_⟩; (focus (intro wx; first | (go_simp; first | rfl) | rfl)); clear hK K)
  refine reg_p (i := 27) rfl (by kernel_rfl) (fun _ _ _ _ h => h) HH.out (fun K hK => ?_)
  go_simp
  first | (refine hK _ ?_; clear hK K) | (apply Exists.intro; refine ⟨?_, hK _ ?_⟩; (focus (intro wx; first | (go_simp; first | rfl) | rfl)); clear hK K)
  refine reg_p (i := 28) rfl (by kernel_rfl) (fun _ _ _ _ h => h) HH.out (fun K hK => ?_)
  go_simp
  first | (refine hK _ ?_; clear hK K) | (apply Exists.intro; refine ⟨?_, hK _ ?_⟩; (focus (intro wx; first | (go_simp; first | rfl) | rfl)); clear hK K)
  refine reg_p (i := 29) rfl (by kernel_rfl) (fun _ _ _ _ h => h) HH.out (fun K hK => ?_)
  go_simp
  first | (refine hK _ ?_; clear hK K) | (apply Exists.intro; refine ⟨?_, hK _ ?_⟩; (focus (intro wx; first | (go_simp; first | rfl) | rfl)); clear hK K)
  refine reg_p (i := 30) rfl (by kernel_rfl) (fun _ _ _ _ h => h) HH.out (fun K hK => ?_)
  go_simp
  first | (refine hK _ ?_; clear hK K) | (apply Exists.intro; refine ⟨?_, hK _ ?_⟩; (focus (intro wx; first | (go_simp; first | rfl) | rfl)); clear hK K)
  refine reg_p (i := 31) rfl (by kernel_rfl) (fun _ _ _ _ h => h) HH.out (fun K hK => ?_)
  go_simp
  first | (refine hK _ ?_; clear hK K) | (apply Exists.intro; refine ⟨?_, hK _ ?_⟩; (focus (intro wx; first | (go_simp; first | rfl) | rfl)); clear hK K)
  refine mixk_q (i := 32) rfl (by kernel_rfl) (fun _ _ _ _ h => h) HH.out (fun K hK => ?_)
  go_simp
  first | (refine hK _ ?_; clear hK K) | (apply Exists.intro; refine ⟨?_, hK _ ?_⟩; (focus (intro wx hx; have x1_ := hx.r2.cells; first | (go_simp; first | rfl | exact ⟨rfl, rfl⟩) | rfl | exact ⟨rfl, rfl⟩)); clear hK K)
  refine reg_p (i := 33) rfl (by kernel_rfl) (fun _ _ _ _ h => h) HH.out (fun K hK => ?_)
  go_simp
  first | (refine hK _ ?_; clear hK K) | (apply Exists.intro; refine ⟨?_, hK _ ?_⟩; (focus (intro wx; first | (go_simp; first | rfl) | rfl)); clear hK K)
  refine reg_p (i := 34) rfl (by kernel_rfl) (fun _ _ _ _ h => h) HH.out (fun K hK => ?_)
  go_simp
  first | (refine hK _ ?_; clear hK K) | (apply Exists.intro; refine ⟨?_, hK _ ?_⟩; (focus (intro wx; first | (go_simp; first | rfl) | rfl)); clear hK K)
  refine reg_p (i := 35) rfl (by kernel_rfl) (fun _ _ _ _ h => h) HH.out (fun K hK => ?_)
  go_simp
  first | (refine hK _ ?_; clear hK K) | (apply Exists.intro; refine ⟨?_, hK _ ?_⟩; (focus (intro wx; first | (go_simp; first | rfl) | rfl)); clear hK K)
  refine mixk_done (by kernel_rfl) (fun w17_ hk => ?_) _
  replace HH := Lib.hid (hk _ _ HH.out)
  clear hk
  go_wp2_with fail
  go_ret
  have H7 := Own.rled_mk ((Own.pm (HH.out) (by repeat (first | with_reducible exact Pm.refl _ | with_reducible exact Pm.nil _ | with_reducible refine Pm.here ?_ | with_reducible refine Pm.at2 ?_ | with_reducible refine Pm.at3 ?_ | with_reducible refine Pm.at4 ?_ | with_reducible refine Pm.at5 ?_ | with_reducible refine Pm.at6 ?_ | with_reducible refine Pm.at7 ?_ | with_reducible refine Pm.at8 ?_ | with_reducible refine Pm.skip ?_))) : Own ε _ (rldN mb (.slice B1 m.q.length d1) (.slice B2 m.q.length d2) m :: slcP (.slice B1 m.q.length d1) (psOf m.q) :: slcB (.slice B2 m.q.length d2) (osOf m.q) :: led b s :: R))
  exact ⟨rfl, H7.l2⟩
end
end Go.Proofs.Ytlhncdbigjgmnaa
namespace Go.Proofs.Ytlhncdbigjgmnaa
open Go.RowKit
theorem fits08_acts {w : World} {A : Option Addr} {len cap : Nat} {acts : List Act} (hlen : acts.length = len) (hm : len ≤ 9223372036854775807) (hacts : ∀ k a, acts[k]? = some a → ActIn w A k a) :
    Calls Try.prog 12 #[.slice A len cap] w (Fits08 len (fun k => (acts.getD k ⟨0, 0, 0, [], 0, 0⟩).r.length) w) :=
  fits08_c w A len cap (fun k => (acts.getD k ⟨0, 0, 0, [], 0, 0⟩).r.length) hm (fun k hk => by
    have hk2 : k < acts.length := by omega
    have e : acts.getD k ⟨0, 0, 0, [], 0, 0⟩ = acts[k] := by simp [List.getD, hk2]
    have ha := hacts k acts[k] (List.getElem?_eq_getElem hk2)
    obtain ⟨ab, off, A', cp, h1, _, _, _, _, h2, _⟩ := ha.cells
    exact ⟨ab, off, A', cp, h1, by simp only [e]; exact ha.big, by simp only [e]; exact h2⟩)
/-- An act at a place, with few ranges. -/
theorem act_get {w : World} {A : Option Addr} {len : Nat} {acts : List Act} (hlen : acts.length = len) (hacts : ∀ k a, acts[k]? = some a → ActIn w A k a) (hf : ∀ k, k < len → (acts.getD k ⟨0, 0, 0, [], 0, 0⟩).r.length ≤ 100) {k : Nat} (hk : k < len) : ∃ a, ActIn w A k a ∧ a.r.length ≤ 100 := by
  have hk2 : k < acts.length := by omega
  refine ⟨acts[k], hacts k _ (List.getElem?_eq_getElem hk2), ?_⟩
  have := hf k hk
  simpa [List.getD, hk2] using this
section
variable (w : World)
set_option maxRecDepth 100000 in
set_option maxHeartbeats 12800000 in
theorem ledgerClone_c (r : Int) (hr0 : (Lit.int .u64 r).wf = true) (A : Option Addr) (len cap : Nat) (xs : List ActT) (hr : rdSlice rdActT 6 w [.slice A len cap] xs) (B : Option Addr) (len2 cap2 : Nat) (ys : List ActT) (hr2 : rdSlice rdActT 6 w [.slice B len2 cap2] ys) :
    Calls Try.prog 5 #[.int .u64 r, .slice A len cap, .slice B len2 cap2] w fun e w' => e = .returned (.bool true) ∧ Own w w' [old w] := by
  have HH := Lib.hid (Own.init w)
  have hrU := U_of_wf hr0
  obtain ⟨hlen, hm, hacts⟩ := acts_rd hr
  obtain ⟨hlen2, hm2, hacts2⟩ := acts_rd hr2
  clear hr hr0 hr2
  generalize xs.map ActT.act = acts at hlen hacts
  generalize ys.map ActT.act = acts2 at hlen2 hacts2
  have hfit := Lib.hid (fits08_acts (cap := cap) hlen hm hacts)
  have hfit2 := Lib.hid (fits08_acts (cap := cap2) hlen2 hm2 hacts2)
  replace hacts := Lib.hid hacts
  replace hlen := Lib.hid hlen
  replace hacts2 := Lib.hid hacts2
  replace hlen2 := Lib.hid hlen2
  replace hrU := Lib.hid hrU
  go_enter Try.func5, Try.ntmps5
  go_wp2_with fail
  refine hfit.out.mono ?_
  rintro e w9 ⟨bl, rfl, rfl, hbl⟩
  go_wp2_with fail
  refine hfit2.out.mono ?_
  rintro e w9 ⟨bl2, rfl, rfl, hbl2⟩
  clear hfit hfit2
  cases bl with
  | false =>
    clear hbl hbl2
    go_wp2_with fail
    refine (alive08_c w _ _ HH.out).mono ?_
    rintro e w1_ ⟨rfl, H9_⟩
    replace HH := Lib.hid H9_
    clear H9_
    go_wp2_with fail
    go_ret
    exact ⟨rfl, HH.out⟩
  | true =>
    cases bl2 with
    | false =>
      clear hbl hbl2
      go_wp2_with fail
      refine (alive08_c w _ _ HH.out).mono ?_
      rintro e w2_ ⟨rfl, H9_⟩
      replace HH := Lib.hid H9_
      clear H9_
      go_wp2_with fail
      go_ret
      exact ⟨rfl, HH.out⟩
    | true =>
      obtain ⟨hl100, hf100⟩ := hbl rfl
      obtain ⟨hl200, hf200⟩ := hbl2 rfl
      clear hbl hbl2
      have hget := Lib.hid (fun k (hk : k < len) => act_get hlen.out hacts.out hf100 hk)
      have hget2 := Lib.hid (fun k (hk : k < len2) => act_get hlen2.out hacts2.out hf200 hk)
      clear hf100 hf200 hacts hacts2
      go_wp2_with fail
      refine (ledNew_c w _ _ r HH.out).mono ?_
      rintro e w3_ ⟨b, rfl, H9_⟩
      replace HH := Lib.hid H9_
      clear H9_
      go_wp2_with (with_reducible refine stop_bx ?_)
      refine Stop.go ?_
      refine wpList_box_own HH.out [_, _, _, _, _] rfl ?_
      intro mb w4_ H9_
      replace HH := Lib.hid H9_
      clear H9_
      replace HH := Lib.hid (show Own w _ (pts mb (.cells #[.int .u64 r, .slice none 0 0, .slice none 0 0, .int .u64 0, .bool false] 55 (0, 0)) :: _) from HH.out)
      have H5 := ((HH.out.slc_none (T := 4) (sz := 1)).slc_none (T := 50) (sz := 7)).r3
      replace HH := Lib.hid (Own.l2 (Own.rled_mk (m := ⟨r, [], 0, false⟩) (show Own w _ (rldN mb (.slice none 0 0) (.slice none 0 0) ⟨r, [], 0, false⟩ :: slcP (.slice none 0 0) (psOf []) :: slcB (.slice none 0 0) (osOf []) :: led b ⟨r, 0, 0, false, []⟩ :: [old w]) from H5)))
      clear H5
      go_wp2_with fail
      go_loopw [11] (fun iv wr => ∃ (k : Nat) (s : Led) (m : RLd), k ≤ len ∧ iv = .int .i64 k ∧ Tie s m ∧ s.re = r ∧ m.q.length ≤ k ∧ Own w wr (led b s :: rled mb m :: [old w])) (fun iv _ => len - (intOf iv).toNat)
      case atStart => exact ⟨0, _, _, Nat.zero_le _, rfl, Tie.none r, rfl, Nat.le_refl _, HH.out⟩
      case round =>
        clear HH
        obtain ⟨k, s, m, hk, rfl, hT, hre, hmk, HR⟩ := hrel
        have HH := Lib.hid HR
        clear HR
        replace hT := Lib.hid hT
        replace hre := Lib.hid hre
        replace hmk := Lib.hid hmk
        replace hl100 := Lib.hid hl100
        replace hl200 := Lib.hid hl200
        by_cases hlt : k < len
        · have hlti : (k : Int) < (len : Int) := by omega
          obtain ⟨⟨kd, size, at', xr, delay, limit⟩, ha, hf⟩ := hget.out k hlt
          obtain ⟨⟨hk0, hk1⟩, ⟨u1, u2, u3, u4⟩, hru, _, ab, off, A', cp, rfl, hit, c0, c1, c2, c3, c4, c5⟩ := ha
          simp only at hk0 hk1 u1 u2 u3 u4 hru hit c0 c1 c2 c3 c4 c5 hf
          have o0 := HH.out.r3.old_cell c0
          have o1 := HH.out.r3.old_cell c1
          have o2 := HH.out.r3.old_cell c2
          have o3 := HH.out.r3.old_cell c3
          have o4 := HH.out.r3.old_cell c4
          have o5 := HH.out.r3.old_cell c5
          replace hit := Lib.hid hit
          replace hru := Lib.hid hru
          replace hf := Lib.hid hf
          have hcall := act08_c w _ _ b mb s m hT.out (by have := hmk.out; have := hl100.out; omega) (by rw [hre.out]; exact hrU.out) kd size at' delay limit hk0 hk1 u1 u2 u3 u4 xr hru.out A' xr.length cp (fun wx Hx => itAt.old hit.out Hx) (by have := hf.out; omega) HH.out
          replace hcall := Lib.hid hcall
          go_wp2_with fail
          refine hcall.out.mono ?_
          rintro e w9 ⟨rfl, s2, m2, hT2, hre2, hml2, H9⟩
          replace HH := Lib.hid H9
          clear H9 hcall o0 o1 o2 o3 o4 o5
          replace hT2 := Lib.hid hT2
          replace hre2 := Lib.hid hre2
          replace hml2 := Lib.hid hml2
          go_wp2_with fail
          go_roundw
          case rel => exact ⟨k + 1, s2, m2, by omega, by go_num, hT2.out, by rw [hre2.out, hre.out], by have := hmk.out; have := hml2.out; omega, HH.out⟩
          case measure => simp [intOf]; omega
        · have hkn : ¬ (k : Int) < (len : Int) := by omega
          have hq9 : m.q.length ≤ 100 := by have := hmk.out; have := hl100.out; omega
          have hs9 : s.row.length ≤ 1000000 := by have := hT.out.len; omega
          clear hget
          go_wp2_with fail
          refine (ledClone_c w _ _ b s hs9 HH.out).mono ?_
          rintro e w5_ ⟨c, new, hfg, rfl, H9_⟩
          replace HH := Lib.hid H9_
          clear H9_
          replace hfg := Lib.hid hfg
          go_wp2_with fail
          refine (rCopy_c w _ _ mb m (by omega) HH.out.r3).mono ?_
          rintro e w6_ ⟨mc, rfl, H9_⟩
          replace HH := Lib.hid H9_
          clear H9_
          have hTc := hT.out.copy (s' := { s with row := new }) rfl rfl rfl rfl hfg.out
          replace HH := Lib.hid ((Own.pm (HH.out) (by repeat (first | with_reducible exact Pm.refl _ | with_reducible exact Pm.nil _ | with_reducible refine Pm.here ?_ | with_reducible refine Pm.at2 ?_ | with_reducible refine Pm.at3 ?_ | with_reducible refine Pm.at4 ?_ | with_reducible refine Pm.at5 ?_ | with_reducible refine Pm.at6 ?_ | with_reducible refine Pm.at7 ?_ | with_reducible refine Pm.at8 ?_ | with_reducible refine Pm.skip ?_))) : Own w _ (led c { s with row := new } :: rled mc m :: led b s :: rled mb m :: [old w]))
          replace hTc := Lib.hid hTc
          replace hq9 := Lib.hid hq9
          go_wp2_with fail
          go_loopw [14] (fun iv wr => ∃ (j : Nat) (s1 : Led) (m1 : RLd), j ≤ len2 ∧ iv = .int .i64 j ∧ Tie s1 m1 ∧ s1.re = r ∧ m1.q.length ≤ 100 + j ∧ Own w wr (led c s1 :: rled mc m1 :: led b s :: rled mb m :: [old w])) (fun iv _ => len2 - (intOf iv).toNat)
          case atStart => exact ⟨0, _, _, Nat.zero_le _, rfl, hTc.out, hre.out, hq9.out, HH.out⟩
          case round =>
            clear HH hTc
            obtain ⟨j, s1, m1, hj, rfl, hT1, hre1, hmj, HR⟩ := hrel
            have HH := Lib.hid HR
            clear HR
            replace hT1 := Lib.hid hT1
            replace hre1 := Lib.hid hre1
            replace hmj := Lib.hid hmj
            by_cases hjt : j < len2
            · have hjti : (j : Int) < (len2 : Int) := by omega
              obtain ⟨⟨kd, size, at', xr, delay, limit⟩, ha, hf⟩ := hget2.out j hjt
              obtain ⟨⟨hk0, hk1⟩, ⟨u1, u2, u3, u4⟩, hru, _, ab, off, A', cp, rfl, hit, c0, c1, c2, c3, c4, c5⟩ := ha
              simp only at hk0 hk1 u1 u2 u3 u4 hru hit c0 c1 c2 c3 c4 c5 hf
              have o0 := HH.out.r5.old_cell c0
              have o1 := HH.out.r5.old_cell c1
              have o2 := HH.out.r5.old_cell c2
              have o3 := HH.out.r5.old_cell c3
              have o4 := HH.out.r5.old_cell c4
              have o5 := HH.out.r5.old_cell c5
              replace hit := Lib.hid hit
              replace hru := Lib.hid hru
              replace hf := Lib.hid hf
              have hcall := act08_c w _ _ c mc s1 m1 hT1.out (by have := hmj.out; have := hl200.out; omega) (by rw [hre1.out]; exact hrU.out) kd size at' delay limit hk0 hk1 u1 u2 u3 u4 xr hru.out A' xr.length cp (fun wx Hx => itAt.old hit.out ((Own.pm (Hx) (by repeat (first | with_reducible exact Pm.refl _ | with_reducible exact Pm.nil _ | with_reducible refine Pm.here ?_ | with_reducible refine Pm.at2 ?_ | with_reducible refine Pm.at3 ?_ | with_reducible refine Pm.at4 ?_ | with_reducible refine Pm.at5 ?_ | with_reducible refine Pm.at6 ?_ | with_reducible refine Pm.at7 ?_ | with_reducible refine Pm.at8 ?_ | with_reducible refine Pm.skip ?_))) : Own w wx [old w])) (by have := hf.out; omega) HH.out
              replace hcall := Lib.hid hcall
              go_wp2_with fail
              refine hcall.out.mono ?_
              rintro e w9 ⟨rfl, s2, m2, hT2, hre2, hml2, H9⟩
              replace HH := Lib.hid H9
              clear H9 hcall o0 o1 o2 o3 o4 o5
              replace hT2 := Lib.hid hT2
              replace hre2 := Lib.hid hre2
              replace hml2 := Lib.hid hml2
              go_wp2_with fail
              refine (same08q_c w _ _ c mc s2 m2 hT2.out (by have := hmj.out; have := hml2.out; have := hl200.out; omega) HH.out).mono ?_
              rintro e w7_ ⟨rfl, H9_⟩
              replace HH := Lib.hid H9_
              clear H9_
              go_wp2_with fail
              refine (same08q_c w _ _ b mb s m hT.out (by have := hq9.out; omega) ((Own.pm (HH.out) (by repeat (first | with_reducible exact Pm.refl _ | with_reducible exact Pm.nil _ | with_reducible refine Pm.here ?_ | with_reducible refine Pm.at2 ?_ | with_reducible refine Pm.at3 ?_ | with_reducible refine Pm.at4 ?_ | with_reducible refine Pm.at5 ?_ | with_reducible refine Pm.at6 ?_ | with_reducible refine Pm.at7 ?_ | with_reducible refine Pm.at8 ?_ | with_reducible refine Pm.skip ?_))) : Own w _ (led b s :: rled mb m :: led c s2 :: rled mc m2 :: [old w]))).mono ?_
              rintro e w8_ ⟨rfl, H9_⟩
              replace HH := Lib.hid H9_
              clear H9_
              go_wp2_with fail
              go_roundw
              case rel => exact ⟨j + 1, s2, m2, by omega, by go_num, hT2.out, by rw [hre2.out, hre1.out], by have := hmj.out; have := hml2.out; omega, (Own.pm (HH.out) (by repeat (first | with_reducible exact Pm.refl _ | with_reducible exact Pm.nil _ | with_reducible refine Pm.here ?_ | with_reducible refine Pm.at2 ?_ | with_reducible refine Pm.at3 ?_ | with_reducible refine Pm.at4 ?_ | with_reducible refine Pm.at5 ?_ | with_reducible refine Pm.at6 ?_ | with_reducible refine Pm.at7 ?_ | with_reducible refine Pm.at8 ?_ | with_reducible refine Pm.skip ?_)))⟩
              case measure => simp [intOf]; omega
            · have hjn : ¬ (j : Int) < (len2 : Int) := by omega
              go_wp2_with fail
              refine (ledAck_nil _ none 0 0).mono ?_
              rintro e w' ⟨rfl, rfl⟩
              go_wp2_with fail
              refine (ledTop_nil _).mono ?_
              rintro e w' ⟨rfl, rfl⟩
              go_wp2_with fail
              refine (alive08_c w _ _ HH.out).mono ?_
              rintro e w9_ ⟨rfl, H9_⟩
              replace HH := Lib.hid H9_
              clear H9_
              go_wp2_with fail
              refine (ledSend_nil w _ _ 1 HH.out).mono ?_
              rintro e w10_ ⟨rfl, H9_⟩
              replace HH := Lib.hid H9_
              clear H9_
              go_wp2_with fail
              refine (ledLost_nil w _ _ 1 1 1 HH.out).mono ?_
              rintro e w11_ ⟨rfl, H9_⟩
              replace HH := Lib.hid H9_
              clear H9_
              go_wp2_with fail
              refine (ledOut_nil _).mono ?_
              rintro e w' ⟨rfl, rfl⟩
              go_wp2_with fail
              refine (ledInFlight_nil _).mono ?_
              rintro e w' ⟨rfl, rfl⟩
              go_wp2_with fail
              refine (ledNext_nil _).mono ?_
              rintro e w' ⟨rfl, rfl⟩
              go_wp2_with fail
              refine (ledClone_nil _).mono ?_
              rintro e w' ⟨rfl, rfl⟩
              go_wp2_with fail
              go_ret
              exact ⟨rfl, (Own.pm (HH.out) (by repeat (first | with_reducible exact Pm.refl _ | with_reducible exact Pm.nil _ | with_reducible refine Pm.here ?_ | with_reducible refine Pm.at2 ?_ | with_reducible refine Pm.at3 ?_ | with_reducible refine Pm.at4 ?_ | with_reducible refine Pm.at5 ?_ | with_reducible refine Pm.at6 ?_ | with_reducible refine Pm.at7 ?_ | with_reducible refine Pm.at8 ?_ | with_reducible refine Pm.skip ?_)))⟩
end
end Go.Proofs.Ytlhncdbigjgmnaa
namespace Go.Proofs.Ytlhncdbigjgmnaa
open Go.ChangeShapes Go.WideShapes Go.ChangeAt Go.RowKit
set_option linter.unusedVariables false
theorem ownLedgerClone : ownKnob Try.prog.godebug = none := by kernel_rfl
theorem laidOutLedgerClone : laidOutB Try.prog = true := by kernel_rfl
set_option maxRecDepth 100000 in
theorem ledgerClone_lifted (os : Os) (started : os.Started) (H : Type) (enc : TypeId × Value → H) :
    ReturnsInHanded {} Try.checked os 5 .any (Rows.ledgerCloneSpec.pre6 enc Try.prog Try.f5 Rows.ledgerCloneRow.domain false) (Rows.ledgerCloneSpec.post enc Try.prog Try.f5 false true false false) := by
  refine returnsInHanded_of_change (C := Try.checked) ownLedgerClone started (by kernel_rfl) Try.func5
    (ChangeSpec.witness6 (enc := enc) (C := Try.checked) false ⟨#[], #[.int .u64 0, .slice none 0 0, .slice none 0 0], []⟩ 8 (by kernel_rfl) (by kernel_rfl) (by kernel_rfl) (by kernel_rfl)) ?_
  intro W base args ds gs before hval0 hW hcnd _
  have hval : ∀ (j : Nat) t v, Try.f5.params[j]? = some t → args[j]? = some v → Value.okWide Try.prog W .any base t v := hval0
  have hW' := hW
  obtain ⟨p, q, hA0, hV, rfl, hfz, hnd⟩ := hW
  have hA : DataW.TrodAll enc Try.prog W 0 (fun _ => true) true Try.f5.params.toList args.toList ds p := hA0
  rw [Try.params5] at hA hval
  obtain ⟨v0, vs0, d0, ds0, p0, q0, hargs, rfl, rfl, h0, r0⟩ := trodAll_cons hA
  obtain ⟨v1, vs1, d1, ds1, p1, q1, rfl, rfl, rfl, h1, r1⟩ := trodAll_cons r0
  obtain ⟨v2, vs2, d2, ds2, p2, q2, rfl, rfl, rfl, h2, r2⟩ := trodAll_cons r1
  obtain ⟨rfl, rfl, rfl⟩ := trodAll_nil r2
  obtain rfl : args = #[v0, v1, v2] := by cases args; simp_all
  obtain ⟨rfl, rfl⟩ := trodVars_none hV
  have k0 := h0
  have lt0 : ∀ x ∈ p0, x.block < W.heap.size := by obtain ⟨m, hm⟩ := k0; exact DataW.trod_lt m _ _ _ hm
  obtain ⟨a0, rfl, rfl, rfl, w0⟩ := open_int Try.underlying29 (hval 0 29 v0 rfl rfl) h0
  have k1 := h1
  have lt1 : ∀ x ∈ p1, x.block < W.heap.size := by obtain ⟨m, hm⟩ := k1; exact DataW.trod_lt m _ _ _ hm
  obtain ⟨A1, len1, cap1, rfl⟩ := okWide_slice Try.underlying35 (hval 1 35 v1 rfl rfl)
  obtain ⟨xs1, hr1⟩ : ∃ xs, (rdSlice (rdPair (rdInt .u8) (rdPair (rdInt .u64) (rdPair (rdInt .u64) (rdPair (rdSlice (rdPair (rdInt .u64) (rdPair (rdInt .u64) rdUnit)) 2) (rdPair (rdInt .u64) (rdPair (rdInt .u64) rdUnit)))))) 6) W [.slice A1 len1 cap1] xs := by
    obtain ⟨fuel, hf⟩ := h1
    have hf2 : DataW.trod enc Try.prog W 0 (fun _ => true) true fuel 35 [.slice A1 len1 cap1] = some (d1, p1) := hf
    exact (show Opens enc Try.prog W 35 (rdSlice (rdPair (rdInt .u8) (rdPair (rdInt .u64) (rdPair (rdInt .u64) (rdPair (rdSlice (rdPair (rdInt .u64) (rdPair (rdInt .u64) rdUnit)) 2) (rdPair (rdInt .u64) (rdPair (rdInt .u64) rdUnit)))))) 6) from (opens_slice 6 (by omega) Try.underlying35 (by kernel_rfl) (opens_struct 6 Try.underlying42 (by kernel_rfl) (opensF_cons 1 (by kernel_rfl) rfl (opens_int Try.underlying5) (opensF_cons 1 (by kernel_rfl) rfl (opens_int Try.underlying29) (opensF_cons 1 (by kernel_rfl) rfl (opens_int Try.underlying29) (opensF_cons 1 (by kernel_rfl) rfl (opens_slice 2 (by omega) Try.underlying22 (by kernel_rfl) (opens_struct 2 Try.underlying31 (by kernel_rfl) (opensF_cons 1 (by kernel_rfl) rfl (opens_int Try.underlying29) (opensF_cons 1 (by kernel_rfl) rfl (opens_int Try.underlying29) opensF_nil)))) (opensF_cons 1 (by kernel_rfl) rfl (opens_int Try.underlying29) (opensF_cons 1 (by kernel_rfl) rfl (opens_int Try.underlying29) opensF_nil))))))))) _ _ _ _ hf2
  have k2 := h2
  have lt2 : ∀ x ∈ p2, x.block < W.heap.size := by obtain ⟨m, hm⟩ := k2; exact DataW.trod_lt m _ _ _ hm
  obtain ⟨A2, len2, cap2, rfl⟩ := okWide_slice Try.underlying35 (hval 2 35 v2 rfl rfl)
  obtain ⟨xs2, hr2⟩ : ∃ xs, (rdSlice (rdPair (rdInt .u8) (rdPair (rdInt .u64) (rdPair (rdInt .u64) (rdPair (rdSlice (rdPair (rdInt .u64) (rdPair (rdInt .u64) rdUnit)) 2) (rdPair (rdInt .u64) (rdPair (rdInt .u64) rdUnit)))))) 6) W [.slice A2 len2 cap2] xs := by
    obtain ⟨fuel, hf⟩ := h2
    have hf2 : DataW.trod enc Try.prog W 0 (fun _ => true) true fuel 35 [.slice A2 len2 cap2] = some (d2, p2) := hf
    exact (show Opens enc Try.prog W 35 (rdSlice (rdPair (rdInt .u8) (rdPair (rdInt .u64) (rdPair (rdInt .u64) (rdPair (rdSlice (rdPair (rdInt .u64) (rdPair (rdInt .u64) rdUnit)) 2) (rdPair (rdInt .u64) (rdPair (rdInt .u64) rdUnit)))))) 6) from (opens_slice 6 (by omega) Try.underlying35 (by kernel_rfl) (opens_struct 6 Try.underlying42 (by kernel_rfl) (opensF_cons 1 (by kernel_rfl) rfl (opens_int Try.underlying5) (opensF_cons 1 (by kernel_rfl) rfl (opens_int Try.underlying29) (opensF_cons 1 (by kernel_rfl) rfl (opens_int Try.underlying29) (opensF_cons 1 (by kernel_rfl) rfl (opens_slice 2 (by omega) Try.underlying22 (by kernel_rfl) (opens_struct 2 Try.underlying31 (by kernel_rfl) (opensF_cons 1 (by kernel_rfl) rfl (opens_int Try.underlying29) (opensF_cons 1 (by kernel_rfl) rfl (opens_int Try.underlying29) opensF_nil)))) (opensF_cons 1 (by kernel_rfl) rfl (opens_int Try.underlying29) (opensF_cons 1 (by kernel_rfl) rfl (opens_int Try.underlying29) opensF_nil))))))))) _ _ _ _ hf2
  clear hA0 hval0
  refine (ledgerClone_c W a0 w0 A1 len1 cap1 xs1 hr1 A2 len2 cap2 xs2 hr2).mono fun e W' ⟨he, hown⟩ => ?_
  have bel := hown.old_below
  subst he
  exact ⟨_, rfl, _, _, _, [], _, [], hW', trodAll_mk1 (shut_bool Try.underlying4 _), (trodAll_cons_mk (Below.trod laidOutLedgerClone (by kernel_rfl) (of_decide_eq_true (by kernel_rfl)) k0 bel lt0) (trodAll_cons_mk (Below.trod laidOutLedgerClone (by kernel_rfl) (of_decide_eq_true (by kernel_rfl)) k1 bel lt1) (trodAll_cons_mk (Below.trod laidOutLedgerClone (by kernel_rfl) (of_decide_eq_true (by kernel_rfl)) k2 bel lt2) trodAll_mk0))), rfl, bel.frame _, fun h => by cases h⟩
theorem ledgerClone_holds : Rows.LedgerCloneSaid :=
  OpenClaim.holds_of_wide 5 Try.f5 rfl rfl rfl rfl rfl rfl rfl ⟨rfl, rfl, rfl, rfl, rfl⟩ rfl rfl rfl rfl rfl (by kernel_rfl) Try.func5 (by kernel_rfl)
    (of_decide_eq_true (by kernel_rfl)) (by unfold Func.isWrapper; first | (rw [if_pos (by decide +kernel)]; kernel_rfl) | (rw [if_neg (by decide +kernel)]; exact ⟨rfl, rfl⟩))
    (fun os started H enc _ => ledgerClone_lifted os started H enc)
#print axioms ledgerClone_holds
end Go.Proofs.Ytlhncdbigjgmnaa
