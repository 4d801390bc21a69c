/- jitter: those that are due: a range over a function. -/
import Derived.Test.YtklohjjkpobneaaJitter
import Derived.Test.YtklohjjkpobneaaRound
import Derived.Sort.LoopGhostIn
import Derived.Shelf.Abstract
namespace Go.Proofs.Ytklohjjkpobneaa
open Go.RowKit Go.Shelf
attribute [local go_sem] Oper.semAt_some
section
variable (ε w : World) (A : List Asn)
abbrev capB (bb b : Nat) : Asn := pts bb (.cells #[.pointer (some ⟨b, 0, none⟩)] 176 (0, 0))
abbrev capN (nb : Nat) (now : Int) : Asn := pts nb (.cells #[.int .u64 now] 27 (0, 0))
set_option maxHeartbeats 1600000 in
theorem boxIter_c (m l bb nb b : Nat) (s : Bo) (now : Int) (Fr : List Pk → Asn)
    (hY : ∀ pre x l' W, pre.length + 1 + l'.length ≤ s.l.length → Own ε W (box b { s with l := l' } :: capB bb b :: capN nb now :: Fr pre :: A) → YieldAt Fence.wide m Try.prog l #[.agg x.cells.toArray] W fun e W' => e = .returned (.bool true) ∧ Own ε W' (box b { s with l := l' } :: capB bb b :: capN nb now :: Fr (pre ++ [x]) :: A))
    (H : Own ε w (box b s :: capB bb b :: capN nb now :: Fr [] :: A)) :
    Calls Try.prog 213 #[.func (.yield l) #[] #[], .pointer (some ⟨bb, 0, none⟩), .pointer (some ⟨nb, 0, none⟩)] w fun e w' => (∃ v, e = .returned v) ∧ Own ε w' (box b (s.out now).2 :: capB bb b :: capN nb now :: Fr (Bo.outL now s.l) :: A) := by
  have HH := Lib.hid H; clear H
  replace hY := Lib.hid hY
  go_enter Try.func213, Try.ntmps213
  go_wp2_with fail
  go_loopg [] s.l.length (fun k wr => ∃ (l' : List Du) (pre : List Pk), l'.length = k ∧ pre.length + l'.length ≤ s.l.length ∧ Bo.outL now s.l = pre ++ Bo.outL now l' ∧ Bo.restL now s.l = Bo.restL now l' ∧ Own ε wr (box b { s with l := l' } :: capB bb b :: capN nb now :: Fr pre :: A))
  case atStart => exact ⟨s.l, [], rfl, by simp, rfl, rfl, HH.out⟩
  case round =>
    clear HH
    obtain ⟨l', pre, hk, hlen, ho, hr, HR⟩ := hrel
    obtain ⟨rb, HR⟩ := HR.box_open
    have HH := Lib.hid HR
    clear HR
    replace ho := Lib.hid ho
    replace hr := Lib.hid hr
    replace hk := Lib.hid hk
    replace hlen := Lib.hid hlen
    have c1 := atC_dus l'
    (try clear cc1_); (try clear cc2_); (try clear cc3_); (try clear cc4_); (try clear cc5_); (try clear cc6_); (try clear cc7_)
    have cc1_ := HH.out.cells
    have cc3_ := HH.out.r3.cells
    have cc4_ := HH.out.r4.cells
    cases l' with
    | nil =>
      rw [show headD ([] : List Du) = (⟨⟨0, 0, 0, 0, 0, 0, false⟩, 0⟩, false) from rfl] at c1
      replace c1 := Lib.hid c1
      go_wp2_with fail
      refine (rdAt_c ε _ _ rb (dus []) 0 HH.out.r2).mono ?_
      rw [c1.out]
      rintro e w1_ ⟨rfl, H9_⟩
      replace HH := Lib.hid H9_
      clear H9_
      clear c1
      go_wp2_with (with_reducible refine stop_al ?_)
      refine Stop.go ?_
      refine wpList_alloc_own HH.out [.int .u64 0, .int .u64 0, .int .u64 0, .int .u64 0, .int .u64 0, .int .u64 0, .bool false, .int .u64 0] (by kernel_rfl) ?_
      intro sx w2_ H9_
      replace HH := Lib.hid H9_
      clear H9_
      go_wp2_with (with_reducible refine stop_st ?_)
      refine Stop.go ?_
      refine wpList_store_own _ #[_, _, _, _, _, _, _, _] rfl rfl HH.out (by kernel_rfl) rfl (by repeat (first | (refine List.forall_mem_cons.2 ⟨(by first | with_reducible assumption | rfl), ?_⟩) | exact fun _ h => absurd h List.not_mem_nil)) ?_
      intro w3_ H9_
      replace HH := Lib.hid H9_
      clear H9_
      (try clear cc1_); (try clear cc2_); (try clear cc3_); (try clear cc4_); (try clear cc5_); (try clear cc6_); (try clear cc7_)
      have cc1_ := HH.out.cells
      have cc3_ := HH.out.r3.cells
      have cc4_ := HH.out.r4.cells
      have cc5_ := HH.out.r5.cells
      go_wp2_with fail
      first | go_end0 | ((try simp only [Exit.inBlock, Exit.then]); refine bodyPost_ret (results_none rfl _ _ _) rfl ?_)
      have e1 := ho.out
      have e2 := hr.out
      rw [(Bo.out_nil now).1, List.append_nil] at e1
      rw [(Bo.out_nil now).2] at e2
      refine ⟨⟨_, rfl⟩, ?_⟩
      rw [e1, show (s.out now).2 = { s with l := [] } by unfold Bo.out; rw [e2]]
      exact Own.box_mk (s := { s with l := [] }) (Own.pm (HH.out) (by repeat (first | with_reducible exact Pm.refl _ | with_reducible exact Pm.nil _ | with_reducible refine Pm.here ?_ | with_reducible refine Pm.at2 ?_ | with_reducible refine Pm.at3 ?_ | with_reducible refine Pm.at4 ?_ | with_reducible refine Pm.at5 ?_ | with_reducible refine Pm.at6 ?_ | with_reducible refine Pm.at7 ?_ | with_reducible refine Pm.at8 ?_ | with_reducible refine Pm.skip ?_)))
    | cons d l'' =>
      obtain ⟨⟨pn, ps, p3, p4, p5, p6, p7⟩, dt⟩ := d
      rw [show headD ((⟨⟨pn, ps, p3, p4, p5, p6, p7⟩, dt⟩ : Du) :: l'') = (⟨⟨pn, ps, p3, p4, p5, p6, p7⟩, dt⟩, true) from rfl] at c1
      replace c1 := Lib.hid c1
      go_wp2_with fail
      refine (rdAt_c ε _ _ rb (dus (⟨⟨pn, ps, p3, p4, p5, p6, p7⟩, dt⟩ :: l'')) 0 HH.out.r2).mono ?_
      rw [c1.out]
      rintro e w4_ ⟨rfl, H9_⟩
      replace HH := Lib.hid H9_
      clear H9_
      go_wp2_with (with_reducible refine stop_al ?_)
      refine Stop.go ?_
      refine wpList_alloc_own HH.out [.int .u64 0, .int .u64 0, .int .u64 0, .int .u64 0, .int .u64 0, .int .u64 0, .bool false, .int .u64 0] (by kernel_rfl) ?_
      intro sx w5_ H9_
      replace HH := Lib.hid H9_
      clear H9_
      go_wp2_with (with_reducible refine stop_st ?_)
      refine Stop.go ?_
      refine wpList_store_own _ #[_, _, _, _, _, _, _, _] rfl rfl HH.out (by kernel_rfl) rfl (by repeat (first | (refine List.forall_mem_cons.2 ⟨(by first | with_reducible assumption | rfl), ?_⟩) | exact fun _ h => absurd h List.not_mem_nil)) ?_
      intro w6_ H9_
      replace HH := Lib.hid H9_
      clear H9_
      (try clear cc1_); (try clear cc2_); (try clear cc3_); (try clear cc4_); (try clear cc5_); (try clear cc6_); (try clear cc7_)
      have cc1_ := HH.out.cells
      have cc3_ := HH.out.r3.cells
      have cc4_ := HH.out.r4.cells
      have cc5_ := HH.out.r5.cells
      by_cases hd : dt ≤ now
      · have hd2 : ¬ now < dt := by omega
        go_wp2_with fail
        refine (rdShift_c ε _ _ rb (dus (⟨⟨pn, ps, p3, p4, p5, p6, p7⟩, dt⟩ :: l'')) HH.out.r2).mono ?_
        rw [dus_drop, show (⟨⟨pn, ps, p3, p4, p5, p6, p7⟩, dt⟩ :: l'').drop 1 = l'' from rfl]
        rintro e w9 ⟨rfl, H9_⟩
        (try clear cc1_); (try clear cc2_); (try clear cc3_); (try clear cc4_); (try clear cc5_); (try clear cc6_); (try clear cc7_)
        have k1 := H9_.r2.cells
        replace HH := Lib.hid (Own.box_mk (s := { s with l := l'' }) ((Own.pm (H9_) (by repeat (first | with_reducible exact Pm.refl _ | with_reducible exact Pm.nil _ | with_reducible refine Pm.here ?_ | with_reducible refine Pm.at2 ?_ | with_reducible refine Pm.at3 ?_ | with_reducible refine Pm.at4 ?_ | with_reducible refine Pm.at5 ?_ | with_reducible refine Pm.at6 ?_ | with_reducible refine Pm.at7 ?_ | with_reducible refine Pm.at8 ?_ | with_reducible refine Pm.skip ?_))) : Own ε w9 (pts b _ :: rdRing rb (dus l'') :: capB bb b :: capN nb now :: Fr pre :: A)))
        clear H9_
        try dsimp only
        repeat (first | (with_reducible refine stop_rs 3 ?_) | (with_reducible refine stop_rg 3 ?_) | go_values | go_skip | go_guarded | go_step | go_upon | go_back)
        refine Stop.go ?_
        obtain ⟨fn, tmps, assign, body, hy, hR⟩ := hY.out pre ⟨pn, ps, p3, p4, p5, p6, p7⟩ l'' _ (by have := hlen.out; simp only [List.length_cons] at this; omega) HH.out
        dsimp only [Pk.cells] at hy
        refine (wpIn_wide (n := m + 1)).1 ?_
        gi_wp2
        refine hR.mono ?_
        clear hy hR k1
        rintro e w10 ⟨rfl, H10⟩
        replace HH := Lib.hid H10
        clear H10
        gi_wp2
        go_wp2_with fail
        go_roundg l''.length
        case measure => have := hk.out; simp at this; omega
        case rel => exact ⟨l'', _, rfl, by have := hlen.out; simp at this ⊢; omega, by rw [ho.out, ((Bo.out_cons now ⟨⟨pn, ps, p3, p4, p5, p6, p7⟩, dt⟩ l'').1 (show dt ≤ now by omega)).1]; simp, by rw [hr.out, ((Bo.out_cons now ⟨⟨pn, ps, p3, p4, p5, p6, p7⟩, dt⟩ l'').1 (show dt ≤ now by omega)).2], HH.out⟩
      · have hd2 : now < dt := by omega
        go_wp2_with fail
        first | go_end0 | ((try simp only [Exit.inBlock, Exit.then]); refine bodyPost_ret (results_none rfl _ _ _) rfl ?_)
        have e1 := ho.out
        have e2 := hr.out
        rw [((Bo.out_cons now ⟨⟨pn, ps, p3, p4, p5, p6, p7⟩, dt⟩ l'').2 (show ¬ dt ≤ now by omega)).1, List.append_nil] at e1
        rw [((Bo.out_cons now ⟨⟨pn, ps, p3, p4, p5, p6, p7⟩, dt⟩ l'').2 (show ¬ dt ≤ now by omega)).2] at e2
        refine ⟨⟨_, rfl⟩, ?_⟩
        rw [e1, show (s.out now).2 = { s with l := ⟨⟨pn, ps, p3, p4, p5, p6, p7⟩, dt⟩ :: l'' } by unfold Bo.out; rw [e2]]
        exact Own.box_mk (s := { s with l := ⟨⟨pn, ps, p3, p4, p5, p6, p7⟩, dt⟩ :: l'' }) (Own.pm (HH.out) (by repeat (first | with_reducible exact Pm.refl _ | with_reducible exact Pm.nil _ | with_reducible refine Pm.here ?_ | with_reducible refine Pm.at2 ?_ | with_reducible refine Pm.at3 ?_ | with_reducible refine Pm.at4 ?_ | with_reducible refine Pm.at5 ?_ | with_reducible refine Pm.at6 ?_ | with_reducible refine Pm.at7 ?_ | with_reducible refine Pm.at8 ?_ | with_reducible refine Pm.skip ?_)))
theorem boxSeq_c (R : List Asn) (b : Nat) (now : Int) (H : Own ε w R) :
    Calls Try.prog 167 #[.pointer (some ⟨b, 0, none⟩), .int .u64 now] w fun e w' => ∃ bb nb, e = .returned (.func (.func 213) #[] #[.pointer (some ⟨bb, 0, none⟩), .pointer (some ⟨nb, 0, none⟩)]) ∧ Own ε w' (capN nb now :: capB bb b :: R) := by
  have HH := Lib.hid H; clear H
  go_enter Try.func167, Try.ntmps167
  go_wp2_with (with_reducible refine stop_bx ?_)
  refine Stop.go ?_
  refine wpList_box_own HH.out [_] rfl ?_
  intro bb w7_ H9_
  replace HH := Lib.hid H9_
  clear H9_
  go_wp2_with (with_reducible refine stop_bx ?_)
  refine Stop.go ?_
  refine wpList_box_own HH.out [_] rfl ?_
  intro nb w8_ H9_
  replace HH := Lib.hid H9_
  clear H9_
  go_wp2_with fail
  go_ret
  exact ⟨_, _, rfl, HH.out⟩
def outFr (o : Nat) (pre : List Pk) : Asn := exA fun v : Value => sep (pts o (.cells #[v] 28 (0, 0))) (slcP v pre)
theorem outFr_mk {ε w : World} {R : List Asn} {o : Nat} {v : Value} {l : List Pk} (H : Own ε w (slcP v l :: pts o (.cells #[v] 28 (0, 0)) :: R)) : Own ε w (outFr o l :: R) := Own.ex_mk v H.r2.join
set_option maxHeartbeats 1600000 in
theorem boxOut_c (m : Nat) (R : List Asn) (b : Nat) (s : Bo) (now : Int) (hl : s.l.length ≤ 1000000) (H : Own ε w (box b s :: R)) :
    Calls Try.prog 104 #[.pointer (some ⟨b, 0, none⟩), .int .u64 now] w fun e w' => ∃ v, e = .returned v ∧ Own ε w' (slcP v (s.out now).1 :: box b (s.out now).2 :: R) := by
  have HH := Lib.hid H; clear H
  refine calls_of_wp_marks (m + 1) Try.func104 rfl ?_; simp only [Try.ntmps104, List.size_toArray, List.length_cons, List.length_nil, Nat.reduceAdd, Nat.reduceSub, Array.replicate_succ, Array.replicate_zero, List.push_toArray, List.append_toArray, List.nil_append, List.cons_append]
  go_wp2_with (with_reducible refine stop_al ?_)
  refine Stop.go ?_
  refine wpList_alloc_own HH.out [.slice none 0 0] (by kernel_rfl) ?_
  intro ob w9_ H9_
  replace HH := Lib.hid H9_
  clear H9_
  go_wp2_with fail
  refine (boxSeq_c ε _ _ b now HH.out).mono ?_
  rintro e w10_ ⟨bb, nb, rfl, H9_⟩
  replace HH := Lib.hid H9_
  clear H9_
  go_wp2_with (with_reducible refine stop_rf ?_)
  refine Stop.go ?_
  refine (wpIn_wide (n := m + 1)).1 ?_
  refine wpIn_rangeFunc_sep (gf := 213) (lb := #[.pointer (some ⟨bb, 0, none⟩), .pointer (some ⟨nb, 0, none⟩)]) rfl (enters_of Try.func213 (by kernel_rfl) rfl) HH.out ?_
  intro fn l D W H3
  clear HH
  have HH := Lib.hid ((Own.pm (H3) (by repeat (first | with_reducible exact Pm.refl _ | with_reducible exact Pm.nil _ | with_reducible refine Pm.here ?_ | with_reducible refine Pm.at2 ?_ | with_reducible refine Pm.at3 ?_ | with_reducible refine Pm.at4 ?_ | with_reducible refine Pm.at5 ?_ | with_reducible refine Pm.at6 ?_ | with_reducible refine Pm.at7 ?_ | with_reducible refine Pm.at8 ?_ | with_reducible refine Pm.skip ?_))) : Own ε W (pts ob _ :: box b s :: capB bb b :: capN nb now :: pts l _ :: pts D _ :: R))
  clear H3
  replace HH := Lib.hid (outFr_mk (l := []) (HH.out.slc_none))
  replace HH := Lib.hid ((Own.pm (HH.out) (by repeat (first | with_reducible exact Pm.refl _ | with_reducible exact Pm.nil _ | with_reducible refine Pm.here ?_ | with_reducible refine Pm.at2 ?_ | with_reducible refine Pm.at3 ?_ | with_reducible refine Pm.at4 ?_ | with_reducible refine Pm.at5 ?_ | with_reducible refine Pm.at6 ?_ | with_reducible refine Pm.at7 ?_ | with_reducible refine Pm.at8 ?_ | with_reducible refine Pm.skip ?_))) : Own ε W (box b s :: capB bb b :: capN nb now :: outFr ob [] :: pts l _ :: pts D _ :: R))
  refine callsIn_wide.2 ((boxIter_c ε W _ m l bb nb b s now (outFr ob) ?hY HH.out).mono ?hE)
  case hE =>
    clear HH
    rintro e W2 ⟨hv, H4⟩
    obtain ⟨vo, H4⟩ := ((Own.pm (H4) (by repeat (first | with_reducible exact Pm.refl _ | with_reducible exact Pm.nil _ | with_reducible refine Pm.here ?_ | with_reducible refine Pm.at2 ?_ | with_reducible refine Pm.at3 ?_ | with_reducible refine Pm.at4 ?_ | with_reducible refine Pm.at5 ?_ | with_reducible refine Pm.at6 ?_ | with_reducible refine Pm.at7 ?_ | with_reducible refine Pm.at8 ?_ | with_reducible refine Pm.skip ?_))) : Own ε W2 (outFr ob (Bo.outL now s.l) :: box b (s.out now).2 :: pts l _ :: pts D _ :: R)).ex
    refine ⟨hv, .inl ⟨pts ob _ :: slcP vo (Bo.outL now s.l) :: box b (s.out now).2 :: R, (Own.pm (H4.split) (by repeat (first | with_reducible exact Pm.refl _ | with_reducible exact Pm.nil _ | with_reducible refine Pm.here ?_ | with_reducible refine Pm.at2 ?_ | with_reducible refine Pm.at3 ?_ | with_reducible refine Pm.at4 ?_ | with_reducible refine Pm.at5 ?_ | with_reducible refine Pm.at6 ?_ | with_reducible refine Pm.at7 ?_ | with_reducible refine Pm.at8 ?_ | with_reducible refine Pm.skip ?_))), ?_⟩⟩
    clear H4
    intro W3 H5
    have HH := Lib.hid H5
    have hK := H5.blk
    clear H5
    (try clear cc1_); (try clear cc2_); (try clear cc3_); (try clear cc4_); (try clear cc5_); (try clear cc6_); (try clear cc7_)
    have cc2_ := HH.out.r2.cells
    go_wp2_with fail
    refine ⟨by simp, .inl ⟨_, _, rfl, run_takeDeferred hK, ?_⟩⟩
    refine ⟨_, results_tmp rfl _ _ _, vo, rfl, ?_⟩
    exact (HH.out.putObj _).tail.tail
  case hY =>
    clear HH
    intro pre x l' W1 hlen H4
    refine yieldAt_own (A := box b { s with l := l' } :: capB bb b :: capN nb now :: outFr ob pre :: pts D (.deferred (some [])) :: R) ?hs (Own.pm (H4) (by repeat (first | with_reducible exact Pm.refl _ | with_reducible exact Pm.nil _ | with_reducible refine Pm.here ?_ | with_reducible refine Pm.at2 ?_ | with_reducible refine Pm.at3 ?_ | with_reducible refine Pm.at4 ?_ | with_reducible refine Pm.at5 ?_ | with_reducible refine Pm.at6 ?_ | with_reducible refine Pm.at7 ?_ | with_reducible refine Pm.at8 ?_ | with_reducible refine Pm.skip ?_))) ?_
    case hs => rfl
    have HH := Lib.hid ((Own.pm (H4) (by repeat (first | with_reducible exact Pm.refl _ | with_reducible exact Pm.nil _ | with_reducible refine Pm.here ?_ | with_reducible refine Pm.at2 ?_ | with_reducible refine Pm.at3 ?_ | with_reducible refine Pm.at4 ?_ | with_reducible refine Pm.at5 ?_ | with_reducible refine Pm.at6 ?_ | with_reducible refine Pm.at7 ?_ | with_reducible refine Pm.at8 ?_ | with_reducible refine Pm.skip ?_))) : Own ε W1 (outFr ob pre :: pts l _ :: pts D _ :: box b { s with l := l' } :: capB bb b :: capN nb now :: R))
    clear H4
    obtain ⟨pn, ps, p3, p4, p5, p6, p7⟩ := x
    (try (with_reducible refine in_back ?_)); gi_wp2_with (with_reducible refine stopI_al ?_)
    refine Stop.go ?_
    refine in_of_list rfl (fun _ h => nomatch h) ?_
    refine wpList_alloc_own HH.out [.int .u64 0, .int .u64 0, .int .u64 0, .int .u64 0, .int .u64 0, .int .u64 0, .bool false] (by kernel_rfl) ?_
    intro pb w11_ H9_
    replace HH := Lib.hid H9_
    clear H9_
    (try (with_reducible refine in_back ?_)); gi_wp2_with (with_reducible refine stopI_st ?_)
    refine Stop.go ?_
    refine in_of_list rfl (fun _ h => nomatch h) ?_
    refine wpList_store_own _ #[_, _, _, _, _, _, _] rfl rfl HH.out (by kernel_rfl) rfl (by repeat (first | (refine List.forall_mem_cons.2 ⟨(by first | with_reducible assumption | rfl), ?_⟩) | exact fun _ h => absurd h List.not_mem_nil)) ?_
    intro w12_ H9_
    replace HH := Lib.hid H9_
    clear H9_
    with_reducible refine in_back ?_
    gi_wp2
    refine ⟨pts pb _ :: outFr ob pre :: pts D _ :: box b { s with l := l' } :: capB bb b :: capN nb now :: R, (Own.pm (HH.out) (by repeat (first | with_reducible exact Pm.refl _ | with_reducible exact Pm.nil _ | with_reducible refine Pm.here ?_ | with_reducible refine Pm.at2 ?_ | with_reducible refine Pm.at3 ?_ | with_reducible refine Pm.at4 ?_ | with_reducible refine Pm.at5 ?_ | with_reducible refine Pm.at6 ?_ | with_reducible refine Pm.at7 ?_ | with_reducible refine Pm.at8 ?_ | with_reducible refine Pm.skip ?_))), ?_⟩
    clear HH
    intro W2 H5
    obtain ⟨vo, H5⟩ := ((Own.pm (H5) (by repeat (first | with_reducible exact Pm.refl _ | with_reducible exact Pm.nil _ | with_reducible refine Pm.here ?_ | with_reducible refine Pm.at2 ?_ | with_reducible refine Pm.at3 ?_ | with_reducible refine Pm.at4 ?_ | with_reducible refine Pm.at5 ?_ | with_reducible refine Pm.at6 ?_ | with_reducible refine Pm.at7 ?_ | with_reducible refine Pm.at8 ?_ | with_reducible refine Pm.skip ?_))) : Own ε W2 (outFr ob pre :: pts pb _ :: pts l _ :: pts D _ :: box b { s with l := l' } :: capB bb b :: capN nb now :: R)).ex
    have HH := Lib.hid ((Own.pm (H5.split) (by repeat (first | with_reducible exact Pm.refl _ | with_reducible exact Pm.nil _ | with_reducible refine Pm.here ?_ | with_reducible refine Pm.at2 ?_ | with_reducible refine Pm.at3 ?_ | with_reducible refine Pm.at4 ?_ | with_reducible refine Pm.at5 ?_ | with_reducible refine Pm.at6 ?_ | with_reducible refine Pm.at7 ?_ | with_reducible refine Pm.at8 ?_ | with_reducible refine Pm.skip ?_))) : Own ε W2 (slcP vo pre :: pts ob _ :: pts pb _ :: pts l _ :: pts D _ :: box b { s with l := l' } :: capB bb b :: capN nb now :: R))
    clear H5
    (try clear cc1_); (try clear cc2_); (try clear cc3_); (try clear cc4_); (try clear cc5_); (try clear cc6_); (try clear cc7_)
    have cc2_ := HH.out.r2.cells
    have cc3_ := HH.out.r3.cells
    (try (with_reducible refine in_back ?_)); gi_wp2_with (with_reducible refine stopI_bs ?_)
    refine Stop.go ?_
    refine in_of_list rfl (fun _ h => nomatch h) ?_
    refine wpList_bs1_own HH.out #[_, _, _, _, _, _, _] 7 56 Try.underlying28 (by kernel_rfl) (by decide) (by decide) rfl rfl ?_
    intro g_ w13_ H9_
    replace HH := Lib.hid H9_
    clear H9_
    (try (with_reducible refine in_back ?_)); gi_wp2_with (with_reducible refine stopI_app ?_)
    refine Stop.go ?_
    refine in_of_list rfl (fun _ h => nomatch h) ?_
    refine wpList_app1_own rfl _ _ 28 rfl 42 7 56 Try.underlying28 (by kernel_rfl) (by decide) (pre.length) rfl rfl HH.out (flat_pks_len pre) rfl (by repeat (first | (refine List.forall_mem_cons.2 ⟨(by first | with_reducible assumption | rfl), ?_⟩) | exact fun _ h => absurd h List.not_mem_nil)) (by simp only [maxLen]; omega) (by omega) ?_
    intro v5 w14_ H9_
    obtain ⟨A_v5, n_v5, c_v5, rfl⟩ := H9_.slc_isv
    replace HH := Lib.hid H9_
    clear H9_
    with_reducible refine in_back ?_
    (try (with_reducible refine in_back ?_)); gi_wp2_with (with_reducible refine stopI_st ?_)
    refine Stop.go ?_
    refine in_of_list rfl (fun _ h => nomatch h) ?_
    refine wpList_store1_own (v := .slice A_v5 n_v5 c_v5) (k := 0) rfl rfl HH.out.r2 (by kernel_rfl) (by simp) (by first | rfl | assumption) ?_
    intro w15_ H9_
    replace HH := Lib.hid H9_
    clear H9_
    simp only [List.setIfInBounds_toArray, List.set_cons_zero] at HH
    with_reducible refine in_back ?_
    gi_wp2
    have H6 := HH.out
    clear HH
    rw [show (pks pre).flatten ++ [.int .u64 pn, .int .u64 ps, .int .u64 p3, .int .u64 p4, .int .u64 p5, .int .u64 p6, .bool p7] = (pks (pre ++ [⟨pn, ps, p3, p4, p5, p6, p7⟩])).flatten from (flat_pks_snoc pre (⟨pn, ps, p3, p4, p5, p6, p7⟩ : Pk)).symm] at H6
    have H7 := outFr_mk (l := pre ++ [⟨pn, ps, p3, p4, p5, p6, p7⟩]) ((Own.pm (H6) (by repeat (first | with_reducible exact Pm.refl _ | with_reducible exact Pm.nil _ | with_reducible refine Pm.here ?_ | with_reducible refine Pm.at2 ?_ | with_reducible refine Pm.at3 ?_ | with_reducible refine Pm.at4 ?_ | with_reducible refine Pm.at5 ?_ | with_reducible refine Pm.at6 ?_ | with_reducible refine Pm.at7 ?_ | with_reducible refine Pm.at8 ?_ | with_reducible refine Pm.skip ?_))) : Own ε _ (slc 42 7 _ (pks (pre ++ [⟨pn, ps, p3, p4, p5, p6, p7⟩])).flatten :: pts ob _ :: pts l _ :: pts D _ :: box b { s with l := l' } :: capB bb b :: capN nb now :: R))
    clear H6
    refine ⟨_, H7.r2, ?_⟩
    clear H7
    intro W6 H6
    exact ⟨rfl, (Own.pm (H6) (by repeat (first | with_reducible exact Pm.refl _ | with_reducible exact Pm.nil _ | with_reducible refine Pm.here ?_ | with_reducible refine Pm.at2 ?_ | with_reducible refine Pm.at3 ?_ | with_reducible refine Pm.at4 ?_ | with_reducible refine Pm.at5 ?_ | with_reducible refine Pm.at6 ?_ | with_reducible refine Pm.at7 ?_ | with_reducible refine Pm.at8 ?_ | with_reducible refine Pm.skip ?_)))⟩
end
end Go.Proofs.Ytklohjjkpobneaa
