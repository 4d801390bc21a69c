/- jitter: JitterLate. -/
import Derived.Test.YtoimbdbajpjmjaaJitter3
namespace Go.Proofs.Ytoimbdbajpjmjaa
open Go.RowKit
/-- What is true behind each act. -/
structure JLate (delay jit nw : Int) (nx k : Nat) (s : Bo) : Prop where
  ok : s.Ok
  d : s.delay = delay
  j : s.jit = jit
  len : nx + s.l.length = k
  num : ∀ j x, s.l[j]? = some x → x.p.n = ((nx + j : Nat) : Int)
  last : s.last ≤ nw + delay + jit
  due : ∀ x ∈ s.l, x.t ≤ nw + delay + jit
theorem JLate.new {delay jit : Int} (h1 : U delay) (h2 : U jit) : JLate delay jit 0 0 0 (Bo.new delay jit) :=
  ⟨Bo.ok_new h1 h2, rfl, rfl, rfl, fun j x h => by simp [Bo.new] at h, by have := h1.1; have := h2.1; show 0 ≤ _; omega, fun x h => by cases h⟩
theorem JLate.dueIn {delay jit nw : Int} {nx k : Nat} {s : Bo} (h : JLate delay jit nw nx k s) {m c : Int} (hm : nw ≤ m) (h0 : 0 ≤ m) (h1 : m ≤ 1099511627776) (hc : 0 ≤ c) (hd : delay ≤ 1099511627776) (hj : jit ≤ 1099511627776) : m + delay ≤ s.due m c ∧ s.due m c ≤ m + delay + jit := by
  have hd0 := h.ok.delay
  have hj0 := h.ok.jit
  have hl := h.last
  rw [h.d] at hd0
  rw [h.j] at hj0
  unfold U at hd0 hj0
  unfold Bo.due
  rw [h.d, h.j]
  have e1 : sadd m delay = m + delay := by unfold sadd; rw [if_neg (by omega)]
  have e2 : sadd (m + delay) (min c jit) = m + delay + min c jit := by unfold sadd; rw [if_neg (by omega)]
  rw [e1, e2]
  omega
theorem JLate.put {delay jit nw : Int} {nx k : Nat} {s : Bo} (h : JLate delay jit nw nx k s) {m c : Int} (hm : nw ≤ m) (h0 : 0 ≤ m) (h1 : m ≤ 1099511627776) (hc : U c) (hd : delay ≤ 1099511627776) (hj : jit ≤ 1099511627776) : JLate delay jit m nx (k + 1) (s.put (Pk.bare k 0) m c) := by
  obtain ⟨a, b⟩ := h.dueIn hm h0 h1 hc.1 hd hj
  have hl := h.len
  refine ⟨Bo.ok_put h.ok (by unfold U; omega) hc, h.d, h.j, ?_, ?_, b, ?_⟩
  · show nx + (s.l ++ _).length = _
    rw [List.length_append]; simp; omega
  · intro j x hx
    rcases Nat.lt_or_ge j s.l.length with hlt | hge
    · exact h.num j x (by have hx : (s.l ++ _)[j]? = some x := hx; rwa [List.getElem?_append_left hlt] at hx)
    · have hx : (s.l ++ [(⟨Pk.bare k 0, s.due m c⟩ : Du)])[j]? = some x := hx
      rw [List.getElem?_append_right hge] at hx
      have hj0 : j - s.l.length = 0 := by
        rcases Nat.eq_zero_or_pos (j - s.l.length) with h | h
        · exact h
        · rw [List.getElem?_eq_none (by simp; omega)] at hx; cases hx
      rw [hj0] at hx
      have hx := Option.some.inj hx
      subst hx
      show (k : Int) = _
      congr 1; omega
  · intro x hx
    rcases List.mem_append.1 hx with hx | hx
    · have := h.due x hx; omega
    · rw [List.mem_singleton.1 hx]; exact b
theorem Bo.out_take (now : Int) (l : List Du) : ∃ q, q ≤ l.length ∧ Bo.outL now l = (l.take q).map Du.p ∧ Bo.restL now l = l.drop q := by
  induction l with
  | nil => exact ⟨0, Nat.le_refl _, rfl, rfl⟩
  | cons d l ih =>
    obtain ⟨q, h1, h2, h3⟩ := ih
    by_cases hd : d.t ≤ now
    · refine ⟨q + 1, by simp; omega, ?_, ?_⟩
      · rw [((Bo.out_cons now d l).1 hd).1, h2]; rfl
      · rw [((Bo.out_cons now d l).1 hd).2, h3]; rfl
    · exact ⟨0, Nat.zero_le _, ((Bo.out_cons now d l).2 hd).1, ((Bo.out_cons now d l).2 hd).2⟩
theorem Bo.out_all (now : Int) (l : List Du) (h : ∀ d ∈ l, d.t ≤ now) : Bo.outL now l = l.map Du.p ∧ Bo.restL now l = [] := by
  induction l with
  | nil => exact ⟨rfl, rfl⟩
  | cons d l ih =>
    obtain ⟨h1, h2⟩ := ih fun x hx => h x (List.mem_cons_of_mem _ hx)
    have hd := (Bo.out_cons now d l).1 (h d (List.mem_cons_self ..))
    exact ⟨by rw [hd.1, h1]; rfl, by rw [hd.2, h2]⟩
theorem JLate.out {delay jit nw : Int} {nx k : Nat} {s : Bo} (h : JLate delay jit nw nx k s) (now : Int) : (∀ j p, (s.out now).1[j]? = some p → p.n = ((nx + j : Nat) : Int)) ∧ JLate delay jit nw (nx + (s.out now).1.length) k (s.out now).2 := by
  obtain ⟨q, hq, ho, hr⟩ := Bo.out_take now s.l
  have ho2 : (s.out now).1 = (s.l.take q).map Du.p := ho
  have hr2 : (s.out now).2.l = s.l.drop q := hr
  have hl := h.len
  have hlen : (s.out now).1.length = q := by rw [ho2, List.length_map, List.length_take]; omega
  constructor
  · intro j p hp
    rw [ho2, List.getElem?_map] at hp
    cases hx : (s.l.take q)[j]? with
    | none => rw [hx] at hp; cases hp
    | some x =>
      rw [hx] at hp
      have hp := Option.some.inj hp
      subst hp
      refine h.num j x ?_
      have hj : j < q := by
        rcases Nat.lt_or_ge j q with h | h
        · exact h
        · rw [List.getElem?_eq_none (by rw [List.length_take]; omega)] at hx; cases hx
      rwa [List.getElem?_take_of_lt hj] at hx
  · rw [hlen]
    refine ⟨Bo.ok_out h.ok, h.d, h.j, ?_, ?_, h.last, ?_⟩
    · rw [hr2, List.length_drop]; omega
    · intro j x hx
      rw [hr2, List.getElem?_drop] at hx
      rw [h.num (q + j) x hx, Nat.add_assoc]
    · intro x hx
      rw [hr2] at hx
      exact h.due x (List.mem_of_mem_drop hx)
theorem JLate.done {delay jit nw : Int} {nx k : Nat} {s : Bo} (h : JLate delay jit nw nx k s) (hw : nw ≤ 1099511627776) (hd : delay ≤ 1099511627776) (hj : jit ≤ 1099511627776) : (s.out 4398046511104).1.length = s.l.length ∧ (s.out 4398046511104).2.l = [] := by
  obtain ⟨h1, h2⟩ := Bo.out_all 4398046511104 s.l fun d hd => by have := h.due d hd; omega
  exact ⟨by show (Bo.outL _ _).length = _; rw [h1, List.length_map], h2⟩
section
variable (w : World)
set_option maxRecDepth 100000 in
set_option maxHeartbeats 12800000 in
theorem jitterLate_c (delay : Int) (hr0 : (Lit.int .u64 delay).wf = true) (jit : Int) (hr1 : (Lit.int .u64 jit).wf = true) (A : Option Addr) (len cap : Nat) (xs : List ActJ) (hr : rdSlice rdActJ 3 w [.slice A len cap] xs) :
    Calls Try.prog 11 #[.int .u64 delay, .int .u64 jit, .slice A len cap] w fun e w' => e = .returned (.bool true) ∧ Own w w' [old w] := by
  have HH := Lib.hid (Own.init w)
  have hd0 := U_of_wf hr0
  have hj0 := U_of_wf hr1
  clear hr0 hr1
  obtain ⟨hlen, hm, hx⟩ := rdSlice_cases hr
  clear hr
  by_cases hbig : 200 < len ∨ 1099511627776 < delay ∨ 1099511627776 < jit
  · replace hd0 := Lib.hid hd0
    replace hj0 := Lib.hid hj0
    clear hx
    by_cases h1 : 200 < len
    · go_enter Try.func11, Try.ntmps11
      go_wp2_with fail
      refine (alive20_k _).mono ?_
      rintro e w1_ ⟨rfl, hbel⟩
      replace HH := Lib.hid ((by first | exact Kp.same hbel | exact Kp.drew hbel | exact Kp.below hbel : Kp _ w1_) _ _ (by first | exact HH.out | exact HH.out.drewN _ | exact (HH.out.alloc _).tail | exact ((HH.out.alloc _).drewN _).tail | exact ((HH.out.alloc _).alloc _).tail.tail))
      clear hbel
      go_wp2_with fail
      go_ret
      exact ⟨rfl, HH.out⟩
    · by_cases h2 : 1099511627776 < delay
      · go_enter Try.func11, Try.ntmps11
        go_wp2_with fail
        refine (alive20_k _).mono ?_
        rintro e w2_ ⟨rfl, hbel⟩
        replace HH := Lib.hid ((by first | exact Kp.same hbel | exact Kp.drew hbel | exact Kp.below hbel : Kp _ w2_) _ _ (by first | exact HH.out | exact HH.out.drewN _ | exact (HH.out.alloc _).tail | exact ((HH.out.alloc _).drewN _).tail | exact ((HH.out.alloc _).alloc _).tail.tail))
        clear hbel
        go_wp2_with fail
        go_ret
        exact ⟨rfl, HH.out⟩
      · have h3 : 1099511627776 < jit := by omega
        go_enter Try.func11, Try.ntmps11
        go_wp2_with fail
        refine (alive20_k _).mono ?_
        rintro e w3_ ⟨rfl, hbel⟩
        replace HH := Lib.hid ((by first | exact Kp.same hbel | exact Kp.drew hbel | exact Kp.below hbel : Kp _ w3_) _ _ (by first | exact HH.out | exact HH.out.drewN _ | exact (HH.out.alloc _).tail | exact ((HH.out.alloc _).drewN _).tail | exact ((HH.out.alloc _).alloc _).tail.tail))
        clear hbel
        go_wp2_with fail
        go_ret
        exact ⟨rfl, HH.out⟩
  have hb1 : ¬ 200 < len := fun h => hbig (.inl h)
  have hb2 : ¬ 1099511627776 < delay := fun h => hbig (.inr (.inl h))
  have hb3 : ¬ 1099511627776 < jit := fun h => hbig (.inr (.inr h))
  clear hbig
  have hacts : ∀ k, k < len → ∃ ab off tk nw ch, A = some ⟨ab, off, none⟩ ∧ U nw ∧ U ch ∧ w.cell? ⟨ab, off + k * 3 + 1, none⟩ = some (.int .u64 nw) ∧ w.cell? ⟨ab, off + k * 3 + 2, none⟩ = some (.int .u64 ch) ∧ w.cell? ⟨ab, off + k * 3, none⟩ = some (.bool tk) := by
    intro k hk
    rcases hx with hz | ⟨ab, off, rfl, hx⟩
    · omega
    · obtain ⟨c, _, hcell, hR⟩ := hx k (by omega)
      obtain ⟨rfl, h0, h1⟩ := rdActJ_open hR
      exact ⟨ab, off, _, _, _, rfl, h0, h1, hcell 1 _ rfl, hcell 2 _ rfl, hcell 0 _ rfl⟩
  clear hx
  have hda : delay ≤ 1099511627776 := by omega
  have hja : jit ≤ 1099511627776 := by omega
  have hd1 : 0 ≤ delay := hd0.1
  have hj1 : 0 ≤ jit := hj0.1
  replace hacts := Lib.hid hacts
  replace hlen := Lib.hid hlen
  replace hd0 := Lib.hid hd0
  replace hj0 := Lib.hid hj0
  replace hda := Lib.hid hda
  replace hja := Lib.hid hja
  replace hd1 := Lib.hid hd1
  replace hj1 := Lib.hid hj1
  go_enter Try.func11, Try.ntmps11
  go_wp2_with fail
  refine (boxNew_c w _ _ delay jit HH.out).mono ?_
  rintro e w4_ ⟨b1, rfl, H9_⟩
  replace HH := Lib.hid H9_
  clear H9_
  go_wp2_with fail
  go_loopw [8, 9, 10] (fun v y i wr => ∃ (k nx : Nat) (nw : Int) (s : Bo), k ≤ len ∧ i = .int .i64 k ∧ v = .int .u64 nw ∧ y = .int .u64 nx ∧ 0 ≤ nw ∧ nw ≤ 1099511627776 ∧ JLate delay jit nw nx k s ∧ Own w wr (box b1 s :: [old w])) (fun _ _ i _ => len - (intOf i).toNat)
  case atStart => exact ⟨0, 0, 0, Bo.new delay jit, Nat.zero_le _, rfl, rfl, rfl, by decide, by decide, JLate.new hd0.out hj0.out, HH.out⟩
  case round =>
    obtain ⟨k, nx, nw, s, hk, rfl, rfl, rfl, hn0, hn1, hI, HR⟩ := hrel
    replace HH := Lib.hid HR
    clear HR
    by_cases hlt : k < len
    · obtain ⟨ab, off, tk, na, ch, rfl, hnx, hch, c1, c2, c0⟩ := hacts.out k hlt
      have o1 := ((Own.pm (HH.out) (by repeat (first | with_reducible exact Pm.refl _ | with_reducible exact Pm.nil _ | with_reducible refine Pm.here ?_ | with_reducible refine Pm.at2 ?_ | with_reducible refine Pm.at3 ?_ | with_reducible refine Pm.at4 ?_ | with_reducible refine Pm.at5 ?_ | with_reducible refine Pm.at6 ?_ | with_reducible refine Pm.at7 ?_ | with_reducible refine Pm.at8 ?_ | with_reducible refine Pm.skip ?_))) : Own w _ [old w]).old_cell c1
      have o2 := ((Own.pm (HH.out) (by repeat (first | with_reducible exact Pm.refl _ | with_reducible exact Pm.nil _ | with_reducible refine Pm.here ?_ | with_reducible refine Pm.at2 ?_ | with_reducible refine Pm.at3 ?_ | with_reducible refine Pm.at4 ?_ | with_reducible refine Pm.at5 ?_ | with_reducible refine Pm.at6 ?_ | with_reducible refine Pm.at7 ?_ | with_reducible refine Pm.at8 ?_ | with_reducible refine Pm.skip ?_))) : Own w _ [old w]).old_cell c2
      by_cases hnb : 1099511627776 < na
      · replace hnx := Lib.hid hnx
        replace hch := Lib.hid hch
        replace hn0 := Lib.hid hn0
        replace hn1 := Lib.hid hn1
        clear c0
        go_wp2_with fail
        refine (alive20_k _).mono ?_
        rintro e w5_ ⟨rfl, hbel⟩
        replace HH := Lib.hid ((by first | exact Kp.same hbel | exact Kp.drew hbel | exact Kp.below hbel : Kp _ w5_) _ _ (by first | exact HH.out | exact HH.out.drewN _ | exact (HH.out.alloc _).tail | exact ((HH.out.alloc _).drewN _).tail | exact ((HH.out.alloc _).alloc _).tail.tail))
        clear hbel
        go_wp2_with fail
        go_ret
        exact ⟨rfl, (Own.pm (HH.out) (by repeat (first | with_reducible exact Pm.refl _ | with_reducible exact Pm.nil _ | with_reducible refine Pm.here ?_ | with_reducible refine Pm.at2 ?_ | with_reducible refine Pm.at3 ?_ | with_reducible refine Pm.at4 ?_ | with_reducible refine Pm.at5 ?_ | with_reducible refine Pm.at6 ?_ | with_reducible refine Pm.at7 ?_ | with_reducible refine Pm.at8 ?_ | with_reducible refine Pm.skip ?_)))⟩
      have ix := max_ite'
      obtain ⟨m, hmx⟩ : ∃ m : Int, max nw na = m := ⟨_, rfl⟩
      have hm0 : 0 ≤ m := by omega
      have hm1 : m ≤ 1099511627776 := by have := hnx.1; omega
      have hm2 : nw ≤ m := by omega
      have hP := hI.put (c := ch) hm2 hm0 hm1 hch hda.out hja.out
      have hdu := hI.dueIn (c := ch) hm2 hm0 hm1 hch.1 hda.out hja.out
      have hok := hI.ok
      have hln := hI.len
      have hUm : U m := by unfold U; omega
      have hwk : IntKind.u64.wrap (k : Int) = (k : Int) := by rw [IntKind.wrap_u64]; omega
      obtain ⟨s2, hpe⟩ : ∃ q, s.put (Pk.bare k 0) m ch = q := ⟨_, rfl⟩
      rw [hpe] at hP
      have hs2l : s2.l.length ≤ 1000000 := by have := hP.len; omega
      replace hs2l := Lib.hid hs2l
      obtain ⟨t, ht⟩ : ∃ t, s.due m ch = t := ⟨_, rfl⟩
      rw [ht] at hdu
      obtain ⟨ht1, ht2⟩ := hdu
      have hd2 := hd1.out
      have hj2 := hj1.out
      have hda2 := hda.out
      have hja2 := hja.out
      have hw1 : IntKind.u64.wrap (m + delay) = m + delay := by rw [IntKind.wrap_u64]; omega
      have hw2 : IntKind.u64.wrap (t - m) = t - m := by rw [IntKind.wrap_u64]; omega
      have hw3 : IntKind.u64.wrap (t - m - delay) = t - m - delay := by rw [IntKind.wrap_u64]; omega
      have ht3 : ¬ t < m + delay := by omega
      have ht4 : ¬ jit < t - m - delay := by omega
      clear ht1 ht2 hd2 hj2 hda2 hja2
      replace hI := Lib.hid hI
      replace hP := Lib.hid hP
      replace ht := Lib.hid ht
      replace hpe := Lib.hid hpe
      replace hok := Lib.hid hok
      replace hln := Lib.hid hln
      replace hUm := Lib.hid hUm
      replace hch := Lib.hid hch
      replace hnx := Lib.hid hnx
      replace hm0 := Lib.hid hm0
      replace hm1 := Lib.hid hm1
      replace hm2 := Lib.hid hm2
      replace hn0 := Lib.hid hn0
      replace hn1 := Lib.hid hn1
      go_wp2_with fail
      refine (boxPut_c w _ _ b1 s (Pk.bare k 0) m ch hok.out hUm.out hch.out (by have := hln.out; omega) HH.out).mono ?_
      rw [ht.out]
      rw [hpe.out]
      rintro e w6_ ⟨rfl, H9_⟩
      replace HH := Lib.hid H9_
      clear H9_
      clear o1 o2
      have o0 := ((Own.pm (HH.out) (by repeat (first | with_reducible exact Pm.refl _ | with_reducible exact Pm.nil _ | with_reducible refine Pm.here ?_ | with_reducible refine Pm.at2 ?_ | with_reducible refine Pm.at3 ?_ | with_reducible refine Pm.at4 ?_ | with_reducible refine Pm.at5 ?_ | with_reducible refine Pm.at6 ?_ | with_reducible refine Pm.at7 ?_ | with_reducible refine Pm.at8 ?_ | with_reducible refine Pm.skip ?_))) : Own w _ [old w]).old_cell c0
      clear c0 c1 c2
      cases tk
      case' true =>
        obtain ⟨hnum, hP3⟩ := hP.out.out m
        go_wp2_with fail
        refine (boxOut_c w _ 5 _ b1 s2 m hs2l.out HH.out).mono ?_
        rintro e w7_ ⟨v, rfl, H9_⟩
        replace HH := Lib.hid H9_
        clear H9_
        clear o0
        generalize s2.out m = r at hnum hP3 HH
        obtain ⟨xl, s3⟩ := r
        obtain ⟨A1, n1, d1, rfl, _, _, hA1⟩ := HH.out.slcP_val
        have hxl := hA1.1
        simp only at hxl hnum hP3
        rw [hxl] at hP3
        have hP3l := hP3.len
        replace hnum := Lib.hid hnum
        replace hP3 := Lib.hid hP3
        replace hP := Lib.hid True.intro
        clear hA1
        go_wp2_with fail
        go_loopw [9, 13] (fun y i wx => ∃ j : Nat, j ≤ n1 ∧ i = .int .i64 j ∧ y = .int .u64 ((nx + j : Nat) : Int) ∧ Own w wx (slcP (.slice A1 n1 d1) xl :: box b1 s3 :: [old w])) (fun _ i _ => n1 - (intOf i).toNat)
        case atStart => exact ⟨0, Nat.zero_le _, rfl, rfl, HH.out⟩
        case round =>
          obtain ⟨j, hj, rfl, rfl, HR⟩ := hrel
          replace HH := Lib.hid HR
          clear HR
          by_cases hjl : j < n1
          · obtain ⟨_, _, _, e, _, _, hA1⟩ := HH.out.slcP_val
            cases e
            obtain ⟨g, goff, p, rfl, hp, k0, _⟩ := hA1.cells hjl
            have hpn := hnum.out j p hp
            rw [hpn] at k0
            have hwj : IntKind.u64.wrap (((nx + j : Nat) : Int) + 1) = ((nx + j + 1 : Nat) : Int) := by rw [IntKind.wrap_u64]; have := hlen.out; omega
            clear hA1 hp hpn
            go_wp2_with fail
            go_roundw
            case rel => exact ⟨j + 1, by omega, by go_num, rfl, HH.out⟩
            case measure => simp [intOf]; omega
          · have hjn : j = n1 := by omega
            subst hjn
            go_wp2_with fail
            go_roundw
            case rel => exact ⟨k + 1, nx + j, m, s3, by omega, by go_num, rfl, rfl, hm0.out, hm1.out, hP3.out, HH.out.tail⟩
            case measure => simp [intOf]; omega
      case' false =>
        go_wp2_with fail
        go_roundw
        case rel => exact ⟨k + 1, nx, m, s2, by omega, by go_num, rfl, rfl, hm0.out, hm1.out, hP.out, HH.out⟩
        case measure => simp [intOf]; omega
    · have hkl : k = len := by omega
      clear hacts
      subst hkl
      obtain ⟨hdl, hde⟩ := hI.done hn1 hda.out hja.out
      have hln := hI.len
      have hlb := hlen.out
      have hs2l : s.l.length ≤ 1000000 := by omega
      clear hI hn0 hn1
      go_wp2_with fail
      refine (boxOut_c w _ 5 _ b1 s 4398046511104 hs2l HH.out).mono ?_
      rintro e w8_ ⟨v, rfl, H9_⟩
      replace HH := Lib.hid H9_
      clear H9_
      generalize s.out 4398046511104 = r at hdl hde HH
      obtain ⟨xl, s3⟩ := r
      simp only at hdl hde
      obtain ⟨A1, n1, d1, rfl, _, _, hA1⟩ := HH.out.slcP_val
      have hxl := hA1.1
      simp only at hxl
      clear hA1
      have hwn : IntKind.u64.wrap (n1 : Int) = (n1 : Int) := by rw [IntKind.wrap_u64]; omega
      have hwk : IntKind.u64.wrap (k : Int) = (k : Int) := by rw [IntKind.wrap_u64]; omega
      have hws : IntKind.u64.wrap ((nx : Int) + (n1 : Int)) = (k : Int) := by rw [IntKind.wrap_u64]; omega
      clear hdl hln hlb hs2l hxl
      replace hde := Lib.hid hde
      go_wp2_with fail
      refine (boxNext_nil _).mono ?_
      rintro e w9_ ⟨rfl, hbel⟩
      replace HH := Lib.hid ((by first | exact Kp.same hbel | exact Kp.drew hbel | exact Kp.below hbel : Kp _ w9_) _ _ (by first | exact HH.out | exact HH.out.drewN _ | exact (HH.out.alloc _).tail | exact ((HH.out.alloc _).drewN _).tail | exact ((HH.out.alloc _).alloc _).tail.tail))
      clear hbel
      go_wp2_with fail
      refine (alive20_k _).mono ?_
      rintro e w10_ ⟨rfl, hbel⟩
      replace HH := Lib.hid ((by first | exact Kp.same hbel | exact Kp.drew hbel | exact Kp.below hbel : Kp _ w10_) _ _ (by first | exact HH.out | exact HH.out.drewN _ | exact (HH.out.alloc _).tail | exact ((HH.out.alloc _).drewN _).tail | exact ((HH.out.alloc _).alloc _).tail.tail))
      clear hbel
      go_wp2_with fail
      refine (boxLen_c w _ _ b1 s3 HH.out.r2).mono ?_
      rintro e w11_ ⟨rfl, hbel⟩
      replace HH := Lib.hid ((by first | exact Kp.same hbel | exact Kp.drew hbel | exact Kp.below hbel : Kp _ w11_) _ _ (by first | exact HH.out | exact HH.out.drewN _ | exact (HH.out.alloc _).tail | exact ((HH.out.alloc _).drewN _).tail | exact ((HH.out.alloc _).alloc _).tail.tail))
      clear hbel
      rw [hde.out]
      go_wp2_with fail
      refine (boxPut_nil w _ _ Pk.zero 1 1 HH.out).mono ?_
      rintro e w12_ ⟨rfl, H9_⟩
      replace HH := Lib.hid H9_
      clear H9_
      go_wp2_with fail
      refine (boxOut_nil _ 1).mono ?_
      rintro e w13_ ⟨rfl, hbel⟩
      replace HH := Lib.hid ((by first | exact Kp.same hbel | exact Kp.drew hbel | exact Kp.below hbel : Kp _ w13_) _ _ (by first | exact HH.out | exact HH.out.drewN _ | exact (HH.out.alloc _).tail | exact ((HH.out.alloc _).drewN _).tail | exact ((HH.out.alloc _).alloc _).tail.tail))
      clear hbel
      go_wp2_with fail
      refine (boxLen_nil _).mono ?_
      rintro e w14_ ⟨rfl, hbel⟩
      replace HH := Lib.hid ((by first | exact Kp.same hbel | exact Kp.drew hbel | exact Kp.below hbel : Kp _ w14_) _ _ (by first | exact HH.out | exact HH.out.drewN _ | exact (HH.out.alloc _).tail | exact ((HH.out.alloc _).drewN _).tail | exact ((HH.out.alloc _).alloc _).tail.tail))
      clear hbel
      go_wp2_with fail
      refine (boxAll_nil _).mono ?_
      rintro e w15_ ⟨rfl, hbel⟩
      replace HH := Lib.hid ((by first | exact Kp.same hbel | exact Kp.drew hbel | exact Kp.below hbel : Kp _ w15_) _ _ (by first | exact HH.out | exact HH.out.drewN _ | exact (HH.out.alloc _).tail | exact ((HH.out.alloc _).drewN _).tail | exact ((HH.out.alloc _).alloc _).tail.tail))
      clear hbel
      go_wp2_with fail
      go_ret
      exact ⟨rfl, (Own.pm (HH.out) (by repeat (first | with_reducible exact Pm.refl _ | with_reducible exact Pm.nil _ | with_reducible refine Pm.here ?_ | with_reducible refine Pm.at2 ?_ | with_reducible refine Pm.at3 ?_ | with_reducible refine Pm.at4 ?_ | with_reducible refine Pm.at5 ?_ | with_reducible refine Pm.at6 ?_ | with_reducible refine Pm.at7 ?_ | with_reducible refine Pm.at8 ?_ | with_reducible refine Pm.skip ?_)))⟩
end
end Go.Proofs.Ytoimbdbajpjmjaa
