/- jitter: the live question, and JitterNone. -/
import Derived.Test.YtoimbdbajpjmjaaJitter2
import Derived.Test.YtoimbdbajpjmjaaRdU
import Derived.Outline
namespace Go.Proofs.Ytoimbdbajpjmjaa
open Go.RowKit
section
variable (w : World)
set_option maxHeartbeats 3200000 in
theorem alive20_k : Calls Try.prog 26 #[] w fun e w' => e = .returned (.bool true) ∧ Below w.heap.size w w' := by
  have HH := Lib.hid (Own.init w)
  have hs1 : (Bo.mk 100 10 115 [⟨Pk.bare 1 0, 115⟩]).Ok := ⟨by decide, by decide, by decide, by intro d hd; simp only [List.mem_cons, List.not_mem_nil, or_false] at hd; rw [hd]; decide⟩
  have hn1 : (Bo.new 100 10).Ok := Bo.ok_new (by decide) (by decide)
  replace hs1 := Lib.hid hs1
  replace hn1 := Lib.hid hn1
  go_enter Try.func26, Try.ntmps26
  go_wp2_with fail
  refine (boxNew_c w _ _ 100 10 HH.out).mono ?_
  rintro e w1_ ⟨b, rfl, H9_⟩
  replace HH := Lib.hid H9_
  clear H9_
  go_wp2_with fail
  refine (boxPut_c w _ _ b (Bo.new 100 10) (Pk.bare 1 0) 5 50 hn1.out (by decide) (by decide) (by decide) HH.out).mono ?_
  rw [show (Bo.new 100 10).due 5 50 = 115 from by first | rfl | decide]
  rw [show (Bo.new 100 10).put (Pk.bare 1 0) 5 50 = ⟨100, 10, 115, [⟨Pk.bare 1 0, 115⟩]⟩ from by first | rfl | decide]
  rintro e w2_ ⟨rfl, H9_⟩
  replace HH := Lib.hid H9_
  clear H9_
  go_wp2_with fail
  refine (boxPut_c w _ _ b ⟨100, 10, 115, [⟨Pk.bare 1 0, 115⟩]⟩ (Pk.bare 2 0) 7 0 hs1.out (by decide) (by decide) (by decide) HH.out).mono ?_
  rw [show (⟨100, 10, 115, [⟨Pk.bare 1 0, 115⟩]⟩ : Bo).due 7 0 = 115 from by first | rfl | decide]
  rw [show (⟨100, 10, 115, [⟨Pk.bare 1 0, 115⟩]⟩ : Bo).put (Pk.bare 2 0) 7 0 = ⟨100, 10, 115, [⟨Pk.bare 1 0, 115⟩, ⟨Pk.bare 2 0, 115⟩]⟩ from by first | rfl | decide]
  rintro e w3_ ⟨rfl, H9_⟩
  replace HH := Lib.hid H9_
  clear H9_
  go_wp2_with fail
  refine (boxOut_c w _ 5 _ b ⟨100, 10, 115, [⟨Pk.bare 1 0, 115⟩, ⟨Pk.bare 2 0, 115⟩]⟩ 114 (by decide) HH.out).mono ?_
  rw [show (⟨100, 10, 115, [⟨Pk.bare 1 0, 115⟩, ⟨Pk.bare 2 0, 115⟩]⟩ : Bo).out 114 = ([], ⟨100, 10, 115, [⟨Pk.bare 1 0, 115⟩, ⟨Pk.bare 2 0, 115⟩]⟩) from by first | rfl | decide]
  rintro e w4_ ⟨v1, rfl, H9_⟩
  replace HH := Lib.hid H9_
  clear H9_
  obtain ⟨A1, n1, d1, rfl, _, _, hA1⟩ := HH.out.slcP_val
  obtain rfl : n1 = 0 := hA1.1.symm
  clear hA1
  go_wp2_with fail
  refine (boxOut_c w _ 5 _ b ⟨100, 10, 115, [⟨Pk.bare 1 0, 115⟩, ⟨Pk.bare 2 0, 115⟩]⟩ 115 (by decide) HH.out.r2).mono ?_
  rw [show (⟨100, 10, 115, [⟨Pk.bare 1 0, 115⟩, ⟨Pk.bare 2 0, 115⟩]⟩ : Bo).out 115 = ([Pk.bare 1 0, Pk.bare 2 0], ⟨100, 10, 115, []⟩) from by first | rfl | decide]
  rintro e w5_ ⟨v2, rfl, H9_⟩
  replace HH := Lib.hid H9_
  clear H9_
  obtain ⟨A2, n2, d2, rfl, _, _, hA2⟩ := HH.out.slcP_val
  obtain rfl : n2 = 2 := hA2.1.symm
  clear hA2
  go_wp2_with fail
  refine (boxNext_c w _ _ b ⟨100, 10, 115, []⟩ HH.out.r2).mono ?_
  rw [show headD [] = (Du.zero, false) from by first | rfl | decide]
  rintro e w6_ ⟨rfl, H9_⟩
  replace HH := Lib.hid H9_
  clear H9_
  obtain ⟨_, _, _, e, _, _, hA2⟩ := HH.out.r2.slcP_val
  cases e
  obtain ⟨g, off, p, rfl, hp, k0, _⟩ := hA2.cells (i := 1) (by decide)
  obtain rfl : Pk.bare 2 0 = p := by simpa using hp
  clear hA2 hp
  go_wp2_with fail
  refine (boxLen_c w _ _ b ⟨100, 10, 115, []⟩ HH.out).mono ?_
  rintro e w7_ ⟨rfl, hbel⟩
  replace HH := Lib.hid ((by first | exact Kp.same hbel | exact Kp.drew hbel | exact Kp.below hbel : Kp _ w7_) _ _ (by first | exact HH.out | exact HH.out.drewN _ | exact (HH.out.alloc _).tail | exact ((HH.out.alloc _).drewN _).tail | exact ((HH.out.alloc _).alloc _).tail.tail))
  clear hbel
  go_wp2_with fail
  go_ret
  exact ⟨rfl, ((Own.pm (HH.out) (by repeat (first | with_reducible exact Pm.refl _ | with_reducible exact Pm.nil _ | with_reducible refine Pm.here ?_ | with_reducible refine Pm.at2 ?_ | with_reducible refine Pm.at3 ?_ | with_reducible refine Pm.at4 ?_ | with_reducible refine Pm.at5 ?_ | with_reducible refine Pm.at6 ?_ | with_reducible refine Pm.at7 ?_ | with_reducible refine Pm.at8 ?_ | with_reducible refine Pm.skip ?_))) : Own w _ [old w]).old_below⟩
abbrev ActJ := Bool × Int × Int × Unit
def rdActJ : Rd ActJ := rdPair rdBool (rdPair (rdInt .u64) (rdPair (rdInt .u64) rdUnit))
theorem rdActJ_open {w : World} {c : List Value} {x : ActJ} (h : rdActJ w c x) : c = [.bool x.1, .int .u64 x.2.1, .int .u64 x.2.2.1] ∧ U x.2.1 ∧ U x.2.2.1 := by
  obtain ⟨c1, d1, rfl, rfl, c2, d2, rfl, ⟨rfl, h2⟩, c3, d3, rfl, ⟨rfl, h3⟩, rfl⟩ := h
  exact ⟨rfl, U_of_wf h2, U_of_wf h3⟩
theorem Bo.due_none {s : Bo} {now c : Int} (hj : min c s.jit = 0) (hl : s.last ≤ now + s.delay) (h1 : 0 ≤ now) (h2 : now ≤ 1099511627776) (h3 : 0 ≤ s.delay) (h4 : s.delay ≤ 1099511627776) : s.due now c = now + s.delay := by
  unfold Bo.due
  rw [hj]
  have e1 : sadd now s.delay = now + s.delay := by unfold sadd; rw [if_neg (by omega)]
  have e2 : sadd (now + s.delay) 0 = now + s.delay := by unfold sadd; rw [if_neg (by omega)]; omega
  rw [e1, e2]; omega
set_option maxHeartbeats 6400000 in
theorem jitterNone_c (delay : Int) (hr0 : (Lit.int .u64 delay).wf = true) (A : Option Addr) (len cap : Nat) (xs : List ActJ) (hr : rdSlice rdActJ 3 w [.slice A len cap] xs) :
    Calls Try.prog 7 #[.int .u64 delay, .slice A len cap] w fun e w' => e = .returned (.bool true) ∧ Own w w' [old w] := by
  have HH := Lib.hid (Own.init w)
  have hd0 := U_of_wf hr0
  clear hr0
  obtain ⟨hlen, hm, hx⟩ := rdSlice_cases hr
  clear hr
  by_cases hbig : 200 < len
  · replace hd0 := Lib.hid hd0
    go_enter Try.func7, Try.ntmps7
    go_wp2_with fail
    refine (alive20_k _).mono ?_
    rintro e w8_ ⟨rfl, hbel⟩
    replace HH := Lib.hid ((by first | exact Kp.same hbel | exact Kp.drew hbel | exact Kp.below hbel : Kp _ w8_) _ _ (by first | exact HH.out | exact HH.out.drewN _ | exact (HH.out.alloc _).tail | exact ((HH.out.alloc _).drewN _).tail | exact ((HH.out.alloc _).alloc _).tail.tail))
    clear hbel
    go_wp2_with fail
    go_ret
    exact ⟨rfl, HH.out⟩
  by_cases hdb : 1099511627776 < delay
  · replace hd0 := Lib.hid hd0
    go_enter Try.func7, Try.ntmps7
    go_wp2_with fail
    refine (alive20_k _).mono ?_
    rintro e w9_ ⟨rfl, hbel⟩
    replace HH := Lib.hid ((by first | exact Kp.same hbel | exact Kp.drew hbel | exact Kp.below hbel : Kp _ w9_) _ _ (by first | exact HH.out | exact HH.out.drewN _ | exact (HH.out.alloc _).tail | exact ((HH.out.alloc _).drewN _).tail | exact ((HH.out.alloc _).alloc _).tail.tail))
    clear hbel
    go_wp2_with fail
    go_ret
    exact ⟨rfl, HH.out⟩
  have hacts : ∀ k, k < len → ∃ ab off tk nw ch, A = some ⟨ab, off, none⟩ ∧ U nw ∧ U ch ∧ w.cell? ⟨ab, off + k * 3 + 1, none⟩ = some (.int .u64 nw) ∧ w.cell? ⟨ab, off + k * 3 + 2, none⟩ = some (.int .u64 ch) ∧ w.cell? ⟨ab, off + k * 3, none⟩ = some (.bool tk) := by
    intro k hk
    rcases hx with hz | ⟨ab, off, rfl, hx⟩
    · omega
    · obtain ⟨c, _, hcell, hR⟩ := hx k (by omega)
      obtain ⟨rfl, h0, h1⟩ := rdActJ_open hR
      exact ⟨ab, off, _, _, _, rfl, h0, h1, hcell 1 _ rfl, hcell 2 _ rfl, hcell 0 _ rfl⟩
  clear hx
  replace hacts := Lib.hid hacts
  replace hlen := Lib.hid hlen
  have hd1 : 0 ≤ delay := hd0.1
  replace hd0 := Lib.hid hd0
  have hda : delay ≤ 1099511627776 := by omega
  replace hda := Lib.hid hda
  replace hd1 := Lib.hid hd1
  go_enter Try.func7, Try.ntmps7
  go_wp2_with fail
  refine (boxNew_c w _ _ delay 0 HH.out).mono ?_
  rintro e w10_ ⟨b1, rfl, H9_⟩
  replace HH := Lib.hid H9_
  clear H9_
  go_wp2_with fail
  refine (boxNew_c w _ _ delay 1099511627776 HH.out).mono ?_
  rintro e w11_ ⟨b2, rfl, H9_⟩
  replace HH := Lib.hid H9_
  clear H9_
  go_wp2_with fail
  go_loopw [7, 8] (fun v i wr => ∃ (k : Nat) (nw : Int) (sa sb : Bo), k ≤ len ∧ i = .int .i64 k ∧ v = .int .u64 nw ∧ 0 ≤ nw ∧ nw ≤ 1099511627776 ∧ sa.Ok ∧ sb.Ok ∧ sa.l.length = k ∧ sb.l.length = k ∧ sa.delay = delay ∧ sb.delay = delay ∧ sa.jit = 0 ∧ sb.jit = 1099511627776 ∧ sa.last ≤ nw + delay ∧ sb.last ≤ nw + delay ∧ Own w wr (box b1 sa :: box b2 sb :: [old w])) (fun _ i _ => len - (intOf i).toNat)
  case atStart => exact ⟨0, 0, Bo.new delay 0, Bo.new delay 1099511627776, Nat.zero_le _, rfl, rfl, by decide, by decide, Bo.ok_new hd0.out (by decide), Bo.ok_new hd0.out (by decide), rfl, rfl, rfl, rfl, rfl, rfl, by have := hd1.out; show 0 ≤ 0 + delay; omega, by have := hd1.out; show 0 ≤ 0 + delay; omega, (Own.pm (HH.out) (by repeat (first | with_reducible exact Pm.refl _ | with_reducible exact Pm.nil _ | with_reducible refine Pm.here ?_ | with_reducible refine Pm.at2 ?_ | with_reducible refine Pm.at3 ?_ | with_reducible refine Pm.at4 ?_ | with_reducible refine Pm.at5 ?_ | with_reducible refine Pm.at6 ?_ | with_reducible refine Pm.at7 ?_ | with_reducible refine Pm.at8 ?_ | with_reducible refine Pm.skip ?_)))⟩
  case round =>
    obtain ⟨k, nw, sa, sb, hk, rfl, rfl, hn0, hn1, oka, okb, la, lb, da, db, ja, jb, ta, tb, HR⟩ := hrel
    replace HH := Lib.hid HR
    clear HR
    by_cases hlt : k < len
    · obtain ⟨ab, off, tk, nx, ch, rfl, hnx, hch, c1, c2, c0⟩ := hacts.out k hlt
      have o1 := ((Own.pm (HH.out) (by repeat (first | with_reducible exact Pm.refl _ | with_reducible exact Pm.nil _ | with_reducible refine Pm.here ?_ | with_reducible refine Pm.at2 ?_ | with_reducible refine Pm.at3 ?_ | with_reducible refine Pm.at4 ?_ | with_reducible refine Pm.at5 ?_ | with_reducible refine Pm.at6 ?_ | with_reducible refine Pm.at7 ?_ | with_reducible refine Pm.at8 ?_ | with_reducible refine Pm.skip ?_))) : Own w _ [old w]).old_cell c1
      have o2 := ((Own.pm (HH.out) (by repeat (first | with_reducible exact Pm.refl _ | with_reducible exact Pm.nil _ | with_reducible refine Pm.here ?_ | with_reducible refine Pm.at2 ?_ | with_reducible refine Pm.at3 ?_ | with_reducible refine Pm.at4 ?_ | with_reducible refine Pm.at5 ?_ | with_reducible refine Pm.at6 ?_ | with_reducible refine Pm.at7 ?_ | with_reducible refine Pm.at8 ?_ | with_reducible refine Pm.skip ?_))) : Own w _ [old w]).old_cell c2
      replace hch := Lib.hid hch
      clear c0
      by_cases hnb : 1099511627776 < nx
      · replace hnx := Lib.hid hnx
        replace hn0 := Lib.hid hn0
        replace hn1 := Lib.hid hn1
        clear ta tb la lb da db ja jb
        go_wp2_with fail
        refine (alive20_k _).mono ?_
        rintro e w12_ ⟨rfl, hbel⟩
        replace HH := Lib.hid ((by first | exact Kp.same hbel | exact Kp.drew hbel | exact Kp.below hbel : Kp _ w12_) _ _ (by first | exact HH.out | exact HH.out.drewN _ | exact (HH.out.alloc _).tail | exact ((HH.out.alloc _).drewN _).tail | exact ((HH.out.alloc _).alloc _).tail.tail))
        clear hbel
        go_wp2_with fail
        go_ret
        exact ⟨rfl, (Own.pm (HH.out) (by repeat (first | with_reducible exact Pm.refl _ | with_reducible exact Pm.nil _ | with_reducible refine Pm.here ?_ | with_reducible refine Pm.at2 ?_ | with_reducible refine Pm.at3 ?_ | with_reducible refine Pm.at4 ?_ | with_reducible refine Pm.at5 ?_ | with_reducible refine Pm.at6 ?_ | with_reducible refine Pm.at7 ?_ | with_reducible refine Pm.at8 ?_ | with_reducible refine Pm.skip ?_)))⟩
      have ix := max_ite'
      obtain ⟨m, hmx⟩ : ∃ m : Int, max nw nx = m := ⟨_, rfl⟩
      have hm0 : 0 ≤ m := by omega
      have hm1 : m ≤ 1099511627776 := by have := hnx.1; omega
      have hm2 : nw ≤ m := by omega
      have hda2 := hda.out
      have hd2 := hd1.out
      have ea : sa.due m ch = m + delay := by rw [← da]; exact Bo.due_none (by rw [ja]; have := hch.out.1; omega) (by omega) hm0 hm1 (by omega) (by omega)
      have eb : sb.due m 0 = m + delay := by rw [← db]; exact Bo.due_none (by rw [jb]; omega) (by omega) hm0 hm1 (by omega) (by omega)
      have hUm : U m := by unfold U; omega
      have hpa := Bo.ok_put (p := Pk.zero) oka hUm hch.out
      have hpb := Bo.ok_put (p := Pk.zero) okb hUm (by decide : U 0)
      have hwr : IntKind.u64.wrap (m + delay) = m + delay := by rw [IntKind.wrap_u64]; omega
      replace oka := Lib.hid oka
      replace okb := Lib.hid okb
      replace hpa := Lib.hid hpa
      replace hpb := Lib.hid hpb
      replace ea := Lib.hid ea
      replace eb := Lib.hid eb
      replace hUm := Lib.hid hUm
      replace hnx := Lib.hid hnx
      replace hm0 := Lib.hid hm0
      replace hm1 := Lib.hid hm1
      replace hm2 := Lib.hid hm2
      clear hn0 hn1 ta tb hda2 hd2
      replace la := Lib.hid la
      replace lb := Lib.hid lb
      replace da := Lib.hid da
      replace db := Lib.hid db
      replace ja := Lib.hid ja
      replace jb := Lib.hid jb
      go_wp2_with fail
      refine (boxPut_c w _ _ b1 sa Pk.zero m ch oka.out hUm.out hch.out (by have := la.out; omega) HH.out).mono ?_
      rw [ea.out]
      rintro e w13_ ⟨rfl, H9_⟩
      replace HH := Lib.hid H9_
      clear H9_
      go_wp2_with fail
      refine (boxPut_c w _ _ b2 sb Pk.zero m 0 okb.out hUm.out (by decide) (by have := lb.out; omega) HH.out.r2).mono ?_
      rw [eb.out]
      rintro e w14_ ⟨rfl, H9_⟩
      replace HH := Lib.hid H9_
      clear H9_
      go_wp2_with fail
      go_roundw
      case rel =>
        refine ⟨k + 1, m, sa.put Pk.zero m ch, sb.put Pk.zero m 0, by omega, by go_num, rfl, hm0.out, hm1.out, hpa.out, hpb.out, ?_, ?_, da.out, db.out, ja.out, jb.out, ?_, ?_, (Own.pm (HH.out) (by repeat (first | with_reducible exact Pm.refl _ | with_reducible exact Pm.nil _ | with_reducible refine Pm.here ?_ | with_reducible refine Pm.at2 ?_ | with_reducible refine Pm.at3 ?_ | with_reducible refine Pm.at4 ?_ | with_reducible refine Pm.at5 ?_ | with_reducible refine Pm.at6 ?_ | with_reducible refine Pm.at7 ?_ | with_reducible refine Pm.at8 ?_ | with_reducible refine Pm.skip ?_)))⟩
        · show (sa.l ++ _).length = _; rw [List.length_append, la.out]; rfl
        · show (sb.l ++ _).length = _; rw [List.length_append, lb.out]; rfl
        · show sa.due m ch ≤ _; rw [ea.out]; omega
        · show sb.due m 0 ≤ _; rw [eb.out]; omega
      case measure => simp [intOf]; omega
    · have hkl : k = len := by omega
      clear hacts
      replace hn0 := Lib.hid hn0
      replace hn1 := Lib.hid hn1
      go_wp2_with fail
      refine (alive20_k _).mono ?_
      rintro e w15_ ⟨rfl, hbel⟩
      replace HH := Lib.hid ((by first | exact Kp.same hbel | exact Kp.drew hbel | exact Kp.below hbel : Kp _ w15_) _ _ (by first | exact HH.out | exact HH.out.drewN _ | exact (HH.out.alloc _).tail | exact ((HH.out.alloc _).drewN _).tail | exact ((HH.out.alloc _).alloc _).tail.tail))
      clear hbel
      go_wp2_with fail
      refine (boxLen_c w _ _ b1 sa HH.out).mono ?_
      rintro e w16_ ⟨rfl, hbel⟩
      replace HH := Lib.hid ((by first | exact Kp.same hbel | exact Kp.drew hbel | exact Kp.below hbel : Kp _ w16_) _ _ (by first | exact HH.out | exact HH.out.drewN _ | exact (HH.out.alloc _).tail | exact ((HH.out.alloc _).drewN _).tail | exact ((HH.out.alloc _).alloc _).tail.tail))
      clear hbel
      go_wp2_with fail
      refine (boxLen_c w _ _ b2 sb HH.out.r2).mono ?_
      rintro e w17_ ⟨rfl, hbel⟩
      replace HH := Lib.hid ((by first | exact Kp.same hbel | exact Kp.drew hbel | exact Kp.below hbel : Kp _ w17_) _ _ (by first | exact HH.out | exact HH.out.drewN _ | exact (HH.out.alloc _).tail | exact ((HH.out.alloc _).drewN _).tail | exact ((HH.out.alloc _).alloc _).tail.tail))
      clear hbel
      go_wp2_with fail
      go_ret
      exact ⟨rfl, (Own.pm (HH.out) (by repeat (first | with_reducible exact Pm.refl _ | with_reducible exact Pm.nil _ | with_reducible refine Pm.here ?_ | with_reducible refine Pm.at2 ?_ | with_reducible refine Pm.at3 ?_ | with_reducible refine Pm.at4 ?_ | with_reducible refine Pm.at5 ?_ | with_reducible refine Pm.at6 ?_ | with_reducible refine Pm.at7 ?_ | with_reducible refine Pm.at8 ?_ | with_reducible refine Pm.skip ?_)))⟩
end
end Go.Proofs.Ytoimbdbajpjmjaa
