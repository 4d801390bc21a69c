/- meter: MeterChecks. -/
import Derived.Test.YtoimbdbajpjmjaaMeter9
namespace Go.Proofs.Ytoimbdbajpjmjaa
open Go.RowKit
theorem mTurns_len (a : MRow) (l : List MRow) : (mTurns a l).length = l.length := by
  induction l generalizing a with
  | nil => rfl
  | cons b l ih => simp [mTurns, ih]
section
variable (w : World)
set_option maxHeartbeats 6400000 in
theorem meterChecks_c (room : Int) (_hr0 : (Lit.int .u64 room).wf = true) (A : Option Addr) (len cap : Nat) (xs : List RowT) (hr : rdSlice rdRow22 5 w [.slice A len cap] xs) :
    Calls Try.prog 5 #[.int .u64 room, .slice A len cap] w fun e w' => e = .returned (.bool true) ∧ Own w w' [old w] := by
  have HH := Lib.hid (Own.init w)
  obtain ⟨hA, hm⟩ := itAt_rd rowOf (fun _ _ h => (rdRow22_open h).1) hr
  have hok := rows_ok hr
  clear hr
  generalize xs.map rowOf = ts at hA hok
  by_cases hbig : 200 < len
  · clear hA hok
    go_enter Try.func5, Try.ntmps5
    go_wp2_with fail
    refine (alive22_k _).mono ?_
    rintro e w1_ ⟨rfl, hbel⟩
    replace HH := Lib.hid ((by first | exact Kp.same hbel | exact Kp.drew hbel | exact Kp.below hbel : Kp _ w1_) _ _ (by first | exact HH.out | exact HH.out.drewN _ | exact (HH.out.alloc _).tail | exact ((HH.out.alloc _).drewN _).tail | exact ((HH.out.alloc _).alloc _).tail.tail))
    clear hbel
    go_wp2_with fail
    go_ret
    exact ⟨rfl, HH.out⟩
  have hlen := hA.1
  replace hA := Lib.hid hA
  replace hok := Lib.hid hok
  obtain ⟨⟨ci, cc⟩, hck⟩ : ∃ r, mChecked room ts = r := ⟨_, rfl⟩
  obtain ⟨tt, htt⟩ : ∃ tt, mTurns MRow.zero ts = tt := ⟨_, rfl⟩
  have htl : tt.length = len := by rw [← htt, mTurns_len, hlen]
  replace hck := Lib.hid hck
  replace htt := Lib.hid htt
  go_enter Try.func5, Try.ntmps5
  go_wp2_with fail
  refine (mCheck_c w _ _ room A len cap ts hok.out (fun wx Hx => hA.out.old Hx) hm HH.out).mono ?_
  rw [hck.out]
  rintro e w2_ ⟨rfl, H9_⟩
  replace HH := Lib.hid H9_
  clear H9_
  go_wp2_with fail
  refine (rows22_c w _ _ A len cap ts (fun wx Hx => hA.out.old Hx) (by omega) HH.out).mono ?_
  rintro e w3_ ⟨v, rfl, H9_⟩
  replace HH := Lib.hid H9_
  clear H9_
  obtain ⟨A1, n1, c1, rfl, _, hcm1, hit1⟩ := HH.out.slc_it MRow.len (by decide)
  obtain rfl : n1 = len := by rw [← hit1.1, hlen]
  clear hit1
  go_wp2_with fail
  refine (rCheck_c w _ _ room A1 n1 c1 ts hok.out (fun wx Hx => slc_rd MRow.len (by decide) Hx) hm HH.out).mono ?_
  rw [hck.out]
  rintro e w4_ ⟨rfl, H9_⟩
  replace HH := Lib.hid H9_
  clear H9_
  replace HH := Lib.hid HH.out.tail
  go_wp2_with fail
  refine (mTurns_c w _ _ A n1 cap ts hok.out (fun wx Hx => hA.out.old Hx) (by omega) HH.out).mono ?_
  rw [htt.out]
  rintro e w5_ ⟨v2, rfl, H9_⟩
  replace HH := Lib.hid H9_
  clear H9_
  obtain ⟨A2, n2, c2, rfl, _, hcm2, hit2⟩ := HH.out.slc_it MTurn.len (by decide)
  obtain rfl : n2 = n1 := by rw [← hit2.1, htl]
  clear hit2
  go_wp2_with fail
  refine (turns22_c w _ _ A2 n2 c2 tt (fun wx Hx => slc_rd MTurn.len (by decide) Hx) (by omega) HH.out).mono ?_
  rintro e w6_ ⟨v3, rfl, H9_⟩
  replace HH := Lib.hid H9_
  clear H9_
  obtain ⟨A3, n3, c3, rfl, _, hcm3, hit3⟩ := HH.out.slc_it MTurn.len (by decide)
  obtain rfl : n3 = n2 := by rw [← hit3.1, htl]
  clear hit3
  replace HH := Lib.hid HH.out.r2.tail
  go_wp2_with fail
  refine (rows22_c w _ _ A n3 cap ts (fun wx Hx => hA.out.old Hx.r2) (by omega) HH.out).mono ?_
  rintro e w7_ ⟨v4, rfl, H9_⟩
  replace HH := Lib.hid H9_
  clear H9_
  obtain ⟨A4, n4, c4, rfl, _, hcm4, hit4⟩ := HH.out.slc_it MRow.len (by decide)
  obtain rfl : n4 = n3 := by rw [← hit4.1, hlen]
  clear hit4
  go_wp2_with fail
  refine (rTurns_c w _ _ A4 n4 c4 ts hok.out (fun wx Hx => slc_rd MRow.len (by decide) Hx) (by omega) HH.out).mono ?_
  rw [htt.out]
  rintro e w8_ ⟨v5, rfl, H9_⟩
  replace HH := Lib.hid H9_
  clear H9_
  obtain ⟨A5, n5, c5, rfl, _, hcm5, hit5⟩ := HH.out.slc_it MTurn.len (by decide)
  obtain rfl : n5 = n4 := by rw [← hit5.1, htl]
  clear hit5
  replace HH := Lib.hid ((Own.pm (HH.out) (by repeat (first | with_reducible exact Pm.refl _ | with_reducible exact Pm.nil _ | with_reducible refine Pm.here ?_ | with_reducible refine Pm.at2 ?_ | with_reducible refine Pm.at3 ?_ | with_reducible refine Pm.at4 ?_ | with_reducible refine Pm.at5 ?_ | with_reducible refine Pm.at6 ?_ | with_reducible refine Pm.at7 ?_ | with_reducible refine Pm.at8 ?_ | with_reducible refine Pm.skip ?_))) : Own w _ [slc 50 3 (.slice A5 n5 c5) (encs MTurn.cells tt), slc 50 3 (.slice A3 n5 c3) (encs MTurn.cells tt), old w])
  go_wp2_with fail
  go_loopw [11] (fun i wr => ∃ k : Nat, k ≤ n5 ∧ i = .int .i64 k ∧ Own w wr [slc 50 3 (.slice A5 n5 c5) (encs MTurn.cells tt), slc 50 3 (.slice A3 n5 c3) (encs MTurn.cells tt), old w]) (fun i _ => n5 - (intOf i).toNat)
  case atStart => exact ⟨0, Nat.zero_le _, rfl, HH.out⟩
  case round =>
    obtain ⟨k, hk, rfl, HR⟩ := hrel
    replace HH := Lib.hid HR
    clear HR
    by_cases hlt : k < n5
    · obtain ⟨g, off, t, rfl, ht, hc⟩ := (slc_rd MTurn.len (by decide) HH.out).get hlt
      obtain ⟨g', off', t', rfl, ht', hd⟩ := (slc_rd MTurn.len (by decide) HH.out.r2).get hlt
      rw [ht] at ht'
      cases ht'
      obtain ⟨t1, t2, t3⟩ := t
      have k0 := hc 0 _ rfl
      have k1 := hc 1 _ rfl
      have k2 := hc 2 _ rfl
      have m0 := hd 0 _ rfl
      have m1 := hd 1 _ rfl
      have m2 := hd 2 _ rfl
      rw [Nat.add_zero] at k0 m0
      have hb : MTurn.beq ⟨t1, t2, t3⟩ ⟨t1, t2, t3⟩ = true := MTurn.beq_true rfl
      clear hc hd ht
      go_wp2_with fail
      go_quiet (fail)
      replace HH := Lib.hid (HH.out.drewN nq)
      clear k0 k1 k2 m0 m1 m2 hb
      go_wp2_with fail
      go_roundw
      case rel => exact ⟨k + 1, by omega, by go_num, HH.out⟩
      case measure => simp [intOf]; omega
    · have hkn : k = n5 := by omega
      subst hkn
      replace HH := Lib.hid ((Own.pm (HH.out) (by repeat (first | with_reducible exact Pm.refl _ | with_reducible exact Pm.nil _ | with_reducible refine Pm.here ?_ | with_reducible refine Pm.at2 ?_ | with_reducible refine Pm.at3 ?_ | with_reducible refine Pm.at4 ?_ | with_reducible refine Pm.at5 ?_ | with_reducible refine Pm.at6 ?_ | with_reducible refine Pm.at7 ?_ | with_reducible refine Pm.at8 ?_ | with_reducible refine Pm.skip ?_))) : Own w wr [old w])
      go_wp2_with fail
      refine (alive22_k _).mono ?_
      rintro e w9_ ⟨rfl, hbel⟩
      replace HH := Lib.hid ((by first | exact Kp.same hbel | exact Kp.drew hbel | exact Kp.below hbel : Kp _ w9_) _ _ (by first | exact HH.out | exact HH.out.drewN _ | exact (HH.out.alloc _).tail | exact ((HH.out.alloc _).drewN _).tail | exact ((HH.out.alloc _).alloc _).tail.tail))
      clear hbel
      go_wp2_with fail
      go_ret
      exact ⟨rfl, HH.out⟩
end
end Go.Proofs.Ytoimbdbajpjmjaa
