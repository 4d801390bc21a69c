/- meter: MeterAll. -/
import Derived.Test.YtoimbdbajpjmjaaMeter10
import Derived.Test.YtoimbdbajpjmjaaMeter11
namespace Go.Proofs.Ytoimbdbajpjmjaa
open Go.RowKit
theorem mRows_ok {room : Int} (ts : List MTurn) : ∀ (x : MRow) (B : Int), x.In room B → B + ts.length * 1099511627776 ≤ 1152921504606846976 → (∀ t ∈ ts, t.few ∧ t.Ok) → ∀ y ∈ mRows room x ts, y.Ok := by
  induction ts with
  | nil => intro x B _ _ _ y hy; cases hy
  | cons t ts ih =>
    intro x B h hB hf y hy
    have h1 := hf t (by simp)
    have h2 := MRow.in_next h h1.1 h1.2
    simp only [List.length_cons] at hB
    rw [mRows, List.mem_cons] at hy
    rcases hy with rfl | hy
    · exact h2.ok (by omega)
    · exact ih _ _ h2 (by omega) (fun t ht => hf t (by simp [ht])) y hy
theorem mRun_ok {room : Int} (hr : 0 ≤ room) {ts : List MTurn} (hU : ∀ t ∈ ts, t.Ok) : ∀ y ∈ (mRun room ts).1, y.Ok := by
  by_cases hb : mBad room ts
  · rw [mRun_bad hb]; intro y hy; cases hy
  · rw [mRun_good hb]
    unfold mBad at hb
    have hf : ∀ t ∈ ts, t.few := Decidable.not_not.1 (fun h => hb (.inr (.inr h)))
    exact mRows_ok ts MRow.zero 0 (MRow.in_zero hr) (by omega) (fun t ht => ⟨hf t ht, hU t ht⟩)
theorem mTurns_ok (l : List MRow) : ∀ (a : MRow), a.Ok → (∀ b ∈ l, b.Ok) → ∀ t ∈ mTurns a l, t.Ok := by
  induction l with
  | nil => intro a _ _ t ht; cases ht
  | cons b l ih =>
    intro a ha hU t ht
    have hb := hU b (by simp)
    rw [mTurns, List.mem_cons] at ht
    rcases ht with rfl | ht
    · obtain ⟨⟨_, _⟩, ⟨_, _⟩, _, _, ⟨_, _⟩⟩ := ha
      obtain ⟨⟨_, _⟩, ⟨_, _⟩, _, _, ⟨_, _⟩⟩ := hb
      unfold MTurn.Ok U
      simp only [MRow.turn]
      omega
    · exact ih b hb (fun x hx => hU x (by simp [hx])) t ht
theorem MRow.zero_ok : MRow.zero.Ok := ⟨U_zero, U_zero, U_zero, U_zero, U_zero⟩
theorem mRun_errno (room : Int) (ts : List MTurn) : (mRun room ts).2 = 0 ∨ (mRun room ts).2 = 1 := by
  unfold mRun; split <;> simp
section
variable (w : World)
set_option maxHeartbeats 6400000 in
theorem meterAll_c (room : Int) (hr0 : (Lit.int .u64 room).wf = true) (A : Option Addr) (len cap : Nat) (xs : List TurnT) (hr : rdSlice rdTurn 3 w [.slice A len cap] xs) (A' : Option Addr) (len' cap' : Nat) (xs' : List RowT) (hr' : rdSlice rdRow22 5 w [.slice A' len' cap'] xs') :
    Calls Try.prog 6 #[.int .u64 room, .slice A len cap, .slice A' len' cap'] w fun e w' => e = .returned (.bool true) ∧ Own w w' [old w] := by
  have HH := Lib.hid (Own.init w)
  have hroom := U_of_wf hr0
  have hr1 := hroom.1
  replace hroom := Lib.hid hroom
  clear hr0
  obtain ⟨hA, hm⟩ := itAt_rd turnOf (fun _ _ h => (rdTurn_open h).1) hr
  have hok := turns_ok hr
  obtain ⟨hA', hm'⟩ := itAt_rd rowOf (fun _ _ h => (rdRow22_open h).1) hr'
  have hok' := rows_ok hr'
  clear hr hr'
  generalize xs.map turnOf = ts at hA hok
  generalize xs'.map rowOf = rs at hA' hok'
  by_cases hbig : 200 < len
  · clear hA hok hA' hok'
    go_enter Try.func6, Try.ntmps6
    go_wp2_with fail
    refine (alive22_k _).mono ?_
    rintro e w1_ ⟨rfl, hbel⟩
    replace HH := Lib.hid ((by first | exact Kp.same hbel | exact Kp.drew hbel | exact Kp.below hbel : Kp _ w1_) _ _ (by first | exact HH.out | exact HH.out.drewN _ | exact (HH.out.alloc _).tail | exact ((HH.out.alloc _).drewN _).tail | exact ((HH.out.alloc _).alloc _).tail.tail))
    clear hbel
    go_wp2_with fail
    go_ret
    exact ⟨rfl, HH.out⟩
  by_cases hbig' : 200 < len'
  · clear hA hok hA' hok'
    go_enter Try.func6, Try.ntmps6
    go_wp2_with fail
    refine (alive22_k _).mono ?_
    rintro e w2_ ⟨rfl, hbel⟩
    replace HH := Lib.hid ((by first | exact Kp.same hbel | exact Kp.drew hbel | exact Kp.below hbel : Kp _ w2_) _ _ (by first | exact HH.out | exact HH.out.drewN _ | exact (HH.out.alloc _).tail | exact ((HH.out.alloc _).drewN _).tail | exact ((HH.out.alloc _).alloc _).tail.tail))
    clear hbel
    go_wp2_with fail
    go_ret
    exact ⟨rfl, HH.out⟩
  have hlen := hA.1
  have hlen' := hA'.1
  obtain ⟨⟨rw1, er⟩, hres⟩ : ∃ r, mRun room ts = r := ⟨_, rfl⟩
  have hro := mRun_ok hr1 hok
  rw [hres] at hro
  have her := mRun_errno room ts
  rw [hres] at her
  have hfine : er = 0 → mChecked room rw1 = (0, 0) ∧ rw1.length = len := fun h => by
    have := mChecked_run hr1 hok (by rw [hres]; exact h)
    rw [hres, hlen] at this
    exact this
  obtain ⟨⟨ci, cc⟩, hck⟩ : ∃ r, mChecked room rs = r := ⟨_, rfl⟩
  obtain ⟨tt, htt⟩ : ∃ tt, mTurns MRow.zero rs = tt := ⟨_, rfl⟩
  have htl : tt.length = len' := by rw [← htt, mTurns_len, hlen']
  have hto : ∀ t ∈ tt, t.Ok := by rw [← htt]; exact mTurns_ok rs MRow.zero MRow.zero_ok hok'
  have hback : cc = 0 → mRun room tt = (rs, 0) := fun h => by rw [← htt]; exact mRun_turns hr1 hok' (by rw [hck, h])
  simp only at hro her
  clear hr1
  replace hA := Lib.hid hA
  replace hok := Lib.hid hok
  replace hA' := Lib.hid hA'
  replace hok' := Lib.hid hok'
  replace hres := Lib.hid hres
  replace hro := Lib.hid hro
  replace hfine := Lib.hid hfine
  replace hck := Lib.hid hck
  replace htt := Lib.hid htt
  replace hto := Lib.hid hto
  replace hback := Lib.hid hback
  replace her := Lib.hid her
  go_enter Try.func6, Try.ntmps6
  go_wp2_with fail
  refine (mRun_c w _ _ room hroom.out A len cap ts hok.out (fun wx Hx => hA.out.old Hx) hm HH.out).mono ?_
  rw [hres.out]
  rintro e w3_ ⟨v, rfl, H9_⟩
  replace HH := Lib.hid H9_
  clear H9_
  obtain ⟨A1, n1, c1, rfl, hnc1, hcm1, hit1⟩ := HH.out.slc_it MRow.len (by decide)
  have hn1 : rw1.length = n1 := hit1.1
  clear hit1
  rcases her.out with rfl | rfl
  case' inl =>
    obtain ⟨hf1, hf2⟩ := hfine.out rfl
    obtain rfl : n1 = len := by omega
    clear hf2 hn1
    replace hf1 := Lib.hid hf1
    clear hfine
    go_wp2_with fail
    refine (mCheck_c w _ _ room A1 n1 c1 rw1 hro.out (fun wx Hx => slc_rd MRow.len (by decide) Hx) (by omega) HH.out).mono ?_
    rw [hf1.out]
    rintro e w4_ ⟨rfl, H9_⟩
    replace HH := Lib.hid H9_
    clear H9_
    replace HH := Lib.hid HH.out.tail
  case' inr =>
    clear hfine
    replace HH := Lib.hid HH.out.tail
  all_goals
    go_wp2_with fail
    refine (mCheck_c w _ _ room A' len' cap' rs hok'.out (fun wx Hx => hA'.out.old Hx) hm' HH.out).mono ?_
    rw [hck.out]
    rintro e w5_ ⟨rfl, H9_⟩
    replace HH := Lib.hid H9_
    clear H9_
    by_cases hcc : cc = 0
    · subst hcc
      have hb := hback.out rfl
      replace hb := Lib.hid hb
      clear hback
      go_wp2_with fail
      refine (mTurns_c w _ _ A' len' cap' rs hok'.out (fun wx Hx => hA'.out.old Hx) (by omega) HH.out).mono ?_
      rw [htt.out]
      rintro e w6_ ⟨v2, rfl, H9_⟩
      replace HH := Lib.hid H9_
      clear H9_
      obtain ⟨A2, n2, c2, rfl, _, hcm2, hit2⟩ := HH.out.slc_it MTurn.len (by decide)
      obtain rfl : n2 = len' := by rw [← hit2.1, htl]
      clear hit2
      go_wp2_with fail
      refine (mRun_c w _ _ room hroom.out A2 n2 c2 tt hto.out (fun wx Hx => slc_rd MTurn.len (by decide) Hx) (by omega) HH.out).mono ?_
      rw [hb.out]
      rintro e w7_ ⟨v3, rfl, H9_⟩
      replace HH := Lib.hid H9_
      clear H9_
      obtain ⟨A3, n3, c3, rfl, _, hcm3, hit3⟩ := HH.out.slc_it MRow.len (by decide)
      obtain rfl : n3 = n2 := by rw [← hit3.1, hlen']
      clear hit3
      go_wp2_with fail
      refine (rows22_c w _ _ A3 n3 c3 rs (fun wx Hx => slc_rd MRow.len (by decide) Hx) (by omega) HH.out).mono ?_
      rintro e w8_ ⟨v4, rfl, H9_⟩
      replace HH := Lib.hid H9_
      clear H9_
      obtain ⟨A4, n4, c4, rfl, _, hcm4, hit4⟩ := HH.out.slc_it MRow.len (by decide)
      obtain rfl : n4 = n3 := by rw [← hit4.1, hlen']
      clear hit4
      go_wp2_with fail
      refine (rows22_c w _ _ A' n4 cap' rs (fun wx Hx => hA'.out.old Hx.r4) (by omega) HH.out).mono ?_
      rintro e w9_ ⟨v5, rfl, H9_⟩
      replace HH := Lib.hid H9_
      clear H9_
      obtain ⟨A5, n5, c5, rfl, _, hcm5, hit5⟩ := HH.out.slc_it MRow.len (by decide)
      obtain rfl : n5 = n4 := by rw [← hit5.1, hlen']
      have hit4 := slc_rd MRow.len (by decide) HH.out.r2
      replace hit5 := Lib.hid hit5
      replace hit4 := Lib.hid hit4
      go_wp2_with fail
      refine (same22_c _ A4 A5 n5 n5 c4 c5 rs rs hit4.out hit5.out (by omega)).mono ?_
      rw [show decide (rs = rs) = true from decide_eq_true rfl]
      rintro e w9 ⟨rfl, nd, hnd⟩
      replace HH := Lib.hid (HH.out.drewN nd)
      rw [← hnd] at HH
      clear hnd hit5 hit4
      go_wp2_with fail
      refine (alive22_k _).mono ?_
      rintro e w10_ ⟨rfl, hbel⟩
      replace HH := Lib.hid ((by first | exact Kp.same hbel | exact Kp.drew hbel | exact Kp.below hbel : Kp _ w10_) _ _ (by first | exact HH.out | exact HH.out.drewN _ | exact (HH.out.alloc _).tail | exact ((HH.out.alloc _).drewN _).tail | exact ((HH.out.alloc _).alloc _).tail.tail))
      clear hbel
      go_wp2_with fail
      go_ret
      exact ⟨rfl, (Own.pm (HH.out) (by repeat (first | with_reducible exact Pm.refl _ | with_reducible exact Pm.nil _ | with_reducible refine Pm.here ?_ | with_reducible refine Pm.at2 ?_ | with_reducible refine Pm.at3 ?_ | with_reducible refine Pm.at4 ?_ | with_reducible refine Pm.at5 ?_ | with_reducible refine Pm.at6 ?_ | with_reducible refine Pm.at7 ?_ | with_reducible refine Pm.at8 ?_ | with_reducible refine Pm.skip ?_)))⟩
    · have hzb : (cc == 0) = false := by simpa using hcc
      have hzn : (cc != 0) = true := by simpa using hcc
      clear hback
      go_wp2_with fail
      refine (alive22_k _).mono ?_
      rintro e w11_ ⟨rfl, hbel⟩
      replace HH := Lib.hid ((by first | exact Kp.same hbel | exact Kp.drew hbel | exact Kp.below hbel : Kp _ w11_) _ _ (by first | exact HH.out | exact HH.out.drewN _ | exact (HH.out.alloc _).tail | exact ((HH.out.alloc _).drewN _).tail | exact ((HH.out.alloc _).alloc _).tail.tail))
      clear hbel
      go_wp2_with fail
      go_ret
      exact ⟨rfl, HH.out⟩
end
end Go.Proofs.Ytoimbdbajpjmjaa
