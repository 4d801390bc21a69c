/- meter: the live question, MeterRuns, MeterChecks. -/
import Derived.Test.YtoimbdbajpjmjaaMeter8
namespace Go.Proofs.Ytoimbdbajpjmjaa
open Go.RowKit
theorem run_eqI_row (a0 a1 a2 a3 a4 b0 b1 b2 b3 b4 : Int) (w : World) : (Op.equalIn 10000 41 (.agg #[.int .u64 a0, .int .u64 a1, .int .u64 a2, .int .u64 a3, .int .u64 a4]) (.agg #[.int .u64 b0, .int .u64 b1, .int .u64 b2, .int .u64 b3, .int .u64 b4])).run Try.prog w = .ok (MRow.beq ⟨a0, a1, a2, a3, a4⟩ ⟨b0, b1, b2, b3, b4⟩) w := by
  unfold MRow.beq
  have u1 := Try.underlying41
  have u3 := Try.underlying22
  have s3 := Try.isAgg22
  rw [show (10000 : Nat) = 9999 + 1 from rfl, run_equalIn_agg _ _ _ _ _ (by kernel_rfl) (by kernel_rfl)]
  simp only [Program.fieldsOf, u1]
  go_simp
  (repeat' split) <;> simp_all
@[go_sem ↓] theorem run_eql_row (a0 a1 a2 a3 a4 b0 b1 b2 b3 b4 : Int) (w : World) : (binOp .eql 41 (.agg #[.int .u64 a0, .int .u64 a1, .int .u64 a2, .int .u64 a3, .int .u64 a4]) (.agg #[.int .u64 b0, .int .u64 b1, .int .u64 b2, .int .u64 b3, .int .u64 b4])).run Try.prog w = .ok (.bool (MRow.beq ⟨a0, a1, a2, a3, a4⟩ ⟨b0, b1, b2, b3, b4⟩)) w := by
  rw [run_eql_struct, run_eqI_row]; rfl
def MTurn.beq (p q : MTurn) : Bool := decide (p = q)
theorem MTurn.beq_true {p q : MTurn} (h : p = q) : p.beq q = true := decide_eq_true h
theorem run_eqI_turn22 (a0 a1 a2 b0 b1 b2 : Int) (w : World) : (Op.equalIn 10000 50 (.agg #[.int .u64 a0, .int .u64 a1, .int .u64 a2]) (.agg #[.int .u64 b0, .int .u64 b1, .int .u64 b2])).run Try.prog w = .ok (MTurn.beq ⟨a0, a1, a2⟩ ⟨b0, b1, b2⟩) w := by
  unfold MTurn.beq
  have u1 := Try.underlying50
  have u3 := Try.underlying22
  have s3 := Try.isAgg22
  rw [show (10000 : Nat) = 9999 + 1 from rfl, run_equalIn_agg _ _ _ _ _ (by kernel_rfl) (by kernel_rfl)]
  simp only [Program.fieldsOf, u1]
  go_simp
  (repeat' split) <;> simp_all
@[go_sem ↓] theorem run_neq_turn22 (a0 a1 a2 b0 b1 b2 : Int) (w : World) : (binOp .neq 50 (.agg #[.int .u64 a0, .int .u64 a1, .int .u64 a2]) (.agg #[.int .u64 b0, .int .u64 b1, .int .u64 b2])).run Try.prog w = .ok (.bool (!MTurn.beq ⟨a0, a1, a2⟩ ⟨b0, b1, b2⟩)) w := by
  rw [run_neq_struct, run_eqI_turn22]; rfl
/-- The items of a slice that is owned, to be read. -/
theorem slc_rd {α : Type} {enc : α → List Value} {sz : Nat} {T : TypeId} {A : Option Addr} {n cap : Nat} {l : List α} (he : ∀ x, (enc x).length = sz) (hz : 0 < sz) {ε wx : World} {R : List Asn} (H : Own ε wx (slc T sz (.slice A n cap) (encs enc l) :: R)) : itAt enc sz wx A n l := by
  obtain ⟨_, _, _, e, _, _, h⟩ := H.slc_it he hz
  cases e
  exact h
section
variable (w : World)
set_option maxHeartbeats 3200000 in
theorem alive22_k : Calls Try.prog 16 #[] w fun e w' => e = .returned (.bool true) ∧ Below w.heap.size w w' := by
  have HH := Lib.hid (Own.init w)
  go_enter Try.func16, Try.ntmps16
  go_wp2_with (with_reducible refine stop_bs ?_)
  refine Stop.go ?_
  refine wpList_bsv_own HH.out [.int .u64 4, .int .u64 13, .int .u64 0, .int .u64 9, .int .u64 1, .int .u64 9] 3 24 [.int .u64 0, .int .u64 0, .int .u64 0] Try.underlying23 (by kernel_rfl) (by kernel_rfl) (by decide) (by decide) (by kernel_rfl) ?_
  intro g0 w1_ H9_
  replace HH := Lib.hid H9_
  clear H9_
  replace HH := Lib.hid (HH.out.slc_all (sz := 3) (n := 2) (by decide) rfl)
  have hrun : mRun 10 [⟨4, 13, 0⟩, ⟨9, 1, 9⟩] = ([⟨4, 13, 3, 4, 0⟩, ⟨13, 14, 3, 11, 2⟩], 0) := by rw [mRun_good (by decide)]; rfl
  go_wp2_with fail
  refine (mRun_c w _ _ 10 (by decide) _ 2 2 [⟨4, 13, 0⟩, ⟨9, 1, 9⟩] (by intro t ht; simp only [List.mem_cons, List.not_mem_nil, or_false] at ht; rcases ht with rfl | rfl <;> exact ⟨by decide, by decide, by decide⟩) (fun wx Hx => slc_rd (l := [⟨4, 13, 0⟩, ⟨9, 1, 9⟩]) MTurn.len (by decide) Hx) (by decide) HH.out).mono ?_
  rw [hrun]
  rintro e w2_ ⟨v, rfl, H9_⟩
  replace HH := Lib.hid H9_
  clear H9_
  clear hrun
  rcases HH.out.slc_val with ⟨rfl, e⟩ | ⟨g, n, cap, rfl, hn, hcap, hl, hc, hf⟩
  · cases e
  obtain rfl : n = 2 := by simp only [encs, MRow.cells, List.map_cons, List.map_nil, List.flatten_cons, List.flatten_nil, List.length_append, List.length_cons, List.length_nil] at hl; omega
  clear hl
  have hc1 : mChecked 10 [⟨4, 13, 3, 4, 0⟩, ⟨13, 14, 3, 11, 2⟩] = (0, 0) := by decide
  have hc2 : mChecked 10 [⟨4, 13, 3, 4, 0⟩, ⟨13, 14, 3, 11, 3⟩] = (1, 4) := by decide
  replace hc1 := Lib.hid hc1
  replace hc2 := Lib.hid hc2
  clear hc hf
  go_wp2_with fail
  refine (mCheck_c w _ _ 10 _ 2 cap [⟨4, 13, 3, 4, 0⟩, ⟨13, 14, 3, 11, 2⟩] (by intro t ht; simp only [List.mem_cons, List.not_mem_nil, or_false] at ht; rcases ht with rfl | rfl <;> exact ⟨by decide, by decide, by decide, by decide, by decide⟩) (fun wx Hx => slc_rd (l := [⟨4, 13, 3, 4, 0⟩, ⟨13, 14, 3, 11, 2⟩]) MRow.len (by decide) Hx) (by decide) HH.out).mono ?_
  rw [hc1.out]
  rintro e w7 ⟨rfl, H7⟩
  replace HH := Lib.hid H7
  clear H7
  rcases HH.out.slc_val with ⟨e, _⟩ | ⟨g', n', cap', e, _, _, _, hc, hf⟩
  · cases e
  cases e
  have k0 := hc 0 _ rfl
  have k1 := hc 1 _ rfl
  have k2 := hc 2 _ rfl
  have k3 := hc 3 _ rfl
  have k4 := hc 4 _ rfl
  have k5 := hc 5 _ rfl
  have k6 := hc 6 _ rfl
  have k7 := hc 7 _ rfl
  have k8 := hc 8 _ rfl
  have k9 := hc 9 _ rfl
  have f9 := hf 9
  clear hc hf
  have b1 : MRow.beq ⟨4, 13, 3, 4, 0⟩ ⟨4, 13, 3, 4, 0⟩ = true := MRow.beq_true rfl
  have b2 : MRow.beq ⟨13, 14, 3, 11, 2⟩ ⟨13, 14, 3, 11, 2⟩ = true := MRow.beq_true rfl
  go_wp2_with (with_reducible refine stop_st ?_)
  refine Stop.go ?_
  go_step
  go_simp
  have H8 := Lib.hid (HH.out.slc_set 9 (.int .u64 3))
  generalize w7.setCell ⟨g, 9, none⟩ (.int .u64 3) = w8 at *
  replace HH := Lib.hid (show Own w w8 (slc 41 5 (.slice (some ⟨g, 0, none⟩) 2 cap) (encs MRow.cells [⟨4, 13, 3, 4, 0⟩, ⟨13, 14, 3, 11, 3⟩]) :: _) from H8.out)
  clear H8 k0 k1 k2 k3 k4 k5 k6 k7 k8 k9 f9 b1 b2
  go_wp2_with fail
  refine (mCheck_c w _ _ 10 _ 2 cap [⟨4, 13, 3, 4, 0⟩, ⟨13, 14, 3, 11, 3⟩] (by intro t ht; simp only [List.mem_cons, List.not_mem_nil, or_false] at ht; rcases ht with rfl | rfl <;> exact ⟨by decide, by decide, by decide, by decide, by decide⟩) (fun wx Hx => slc_rd (l := [⟨4, 13, 3, 4, 0⟩, ⟨13, 14, 3, 11, 3⟩]) MRow.len (by decide) Hx) (by decide) HH.out).mono ?_
  rw [hc2.out]
  rintro e w3_ ⟨rfl, H9_⟩
  replace HH := Lib.hid H9_
  clear H9_
  go_wp2_with fail
  go_ret
  exact ⟨rfl, HH.out.tail.tail.old_below⟩
abbrev TurnT := Int × Int × Int × Unit
def rdTurn : Rd TurnT := rdPair (rdInt .u64) (rdPair (rdInt .u64) (rdPair (rdInt .u64) rdUnit))
def turnOf (x : TurnT) : MTurn := ⟨x.1, x.2.1, x.2.2.1⟩
theorem rdTurn_open {w : World} {c : List Value} {x : TurnT} (h : rdTurn w c x) : c = (turnOf x).cells ∧ (turnOf x).Ok := by
  obtain ⟨c1, d1, rfl, ⟨rfl, h1⟩, c2, d2, rfl, ⟨rfl, h2⟩, c3, d3, rfl, ⟨rfl, h3⟩, rfl⟩ := h
  exact ⟨rfl, U_of_wf h1, U_of_wf h2, U_of_wf h3⟩
theorem turns_ok {w : World} {A : Option Addr} {len cap : Nat} {xs : List TurnT} (hr : rdSlice rdTurn 3 w [.slice A len cap] xs) : ∀ t ∈ xs.map turnOf, t.Ok := by
  obtain ⟨hl, hm, hx⟩ := rdSlice_cases hr
  intro t ht
  obtain ⟨i, hi, rfl⟩ := List.getElem_of_mem ht
  have hi' : i < xs.length := by simpa using hi
  rcases hx with hz | ⟨ab, off, rfl, hx⟩
  · omega
  · obtain ⟨c, _, hcell, hR⟩ := hx i hi'
    have := (rdTurn_open hR).2
    simpa using this
abbrev RowT := Int × Int × Int × Int × Int × Unit
def rdRow22 : Rd RowT := rdPair (rdInt .u64) (rdPair (rdInt .u64) (rdPair (rdInt .u64) (rdPair (rdInt .u64) (rdPair (rdInt .u64) rdUnit))))
def rowOf (x : RowT) : MRow := ⟨x.1, x.2.1, x.2.2.1, x.2.2.2.1, x.2.2.2.2.1⟩
theorem rdRow22_open {w : World} {c : List Value} {x : RowT} (h : rdRow22 w c x) : c = (rowOf x).cells ∧ (rowOf x).Ok := by
  obtain ⟨c1, d1, rfl, ⟨rfl, h1⟩, c2, d2, rfl, ⟨rfl, h2⟩, c3, d3, rfl, ⟨rfl, h3⟩, c4, d4, rfl, ⟨rfl, h4⟩, c5, d5, rfl, ⟨rfl, h5⟩, rfl⟩ := h
  exact ⟨rfl, U_of_wf h1, U_of_wf h2, U_of_wf h3, U_of_wf h4, U_of_wf h5⟩
theorem rows_ok {w : World} {A : Option Addr} {len cap : Nat} {xs : List RowT} (hr : rdSlice rdRow22 5 w [.slice A len cap] xs) : ∀ t ∈ xs.map rowOf, t.Ok := by
  obtain ⟨hl, hm, hx⟩ := rdSlice_cases hr
  intro t ht
  obtain ⟨i, hi, rfl⟩ := List.getElem_of_mem ht
  have hi' : i < xs.length := by simpa using hi
  rcases hx with hz | ⟨ab, off, rfl, hx⟩
  · omega
  · obtain ⟨c, _, hcell, hR⟩ := hx i hi'
    have := (rdRow22_open hR).2
    simpa using this
set_option maxHeartbeats 3200000 in
theorem meterRuns_c (room : Int) (hr0 : (Lit.int .u64 room).wf = true) (A : Option Addr) (len cap : Nat) (xs : List TurnT) (hr : rdSlice rdTurn 3 w [.slice A len cap] xs) :
    Calls Try.prog 3 #[.int .u64 room, .slice A len cap] w fun e w' => e = .returned (.bool true) ∧ Own w w' [old w] := by
  have HH := Lib.hid (Own.init w)
  have hroom := Lib.hid (U_of_wf hr0)
  clear hr0
  obtain ⟨hA, hm⟩ := itAt_rd turnOf (fun _ _ h => (rdTurn_open h).1) hr
  have hok := turns_ok hr
  clear hr
  generalize xs.map turnOf = ts at hA hok
  by_cases hbig : 200 < len
  · clear hA hok
    go_enter Try.func3, Try.ntmps3
    go_wp2_with fail
    refine (alive22_k _).mono ?_
    rintro e w4_ ⟨rfl, hbel⟩
    replace HH := Lib.hid ((by first | exact Kp.same hbel | exact Kp.drew hbel | exact Kp.below hbel : Kp _ w4_) _ _ (by first | exact HH.out | exact HH.out.drewN _ | exact (HH.out.alloc _).tail | exact ((HH.out.alloc _).drewN _).tail | exact ((HH.out.alloc _).alloc _).tail.tail))
    clear hbel
    go_wp2_with fail
    go_ret
    exact ⟨rfl, HH.out⟩
  have hlen := hA.1
  replace hA := Lib.hid hA
  replace hok := Lib.hid hok
  obtain ⟨⟨rw1, er⟩, hres⟩ : ∃ r, mRun room ts = r := ⟨_, rfl⟩
  have hrl : rw1.length ≤ len := by
    have e := congrArg Prod.fst hres
    simp only at e
    rw [← e]
    unfold mRun
    split
    · simp
    · simp only; rw [mRows_len]; omega
  replace hres := Lib.hid hres
  go_enter Try.func3, Try.ntmps3
  go_wp2_with fail
  refine (mRun_c w _ _ room hroom.out A len cap ts hok.out (fun wx Hx => hA.out.old Hx) hm HH.out).mono ?_
  rw [hres.out]
  rintro e w5_ ⟨v, rfl, H9_⟩
  replace HH := Lib.hid H9_
  clear H9_
  obtain ⟨A1, n1, c1, rfl, _, hcm1, hit1⟩ := HH.out.slc_it MRow.len (by decide)
  have hn1 := hit1.1
  clear hit1
  go_wp2_with fail
  refine (turns22_c w _ _ A len cap ts (fun wx Hx => hA.out.old Hx.tail) (by omega) HH.out).mono ?_
  rintro e w6_ ⟨v2, rfl, H9_⟩
  replace HH := Lib.hid H9_
  clear H9_
  obtain ⟨A2, n2, c2, rfl, _, _, hit2⟩ := HH.out.slc_it MTurn.len (by decide)
  obtain rfl : n2 = len := by rw [← hit2.1, hlen]
  clear hit2
  go_wp2_with fail
  refine (rRun_c w _ _ room hroom.out A2 n2 c2 ts hok.out (fun wx Hx => slc_rd MTurn.len (by decide) Hx) (by omega) HH.out).mono ?_
  rw [hres.out]
  rintro e w7_ ⟨v3, rfl, H9_⟩
  replace HH := Lib.hid H9_
  clear H9_
  obtain ⟨A3, n3, c3, rfl, _, hcm3, hit3⟩ := HH.out.slc_it MRow.len (by decide)
  have hn3 := hit3.1
  clear hit3
  go_wp2_with fail
  refine (rows22_c w _ _ A1 n1 c1 rw1 (fun wx Hx => slc_rd MRow.len (by decide) Hx.r3) (by omega) HH.out).mono ?_
  rintro e w8_ ⟨v4, rfl, H9_⟩
  replace HH := Lib.hid H9_
  clear H9_
  obtain ⟨A4, n4, c4, rfl, hnc4, hcm4, hit4⟩ := HH.out.slc_it MRow.len (by decide)
  have hit3 := slc_rd MRow.len (by decide) HH.out.r2
  replace hit4 := Lib.hid hit4
  replace hit3 := Lib.hid hit3
  go_wp2_with fail
  refine (same22_c _ A4 A3 n4 n3 c4 c3 rw1 rw1 hit4.out hit3.out (by omega)).mono ?_
  rw [show decide (rw1 = rw1) = true from decide_eq_true rfl]
  rintro e w9 ⟨rfl, nd, hnd⟩
  replace HH := Lib.hid (HH.out.drewN nd)
  rw [← hnd] at HH
  clear hnd hit4 hit3
  go_wp2_with fail
  refine (alive22_k _).mono ?_
  rintro e w9_ ⟨rfl, hbel⟩
  replace HH := Lib.hid ((by first | exact Kp.same hbel | exact Kp.drew hbel | exact Kp.below hbel : Kp _ w9_) _ _ (by first | exact HH.out | exact HH.out.drewN _ | exact (HH.out.alloc _).tail | exact ((HH.out.alloc _).drewN _).tail | exact ((HH.out.alloc _).alloc _).tail.tail))
  clear hbel
  go_wp2_with fail
  go_ret
  exact ⟨rfl, (Own.pm (HH.out) (by repeat (first | with_reducible exact Pm.refl _ | with_reducible exact Pm.nil _ | with_reducible refine Pm.here ?_ | with_reducible refine Pm.at2 ?_ | with_reducible refine Pm.at3 ?_ | with_reducible refine Pm.at4 ?_ | with_reducible refine Pm.at5 ?_ | with_reducible refine Pm.at6 ?_ | with_reducible refine Pm.at7 ?_ | with_reducible refine Pm.at8 ?_ | with_reducible refine Pm.skip ?_)))⟩
end
end Go.Proofs.Ytoimbdbajpjmjaa
