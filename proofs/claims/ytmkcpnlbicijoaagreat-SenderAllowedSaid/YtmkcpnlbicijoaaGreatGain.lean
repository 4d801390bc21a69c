/- gain, and its reference. -/
import Derived.Test.YtmkcpnlbicijoaaGreatBound
import Derived.Test.YtmkcpnlbicijoaaGreatRttD
import Derived.Test.YtmkcpnlbicijoaaGreatSlc
import Derived.MapKept
import Derived.WideMake
import Derived.Maps.OwnOps
import Derived.Test.YtmkcpnlbicijoaaGreatCalm
import Derived.Test.YtmkcpnlbicijoaaGreatRange
import Derived.Outline
namespace Go.Proofs.YtmkcpnlbicijoaaGreat
open Go.RowKit
theorem minL_snoc (n : Int) (l : List Int) (x : Int) : minL n (l ++ [x]) = min (minL n l) x := by simp [minL]
set_option maxRecDepth 100000 in
theorem slicesMin_c (w : World) (A : Option Addr) (len cap : Nat) (n : Int) (l : List Int) (hr : rdSlice (rdInt .u64) 1 w [.slice A len cap] (n :: l)) :
  Calls Tryz.prog 148 #[.slice A len cap] w fun e w' => e = .returned (.int .u64 (minL n l)) ∧ w = w' := by
 obtain ⟨h1, h2, h3⟩ := rdInts_getD hr
 clear hr
 rcases h3 with ⟨rfl, h⟩ | ⟨b, off, rfl, hx⟩
 ·cases h
 have hlen : len = l.length + 1 := by simpa using h1.symm
 have hpos : ¬ len < 1 := by omega
 have c0 := (hx 0 (by omega)).1
 rw [Nat.add_zero, show (n :: l).getD 0 0 = n from rfl] at c0
 replace hx := Lib.hid hx
 replace h1 := Lib.hid h1
 replace hlen := Lib.hid hlen
 have im := ite_min
 go_enter Tryz.func148, Tryz.ntmps148
 go_wp2
 clear c0
 go_loop [3, 4] (fun m i => ∃ k : Nat, 1 ≤ k ∧ k ≤ len ∧ i = .int .i64 k ∧ m = .int .u64 (minL n (l.take (k - 1)))) (fun _ i => len - (intOf i).toNat)
 case atStart => exact ⟨1, by omega, by omega, rfl, rfl⟩
 case round =>
  obtain ⟨k, hk0, hk, rfl, rfl⟩ := hrel
  by_cases hlt : k < len
  ·obtain ⟨hc, hU, HT⟩ := hx.out k hlt
   have hg : (n :: l).getD k 0 = l.getD (k - 1) 0 := by
    obtain ⟨j, rfl⟩ : ∃ j, k = j + 1 := ⟨k - 1, by omega⟩
    simp
   rw [hg] at hc
   have HQ := Lib.hid (minL_snoc n (l.take (k - 1)) (l.getD (k - 1) 0))
   rw [← take_snoc_getD l (k - 1) (by have := hlen.out; omega), show k - 1 + 1 = k + 1 - 1 from by omega] at HQ
   generalize l.getD (k - 1) 0 = v at *
   generalize minL n (l.take (k - 1)) = s at *
   clear HT hU hg
   go_wp2
   go_round
   case rel => exact ⟨k + 1, by omega, by omega, by go_num, by rw [HQ.out]⟩
   case measure => simp [intOf]; omega
  ·have HE := Lib.hid (show l.take (k - 1) = l from List.take_of_length_le (by have := hlen.out; omega))
   go_wp2
   go_ret
   exact ⟨by rw [HE.out]; rfl, rfl⟩
set_option maxRecDepth 100000 in
theorem boundCap_c (w : World) (s : Bnd) (hs : s.Ok) (A : Option Addr) (len cap : Nat) (l : List Int) (hm : len ≤ 1000) (hr : rdSlice (rdInt .u64) 1 w [.slice A len cap] l) :
  Calls Tryz.prog 124 #[s.v, .slice A len cap] w fun e w' => e = .returned (.int .u64 (s.cap l)) ∧ Below w.heap.size w w' := by
 obtain ⟨hi, lo, bw⟩ := s
 obtain ⟨h1, h2, h3⟩ := hs
 simp only at h1 h2 h3
 have hUl := Lib.hid (rdInts_U hr)
 have hll := Lib.hid (rdInts_getD hr).1
 replace h1 := Lib.hid h1
 replace h2 := Lib.hid h2
 clear h3
 replace hr := Lib.hid hr
 have HH := Lib.hid (Own.init w)
 unfold Bnd.v
 go_enter Tryz.func124, Tryz.ntmps124
 go_wp2_with (with_reducible first | refine stop_bs ?_ | refine stop_bx ?_ | refine stop_al ?_ | refine stop_ms ?_ | refine stop_app ?_ | refine stop_copy ?_)
 refine Stop.go ?_
 go_step
 go_simp
 have H1 := Lib.hid (HH.out.alloc (.cells #[.int .u64 hi, .int .u64 lo, .int .u64 bw] 74))
 generalize w.alloc (.cells #[.int .u64 hi, .int .u64 lo, .int .u64 bw] 74) = w1 at *
 generalize w.heap.size = b1 at *
 have k1 := H1.out.cells
 go_wp2_with (with_reducible first | refine stop_bs ?_ | refine stop_bx ?_ | refine stop_al ?_ | refine stop_ms ?_ | refine stop_app ?_ | refine stop_copy ?_)
 refine Stop.go ?_
 go_step
 go_simp
 have H2 := Lib.hid (H1.out.alloc (.cells #[.int .u64 hi, .int .u64 lo] 22))
 generalize w1.alloc (.cells #[.int .u64 hi, .int .u64 lo] 22) = w2 at *
 generalize w1.heap.size = b2 at *
 clear k1
 have HS := Lib.hid (show Own w w2 (slc 22 1 (.slice (some ⟨b2, 0, none⟩) 2 2) (nums [hi, lo]) :: _) from H2.out.slc_all (by simp [maxLen]) rfl)
 have hr2 := Lib.hid (mono_slice (mono_int .u64) 1 _ w2 _ _ (fun a v h => (H2.out.pn : Own w w2 [old w]).old_cell h) hr.out)
 go_wp2_with (with_reducible first | refine stop_bs ?_ | refine stop_bx ?_ | refine stop_al ?_ | refine stop_ms ?_ | refine stop_app ?_ | refine stop_copy ?_)
 refine Stop.go ?_
 refine wpList_append_slc rfl _ _ 141 rfl 22 1 8 Tryz.underlying141 (by kernel_rfl) (by decide) rfl (HS.out) rfl ((show (nums [hi, lo]).length = 2 * 1 from rfl)) ((srcAt_rd hr2.out)) (nums_one _) (by simp only [maxLen]; omega) (by omega) ?_
 intro v3 w3 H3
 replace H3 := Lib.hid H3
 have e0 : nums [hi, lo] ++ nums l = nums (hi :: lo :: l) := by simp [nums]
 rw [e0] at H3
 clear e0
 obtain ⟨A3, n3, cap3, rfl, hr3⟩ := Own.nums_rd H3.out (by
  intro x hx
  rcases List.mem_cons.1 hx with rfl | hx
  ·exact h1.out
  ·rcases List.mem_cons.1 hx with rfl | hx
   ·exact h2.out
   ·exact hUl.out x hx)
 replace hr3 := Lib.hid hr3
 go_wp2_with fail
 refine (slicesMin_c _ _ _ _ _ _ hr3.out).mono ?_
 rintro e w' ⟨rfl, rfl⟩
 go_wp2_with fail
 go_ret
 exact ⟨rfl, (H3.out.pn : Own w w3 [old w]).old_below⟩
section
variable (w : World)
end
end Go.Proofs.YtmkcpnlbicijoaaGreat
namespace Go.Proofs.YtmkcpnlbicijoaaGreat
open Go.RowKit
def entsAt : Nat → List (Value × Value) → List MapEntry
 | _, [] => []
 | i, (k, v) :: l => { key := k, val := v, born := i } :: entsAt (i + 1) l
def mpObj (l : List (Value × Value)) : Obj := .map (entsAt 0 l).toArray l.length
theorem entsAt_snoc (l : List (Value × Value)) (k v : Value) : ∀ i, entsAt i (l ++ [(k, v)]) = entsAt i l ++ [{ key := k, val := v, born := i + l.length }] := by
 induction l with
 | nil => intro i; rfl
 | cons p l ih =>
  intro i
  obtain ⟨a, b⟩ := p
  simp only [List.cons_append, entsAt, ih, List.length_cons]
  rw [show i + 1 + l.length = i + (l.length + 1) from by omega]
section
variable {P : Program} {ops : Array Oper} {Q : Exit → Act → World → Prop} {d : Option Tmp} {ty : TypeId} {pos : String} {aft : Array Edge} {g : Option (Tmp × Bool)} {rest : List Oper} {a : Act} {ε w : World} {R : List Asn} {b : Nat} {l : List (Value × Value)}
theorem stop_in {t : TypeId} {x y z : Operand} (h : Stop (wpList P ops Q (⟨d, .insert t x y z, ty, pos, aft, g⟩ :: rest) a w)) : wpList P ops Q (⟨d, .insert t x y z, ty, pos, aft, g⟩ :: rest) a w := h
theorem run_mapUpdate_new (t kt et : TypeId) (dsc : TypeDesc) (key val : Value) (ht : P.underlying t = some (.map kt et)) (hk : P.underlying kt = some dsc) (hik : MapKept.IsKey dsc key)
  (H : Own ε w (pts b (mpObj l) :: R)) (hf : Instr.findNow dsc key (entsAt 0 l) 0 = some none) :
  ∃ w', (Instr.mapUpdate t (.map (some b)) key val).run P w = .ok () w' ∧ Own ε w' (pts b (mpObj (l ++ [(key, val)])) :: R) := by
 have hb : w.heap[b]? = some (.map (entsAt 0 l).toArray l.length) := H.blk
 have hs := MapKept.heap_set (o' := mpObj (l ++ [(key, val)])) hb
 refine ⟨{ w with heap := w.heap.setIfInBounds b (mpObj (l ++ [(key, val)])) }, ?_, H.put rfl rfl rfl hs.1 (fun k _ hk => hs.2 k hk)⟩
 simp [Instr.mapUpdate, run_underlying ht, MapKept.run_getObj_map hb, MapKept.run_checkKey hk hik, MapKept.run_findKey hk hf, MapKept.run_setObj_map _ hb, Result.andThen, mpObj, entsAt_snoc]
theorem run_lookup_has (t kt et : TypeId) (dsc : TypeDesc) (key val : Value) (i : Nat) (ht : P.underlying t = some (.map kt et)) (hk : P.underlying kt = some dsc) (hik : MapKept.IsKey dsc key)
  (H : Own ε w (pts b (mpObj l) :: R)) (hf : Instr.findNow dsc key (entsAt 0 l) 0 = some (some (i, val))) :
  (Instr.lookup t (.map (some b)) key true).run P w = .ok (.tuple #[val, .bool true]) w := by
 have hb : w.heap[b]? = some (.map (entsAt 0 l).toArray l.length) := H.blk
 simp [Instr.lookup, run_underlying ht, MapKept.run_getObj_map hb, MapKept.run_checkKey hk hik, MapKept.run_findKey hk hf, Result.andThen]
theorem run_lookup_not (t kt et : TypeId) (dsc : TypeDesc) (key z : Value) (ht : P.underlying t = some (.map kt et)) (hk : P.underlying kt = some dsc) (hik : MapKept.IsKey dsc key)
  (H : Own ε w (pts b (mpObj l) :: R)) (hf : Instr.findNow dsc key (entsAt 0 l) 0 = some none) (hz : (zeroValue et).run P w = .ok z w) :
  (Instr.lookup t (.map (some b)) key true).run P w = .ok (.tuple #[z, .bool false]) w := by
 have hb : w.heap[b]? = some (.map (entsAt 0 l).toArray l.length) := H.blk
 simp [Instr.lookup, run_underlying ht, MapKept.run_getObj_map hb, MapKept.run_checkKey hk hik, MapKept.run_findKey hk hf, Result.andThen, hz]
theorem wpList_insert_new {m x v : Operand} {t : TypeId} (kt et : TypeId) (dsc : TypeDesc) (key val : Value) (ht : P.underlying t = some (.map kt et)) (hk : P.underlying kt = some dsc) (hik : MapKept.IsKey dsc key)
  (hm : a.eval m = .map (some b)) (hx : a.eval x = key) (hv : a.eval v = val) (H : Own ε w (pts b (mpObj l) :: R)) (hf : Instr.findNow dsc key (entsAt 0 l) 0 = some none)
  (h : ∀ w', Own ε w' (pts b (mpObj (l ++ [(key, val)])) :: R) → wpList P ops Q rest (a.put d undef) w') : wpList P ops Q (⟨d, .insert t m x v, ty, pos, aft, none⟩ :: rest) a w := by
 refine wpList_plain rfl fun K' hK' => ?_
 obtain ⟨w', hrun, H'⟩ := run_mapUpdate_new t kt et dsc key val ht hk hik H hf
 unfold Oper.wp
 simp [execOp, hm, hx, hv, hrun, Result.andThen]
 exact hK' _ _ (h w' H')
end
end Go.Proofs.YtmkcpnlbicijoaaGreat
namespace Go.Proofs.YtmkcpnlbicijoaaGreat
open Go.RowKit
def gTab : List (ByteArray × Int × Int) := [(⟨#[115, 116, 97, 114, 116, 117, 112]⟩, 277, 200), (⟨#[100, 114, 97, 105, 110]⟩, 36, 200), (⟨#[100, 111, 119, 110]⟩, 75, 200), (⟨#[99, 114, 117, 105, 115, 101]⟩, 100, 200), (⟨#[114, 101, 102, 105, 108, 108]⟩, 100, 200), (⟨#[117, 112]⟩, 125, 225), (⟨#[112, 114, 111, 98, 101]⟩, 100, 50)]
def gAt (s : Int) : ByteArray × Int × Int := if 0 ≤ s ∧ s ≤ 6 then gTab.getD s.toNat (⟨#[]⟩, 0, 0) else (⟨#[]⟩, 0, 0)
def gOk (s : Int) : Bool := decide (0 ≤ s ∧ s ≤ 6)
def gCell (g : ByteArray × Int × Int) : Value := .agg #[.string g.1, .int .u64 g.2.1, .int .u64 g.2.2]
def gAgg : Value := .agg (gTab.flatMap fun g => [.string g.1, .int .u64 g.2.1, .int .u64 g.2.2]).toArray
def gPace (s r : Int) : Int := if 0 ≤ s ∧ s ≤ 6 then sshare r (gAt s).2.1 100 else 0
def gWindow (s r : Int) : Int := sover r (gAt s).2.2 100
theorem gAt_cases (s : Int) : (s = 0 ∨ s = 1 ∨ s = 2 ∨ s = 3 ∨ s = 4 ∨ s = 5 ∨ s = 6) ∨ ¬ (0 ≤ s ∧ s ≤ 6) := by omega
theorem U_gAt (s : Int) : U (gAt s).2.1 ∧ U (gAt s).2.2 := by
 rcases gAt_cases s with (rfl | rfl | rfl | rfl | rfl | rfl | rfl) | h
 all_goals first | decide | (unfold gAt; rw [if_neg h]; decide)
section
variable (w : World)
set_option maxRecDepth 100000 in
theorem gainTable_c : Calls Tryz.prog 139 #[] w fun e w' => e = .returned gAgg ∧ Below w.heap.size w w' := by
 have HH := Lib.hid (Own.init w)
 go_enter Tryz.func139, Tryz.ntmps139
 go_wp2_with (with_reducible first | refine stop_bs ?_ | refine stop_bx ?_ | refine stop_al ?_ | refine stop_ms ?_ | refine stop_app ?_ | refine stop_copy ?_)
 refine Stop.go ?_
 go_step
 go_simp
 have H2 := Lib.hid (HH.out.alloc (.cells #[.string ⟨#[]⟩, .int .u64 0, .int .u64 0, .string ⟨#[]⟩, .int .u64 0, .int .u64 0, .string ⟨#[]⟩, .int .u64 0, .int .u64 0, .string ⟨#[]⟩, .int .u64 0, .int .u64 0, .string ⟨#[]⟩, .int .u64 0, .int .u64 0, .string ⟨#[]⟩, .int .u64 0, .int .u64 0, .string ⟨#[]⟩, .int .u64 0, .int .u64 0] 211))
 generalize w.alloc (.cells #[.string ⟨#[]⟩, .int .u64 0, .int .u64 0, .string ⟨#[]⟩, .int .u64 0, .int .u64 0, .string ⟨#[]⟩, .int .u64 0, .int .u64 0, .string ⟨#[]⟩, .int .u64 0, .int .u64 0, .string ⟨#[]⟩, .int .u64 0, .int .u64 0, .string ⟨#[]⟩, .int .u64 0, .int .u64 0, .string ⟨#[]⟩, .int .u64 0, .int .u64 0] 211) = w2 at *
 generalize w.heap.size = b at *
 go_wp2_with (with_reducible refine stop_st ?_)
 refine Stop.go ?_
 refine wpList_store_own _ #[.string ⟨#[115, 116, 97, 114, 116, 117, 112]⟩, .int .u64 277, .int .u64 200, .string ⟨#[100, 114, 97, 105, 110]⟩, .int .u64 36, .int .u64 200, .string ⟨#[100, 111, 119, 110]⟩, .int .u64 75, .int .u64 200, .string ⟨#[99, 114, 117, 105, 115, 101]⟩, .int .u64 100, .int .u64 200, .string ⟨#[114, 101, 102, 105, 108, 108]⟩, .int .u64 100, .int .u64 200, .string ⟨#[117, 112]⟩, .int .u64 125, .int .u64 225, .string ⟨#[112, 114, 111, 98, 101]⟩, .int .u64 100, .int .u64 50] rfl rfl (H2.out) (by kernel_rfl) rfl (by simp [Value.oneCell']) ?_
 intro w3 H3
 replace H3 := Lib.hid H3
 go_wp2_with fail
 refine bodyPost_ret (results_cell_row rfl _ _ _ _ _ _ _ rfl H3.out.blk Tryz.underlying211 rfl (by kernel_rfl)) rfl (⟨rfl, H3.out.tail.old_below⟩)
end
end Go.Proofs.YtmkcpnlbicijoaaGreat
namespace Go.Proofs.YtmkcpnlbicijoaaGreat
open Go.RowKit
section
variable (w : World)
theorem gainRight_c (s : Int) : Calls Tryz.prog 138 #[.int .i64 s] w fun e w' => e = .returned (.bool (gOk s)) ∧ w = w' := by
 unfold gOk
 by_cases h0 : 0 ≤ s
 ·by_cases h1 : s ≤ 6
  ·rw [decide_eq_true ⟨h0, h1⟩]
   go_enter Tryz.func138, Tryz.ntmps138
   go_wp2_with fail
   go_ret
   exact ⟨rfl, rfl⟩
  ·rw [decide_eq_false (by omega)]
   go_enter Tryz.func138, Tryz.ntmps138
   go_wp2_with fail
   go_ret
   exact ⟨rfl, rfl⟩
 ·rw [decide_eq_false (by omega)]
  go_enter Tryz.func138, Tryz.ntmps138
  go_wp2_with fail
  go_ret
  exact ⟨rfl, rfl⟩
set_option maxHeartbeats 1600000 in
set_option maxRecDepth 100000 in
theorem gainOf_c (s : Int) : Calls Tryz.prog 102 #[.int .i64 s] w fun e w' => e = .returned (gCell (gAt s)) ∧ Below w.heap.size w w' := by
 have HH := Lib.hid (Own.init w)
 have hix : ∀ k : Nat, k < 7 → ∀ w, (Instr.index 211 gAgg (.int .i64 k)).run Tryz.prog w = .ok (gCell (gTab.getD k (⟨#[]⟩, 0, 0))) w := by
  intro k hk w
  rcases (show k = 0 ∨ k = 1 ∨ k = 2 ∨ k = 3 ∨ k = 4 ∨ k = 5 ∨ k = 6 by omega) with rfl | rfl | rfl | rfl | rfl | rfl | rfl <;> kernel_rfl
 replace hix := Lib.hid hix
 by_cases h : 0 ≤ s ∧ s ≤ 6
 ·obtain ⟨k, rfl⟩ := Int.eq_ofNat_of_zero_le h.1
  have hk : k < 7 := by omega
  have e : gAt k = gTab.getD k (⟨#[]⟩, 0, 0) := by unfold gAt; rw [if_pos h]; rfl
  have e1 : gOk k = true := decide_eq_true h
  rw [e]
  clear e
  have i0 := hix.out k hk
  obtain ⟨⟨n, p, q⟩, hg⟩ : ∃ g, gTab.getD k (⟨#[]⟩, 0, 0) = g := ⟨_, rfl⟩
  rw [hg] at i0 ⊢
  clear hg h hk
  have e2 : gCell (n, p, q) = .agg #[.string n, .int .u64 p, .int .u64 q] := rfl
  rw [e2] at i0 ⊢
  clear e2
  go_enter Tryz.func102, Tryz.ntmps102
  go_wp2_with (with_reducible first | refine stop_bs ?_ | refine stop_bx ?_ | refine stop_al ?_ | refine stop_ms ?_ | refine stop_app ?_ | refine stop_copy ?_)
  refine Stop.go ?_
  go_step
  go_simp
  have H2 := Lib.hid (HH.out.alloc (.cells #[.string ⟨#[]⟩, .int .u64 0, .int .u64 0] 179))
  generalize w.alloc (.cells #[.string ⟨#[]⟩, .int .u64 0, .int .u64 0] 179) = w2 at *
  generalize w.heap.size = b at *
  go_wp2_with fail
  refine (gainRight_c _ _).mono ?_
  rintro e w' ⟨rfl, rfl⟩
  rw [e1]
  clear e1
  go_wp2_with fail
  refine (gainTable_c _).mono ?_
  rintro e w3 ⟨rfl, hbel⟩
  replace H2 := Lib.hid ((by first | exact .same hbel | exact .drew hbel | exact .below hbel : Kp _ w3) _ _ (by first | exact H2.out | exact H2.out.drewN _ | exact (H2.out.alloc _).tail | exact ((H2.out.alloc _).drewN _).tail | exact ((H2.out.alloc _).alloc _).tail.tail))
  clear hbel
  go_wp2_with (with_reducible refine stop_st ?_)
  refine Stop.go ?_
  refine wpList_store_own _ #[.string n, .int .u64 p, .int .u64 q] rfl rfl (H2.out) (by kernel_rfl) rfl (by simp [Value.oneCell']) ?_
  intro w4 H4
  replace H4 := Lib.hid H4
  go_wp2_with fail
  refine bodyPost_ret (results_cell_row rfl _ _ _ _ _ _ _ rfl H4.out.blk Tryz.underlying179 rfl (by kernel_rfl)) rfl (⟨rfl, H4.out.tail.old_below⟩)
 ·have e : gAt s = (⟨#[]⟩, 0, 0) := by unfold gAt; rw [if_neg h]
  have e1 : gOk s = false := decide_eq_false h
  rw [e]
  clear e h
  go_enter Tryz.func102, Tryz.ntmps102
  go_wp2_with fail
  refine (gainRight_c _ _).mono ?_
  rintro e w' ⟨rfl, rfl⟩
  rw [e1]
  go_wp2_with fail
  refine bodyPost_ret (v := .agg #[.string ⟨#[]⟩, .int .u64 0, .int .u64 0]) (by simp [results, Tryz.results102, go_sem]) rfl (⟨rfl, (by repeat (first | with_reducible exact Below.refl _ _ | with_reducible refine Below.alloc ?_ (by simp; first | done | omega) _ | with_reducible refine Below.setCell ?_ (by simp; first | done | omega) _ | with_reducible refine Below.drewN ?_ _ | with_reducible refine Below.drew ?_))⟩)
set_option maxHeartbeats 1600000 in
set_option maxRecDepth 100000 in
theorem gainPace_c (s r : Int) (hr : U r) : Calls Tryz.prog 63 #[.int .i64 s, .int .u64 r] w fun e w' => e = .returned (.int .u64 (gPace s r)) ∧ Below w.heap.size w w' := by
 have HH := Lib.hid (Own.init w)
 replace hr := Lib.hid hr
 have hU := Lib.hid (U_gAt s).1
 unfold gPace
 have hne : ∀ k : Nat, k < 7 → (∀ w, (binOp .eql 179 (gCell (gTab.getD k (⟨#[]⟩, 0, 0))) (.agg #[.string ⟨#[]⟩, .int .u64 0, .int .u64 0])).run Tryz.prog w = .ok (.bool false) w) := by
  intro k hk w
  rcases (show k = 0 ∨ k = 1 ∨ k = 2 ∨ k = 3 ∨ k = 4 ∨ k = 5 ∨ k = 6 by omega) with rfl | rfl | rfl | rfl | rfl | rfl | rfl <;> kernel_rfl
 replace hne := Lib.hid hne
 by_cases h : 0 ≤ s ∧ s ≤ 6
 ·rw [if_pos h]
  obtain ⟨k, rfl⟩ := Int.eq_ofNat_of_zero_le h.1
  have hk : k < 7 := by omega
  have e : gAt k = gTab.getD k (⟨#[]⟩, 0, 0) := by unfold gAt; rw [if_pos h]; rfl
  have i0 := hne.out k hk
  rw [← e] at i0
  clear e h hk
  have ho := gainOf_c w k
  obtain ⟨⟨n, p, q⟩, hg⟩ : ∃ g, gAt k = g := ⟨_, rfl⟩
  rw [hg] at i0 ho hU ⊢
  clear hg
  have e2 : gCell (n, p, q) = .agg #[.string n, .int .u64 p, .int .u64 q] := rfl
  rw [e2] at i0 ho
  clear e2
  simp only at hU ⊢
  go_enter Tryz.func63, Tryz.ntmps63
  go_wp2_with fail
  refine (ho).mono ?_
  rintro e w3 ⟨rfl, hbel⟩
  replace HH := Lib.hid ((by first | exact .same hbel | exact .drew hbel | exact .below hbel : Kp _ w3) _ _ (by first | exact HH.out | exact HH.out.drewN _ | exact (HH.out.alloc _).tail | exact ((HH.out.alloc _).drewN _).tail | exact ((HH.out.alloc _).alloc _).tail.tail))
  clear hbel
  clear ho
  go_wp2_with (with_reducible first | refine stop_bs ?_ | refine stop_bx ?_ | refine stop_al ?_ | refine stop_ms ?_ | refine stop_app ?_ | refine stop_copy ?_)
  refine Stop.go ?_
  go_step
  go_simp
  have H4_0 := Lib.hid (HH.out.alloc (.cells #[.string ⟨#[]⟩, .int .u64 0, .int .u64 0] 179))
  generalize w3.alloc (.cells #[.string ⟨#[]⟩, .int .u64 0, .int .u64 0] 179) = w4_0 at *
  generalize w3.heap.size = b at *
  go_wp2_with (with_reducible refine stop_st ?_)
  refine Stop.go ?_
  refine wpList_store_own _ #[.string n, .int .u64 p, .int .u64 q] rfl rfl (H4_0.out) (by kernel_rfl) rfl (by simp [Value.oneCell']) ?_
  intro w4 H4
  replace H4 := Lib.hid H4
  clear H4_0
  clear HH
  (try clear k1); have k1 := H4.out.cells
  go_wp2_with fail
  refine (fixShare_c _ _ _ 100 hr.out hU.out (by decide)).mono ?_
  rintro e w5 ⟨rfl, hbel⟩
  replace H4 := Lib.hid ((by first | exact .same hbel | exact .drew hbel | exact .below hbel : Kp _ w5) _ _ (by first | exact H4.out | exact H4.out.drewN _ | exact (H4.out.alloc _).tail | exact ((H4.out.alloc _).drewN _).tail | exact ((H4.out.alloc _).alloc _).tail.tail))
  clear hbel
  go_wp2_with fail
  go_ret
  exact ⟨rfl, H4.out.tail.old_below⟩
 ·rw [if_neg h]
  have e : gAt s = (⟨#[]⟩, 0, 0) := by unfold gAt; rw [if_neg h]
  have ho := gainOf_c w s
  rw [e, show gCell (⟨#[]⟩, 0, 0) = .agg #[.string ⟨#[]⟩, .int .u64 0, .int .u64 0] from rfl] at ho
  clear e h
  go_enter Tryz.func63, Tryz.ntmps63
  go_wp2_with fail
  refine (ho).mono ?_
  rintro e w3 ⟨rfl, hbel⟩
  replace HH := Lib.hid ((by first | exact .same hbel | exact .drew hbel | exact .below hbel : Kp _ w3) _ _ (by first | exact HH.out | exact HH.out.drewN _ | exact (HH.out.alloc _).tail | exact ((HH.out.alloc _).drewN _).tail | exact ((HH.out.alloc _).alloc _).tail.tail))
  clear hbel
  clear ho
  go_wp2_with (with_reducible first | refine stop_bs ?_ | refine stop_bx ?_ | refine stop_al ?_ | refine stop_ms ?_ | refine stop_app ?_ | refine stop_copy ?_)
  refine Stop.go ?_
  go_step
  go_simp
  have H4_0 := Lib.hid (HH.out.alloc (.cells #[.string ⟨#[]⟩, .int .u64 0, .int .u64 0] 179))
  generalize w3.alloc (.cells #[.string ⟨#[]⟩, .int .u64 0, .int .u64 0] 179) = w4_0 at *
  generalize w3.heap.size = b at *
  go_wp2_with (with_reducible refine stop_st ?_)
  refine Stop.go ?_
  refine wpList_store_own _ #[.string ⟨#[]⟩, .int .u64 0, .int .u64 0] rfl rfl (H4_0.out) (by kernel_rfl) rfl (by simp [Value.oneCell']) ?_
  intro w4 H4
  replace H4 := Lib.hid H4
  clear H4_0
  clear HH
  (try clear k1); have k1 := H4.out.cells
  go_wp2_with fail
  go_ret
  exact ⟨rfl, H4.out.tail.old_below⟩
theorem gainWindow_c (s r : Int) (hr : U r) : Calls Tryz.prog 122 #[.int .i64 s, .int .u64 r] w fun e w' => e = .returned (.int .u64 (gWindow s r)) ∧ Below w.heap.size w w' := by
 have HH := Lib.hid (Own.init w)
 replace hr := Lib.hid hr
 have hU := Lib.hid (U_gAt s).2
 unfold gWindow
 have ho := gainOf_c w s
 obtain ⟨⟨n, p, q⟩, hg⟩ : ∃ g, gAt s = g := ⟨_, rfl⟩
 rw [hg] at ho hU ⊢
 clear hg
 rw [show gCell (n, p, q) = .agg #[.string n, .int .u64 p, .int .u64 q] from rfl] at ho
 simp only at hU ⊢
 have hf : ∀ w, (Instr.field 179 (.agg #[.string n, .int .u64 p, .int .u64 q]) 2).run Tryz.prog w = .ok (.int .u64 q) w := fun w => by kernel_rfl
 go_enter Tryz.func122, Tryz.ntmps122
 go_wp2_with fail
 refine (ho).mono ?_
 rintro e w3 ⟨rfl, hbel⟩
 replace HH := Lib.hid ((by first | exact .same hbel | exact .drew hbel | exact .below hbel : Kp _ w3) _ _ (by first | exact HH.out | exact HH.out.drewN _ | exact (HH.out.alloc _).tail | exact ((HH.out.alloc _).drewN _).tail | exact ((HH.out.alloc _).alloc _).tail.tail))
 clear hbel
 clear ho
 go_wp2_with fail
 refine (fixOver_c _ _ _ 100 hr.out hU.out (by decide)).mono ?_
 rintro e w5 ⟨rfl, hbel⟩
 replace HH := Lib.hid ((by first | exact .same hbel | exact .drew hbel | exact .below hbel : Kp _ w5) _ _ (by first | exact HH.out | exact HH.out.drewN _ | exact (HH.out.alloc _).tail | exact ((HH.out.alloc _).drewN _).tail | exact ((HH.out.alloc _).alloc _).tail.tail))
 clear hbel
 go_wp2_with fail
 go_ret
 exact ⟨rfl, HH.out.old_below⟩
end
end Go.Proofs.YtmkcpnlbicijoaaGreat
