/- A range over a function, where the iterator, and the body, own what they read and write. -/
import Derived.Test.YtmkcpnlbicijoaaGreatRingL
import Derived.Test.YtmkcpnlbicijoaaGreatRttD
import Derived.Test.YtmkcpnlbicijoaaGreatSlc
import Derived.Laws.ResultCell
import Derived.Laws.CopyRow
import Derived.Laws.Rows
import Derived.Test.YtmkcpnlbicijoaaGreatRdU
import Derived.Test.YtmkcpnlbicijoaaGreatLen
import Derived.Laws.StructEq
import Derived.RangeFuncNested
import Derived.RangeFuncBound
import Derived.RangeFuncCalls
import Derived.RangeFuncLeaves
namespace Go.Proofs.YtmkcpnlbicijoaaGreat
open Go.RowKit
def ptrs (l : List Nat) : List Value := l.map fun x => .pointer (some ⟨x, 0, none⟩)
abbrev ownL (v : Value) (l : List Nat) : Asn := slc 114 1 v (ptrs l)
theorem ptrs_one (l : List Nat) : ∀ u ∈ ptrs l, u.oneCell' = true := by
 intro u hu
 obtain ⟨x, _, rfl⟩ := List.mem_map.1 hu
 rfl
theorem ptrs_flat (l : List Nat) : ptrs l = (l.map encL).flatten := by
 induction l with
 | nil => rfl
 | cons x l ih => simp only [ptrs, List.map_cons, List.flatten_cons, encL] at *; rw [ih]; rfl
theorem encL_one (l : List Nat) : ∀ c ∈ l.map encL, ∀ u ∈ c, u.oneCell' = true := by
 intro c hc u hu
 obtain ⟨x, _, rfl⟩ := List.mem_map.1 hc
 simp [encL] at hu
 subst hu; rfl
section
variable (ε w : World) (R : List Asn) (b : Nat)
set_option maxHeartbeats 1600000 in
theorem rlNew_c (l : List Nat) (A : Option Addr) (len cap : Nat) (hl : l.length = len) (hr : ∀ wx, Own ε wx R → srcAt wx A len 1 (ptrs l)) (hm : len ≤ 1000000) (H : Own ε w R) :
  Calls Tryz.prog 61 #[.slice A len cap] w fun e w' => ∃ b, e = .returned (.pointer (some ⟨b, 0, none⟩)) ∧ Own ε w' (ringL b l :: R) := by
 replace hr := Lib.hid hr
 obtain ⟨M, hM⟩ : ∃ M : Nat, M = max 4 len := ⟨_, rfl⟩
 have hM1 : (if (4 : Int) < (len : Int) then (len : Int) else 4) = (M : Int) := by split <;> omega
 have hM2 : len ≤ M ∧ M ≤ 1000000 := by omega
 replace hM := Lib.hid hM
 have HH := Lib.hid H; clear H
 go_enter Tryz.func61, Tryz.ntmps61
 go_wp2_with (with_reducible first | refine stop_bs ?_ | refine stop_bx ?_ | refine stop_al ?_ | refine stop_ms ?_ | refine stop_app ?_ | refine stop_copy ?_)
 refine Stop.go ?_
 refine wpList_make_slc rfl _ _ _ rfl 114 1 8 Tryz.underlying174 (by kernel_rfl) (by decide) [.pointer none] (by kernel_rfl) M rfl rfl (by first | exact hM1 | omega) (by first | exact hM1 | omega) (by omega) (by simp only [maxLen]; omega) HH.out ?_
 intro g2 w2 H2
 replace H2 := Lib.hid H2
 clear HH
 go_wp2_with (with_reducible first | refine stop_bs ?_ | refine stop_bx ?_ | refine stop_al ?_ | refine stop_ms ?_ | refine stop_app ?_ | refine stop_copy ?_)
 refine Stop.go ?_
 go_step
 go_simp
 have H3 := Lib.hid (H2.out.alloc (.cells #[.slice (some ⟨g2, 0, none⟩) M M, .int .i64 0, .int .i64 0] 176))
 generalize w2.alloc (.cells #[.slice (some ⟨g2, 0, none⟩) M M, .int .i64 0, .int .i64 0] 176) = w3 at *
 generalize w2.heap.size = b at *
 have k0 := H3.out.cells.1
 have hsrc := hr.out w3 H3.out.tail.tail
 obtain ⟨Z, hZ⟩ : ∃ Z, Z = (List.replicate M [Value.pointer none]).flatten := ⟨_, rfl⟩
 have hZ1 : Z.length = M := by rw [hZ, flat_len (sz := 1) _ (fun c hc => by rw [(List.mem_replicate.1 hc).2]; rfl), List.length_replicate, Nat.mul_one]
 have hZ2 : Z.drop len = (List.replicate (M - len) [Value.pointer none]).flatten := by
  have := flat_rep (sz := 1) [Value.pointer none] rfl M len
  rw [Nat.mul_one] at this
  rw [hZ, this]
 rw [← hZ] at H3
 replace hZ1 := Lib.hid hZ1
 replace hZ2 := Lib.hid hZ2
 clear hZ
 replace H3 := Lib.hid H3.out.r2
 go_wp2_with (with_reducible first | refine stop_bs ?_ | refine stop_bx ?_ | refine stop_al ?_ | refine stop_ms ?_ | refine stop_app ?_ | refine stop_copy ?_)
 refine Stop.go ?_
 refine wpList_copy_slc rfl (.tmp 14) (.tmp 15) _ _ rfl 114 1 8 Tryz.underlying174 (by kernel_rfl) 0 (ptrs l) len (by rfl) (by rfl) (Nat.min_eq_left hM2.1) H3.out (.inr rfl) hsrc (by have := hZ1.out; simp [ptrs, hl]; omega) (ptrs_one l) ?_
 intro w4 H4
 have hnl : (ptrs l).length = len := by simp [ptrs, hl]
 have e4 : List.take 0 Z.toArray.toList ++ ptrs l ++ List.drop (0 + (ptrs l).length) Z.toArray.toList = (l.map encL ++ List.replicate (M - len) [Value.pointer none]).flatten := by
  rw [List.flatten_append, ← hZ2.out, ptrs_flat, ← ptrs_flat, hnl]; simp [ptrs_flat]
 rw [e4] at H4
 replace H4 := Lib.hid H4.r2
 clear k0 hsrc
 have k0 := H4.out.cells
 go_wp2_with fail
 go_ret
 refine ⟨_, rfl, ?_⟩
 have hh := RingOk.new (sz := 1) (l.map encL) (encL_len l) (encL_one l) (by simp [hl]; omega) [.pointer none] rfl (by simp [Value.oneCell'])
 rw [List.length_map, hl, ← hM.out] at hh
 have hflen : (l.map encL ++ List.replicate (M - len) [Value.pointer none]).flatten.length = M * 1 := by
  rw [flat_len (sz := 1) _ hh.wide, hh.len]
 have H5 := ((H4.out.set 2 (.int .i64 len)).r2.slc_mk (xs := (l.map encL ++ List.replicate (M - len) [Value.pointer none]).flatten) (n := M) (cap := M) (Nat.le_refl _) (by simp only [maxLen]; omega) (by simpa using hflen) hflen (List.take_of_length_le (by simpa using Nat.le_of_eq hflen))).r2
 exact Own.ring_mk' (n := len) (by simp [hl]) hh H5
end
end Go.Proofs.YtmkcpnlbicijoaaGreat
namespace Go.Proofs.YtmkcpnlbicijoaaGreat
open Go.RowKit
@[go_sem] theorem run_store_one {P : Program} {w : World} {a : Addr} {v : Value} {m : Mode} (hv : v.oneCell' = true) : (store a v m).run P w = stored P w a v m := run_store P w a v m hv
def setsL : List Value → Nat → List Value → List Value
 | L, _, [] => L
 | L, o, v :: vs => setsL (L.set o v) (o + 1) vs
def setsW : World → Nat → Nat → List Value → World
 | w, _, _, [] => w
 | w, g, o, v :: vs => setsW (w.setCell ⟨g, o, none⟩ v) g (o + 1) vs
theorem setsL_eq (L : List Value) (o : Nat) (vs : List Value) (h : o + vs.length ≤ L.length) : setsL L o vs = L.take o ++ vs ++ L.drop (o + vs.length) := by
 induction vs generalizing L o with
 | nil => simp [setsL]
 | cons v vs ih =>
  have h' : o + (vs.length + 1) ≤ L.length := h
  have e1 : (L.set o v).take (o + 1) = L.take o ++ [v] := by
   rw [List.take_succ_eq_append_getElem (by simp; omega), List.take_set_of_le (Nat.le_refl o)]
   simp
  have e2 : (L.set o v).drop (o + 1 + vs.length) = L.drop (o + (vs.length + 1)) := by
   rw [List.drop_set_of_lt (by omega)]
   congr 1; omega
  rw [setsL, ih _ _ (by simp; omega), e1, e2]
  simp
section
variable {ε w : World} {R : List Asn} {T : TypeId} {g : Nat}
theorem Own.slc_setsB {cs : Array Value} {f : Nat × Nat} (H : Own ε w (pts g (.cells cs T f) :: R)) (vs : List Value) (_h : vs.length = cs.size := by rfl) :
  Own ε (setsW w g 0 vs) (pts g (.cells vs.toArray T f) :: R) := by
 have key : ∀ (vs : List Value) (w : World) (cs : Array Value) (o : Nat), Own ε w (pts g (.cells cs T f) :: R) → Own ε (setsW w g o vs) (pts g (.cells (setsL cs.toList o vs).toArray T f) :: R) := by
  intro vs
  induction vs with
  | nil => intro w cs o H; simpa [setsW, setsL] using H
  | cons v vs ih =>
   intro w cs o H
   have := ih _ _ (o + 1) (H.set o v)
   rw [Array.toList_setIfInBounds] at this
   exact this
 have h1 := key vs w cs 0 H
 rwa [setsL_eq _ _ _ (by simp; omega), List.take_zero, List.nil_append, List.drop_of_length_le (by simp; omega), List.append_nil] at h1
end
section
variable {P : Program} {ops : Array Oper} {Q : Exit → Act → World → Prop} {d : Option Tmp} {ty : TypeId} {pos : String} {aft : Array Edge} {rest : List Oper} {a : Act} {ε w : World} {R : List Asn} {b : Nat} {T t : TypeId}
theorem wpList_store_own {x y : Operand} (cur vs : Array Value) (hx : a.eval x = .pointer (some ⟨b, 0, none⟩)) (hy : a.eval y = .agg vs) (H : Own ε w (pts b (.cells cur T (0, 0)) :: R)) (hi : (P.info? t).map (·.size) = some vs.size) (hs : cur.size = vs.size)
  (h1 : ∀ v ∈ vs.toList, v.oneCell' = true) (h : ∀ w', Own ε w' (pts b (.cells vs T (0, 0)) :: R) → wpList P ops Q rest (a.put d undef) w') : wpList P ops Q (⟨d, .store t x y, ty, pos, aft, none⟩ :: rest) a w := by
 refine wpList_plain rfl fun K' hK' => ?_
 have hg := H.blk
 have hst := run_storeCells_at P b 0 T vs.toList 0 cur w hg (by simp [hs]) h1
 have hrow : (cur.toList.take (0 + 0) ++ vs.toList ++ cur.toList.drop (0 + 0 + vs.toList.length)).toArray = vs := by
  rw [List.drop_of_length_le (by simp [hs])]; simp
 rw [hrow] at hst
 have H2 : Own ε (w.setRow b vs) (pts b (.cells vs T (0, 0)) :: R) := H.put rfl rfl rfl (setRow_heap w b cur _ T _ hg) (fun k _ hk => setRow_other w b k _ hk)
 cases hq : P.info? t with
 | none => simp [hq] at hi
 | some i =>
  have hsz : i.size = vs.size := by simpa [hq] using hi
  unfold Oper.wp execOp
  simp only [hx, hy]
  simp [Instr.storeAt, Instr.sureAddr, storeVar, sizeOf, typeInfo, hq, hsz, Value.cells, hst, Result.andThen]
  exact hK' _ _ (h _ H2)
end
end Go.Proofs.YtmkcpnlbicijoaaGreat
namespace Go.Proofs.YtmkcpnlbicijoaaGreat
open Go.RowKit
section
variable {ε w : World} {R : List Asn} {T : TypeId} {sz g n cap : Nat} {xs : List Value}
theorem Own.slc_setsW (H : Own ε w (slc T sz (.slice (some ⟨g, 0, none⟩) n cap) xs :: R)) (o : Nat) (vs : List Value) :
  Own ε (setsW w g o vs) (slc T sz (.slice (some ⟨g, 0, none⟩) n cap) (setsL xs o vs) :: R) := by
 induction vs generalizing w xs o with
 | nil => exact H
 | cons v vs ih => exact ih (H.slc_set o v) (o + 1)
theorem RingOk.item {sz P f : Nat} {pl items : List (List Value)} (h : RingOk sz P f pl items) {k : Nat} (hk : k < items.length) : items[k].length = sz ∧ ∀ u ∈ items[k], u.oneCell' = true := by
 have h1 := h.hold k hk
 have h2 := List.mem_of_getElem? h1
 exact ⟨h.wide _ h2, h.one _ h2⟩
theorem placeAt {P f : Nat} {pl items : List (List Value)} (h : RingOk sz P f pl items) (H : Own ε w (slc T sz (.slice (some ⟨g, 0, none⟩) P cap) pl.flatten :: R)) (p : Nat) (hp : p < P) :
  (∃ c, pl[p]? = some c ∧ c.length = sz ∧ (∀ u ∈ c, u.oneCell' = true) ∧ ∀ j, j < sz → w.cell? ⟨g, p * sz + j, none⟩ = c[j]?) ∧ (∀ i, w.frozen? ⟨g, i, none⟩ = false) ∧
  ∀ vs, vs.length = sz → Own ε (setsW w g (p * sz) vs) (slc T sz (.slice (some ⟨g, 0, none⟩) P cap) (pl.set p vs).flatten :: R) := by
 rcases H.slc_val with ⟨e, _⟩ | ⟨_, _, _, e, _, _, hl, hv, hf⟩
 ·cases e
 cases e
 have hpl : p < pl.length := by rw [h.len]; exact hp
 have hc : pl[p]? = some pl[p] := List.getElem?_eq_getElem hpl
 have hlen := h.wide pl[p] (List.getElem_mem hpl)
 refine ⟨⟨pl[p], hc, hlen, h.one _ (List.getElem_mem hpl), fun j hj => ?_⟩, hf, fun vs hvs => ?_⟩
 ·have h1 := flat_at (sz := sz) pl h.wide p j _ hc hj
  have h2 : pl[p][j]? = some (pl[p][j]'(by omega)) := List.getElem?_eq_getElem _
  rw [h2] at h1 ⊢
  exact hv _ _ h1
 ·have hfl := flat_len pl h.wide
  have hle : p * sz + vs.length ≤ pl.flatten.length := by
   rw [hfl, hvs, ← Nat.succ_mul]
   exact Nat.mul_le_mul_right sz hpl
  rw [flat_set pl h.wide p hpl vs hvs, ← setsL_eq _ _ _ hle]
  exact H.slc_setsW (p * sz) vs
end
theorem bodyPost_cell {P : Program} {fn : Func} {K : Ending → World → Prop} {a : Act} {w ε : World} {R : List Asn} {p u : Tmp} {ty : TypeId} {g : Nat} {cs : Array Value} {T : TypeId} {d : TypeDesc} {v : Value} (h : fn.results = #[.cell p ty, .tmp u]) (hp : a.tmps.getD p undef = .pointer (some ⟨g, 0, none⟩)) (hu : a.tmps.getD u undef = v)
  (hd : a.defers = []) (hty : P.underlying ty = some d) (hagg : (match d with | .struct _ | .array _ _ => true | _ => false) = true) (hi : (P.info? ty).map (·.size) = some cs.size) (H : Own ε w (pts g (.cells cs T (0, 0)) :: R)) (hR : K (.returned (.tuple #[.agg cs, v])) w) : bodyPost P fn K .ret a w := by
 refine bodyPost_ret (v := .tuple #[.agg cs, v]) ?_ hd hR
 rw [results_cell_tmp h, hp, hu]
 simp [asAddr, run_loadVar_row (P := P) w g T ty cs (0, 0) d H.blk hty hagg hi]
def atC (z : List Value) (l : List (List Value)) (i : Int) : List Value × Bool := if 0 ≤ i ∧ i < l.length then (l.getD i.toNat z, true) else (z, false)
theorem atC_in {z : List Value} {l : List (List Value)} {k : Nat} (hk : k < l.length) : atC z l k = (l[k], true) := by
 rw [atC, if_pos (by omega)]; simp [hk]
theorem atC_out {z : List Value} {l : List (List Value)} {i : Int} (h : i < 0 ∨ (l.length : Int) ≤ i) : atC z l i = (z, false) := if_neg (by omega)
theorem len_two {c : List Value} (h : c.length = 2) : ∃ a0 a1, c = [a0, a1] := by
 match c, h with
 | [a, b], _ => exact ⟨a, b, rfl⟩
end Go.Proofs.YtmkcpnlbicijoaaGreat
namespace Go.Proofs.YtmkcpnlbicijoaaGreat
open Go.RowKit
structure Pk where
 n : Int
 size : Int
 sent : Int
 first : Int
 deliv : Int
 at' : Int
 lim : Bool
deriving DecidableEq
def Pk.zero : Pk := ⟨0, 0, 0, 0, 0, 0, false⟩
def Pk.bare (n size : Int) : Pk := ⟨n, size, 0, 0, 0, 0, false⟩
def Pk.cells (p : Pk) : List Value := [.int .u64 p.n, .int .u64 p.size, .int .u64 p.sent, .int .u64 p.first, .int .u64 p.deliv, .int .u64 p.at', .bool p.lim]
def Pk.Ok (p : Pk) : Prop := U p.n ∧ U p.size ∧ U p.sent ∧ U p.first ∧ U p.deliv ∧ U p.at'
instance instPkOk (p : Pk) : Decidable p.Ok := inferInstanceAs (Decidable (_ ∧ _ ∧ _ ∧ _ ∧ _ ∧ _))
theorem Pk.one (p : Pk) : ∀ u ∈ p.cells, u.oneCell' = true := by
 intro u h
 simp only [Pk.cells, List.mem_cons, List.not_mem_nil, or_false] at h
 rcases h with h | h | h | h | h | h | h <;> (rw [h]; rfl)
theorem Pk.inj {p q : Pk} (h : p.cells = q.cells) : p = q := by
 obtain ⟨a, b, c, d, e, f, g⟩ := p
 obtain ⟨a', b', c', d', e', f', g'⟩ := q
 simp only [Pk.cells, List.cons.injEq, Value.int.injEq, Value.bool.injEq, true_and, and_true] at h
 obtain ⟨rfl, rfl, rfl, rfl, rfl, rfl, rfl⟩ := h
 rfl
def pks (l : List Pk) : List (List Value) := l.map Pk.cells
def headP (l : List Pk) : Pk × Bool := match l with
 | [] => (Pk.zero, false)
 | p :: _ => (p, true)
theorem pks_len (l : List Pk) : (pks l).length = l.length := List.length_map ..
theorem flat_pks_len (l : List Pk) : (pks l).flatten.length = l.length * 7 := by
 rw [flat_len (sz := 7) _ (by intro c hc; obtain ⟨p, _, rfl⟩ := List.mem_map.1 hc; rfl), pks_len]
theorem pks_append (l m : List Pk) : pks (l ++ m) = pks l ++ pks m := List.map_append ..
theorem pks_snoc (l : List Pk) (p : Pk) : pks (l ++ [p]) = pks l ++ [p.cells] := by rw [pks_append]; rfl
theorem flat_pks_snoc (l : List Pk) (p : Pk) : (pks (l ++ [p])).flatten = (pks l).flatten ++ p.cells := by rw [pks_snoc]; simp
abbrev slcP (v : Value) (l : List Pk) : Asn := slc 41 7 v (pks l).flatten
theorem flat_pks_at (l : List Pk) (i j : Nat) (hi : i < l.length) (u : Value) (hu : l[i].cells[j]? = some u) : (pks l).flatten[i * 7 + j]? = some u := by
 have hj : j < 7 := by
  rcases Nat.lt_or_ge j 7 with h | h
  ·exact h
  ·rw [List.getElem?_eq_none (by simpa [Pk.cells] using h)] at hu; cases hu
 rw [flat_at (sz := 7) (pks l) (by intro c hc; obtain ⟨p, _, rfl⟩ := List.mem_map.1 hc; rfl) i j l[i].cells (by simp [pks, hi]) hj]
 exact hu
def Pk.beq (p q : Pk) : Bool := decide (p = q)
theorem run_eqI_pk (a0 a1 a2 a3 a4 a5 b0 b1 b2 b3 b4 b5 : Int) (a6 b6 : Bool) (w : World) : (Op.equalIn 10000 41 (.agg #[.int .u64 a0, .int .u64 a1, .int .u64 a2, .int .u64 a3, .int .u64 a4, .int .u64 a5, .bool a6]) (.agg #[.int .u64 b0, .int .u64 b1, .int .u64 b2, .int .u64 b3, .int .u64 b4, .int .u64 b5, .bool b6])).run Tryz.prog w = .ok (Pk.beq ⟨a0, a1, a2, a3, a4, a5, a6⟩ ⟨b0, b1, b2, b3, b4, b5, b6⟩) w := by
 unfold Pk.beq
 have u1 := Tryz.underlying41
 have u2 := Tryz.underlying39
 have u3 := Tryz.underlying22
 have u4 := Tryz.underlying4
 have s1 := Tryz.isAgg41
 have s2 := Tryz.isAgg39
 have s3 := Tryz.isAgg22
 have s4 := Tryz.isAgg4
 have z1 := Tryz.sizeOf41
 have z2 := Tryz.sizeOf39
 rw [show (10000 : Nat) = 9999 + 1 from rfl, run_equalIn_agg _ _ _ _ _ (by kernel_rfl) (by kernel_rfl)]
 simp only [Program.fieldsOf, u1]
 go_simp
 (repeat' split) <;> simp_all
@[go_sem ↓] theorem run_eql_pk (a0 a1 a2 a3 a4 a5 b0 b1 b2 b3 b4 b5 : Int) (a6 b6 : Bool) (w : World) : (binOp .eql 41 (.agg #[.int .u64 a0, .int .u64 a1, .int .u64 a2, .int .u64 a3, .int .u64 a4, .int .u64 a5, .bool a6]) (.agg #[.int .u64 b0, .int .u64 b1, .int .u64 b2, .int .u64 b3, .int .u64 b4, .int .u64 b5, .bool b6])).run Tryz.prog w = .ok (.bool (Pk.beq ⟨a0, a1, a2, a3, a4, a5, a6⟩ ⟨b0, b1, b2, b3, b4, b5, b6⟩)) w := by
 rw [run_eql_struct, run_eqI_pk]; rfl
@[go_sem ↓] theorem run_neq_pk (a0 a1 a2 a3 a4 a5 b0 b1 b2 b3 b4 b5 : Int) (a6 b6 : Bool) (w : World) : (binOp .neq 41 (.agg #[.int .u64 a0, .int .u64 a1, .int .u64 a2, .int .u64 a3, .int .u64 a4, .int .u64 a5, .bool a6]) (.agg #[.int .u64 b0, .int .u64 b1, .int .u64 b2, .int .u64 b3, .int .u64 b4, .int .u64 b5, .bool b6])).run Tryz.prog w = .ok (.bool (!Pk.beq ⟨a0, a1, a2, a3, a4, a5, a6⟩ ⟨b0, b1, b2, b3, b4, b5, b6⟩)) w := by
 rw [run_neq_struct, run_eqI_pk]; rfl
def pkAt (w : World) (A : Option Addr) (n : Nat) (l : List Pk) : Prop := l.length = n ∧ ∀ i, ∀ h : i < l.length, ∃ g off, A = some ⟨g, off, none⟩ ∧ ∀ j u, l[i].cells[j]? = some u → w.cell? ⟨g, off + i * 7 + j, none⟩ = some u
theorem pkAt.drewN {w : World} {A : Option Addr} {n : Nat} {l : List Pk} (h : pkAt w A n l) (m : Nat) : pkAt (w.drewN m) A n l := h
theorem Own.slcP_val {ε w : World} {R : List Asn} {v : Value} {l : List Pk} (H : Own ε w (slcP v l :: R)) : ∃ A n cap, v = .slice A n cap ∧ n ≤ cap ∧ cap ≤ maxLen ∧ pkAt w A n l := by
 rcases H.slc_val with ⟨rfl, h⟩ | ⟨g, n, cap, rfl, h1, h2, h3, h4, _⟩
 ·have hl : l = [] := by
   have := flat_pks_len l
   rw [h] at this
   refine List.eq_nil_of_length_eq_zero ?_
   simp only [List.length_nil] at this
   omega
  subst hl
  exact ⟨none, 0, 0, rfl, Nat.le_refl _, Nat.zero_le _, rfl, fun i hi => by simp at hi⟩
 ·rw [flat_pks_len] at h3
  have hl : l.length = n := Nat.eq_of_mul_eq_mul_right (by decide) h3
  exact ⟨_, n, cap, rfl, h1, h2, hl, fun i hi => ⟨g, 0, rfl, fun j u hu => by rw [Nat.zero_add]; exact h4 _ _ (flat_pks_at l i j hi u hu)⟩⟩
theorem pkAt.cells {w : World} {A : Option Addr} {n : Nat} {l : List Pk} (h : pkAt w A n l) {i : Nat} (hi : i < n) : ∃ g off p, A = some ⟨g, off, none⟩ ∧ l[i]? = some p ∧ (w.cell? ⟨g, off + i * 7, none⟩ = some (.int .u64 p.n) ∧ w.cell? ⟨g, off + i * 7 + 1, none⟩ = some (.int .u64 p.size) ∧ w.cell? ⟨g, off + i * 7 + 2, none⟩ = some (.int .u64 p.sent) ∧ w.cell? ⟨g, off + i * 7 + 3, none⟩ = some (.int .u64 p.first) ∧ w.cell? ⟨g, off + i * 7 + 4, none⟩ = some (.int .u64 p.deliv) ∧ w.cell? ⟨g, off + i * 7 + 5, none⟩ = some (.int .u64 p.at') ∧ w.cell? ⟨g, off + i * 7 + 6, none⟩ = some (.bool p.lim)) := by
 obtain ⟨hl, h⟩ := h
 obtain ⟨g, off, e, hc⟩ := h i (by omega)
 exact ⟨g, off, l[i]'(by omega), e, List.getElem?_eq_getElem (by omega), hc 0 _ rfl, hc 1 _ rfl, hc 2 _ rfl, hc 3 _ rfl, hc 4 _ rfl, hc 5 _ rfl, hc 6 _ rfl⟩
end Go.Proofs.YtmkcpnlbicijoaaGreat
namespace Go.Proofs.YtmkcpnlbicijoaaGreat
open Go.RowKit
structure En where
 b : Nat
 p : Pk
 o : Bool
def En.obj (e : En) : Obj := .cells #[.int .u64 e.p.n, .int .u64 e.p.size, .int .u64 e.p.sent, .int .u64 e.p.first, .int .u64 e.p.deliv, .int .u64 e.p.at', .bool e.p.lim, .bool e.o] 185 (0, 0)
def ents : List En → Asn
 | [] => emp
 | e :: l => sep (pts e.b e.obj) (ents l)
theorem emp_sep {A : Asn} {h : PH} (x : A h) : sep emp A h := ⟨fun _ => none, h, fun _ => rfl, x, fun _ => .inl rfl, fun k => by simp⟩
theorem ents_at : ∀ (l : List En) (i : Nat) (e : En), l[i]? = some e → ∀ h, ents l h → sep (pts e.b e.obj) (ents (l.eraseIdx i)) h
 | [], i, e, hi, _, _ => by simp at hi
 | x :: l, 0, e, hi, h, H => by
  obtain rfl : x = e := by simpa using hi
  exact H
 | x :: l, i + 1, e, hi, h, H => sep_left (sep_imp H (fun _ q => q) (fun h' q => ents_at l i e (by simpa using hi) h' q))
theorem ents_of : ∀ (l : List En) (i : Nat) (e : En), l[i]? = some e → ∀ h, sep (pts e.b e.obj) (ents (l.eraseIdx i)) h → ents l h
 | [], i, e, hi, _, _ => by simp at hi
 | x :: l, 0, e, hi, h, H => by
  obtain rfl : x = e := by simpa using hi
  exact H
 | x :: l, i + 1, e, hi, h, H => sep_imp (sep_left (show sep (pts e.b e.obj) (sep (pts x.b x.obj) (ents (l.eraseIdx i))) h from H)) (fun _ q => q) (fun h' q => ents_of l i e (by simpa using hi) h' q)
section
variable {ε w : World} {R : List Asn}
theorem Own.ents_at {l : List En} {i : Nat} {e : En} (H : Own ε w (ents l :: R)) (hi : l[i]? = some e) : Own ε w (pts e.b e.obj :: ents (l.eraseIdx i) :: R) := (H.imp fun _ => Go.Proofs.YtmkcpnlbicijoaaGreat.ents_at l i e hi _).split
theorem Own.ents_set {l : List En} {i : Nat} {e' : En} (hi : i < l.length) (H : Own ε w (pts e'.b e'.obj :: ents (l.eraseIdx i) :: R)) : Own ε w (ents (l.set i e') :: R) :=
 H.join.imp fun _ q => ents_of (l.set i e') i e' (by simp [hi]) _ (by rw [List.eraseIdx_set_eq]; exact q)
theorem Own.ents_back {l : List En} {i : Nat} {e : En} (hi : l[i]? = some e) (H : Own ε w (pts e.b e.obj :: ents (l.eraseIdx i) :: R)) : Own ε w (ents l :: R) :=
 H.join.imp fun _ q => ents_of l i e hi _ q
theorem Own.ents_snoc {l : List En} {e : En} (H : Own ε w (pts e.b e.obj :: ents l :: R)) : Own ε w (ents (l ++ [e]) :: R) :=
 H.join.imp fun _ q => ents_of (l ++ [e]) l.length e (by simp) _ (by rw [List.eraseIdx_append_of_length_le (Nat.le_refl _)]; simpa using q)
theorem Own.ents_tail {l : List En} {e : En} (H : Own ε w (ents (e :: l) :: R)) : Own ε w (ents l :: R) := (H.imp fun _ q => (show sep (pts e.b e.obj) (ents l) _ from q)).split.tail
theorem Own.ents_nil (H : Own ε w R) : Own ε w (ents [] :: R) := H.map fun _ x => emp_sep x
end
structure Led where
 re : Int
 next : Int
 top : Int
 some : Bool
 row : List En
abbrev ledN (b rb : Nat) (s : Led) : Asn := pts b (.cells #[.pointer (some ⟨rb, 0, none⟩), .int .u64 s.re, .int .u64 s.next, .int .u64 s.top, .bool s.some] 116 (0, 0))
abbrev blks (l : List En) : List Nat := l.map (·.b)
def led (b : Nat) (s : Led) : Asn := exA fun rb : Nat => sep (ledN b rb s) (sep (ringL rb (blks s.row)) (ents s.row))
section
variable {ε w : World} {R : List Asn} {b : Nat} {s : Led}
theorem Own.led_open (H : Own ε w (led b s :: R)) : ∃ rb, Own ε w (ledN b rb s :: ringL rb (blks s.row) :: ents s.row :: R) := by
 obtain ⟨rb, H⟩ := H.ex
 exact ⟨rb, H.split.under fun _ q => sep_assoc2 q⟩
theorem Own.led_mk {rb : Nat} (H : Own ε w (ledN b rb s :: ringL rb (blks s.row) :: ents s.row :: R)) : Own ε w (led b s :: R) :=
 Own.ex_mk rb (Own.join (Own.under (L' := sep (ringL rb (blks s.row)) (ents s.row) :: R) H fun _ q => sep_assoc1 q))
end
def outs (l : List En) : List Pk := (l.filter (·.o)).map (·.p)
def taken (is : Pk → Bool) (l : List En) : List Pk := (l.filter fun e => e.o && is e.p).map (·.p)
def En.mark (is : Pk → Bool) (e : En) : En := { e with o := e.o && !is e.p }
def marked (is : Pk → Bool) (l : List En) : List En := l.map (En.mark is)
def Led.take (is : Pk → Bool) (s : Led) : Led := { s with row := (marked is s.row).dropWhile (fun e => !e.o) }
end Go.Proofs.YtmkcpnlbicijoaaGreat
namespace Go.Proofs.YtmkcpnlbicijoaaGreat
open Go.RowKit
def lrec (fn : FuncId) (tmps : Array Value) (ps : Array Tmp) (assign body : Code) (D : Nat) (st : LoopState) (pe : Option Code) : Loop := { state := st, pending := pe, fn, tmps, params := ps, assign, body, defers := D }
theorem Own.putObj {ε w : World} {R : List Asn} {b : Nat} {o : Obj} (o' : Obj) (H : Own ε w (pts b o :: R)) : Own ε (w.putObj b o') (pts b o' :: R) :=
 H.put rfl rfl rfl (World.putObj_heap_same (Array.getElem?_eq_some_iff.1 H.blk).1) (fun _ _ hk => World.putObj_heap_other hk)
def roundOut (ε : World) (l : Nat) (rec : LoopState → Option Code → Loop) (Rp : Ending → World → Prop) : Exit → World → Prop
 | .normal, W => ∃ B, Own ε W (pts l (.loop (rec .busy none)) :: B) ∧ ∀ W2, Own ε W2 (pts l (.loop (rec .ready none)) :: B) → Rp (.returned (.bool true)) W2
 | .ret, W => ∃ B, Own ε W (pts l (.loop (rec .busy none)) :: B) ∧ ∀ W2, Own ε W2 (pts l (.loop (rec .done (some .ret))) :: B) → Rp (.returned (.bool false)) W2
 | .exit id, W => ∃ B, Own ε W (pts l (.loop (rec .busy none)) :: B) ∧ ∀ W2, Own ε W2 (pts l (.loop (rec .done (some (.exit id)))) :: B) → Rp (.returned (.bool false)) W2
 | _, _ => False
section
variable {P : Program} {ε : World} {m l D fn : Nat} {tmps : Array Value} {ps : Array Tmp} {assign body : Code}
theorem yieldAt_own {W : World} {args : Array Value} (hs : args.size = ps.size) {A : List Asn} {Rp : Ending → World → Prop} (H : Own ε W (pts l (.loop (lrec fn tmps ps assign body D .ready none)) :: A))
  (hwalk : assign.wpIn (Fence.wide.inRound l) m P (Exit.then (fun a' W' => ∃ A', Own ε W' (pts l (.loop (lrec fn tmps ps assign body D .ready none)) :: A') ∧
    ∀ W2, Own ε W2 (pts l (.loop (lrec fn tmps ps assign body D .busy none)) :: A') → body.wpIn (Fence.wide.inRound l) m P (fun e _ W3 => roundOut ε l (lrec fn tmps ps assign body D) Rp e W3) a' W2) (fun _ _ _ => False))
   { tmps := (ps.zip args).foldl (fun t (p, v) => t.setIfInBounds p v) tmps, defers := [] } W) :
  YieldAt Fence.wide m P l args W Rp := by
 refine ⟨fn, _, assign, body, run_yield H.blk hs, roundIn_of_wpIn trivial (wpIn_mono hwalk ?_)⟩
 rintro e a' W' hq
 cases e with
 | normal =>
  obtain ⟨A', H', hb⟩ := hq
  refine ⟨_, run_beginRound H'.blk rfl, ?_⟩
  refine wpIn_mono (hb _ (H'.putObj _)) ?_
  rintro e a3 W3 hr
  cases e with
  | normal =>
   obtain ⟨B, HB, hR⟩ := hr
   exact ⟨_, _, run_endRound none HB.blk, hR _ (HB.putObj _)⟩
  | ret =>
   obtain ⟨B, HB, hR⟩ := hr
   exact ⟨_, _, run_endRound (some .ret) HB.blk, hR _ (HB.putObj _)⟩
  | exit id =>
   obtain ⟨B, HB, hR⟩ := hr
   exact ⟨_, _, run_endRound (some (.exit id)) HB.blk, hR _ (HB.putObj _)⟩
  | goto t => exact hr.elim
  | panic c => exact hr.elim
  | outgrown => exact hr.elim
 | _ => exact hq.elim
theorem wpIn_rangeFunc_sep {n : Nat} {g : Operand} {Q : Exit → Act → World → Prop} {a : Act} {w : World} {gf : Nat} {lb : Array Value} (hg : a.eval g = .func (.func gf) #[] lb) (eg : ∀ args w, (callFunc gf args).run P w = .ok (.enter gf args) w)
  {A : List Asn} (H : Own ε w A)
  (hit : ∀ fn l D W, Own ε W (pts l (.loop (lrec fn a.tmps ps assign body D .ready none)) :: pts D (.deferred (some [])) :: A) →
   CallsIn Fence.wide (n - 1) P gf (#[.func (.yield l) #[] #[]] ++ lb) W fun e W2 => (∃ v, e = .returned v) ∧
    ((∃ B, Own ε W2 (pts l (.loop (lrec fn a.tmps ps assign body D .ready none)) :: pts D (.deferred (some [])) :: B) ∧ ∀ W3, Own ε W3 (pts D (.deferred (some [])) :: B) → Q .normal { a with defers := { target := .collected D, args := #[] } :: a.defers } W3) ∨
     (∃ c B, Own ε W2 (pts l (.loop (lrec fn a.tmps ps assign body D .done (some c))) :: pts D (.deferred (some [])) :: B) ∧ ∀ W3, Own ε W3 (pts D (.deferred (some [])) :: B) → c.wpIn Fence.wide n P Q { a with defers := { target := .collected D, args := #[] } :: a.defers } W3))) :
  (Code.rangeFunc g ps assign body).wpIn Fence.wide n P Q a w := by
 refine wpIn_rangeFunc ?_
 intro fn hfn
 have H1 := (H.alloc (.deferred (some []))).alloc (.loop (lrec fn a.tmps ps assign body w.heap.size .ready none))
 rw [World.size_alloc] at H1
 have he := run_enterLoop_outer (P := P) (w := w) fn a.tmps ps assign body
 obtain ⟨W1, hW1⟩ : ∃ W1, (w.alloc (.deferred (some []))).alloc (.loop (lrec fn a.tmps ps assign body w.heap.size .ready none)) = W1 := ⟨_, rfl⟩
 rw [hW1] at H1
 replace he : (Instr.enterLoop fn a.tmps ps assign body none).run P w = .ok (w.heap.size + 1, [{ target := .collected w.heap.size, args := #[] }]) W1 := by rw [← hW1]; exact he
 clear hW1
 refine ⟨w.heap.size + 1, [{ target := .collected w.heap.size, args := #[] }], W1, { target := .fn (.func gf) lb, args := #[.func (.yield (w.heap.size + 1)) #[] #[]] }, W1, gf,
  #[.func (.yield (w.heap.size + 1)) #[] #[]] ++ lb, W1, he, ?_, fun _ _ => trivial, ?_, fun h => by simp [Fence.wide] at h, ?_⟩
 ·simp only [resolve, hg]
  simp [go_sem]
 ·simp [invoke, go_sem, eg]
 ·refine (hit fn _ _ _ H1).mono ?_
  rintro e W2 ⟨⟨v, rfl⟩, (⟨B, HB, hd⟩ | ⟨c, B, HB, hd⟩)⟩
  ·exact ⟨none, _, run_endLoop HB.blk (by simp [lrec]), hd _ (HB.putObj _).tail⟩
  ·exact ⟨some c, _, run_endLoop HB.blk (by simp [lrec]), hd _ (HB.putObj _).tail⟩
end
end Go.Proofs.YtmkcpnlbicijoaaGreat
