/- Steps of a walk by laws: a new variable, a box, a slice of one item, its append. -/
import Derived.Test.YtlhncdbigjgmnaaSlc
import Derived.Test.YtlhncdbigjgmnaaSet
import Derived.Great.BuildSlice
namespace Go.Proofs.Ytlhncdbigjgmnaa
open Go.RowKit
theorem Own.slc_isv {ε w : World} {R : List Asn} {T : TypeId} {sz : Nat} {v : Value} {xs : List Value} (H : Own ε w (slc T sz v xs :: R)) : ∃ A n c, v = .slice A n c := by
  rcases H.slc_open with ⟨rfl, _⟩ | ⟨g, n, cap, cur, rfl, _⟩ <;> exact ⟨_, _, _, rfl⟩
section
variable {P : Program} {ops : Array Oper} {Q : Exit → Act → World → Prop} {d : Option Tmp} {ty : TypeId} {pos : String} {aft : Array Edge} {rest : List Oper} {a : Act} {ε w : World} {R : List Asn}
theorem wpList_alloc_own {e : TypeId} (H : Own ε w R) (Z : List Value) (hz : ((P.info? e).bind (·.zero)).map (·.cells) = some Z.toArray)
    (h : ∀ g w', Own ε w' (pts g (.cells Z.toArray e (0, 0)) :: R) → wpList P ops Q rest (a.put d (.pointer (some ⟨g, 0, none⟩))) w') : wpList P ops Q (⟨d, .alloc e, ty, pos, aft, none⟩ :: rest) a w := by
  refine wpList_plain rfl fun K hK => ?_
  cases hq : P.info? e with
  | none => simp [hq] at hz
  | some i =>
    cases hy : i.zero with
    | none => simp [hq, hy] at hz
    | some z =>
      have hzc : z.cells = Z.toArray := by simpa [hq, hy] using hz
      unfold Oper.wp execOp
      simp [Instr.alloc, zeroValue, typeInfo, hq, hy, newVar, newRow, hzc]
      exact hK _ _ (h _ _ (H.alloc _))
theorem wpList_box_own {e : TypeId} {x : Operand} (H : Own ε w R) (V : List Value) (hv : (a.eval x).cells = V.toArray)
    (h : ∀ g w', Own ε w' (pts g (.cells V.toArray e (0, 0)) :: R) → wpList P ops Q rest (a.put d (.pointer (some ⟨g, 0, none⟩))) w') : wpList P ops Q (⟨d, .box e x, ty, pos, aft, none⟩ :: rest) a w := by
  refine wpList_plain rfl fun K hK => ?_
  unfold Oper.wp execOp
  simp [Instr.box, newVar, newRow, hv]
  exact hK _ _ (h _ _ (H.alloc _))
theorem fill_one (V Z : Array Value) (hs : V.size = Z.size) : V.zipIdx.foldl (fun cs (c, j) => cs.setIfInBounds (0 + j) c) Z = V := by
  have key : ∀ (l : List Value) (o : Nat) (cs : Array Value), o + l.length ≤ cs.size → (l.zipIdx o).foldl (fun cs (x : Value × Nat) => cs.setIfInBounds (0 + x.2) x.1) cs = (cs.toList.take o ++ l ++ cs.toList.drop (o + l.length)).toArray := by
    intro l
    induction l with
    | nil => intro o cs _; simp
    | cons v l ih =>
      intro o cs h
      simp only [List.length_cons] at h
      rw [List.zipIdx_cons, List.foldl_cons, ih (o + 1) _ (by simp; omega)]
      have e1 : (cs.setIfInBounds (0 + o) v).toList.take (o + 1) = cs.toList.take o ++ [v] := by
        rw [Array.toList_setIfInBounds, Nat.zero_add, List.take_succ_eq_append_getElem (by simp; omega), List.take_set_of_le (Nat.le_refl o)]
        simp
      have e2 : (cs.setIfInBounds (0 + o) v).toList.drop (o + 1 + l.length) = cs.toList.drop (o + (l.length + 1)) := by
        rw [Array.toList_setIfInBounds, Nat.zero_add, List.drop_set_of_lt (by omega)]
        congr 1; omega
      rw [e1, e2]; simp
  obtain ⟨V⟩ := V
  have h := key V 0 Z (by simp at hs; omega)
  simp only [List.size_toArray] at hs
  rw [List.drop_of_length_le (by simp; omega)] at h
  simpa using h
/-- A slice of one item of several cells. -/
theorem wpList_bs1_own {t e : TypeId} {x : Operand} (H : Own ε w R) (V : Array Value) (sz bytes : Nat) (hu : P.underlying t = some (.slice e)) (hel : elOk P e sz bytes = true) (hsz : 0 < sz) (hs2 : sz ≤ 16777216) (hv : (a.eval x).cells = V) (hV : V.size = sz)
    (h : ∀ g w', Own ε w' (pts g (.cells V e (0, 0)) :: R) → wpList P ops Q rest (a.put d (.slice (some ⟨g, 0, none⟩) 1 1)) w') : wpList P ops Q (⟨d, .buildSlice t 1 #[(0, x)], ty, pos, aft, none⟩ :: rest) a w := by
  obtain ⟨i, z, hi, hsize, hby, hz, hzs⟩ := elOk_spec hel
  refine wpList_buildSlice rfl t e 1 #[(0, x)] rfl V i z hu hi hz (by rw [hsize]; omega) (by rw [hsize]; omega) ?_ (h _ _ (H.alloc _))
  simp only [List.map_toArray, List.map_cons, List.map_nil, Instr.fill, hv, Nat.zero_mul, Nat.one_mul, Nat.zero_add]
  have hsv : V.size = i.size := by rw [hV, hsize]
  have hsz2 : ((Array.range i.size).map (z.cells[· % z.cells.size]!)).size = i.size := by simp
  rw [if_neg (by rw [hsv, hsz2]; simp)]
  have := fill_one V ((Array.range i.size).map (z.cells[· % z.cells.size]!)) (by rw [hsz2, hsv])
  simp only [Nat.zero_add] at this
  rw [this]
/-- A store of all cells of an owned block, at the operation alone. -/
theorem wp_store_own {o : Oper} {t T : TypeId} {x y : Operand} {b : Nat} {K : Act → World → Prop} (cur vs : Array Value) (ho : o.op = .store t x y) (hx : a.eval x = .pointer (some ⟨b, 0, none⟩)) (hy : a.eval y = .agg vs) (H : Own ε w (pts b (.cells cur T (0, 0)) :: R)) (hi : (P.info? t).map (·.size) = some vs.size) (hs : cur.size = vs.size)
    (h1 : ∀ v ∈ vs.toList, v.oneCell' = true) (h : ∀ w', Own ε w' (pts b (.cells vs T (0, 0)) :: R) → K (a.put o.dst undef) w') : o.wp P a w K Q := by
  have hg := H.blk
  have hst := run_storeCells_at P b 0 T vs.toList 0 cur w hg (by simp [hs]) h1
  have hrow : (cur.toList.take (0 + 0) ++ vs.toList ++ cur.toList.drop (0 + 0 + vs.toList.length)).toArray = vs := by
    rw [List.drop_of_length_le (by simp [hs])]; simp
  rw [hrow] at hst
  have H2 : Own ε (w.setRow b vs) (pts b (.cells vs T (0, 0)) :: R) := H.put rfl rfl rfl (setRow_heap w b cur _ T _ hg) (fun k _ hk => setRow_other w b k _ hk)
  cases hq : P.info? t with
  | none => simp [hq] at hi
  | some i =>
    have hsz : i.size = vs.size := by simpa [hq] using hi
    unfold Oper.wp execOp
    simp only [ho, hx, hy]
    simp [Instr.storeAt, Instr.sureAddr, storeVar, sizeOf, typeInfo, hq, hsz, Value.cells, hst, Result.andThen]
    exact h _ H2
/-- A store of one cell of an owned block. -/
theorem wpList_store1_own {t T : TypeId} {x y : Operand} {cur : Array Value} {b k : Nat} {v : Value} (hx : a.eval x = .pointer (some ⟨b, k, none⟩)) (hy : a.eval y = v) (H : Own ε w (pts b (.cells cur T (0, 0)) :: R)) (hi : (P.info? t).map (·.size) = some 1) (hk : k < cur.size)
    (h1 : v.oneCell' = true) (h : ∀ w', Own ε w' (pts b (.cells (cur.setIfInBounds k v) T (0, 0)) :: R) → wpList P ops Q rest (a.put d undef) w') : wpList P ops Q (⟨d, .store t x y, ty, pos, aft, none⟩ :: rest) a w := by
  refine wpList_plain rfl fun K' hK' => ?_
  have hg := H.blk
  have hst := run_storeCells_at P b k T [v] 0 cur w hg (by simp; omega) (fun u hu => by rw [List.mem_singleton.1 hu]; exact h1)
  have hrow : (cur.toList.take (k + 0) ++ [v] ++ cur.toList.drop (k + 0 + [v].length)).toArray = cur.setIfInBounds k v := by
    apply Array.ext'
    simp only [Nat.add_zero, List.length_singleton, Array.toList_setIfInBounds]
    rw [List.set_eq_take_append_cons_drop, if_pos (by simpa using hk)]
    simp
  rw [hrow] at hst
  have H2 : Own ε (w.setRow b (cur.setIfInBounds k v)) (pts b (.cells (cur.setIfInBounds k v) T (0, 0)) :: R) := H.put rfl rfl rfl (setRow_heap w b cur _ T _ hg) (fun j _ hj => setRow_other w b j _ hj)
  have hc : v.cells = #[v] := by cases v <;> first | rfl | cases h1
  cases hq : P.info? t with
  | none => simp [hq] at hi
  | some i =>
    have hsz : i.size = 1 := by simpa [hq] using hi
    unfold Oper.wp execOp
    simp only [hx, hy]
    simp [Instr.storeAt, Instr.sureAddr, storeVar, sizeOf, typeInfo, hq, hsz, hc, hst, Result.andThen]
    exact hK' _ _ (h _ H2)
/-- A slice literal, its cells told. -/
theorem wpList_bsv_own {t e : TypeId} {len : Nat} {parts : Array (Nat × Operand)} (H : Own ε w R) (V : List Value) (sz bytes : Nat) (Z : List Value) (hu : P.underlying t = some (.slice e)) (hel : elOk P e sz bytes = true) (hz : ((P.info? e).bind (·.zero)).map (·.cells) = some Z.toArray) (h1 : 0 < len * sz) (h2 : len * sz ≤ 16777216)
    (hf : Instr.fill (fun i => some (i * sz, sz)) ((Array.range (len * sz)).map (Z.toArray[· % Z.toArray.size]!)) (parts.map fun (i, x) => (i, a.eval x)).toList = some V.toArray)
    (h : ∀ g w', Own ε w' (pts g (.cells V.toArray e (0, 0)) :: R) → wpList P ops Q rest (a.put d (.slice (some ⟨g, 0, none⟩) len len)) w') : wpList P ops Q (⟨d, .buildSlice t len parts, ty, pos, aft, none⟩ :: rest) a w := by
  obtain ⟨i, z, hi, hsize, hby, hzz, hzs⟩ := elOk_spec hel
  have hzc : z.cells = Z.toArray := by simpa [hi, hzz] using hz
  subst hsize
  refine wpList_buildSlice rfl t e len parts rfl V.toArray i z hu hi hzz (by omega) (by omega) ?_ (h _ _ (H.alloc _))
  rw [hzc]; exact hf
/-- A slice of no items. -/
theorem wpList_bs0_own {t e : TypeId} (H : Own ε w R) (sz bytes : Nat) (hu : P.underlying t = some (.slice e)) (hel : elOk P e sz bytes = true)
    (h : ∀ g w', Own ε w' (slc e sz (.slice (some ⟨g, 0, none⟩) 0 0) [] :: R) → wpList P ops Q rest (a.put d (.slice (some ⟨g, 0, none⟩) 0 0)) w') : wpList P ops Q (⟨d, .buildSlice t 0 #[], ty, pos, aft, none⟩ :: rest) a w := by
  refine wpList_plain rfl fun K hK => ?_
  obtain ⟨i, z, hi, hsize, hby, hz, hzs⟩ := elOk_spec hel
  unfold Oper.wp execOp
  have e0 : ∀ f : Nat → Value, (Array.range 0).map f = #[] := fun f => by simp [Array.range]
  simp [Instr.buildSlice, run_underlying hu, sizeOf, typeInfo, hi, Instr.fill, newRow]
  rw [e0]
  have h2 := h w.heap.size (w.alloc (.cells #[] e (0, 0))) ((H.alloc (.cells #[] e (0, 0))).slc_all (sz := sz) (n := 0) (by decide) (by simp))
  exact hK _ _ h2
/-- One item more: its cells come out of a block that is owned. -/
theorem wpList_app1_own {o : Oper} (hgd : o.guard = none) (s x : Operand) (t : TypeId)
    (ho : o.op = .call { callee := .builtin .append, args := #[s, x], argTypes := #[t, t] }) (e : TypeId) (sz bytes : Nat) (ht : P.underlying t = some (.slice e)) (hel : elOk P e sz bytes = true) (hsz : 0 < sz)
    {v : Value} {xs : List Value} {g c : Nat} {V : Array Value} {T : TypeId} (n : Nat)
    (hv : a.eval s = v) (hx : a.eval x = .slice (some ⟨g, 0, none⟩) 1 c) (H : Own ε w (pts g (.cells V T (0, 0)) :: slc e sz v xs :: R)) (hn : xs.length = n * sz)
    (hV : V.size = sz) (h1 : ∀ u ∈ V.toList, u.oneCell' = true) (h63 : n + 1 ≤ maxLen) (hb : (n + 1) * bytes ≤ 140737488355328)
    (h : ∀ v' w', Own ε w' (slc e sz v' (xs ++ V.toList) :: R) → wpList P ops Q rest (a.put o.dst v') w') : wpList P ops Q (o :: rest) a w :=
  wpList_append_slc hgd s x t ho e sz bytes ht hel hsz hv H.r2 hx hn ⟨by simp [hV], .inr ⟨g, 0, rfl, fun j u hj => by rw [Nat.zero_add, H.cells.1 j]; simpa using hj⟩⟩ h1 h63 hb fun v' w' h2 => h v' w' h2.r2.tail
end
end Go.Proofs.Ytlhncdbigjgmnaa
