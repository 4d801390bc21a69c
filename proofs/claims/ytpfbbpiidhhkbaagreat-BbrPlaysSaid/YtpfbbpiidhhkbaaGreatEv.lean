/- Steps of a walk by laws: a new variable, a box, a slice of one item, its append. -/
import Derived.Test.YtpfbbpiidhhkbaaGreatMixK
import Derived.Test.YtpfbbpiidhhkbaaGreatSlc
import Derived.Test.YtpfbbpiidhhkbaaGreatRingC
import Derived.Great.BuildSlice
namespace Go.Proofs.YtpfbbpiidhhkbaaGreat
open Go.RowKit
section
variable {P : Program} {ops : Array Oper} {Q : Exit → Act → World → Prop} {md : Region.Mode} {S S' : World → Prop}
theorem ended_setR {last : Option Nat} {listed : Array Bool} (i : Nat) (h : ended last listed = true) : ended last (listed.setIfInBounds i true) = true := by
  cases last with
  | none => cases h
  | some l => exact getD_set_true h
theorem ended_set_ne {last : Option Nat} {listed : Array Bool} {i : Nat} (hi : last ≠ some i) : ended last (listed.setIfInBounds i true) = ended last listed := by
  cases last with
  | none => rfl
  | some l =>
    simp only [ended]
    exact getD_set_ne false (fun e => hi (by rw [e]))
theorem mixk_switch {last last' : Option Nat} : ∀ (fuel : Nat) (listed : Array Bool) (a : Act) (w : World), (ended last listed = true ∨ (last' = last ∧ ∀ w, S' w → S w)) →
    wpMixK P md ops Q S' last' fuel listed a w → wpMixK P md ops Q S last fuel listed a w := by
  intro fuel
  induction fuel with
  | zero => intro listed a w _ h; exact h
  | succ fuel ih =>
    intro listed a w hc h
    refine ⟨h.1, fun i hi w' hk => wpOp_mono (fun a' w'' h' => ?_) (h.2 i hi w' hk)⟩
    rcases hc with hc | ⟨rfl, hm⟩
    · exact ⟨.inl (ended_setR i hc), ih _ _ _ (.inl (ended_setR i hc)) h'.2⟩
    · exact ⟨h'.1.imp id (hm _), ih _ _ _ (.inr ⟨rfl, hm⟩) h'.2⟩
theorem wpMixK_firstP {last : Option Nat} {i : Nat} {oi : Oper} {v : Value} (hSk : ∀ w w', S w → Kp w w' → S w') (hi : ops[i]? = some oi) (hsel : ∀ (j : Nat) (o : Oper) cs b, ops[j]? = some o → o.op ≠ .select cs b)
    (hQ : ∀ c a w, Q (.panic c) (a.put oi.dst v) w → Q (.panic c) a w) (hl : last ≠ some i) :
    ∀ (fuel : Nat) (listed : Array Bool) (a : Act) (w : World),
      (∀ j oj, ops[j]? = some oj → j ≠ i → listed.getD j true = false → (∀ e ∈ oj.after, Region.binds md e = true → e.on ≠ i) → oi.apart ops oj = true) →
      i ∈ Region.ready md ops listed → Yields P ops oi v a → (ended last listed = true ∨ S w) →
      wpMixK P md ops Q S last fuel (listed.setIfInBounds i true) (a.put oi.dst v) w → wpMixK P md ops Q S last (fuel + 1) listed a w := by
  intro fuel
  induction fuel with
  | zero =>
    intro listed a w _ hr hy hS H
    refine ⟨fun h => (by rw [h] at hr; cases hr), fun j hj w' hk => ?_⟩
    by_cases hji : j = i
    · subst hji; exact hy.wpOp hi ⟨by rw [ended_set_ne hl]; exact hS.imp id (fun h => hSk _ _ h hk), H.kp hk⟩
    · have := ready_mono hj hji
      rw [H.1] at this
      cases this
  | succ fuel ih =>
    intro listed a w hfree hr hy hS H
    refine ⟨fun h => (by rw [h] at hr; cases hr), fun j hj w' hk => ?_⟩
    by_cases hji : j = i
    · subst hji; exact hy.wpOp hi ⟨by rw [ended_set_ne hl]; exact hS.imp id (fun h => hSk _ _ h hk), H.kp hk⟩
    · have h1 := H.2 j (ready_mono hj hji) w' hk
      obtain ⟨hjun, oj, hoj, hall⟩ := mem_ready.1 hj
      have hun := (mem_ready.1 hr).1
      have hnot : ∀ e ∈ oj.after, Region.binds md e = true → e.on ≠ i := fun e he hb heq => by
        have h1 := hall e he hb
        rw [heq] at h1
        rcases Nat.lt_or_ge i listed.size with h' | h'
        · simp [h'] at hun h1; rw [hun] at h1; cases h1
        · simp [Array.getElem?_eq_none h'] at h1
      have h2 := wpOp_put hoj (hfree j oj hoj hji hjun hnot) (fun cs b => hsel i oi cs b hi) (fun cs b => hsel j oj cs b hoj) (fun c a w => hQ c a w) hy h1
      have hfree' : ∀ k ok, ops[k]? = some ok → k ≠ i → (listed.setIfInBounds j true).getD k true = false → (∀ e ∈ ok.after, Region.binds md e = true → e.on ≠ i) → oi.apart ops ok = true := fun k ok hk hki hun' hno => by
        refine hfree k ok hk hki ?_ hno
        by_cases hjk : j = k
        · subst hjk; exact hjun
        · rw [getD_set_ne true hjk] at hun'; exact hun'
      refine wpOp_mono (fun a' w' h3 => ?_) h2
      have hS' : ended last (listed.setIfInBounds j true) = true ∨ S w' := by
        rcases h3.2.1 with q | q
        · left
          rw [Array.setIfInBounds_comm _ _ (Ne.symm hji), ended_set_ne hl] at q
          exact q
        · exact .inr q
      refine ⟨hS', ih (listed.setIfInBounds j true) a' w' hfree' (ready_mono hr (Ne.symm hji)) h3.1 hS' ?_⟩
      rw [Array.setIfInBounds_comm _ _ hji]
      exact h3.2.2
def takeP (md : Region.Mode) (ops : Array Oper) (last : Option Nat) (listed : Array Bool) (i : Nat) : Bool :=
  Region.noSelect ops && Region.free md ops listed i && (Region.ready md ops listed).contains i && (match last with | some l => l != i | none => true)
end
section
variable {P : Program} {ops : Array Oper} {Q : Exit → Act → World → Prop} {md : Region.Mode} {ε : World} {L : List Asn}
theorem wp_region_reg (last : Option Nat) {w : World} (H : Own ε w L) {id : Nat} {a : Act} (hm : P.follows .mixedOrders = true)
    (h : ∀ wm, Own ε wm L → wpMixK P .any ops Q (fun w' => Own ε w' L) last ops.size (Array.replicate ops.size false) a wm) : (Code.region id ops true).wp P Q a w :=
  wp_region_mixk ε L last hm (h _ H.drew)
theorem wp_region_regK (last : Option Nat) (L : List Asn) {L0 : List Asn} {w : World} (H : Own ε w L0) {id : Nat} {a : Act} (hm : P.follows .mixedOrders = true)
    (h : ∀ wm, Own ε wm L0 → wpMixK P .any ops Q (fun w' => Own ε w' L) last ops.size (Array.replicate ops.size false) a wm) : (Code.region id ops true).wp P Q a w :=
  wp_region_mixk ε L last hm (h _ H.drew)
theorem reg_p {last : Option Nat} {i : Nat} {oi : Oper} {fuel : Nat} {listed : Array Bool} {a : Act} {w : World} (hi : ops[i]? = some oi) (hB : takeP md ops last listed i = true)
    (hQ : ∀ v c a w, Q (.panic c) (a.put oi.dst v) w → Q (.panic c) a w) (hS : Own ε w L)
    (h : ∀ K : Act → Prop, (∀ a', wpMixK P md ops Q (fun w' => Own ε w' L) last fuel (listed.setIfInBounds i true) a' w → K a') →
      if Region.wanted oi (yielded ops a.tmps) then ∃ v, (∀ w', (execOp a.eval oi).run P w' = .ok (.value v) w') ∧ K (a.put oi.dst v) else K (a.put oi.dst undef)) :
    wpMixK P md ops Q (fun w' => Own ε w' L) last (fuel + 1) listed a w := by
  have h1 := h (fun a' => wpMixK P md ops Q (fun w' => Own ε w' L) last fuel (listed.setIfInBounds i true) a' w) (fun _ q => q)
  simp only [takeP, Bool.and_eq_true] at hB
  obtain ⟨⟨⟨g1, g2⟩, g3⟩, g4⟩ := hB
  have hl : last ≠ some i := by
    rintro rfl
    simp at g4
  have hSk : ∀ w w', Own ε w L → Kp w w' → Own ε w' L := fun w w' H hk => hk _ _ H
  by_cases hw : Region.wanted oi (yielded ops a.tmps) = true
  · rw [if_pos hw] at h1
    obtain ⟨v, h2, h3⟩ := h1
    exact wpMixK_firstP (S := fun w' => Own ε w' L) hSk hi (Region.noSelect_spec g1) (hQ v) hl fuel listed a w (Region.free_spec hi g2) (by simpa using g3) (.inl ⟨hw, h2⟩) (.inr hS) h3
  · rw [if_neg hw] at h1
    exact wpMixK_firstP (S := fun w' => Own ε w' L) hSk hi (Region.noSelect_spec g1) (hQ undef) hl fuel listed a w (Region.free_spec hi g2) (by simpa using g3) (.inr ⟨by simpa using hw, rfl⟩) (.inr hS) h1
theorem reg_loud {last : Option Nat} {i : Nat} {oi : Oper} {fuel : Nat} {listed : Array Bool} {a : Act} {w' : World} (last' : Option Nat) (hi : ops[i]? = some oi)
    (h : ∀ K : Act → World → Prop, (∀ a' w' L', Own ε w' L' → (ended last (listed.setIfInBounds i true) = true ∨ (last' = last ∧ ∀ wx, Own ε wx L' → Own ε wx L)) →
        wpMixK P md ops Q (fun w' => Own ε w' L') last' fuel (listed.setIfInBounds i true) a' w' → K a' w') →
      if Region.wanted oi (yielded ops a.tmps) then oi.wp P a w' K Q else K (a.put oi.dst undef) w') :
    wpOp P ops Q i (fun a' w'' => (ended last (listed.setIfInBounds i true) = true ∨ Own ε w'' L) ∧ wpMixK P md ops Q (fun w' => Own ε w' L) last fuel (listed.setIfInBounds i true) a' w'') a w' := by
  have h1 := h (fun a' w' => (ended last (listed.setIfInBounds i true) = true ∨ Own ε w' L) ∧ wpMixK P md ops Q (fun w' => Own ε w' L) last fuel (listed.setIfInBounds i true) a' w')
    (fun a' w' L' HL hc q => ⟨hc.imp id (fun x => x.2 _ HL), mixk_switch _ _ _ _ hc q⟩)
  unfold wpOp
  simp only [hi]
  by_cases hw : Region.wanted oi (yielded ops a.tmps) = true
  · rw [if_pos hw] at h1 ⊢; exact .inl h1
  · rw [if_neg hw] at h1 ⊢; exact h1
theorem reg_l {last : Option Nat} {i : Nat} {oi : Oper} {fuel : Nat} {listed : Array Bool} {a : Act} {w : World} (last' : Option Nat) (hi : ops[i]? = some oi) (hr : (Region.ready md ops listed == [i]) = true)
    (h : ∀ w', Kp w w' → ∀ K : Act → World → Prop, (∀ a' w' L', Own ε w' L' → (ended last (listed.setIfInBounds i true) = true ∨ (last' = last ∧ ∀ wx, Own ε wx L' → Own ε wx L)) →
        wpMixK P md ops Q (fun w' => Own ε w' L') last' fuel (listed.setIfInBounds i true) a' w' → K a' w') →
      if Region.wanted oi (yielded ops a.tmps) then oi.wp P a w' K Q else K (a.put oi.dst undef) w') : wpMixK P md ops Q (fun w' => Own ε w' L) last (fuel + 1) listed a w :=
  mixk_one hr (fun w' hk => reg_loud last' hi (h w' hk))
theorem reg_two {last : Option Nat} {i j : Nat} {oi oj : Oper} {fuel : Nat} {listed : Array Bool} {a : Act} {w : World} (l1 l2 : Option Nat) (hi : ops[i]? = some oi) (hj : ops[j]? = some oj) (hr : (Region.ready md ops listed == [i, j]) = true)
    (h1 : ∀ w', Kp w w' → ∀ K : Act → World → Prop, (∀ a' w' L', Own ε w' L' → (ended last (listed.setIfInBounds i true) = true ∨ (l1 = last ∧ ∀ wx, Own ε wx L' → Own ε wx L)) →
        wpMixK P md ops Q (fun w' => Own ε w' L') l1 fuel (listed.setIfInBounds i true) a' w' → K a' w') →
      if Region.wanted oi (yielded ops a.tmps) then oi.wp P a w' K Q else K (a.put oi.dst undef) w')
    (h2 : ∀ w', Kp w w' → ∀ K : Act → World → Prop, (∀ a' w' L', Own ε w' L' → (ended last (listed.setIfInBounds j true) = true ∨ (l2 = last ∧ ∀ wx, Own ε wx L' → Own ε wx L)) →
        wpMixK P md ops Q (fun w' => Own ε w' L') l2 fuel (listed.setIfInBounds j true) a' w' → K a' w') →
      if Region.wanted oj (yielded ops a.tmps) then oj.wp P a w' K Q else K (a.put oj.dst undef) w') : wpMixK P md ops Q (fun w' => Own ε w' L) last (fuel + 1) listed a w := by
  have hr' : Region.ready md ops listed = [i, j] := by simpa using hr
  refine ⟨fun h0 => (by rw [hr'] at h0; cases h0), fun x hx w' hk => ?_⟩
  rw [hr'] at hx
  rcases List.mem_cons.1 hx with rfl | hx
  · exact reg_loud l1 hi (h1 w' hk)
  · rcases List.mem_singleton.1 hx with rfl
    exact reg_loud l2 hj (h2 w' hk)
end
end Go.Proofs.YtpfbbpiidhhkbaaGreat
namespace Go.Proofs.YtpfbbpiidhhkbaaGreat
theorem min_ite' (a b : Int) : (if b < a then b else a) = min a b := by split <;> omega
theorem max_ite' (a b : Int) : (if a < b then b else a) = max a b := by split <;> omega
end Go.Proofs.YtpfbbpiidhhkbaaGreat
namespace Go.Proofs.YtpfbbpiidhhkbaaGreat
open Go.RowKit
theorem Own.slc_isv {ε w : World} {R : List Asn} {T : TypeId} {sz : Nat} {v : Value} {xs : List Value} (H : Own ε w (slc T sz v xs :: R)) : ∃ A n c, v = .slice A n c := by
  rcases H.slc_open with ⟨rfl, _⟩ | ⟨g, n, cap, cur, rfl, _⟩ <;> exact ⟨_, _, _, rfl⟩
section
variable {P : Program} {ops : Array Oper} {Q : Exit → Act → World → Prop} {d : Option Tmp} {ty : TypeId} {pos : String} {aft : Array Edge} {rest : List Oper} {a : Act} {ε w : World} {R : List Asn}
theorem wpList_alloc_own {e : TypeId} (H : Own ε w R) (Z : List Value) (hz : ((P.info? e).bind (·.zero)).map (·.cells) = some Z.toArray)
    (h : ∀ g w', Own ε w' (pts g (.cells Z.toArray e (0, 0)) :: R) → wpList P ops Q rest (a.put d (.pointer (some ⟨g, 0, none⟩))) w') : wpList P ops Q (⟨d, .alloc e, ty, pos, aft, none⟩ :: rest) a w := by
  refine wpList_plain rfl fun K hK => ?_
  cases hq : P.info? e with
  | none => simp [hq] at hz
  | some i =>
    cases hy : i.zero with
    | none => simp [hq, hy] at hz
    | some z =>
      have hzc : z.cells = Z.toArray := by simpa [hq, hy] using hz
      unfold Oper.wp execOp
      simp [Instr.alloc, zeroValue, typeInfo, hq, hy, newVar, newRow, hzc]
      exact hK _ _ (h _ _ (H.alloc _))
theorem wpList_box_own {e : TypeId} {x : Operand} (H : Own ε w R) (V : List Value) (hv : (a.eval x).cells = V.toArray)
    (h : ∀ g w', Own ε w' (pts g (.cells V.toArray e (0, 0)) :: R) → wpList P ops Q rest (a.put d (.pointer (some ⟨g, 0, none⟩))) w') : wpList P ops Q (⟨d, .box e x, ty, pos, aft, none⟩ :: rest) a w := by
  refine wpList_plain rfl fun K hK => ?_
  unfold Oper.wp execOp
  simp [Instr.box, newVar, newRow, hv]
  exact hK _ _ (h _ _ (H.alloc _))
theorem fill_one (V Z : Array Value) (hs : V.size = Z.size) : V.zipIdx.foldl (fun cs (c, j) => cs.setIfInBounds (0 + j) c) Z = V := by
  have key : ∀ (l : List Value) (o : Nat) (cs : Array Value), o + l.length ≤ cs.size → (l.zipIdx o).foldl (fun cs (x : Value × Nat) => cs.setIfInBounds (0 + x.2) x.1) cs = (cs.toList.take o ++ l ++ cs.toList.drop (o + l.length)).toArray := by
    intro l
    induction l with
    | nil => intro o cs _; simp
    | cons v l ih =>
      intro o cs h
      simp only [List.length_cons] at h
      rw [List.zipIdx_cons, List.foldl_cons, ih (o + 1) _ (by simp; omega)]
      have e1 : (cs.setIfInBounds (0 + o) v).toList.take (o + 1) = cs.toList.take o ++ [v] := by
        rw [Array.toList_setIfInBounds, Nat.zero_add, List.take_succ_eq_append_getElem (by simp; omega), List.take_set_of_le (Nat.le_refl o)]
        simp
      have e2 : (cs.setIfInBounds (0 + o) v).toList.drop (o + 1 + l.length) = cs.toList.drop (o + (l.length + 1)) := by
        rw [Array.toList_setIfInBounds, Nat.zero_add, List.drop_set_of_lt (by omega)]
        congr 1; omega
      rw [e1, e2]; simp
  obtain ⟨V⟩ := V
  have h := key V 0 Z (by simp at hs; omega)
  simp only [List.size_toArray] at hs
  rw [List.drop_of_length_le (by simp; omega)] at h
  simpa using h
theorem wpList_bs1_own {t e : TypeId} {x : Operand} (H : Own ε w R) (V : Array Value) (sz bytes : Nat) (hu : P.underlying t = some (.slice e)) (hel : elOk P e sz bytes = true) (hsz : 0 < sz) (hs2 : sz ≤ 16777216) (hv : (a.eval x).cells = V) (hV : V.size = sz)
    (h : ∀ g w', Own ε w' (pts g (.cells V e (0, 0)) :: R) → wpList P ops Q rest (a.put d (.slice (some ⟨g, 0, none⟩) 1 1)) w') : wpList P ops Q (⟨d, .buildSlice t 1 #[(0, x)], ty, pos, aft, none⟩ :: rest) a w := by
  obtain ⟨i, z, hi, hsize, hby, hz, hzs⟩ := elOk_spec hel
  refine wpList_buildSlice rfl t e 1 #[(0, x)] rfl V i z hu hi hz (by rw [hsize]; omega) (by rw [hsize]; omega) ?_ (h _ _ (H.alloc _))
  simp only [List.map_toArray, List.map_cons, List.map_nil, Instr.fill, hv, Nat.zero_mul, Nat.one_mul, Nat.zero_add]
  have hsv : V.size = i.size := by rw [hV, hsize]
  have hsz2 : ((Array.range i.size).map (z.cells[· % z.cells.size]!)).size = i.size := by simp
  rw [if_neg (by rw [hsv, hsz2]; simp)]
  have := fill_one V ((Array.range i.size).map (z.cells[· % z.cells.size]!)) (by rw [hsz2, hsv])
  simp only [Nat.zero_add] at this
  rw [this]
theorem wp_store_own {o : Oper} {t T : TypeId} {x y : Operand} {b : Nat} {K : Act → World → Prop} (cur vs : Array Value) (ho : o.op = .store t x y) (hx : a.eval x = .pointer (some ⟨b, 0, none⟩)) (hy : a.eval y = .agg vs) (H : Own ε w (pts b (.cells cur T (0, 0)) :: R)) (hi : (P.info? t).map (·.size) = some vs.size) (hs : cur.size = vs.size)
    (h1 : ∀ v ∈ vs.toList, v.oneCell' = true) (h : ∀ w', Own ε w' (pts b (.cells vs T (0, 0)) :: R) → K (a.put o.dst undef) w') : o.wp P a w K Q := by
  have hg := H.blk
  have hst := run_storeCells_at P b 0 T vs.toList 0 cur w hg (by simp [hs]) h1
  have hrow : (cur.toList.take (0 + 0) ++ vs.toList ++ cur.toList.drop (0 + 0 + vs.toList.length)).toArray = vs := by
    rw [List.drop_of_length_le (by simp [hs])]; simp
  rw [hrow] at hst
  have H2 : Own ε (w.setRow b vs) (pts b (.cells vs T (0, 0)) :: R) := H.put rfl rfl rfl (setRow_heap w b cur _ T _ hg) (fun k _ hk => setRow_other w b k _ hk)
  cases hq : P.info? t with
  | none => simp [hq] at hi
  | some i =>
    have hsz : i.size = vs.size := by simpa [hq] using hi
    unfold Oper.wp execOp
    simp only [ho, hx, hy]
    simp [Instr.storeAt, Instr.sureAddr, storeVar, sizeOf, typeInfo, hq, hsz, Value.cells, hst, Result.andThen]
    exact h _ H2
theorem wpList_store1_own {t T : TypeId} {x y : Operand} {cur : Array Value} {b k : Nat} {v : Value} (hx : a.eval x = .pointer (some ⟨b, k, none⟩)) (hy : a.eval y = v) (H : Own ε w (pts b (.cells cur T (0, 0)) :: R)) (hi : (P.info? t).map (·.size) = some 1) (hk : k < cur.size)
    (h1 : v.oneCell' = true) (h : ∀ w', Own ε w' (pts b (.cells (cur.setIfInBounds k v) T (0, 0)) :: R) → wpList P ops Q rest (a.put d undef) w') : wpList P ops Q (⟨d, .store t x y, ty, pos, aft, none⟩ :: rest) a w := by
  refine wpList_plain rfl fun K' hK' => ?_
  have hg := H.blk
  have hst := run_storeCells_at P b k T [v] 0 cur w hg (by simp; omega) (fun u hu => by rw [List.mem_singleton.1 hu]; exact h1)
  have hrow : (cur.toList.take (k + 0) ++ [v] ++ cur.toList.drop (k + 0 + [v].length)).toArray = cur.setIfInBounds k v := by
    apply Array.ext'
    simp only [Nat.add_zero, List.length_singleton, Array.toList_setIfInBounds]
    rw [List.set_eq_take_append_cons_drop, if_pos (by simpa using hk)]
    simp
  rw [hrow] at hst
  have H2 : Own ε (w.setRow b (cur.setIfInBounds k v)) (pts b (.cells (cur.setIfInBounds k v) T (0, 0)) :: R) := H.put rfl rfl rfl (setRow_heap w b cur _ T _ hg) (fun j _ hj => setRow_other w b j _ hj)
  have hc : v.cells = #[v] := by cases v <;> first | rfl | cases h1
  cases hq : P.info? t with
  | none => simp [hq] at hi
  | some i =>
    have hsz : i.size = 1 := by simpa [hq] using hi
    unfold Oper.wp execOp
    simp only [hx, hy]
    simp [Instr.storeAt, Instr.sureAddr, storeVar, sizeOf, typeInfo, hq, hsz, hc, hst, Result.andThen]
    exact hK' _ _ (h _ H2)
theorem wpList_bsv_own {t e : TypeId} {len : Nat} {parts : Array (Nat × Operand)} (H : Own ε w R) (V : List Value) (sz bytes : Nat) (Z : List Value) (hu : P.underlying t = some (.slice e)) (hel : elOk P e sz bytes = true) (hz : ((P.info? e).bind (·.zero)).map (·.cells) = some Z.toArray) (h1 : 0 < len * sz) (h2 : len * sz ≤ 16777216)
    (hf : Instr.fill (fun i => some (i * sz, sz)) ((Array.range (len * sz)).map (Z.toArray[· % Z.toArray.size]!)) (parts.map fun (i, x) => (i, a.eval x)).toList = some V.toArray)
    (h : ∀ g w', Own ε w' (pts g (.cells V.toArray e (0, 0)) :: R) → wpList P ops Q rest (a.put d (.slice (some ⟨g, 0, none⟩) len len)) w') : wpList P ops Q (⟨d, .buildSlice t len parts, ty, pos, aft, none⟩ :: rest) a w := by
  obtain ⟨i, z, hi, hsize, hby, hzz, hzs⟩ := elOk_spec hel
  have hzc : z.cells = Z.toArray := by simpa [hi, hzz] using hz
  subst hsize
  refine wpList_buildSlice rfl t e len parts rfl V.toArray i z hu hi hzz (by omega) (by omega) ?_ (h _ _ (H.alloc _))
  rw [hzc]; exact hf
theorem wpList_app1_own {o : Oper} (hgd : o.guard = none) (s x : Operand) (t : TypeId)
    (ho : o.op = .call { callee := .builtin .append, args := #[s, x], argTypes := #[t, t] }) (e : TypeId) (sz bytes : Nat) (ht : P.underlying t = some (.slice e)) (hel : elOk P e sz bytes = true) (hsz : 0 < sz)
    {v : Value} {xs : List Value} {g c : Nat} {V : Array Value} {T : TypeId} (n : Nat)
    (hv : a.eval s = v) (hx : a.eval x = .slice (some ⟨g, 0, none⟩) 1 c) (H : Own ε w (pts g (.cells V T (0, 0)) :: slc e sz v xs :: R)) (hn : xs.length = n * sz)
    (hV : V.size = sz) (h1 : ∀ u ∈ V.toList, u.oneCell' = true) (h63 : n + 1 ≤ maxLen) (hb : (n + 1) * bytes ≤ 140737488355328)
    (h : ∀ v' w', Own ε w' (slc e sz v' (xs ++ V.toList) :: R) → wpList P ops Q rest (a.put o.dst v') w') : wpList P ops Q (o :: rest) a w :=
  wpList_append_slc hgd s x t ho e sz bytes ht hel hsz hv H.r2 hx hn ⟨by simp [hV], .inr ⟨g, 0, rfl, fun j u hj => by rw [Nat.zero_add, H.cells.1 j]; simpa using hj⟩⟩ h1 h63 hb fun v' w' h2 => h v' w' h2.r2.tail
end
end Go.Proofs.YtpfbbpiidhhkbaaGreat
