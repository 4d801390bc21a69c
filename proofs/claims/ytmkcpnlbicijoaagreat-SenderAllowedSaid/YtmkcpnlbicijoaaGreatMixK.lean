/- Regions that draw: calm operations (one value in every world that owns these, and a world that keeps what is owned: loads, calls that write nothing old) are taken in the order of the text; the others (allocations, writing calls, stores) come in their one order, the last one may break what is read. -/
import Derived.Test.YtmkcpnlbicijoaaGreatSlc
import Derived.Test.YtmkcpnlbicijoaaGreatRange
import Derived.Great.BuildSlice
import Derived.Test.YtmkcpnlbicijoaaGreatMix
import Derived.Test.YtmkcpnlbicijoaaGreatRttD
namespace Go.Proofs.YtmkcpnlbicijoaaGreat
open Go.RowKit
theorem Own.slc_isv {ε w : World} {R : List Asn} {T : TypeId} {sz : Nat} {v : Value} {xs : List Value} (H : Own ε w (slc T sz v xs :: R)) : ∃ A n c, v = .slice A n c := by
 rcases H.slc_open with ⟨rfl, _⟩ | ⟨g, n, cap, cur, rfl, _⟩ <;> exact ⟨_, _, _, rfl⟩
section
variable {P : Program} {ops : Array Oper} {Q : Exit → Act → World → Prop} {d : Option Tmp} {ty : TypeId} {pos : String} {aft : Array Edge} {rest : List Oper} {a : Act} {ε w : World} {R : List Asn}
theorem wpList_alloc_own {e : TypeId} (H : Own ε w R) (Z : List Value) (hz : ((P.info? e).bind (·.zero)).map (·.cells) = some Z.toArray)
  (h : ∀ g w', Own ε w' (pts g (.cells Z.toArray e (0, 0)) :: R) → wpList P ops Q rest (a.put d (.pointer (some ⟨g, 0, none⟩))) w') : wpList P ops Q (⟨d, .alloc e, ty, pos, aft, none⟩ :: rest) a w := by
 refine wpList_plain rfl fun K hK => ?_
 cases hq : P.info? e with
 | none => simp [hq] at hz
 | some i =>
  cases hy : i.zero with
  | none => simp [hq, hy] at hz
  | some z =>
   have hzc : z.cells = Z.toArray := by simpa [hq, hy] using hz
   unfold Oper.wp execOp
   simp [Instr.alloc, zeroValue, typeInfo, hq, hy, newVar, newRow, hzc]
   exact hK _ _ (h _ _ (H.alloc _))
theorem wpList_box_own {e : TypeId} {x : Operand} (H : Own ε w R) (V : List Value) (hv : (a.eval x).cells = V.toArray)
  (h : ∀ g w', Own ε w' (pts g (.cells V.toArray e (0, 0)) :: R) → wpList P ops Q rest (a.put d (.pointer (some ⟨g, 0, none⟩))) w') : wpList P ops Q (⟨d, .box e x, ty, pos, aft, none⟩ :: rest) a w := by
 refine wpList_plain rfl fun K hK => ?_
 unfold Oper.wp execOp
 simp [Instr.box, newVar, newRow, hv]
 exact hK _ _ (h _ _ (H.alloc _))
theorem wp_store_own {o : Oper} {t T : TypeId} {x y : Operand} {b : Nat} {K : Act → World → Prop} (cur vs : Array Value) (ho : o.op = .store t x y) (hx : a.eval x = .pointer (some ⟨b, 0, none⟩)) (hy : a.eval y = .agg vs) (H : Own ε w (pts b (.cells cur T (0, 0)) :: R)) (hi : (P.info? t).map (·.size) = some vs.size) (hs : cur.size = vs.size)
  (h1 : ∀ v ∈ vs.toList, v.oneCell' = true) (h : ∀ w', Own ε w' (pts b (.cells vs T (0, 0)) :: R) → K (a.put o.dst undef) w') : o.wp P a w K Q := by
 have hg := H.blk
 have hst := run_storeCells_at P b 0 T vs.toList 0 cur w hg (by simp [hs]) h1
 have hrow : (cur.toList.take (0 + 0) ++ vs.toList ++ cur.toList.drop (0 + 0 + vs.toList.length)).toArray = vs := by
  rw [List.drop_of_length_le (by simp [hs])]; simp
 rw [hrow] at hst
 have H2 : Own ε (w.setRow b vs) (pts b (.cells vs T (0, 0)) :: R) := H.put rfl rfl rfl (setRow_heap w b cur _ T _ hg) (fun k _ hk => setRow_other w b k _ hk)
 cases hq : P.info? t with
 | none => simp [hq] at hi
 | some i =>
  have hsz : i.size = vs.size := by simpa [hq] using hi
  unfold Oper.wp execOp
  simp only [ho, hx, hy]
  simp [Instr.storeAt, Instr.sureAddr, storeVar, sizeOf, typeInfo, hq, hsz, Value.cells, hst, Result.andThen]
  exact h _ H2
theorem wpList_store1_own {t T : TypeId} {x y : Operand} {cur : Array Value} {b k : Nat} {v : Value} (hx : a.eval x = .pointer (some ⟨b, k, none⟩)) (hy : a.eval y = v) (H : Own ε w (pts b (.cells cur T (0, 0)) :: R)) (hi : (P.info? t).map (·.size) = some 1) (hk : k < cur.size)
  (h1 : v.oneCell' = true) (h : ∀ w', Own ε w' (pts b (.cells (cur.setIfInBounds k v) T (0, 0)) :: R) → wpList P ops Q rest (a.put d undef) w') : wpList P ops Q (⟨d, .store t x y, ty, pos, aft, none⟩ :: rest) a w := by
 refine wpList_plain rfl fun K' hK' => ?_
 have hg := H.blk
 have hst := run_storeCells_at P b k T [v] 0 cur w hg (by simp; omega) (fun u hu => by rw [List.mem_singleton.1 hu]; exact h1)
 have hrow : (cur.toList.take (k + 0) ++ [v] ++ cur.toList.drop (k + 0 + [v].length)).toArray = cur.setIfInBounds k v := by
  apply Array.ext'
  simp only [Nat.add_zero, List.length_singleton, Array.toList_setIfInBounds]
  rw [List.set_eq_take_append_cons_drop, if_pos (by simpa using hk)]
  simp
 rw [hrow] at hst
 have H2 : Own ε (w.setRow b (cur.setIfInBounds k v)) (pts b (.cells (cur.setIfInBounds k v) T (0, 0)) :: R) := H.put rfl rfl rfl (setRow_heap w b cur _ T _ hg) (fun j _ hj => setRow_other w b j _ hj)
 have hc : v.cells = #[v] := by cases v <;> first | rfl | cases h1
 cases hq : P.info? t with
 | none => simp [hq] at hi
 | some i =>
  have hsz : i.size = 1 := by simpa [hq] using hi
  unfold Oper.wp execOp
  simp only [hx, hy]
  simp [Instr.storeAt, Instr.sureAddr, storeVar, sizeOf, typeInfo, hq, hsz, hc, hst, Result.andThen]
  exact hK' _ _ (h _ H2)
theorem wpList_bsv_own {t e : TypeId} {len : Nat} {parts : Array (Nat × Operand)} (H : Own ε w R) (V : List Value) (sz bytes : Nat) (Z : List Value) (hu : P.underlying t = some (.slice e)) (hel : elOk P e sz bytes = true) (hz : ((P.info? e).bind (·.zero)).map (·.cells) = some Z.toArray) (h1 : 0 < len * sz) (h2 : len * sz ≤ 16777216)
  (hf : Instr.fill (fun i => some (i * sz, sz)) ((Array.range (len * sz)).map (Z.toArray[· % Z.toArray.size]!)) (parts.map fun (i, x) => (i, a.eval x)).toList = some V.toArray)
  (h : ∀ g w', Own ε w' (pts g (.cells V.toArray e (0, 0)) :: R) → wpList P ops Q rest (a.put d (.slice (some ⟨g, 0, none⟩) len len)) w') : wpList P ops Q (⟨d, .buildSlice t len parts, ty, pos, aft, none⟩ :: rest) a w := by
 obtain ⟨i, z, hi, hsize, hby, hzz, hzs⟩ := elOk_spec hel
 have hzc : z.cells = Z.toArray := by simpa [hi, hzz] using hz
 subst hsize
 refine wpList_buildSlice rfl t e len parts rfl V.toArray i z hu hi hzz (by omega) (by omega) ?_ (h _ _ (H.alloc _))
 rw [hzc]; exact hf
end
end Go.Proofs.YtmkcpnlbicijoaaGreat
namespace Go.Proofs.YtmkcpnlbicijoaaGreat
open Go.RowKit
section
variable {P : Program} {l n : Nat} {Q : Exit → Act → World → Prop} {a : Act} {w : World}
theorem wpIn_of_wp {o : Oper} {K : Act → World → Prop} (hd : ∀ c, o.op ≠ .defer c) (h : o.wp P a w K Q) : o.wpIn (Fence.wide.inRound l) n P a w K Q := by
 refine ⟨fun _ _ => trivial, ?_⟩
 rw [show o.semAt (Fence.wide.inRound l).round a.eval = execOp a.eval o from Oper.semAt_some l _ _ hd]
 unfold Oper.wp at h
 revert h
 generalize (execOp a.eval o).run P w = r
 intro h
 cases r with
 | ok v w' =>
  cases v with
  | enter f args => exact ⟨fun h => by simp [Fence.wide, Fence.inRound] at h, (callsIn_wide.2 h).inRound l⟩
  | row r args =>
   refine ⟨fun h => by simp [Fence.wide, Fence.inRound] at h, fun c cs _ => ?_⟩
   obtain ⟨v, w', hr, hs⟩ := h c cs
   exact ⟨v, w', hr, stepsIn_wide.2 hs⟩
  | value v => exact h
  | skip => exact h
  | defer d => exact h
  | round => exact h.elim
  | _ => exact h.elim
 | halt x w' =>
  cases x with
  | panic v => exact h
  | _ => exact h.elim
def oneQ (P : Program) (l n : Nat) (ops : Array Oper) (Q : Exit → Act → World → Prop) (rest : List Oper) : Exit → Act → World → Prop
 | .normal, a, w => wpListIn (Fence.wide.inRound l) n P ops Q rest a w
 | _, _, _ => False
theorem in_of_list {ops : Array Oper} {o : Oper} {rest : List Oper} (hg : o.guard = none) (hd : ∀ c, o.op ≠ .defer c) (h : wpList P ops (oneQ P l n ops Q rest) [o] a w) : wpListIn (Fence.wide.inRound l) n P ops Q (o :: rest) a w := by
 have h2 : o.wp P a w (wpListIn (Fence.wide.inRound l) n P ops Q rest) (oneQ P l n ops Q rest) := by
  have hw : Region.wanted o (yielded ops a.tmps) = true := by simp [Region.wanted, hg]
  unfold wpList at h
  rw [if_pos hw] at h
  rcases h with h | ⟨_, a', w', h⟩
  ·exact h
  ·exact h.elim
 refine wpListIn_plain hg fun K hK => ?_
 have h3 := wpIn_of_wp (l := l) (n := n) hd h2
 refine ⟨h3.1, ?_⟩
 have h4 := h3.2
 revert h4
 generalize Sem.run P (o.semAt (Fence.wide.inRound l).round a.eval) w = r
 intro h4
 cases r with
 | ok v w' =>
  cases v with
  | enter f args =>
   refine ⟨h4.1, h4.2.mono ?_⟩
   intro e w2 hq
   cases e with
   | returned v => exact hK _ _ hq
   | panicked c => exact hq.elim
   | outgrown => obtain ⟨_, _, hq⟩ := hq; exact hq.elim
  | row r args => exact ⟨h4.1, h4.2.mono fun v w2 hq => hK _ _ hq⟩
  | value v => exact hK _ _ h4
  | skip => exact hK _ _ h4
  | defer d => exact hK _ _ h4
  | round l2 f tmps assign body =>
   refine ⟨h4.1, h4.2.mono ?_⟩
   intro e w2 hq
   cases e with
   | returned v => exact hK _ _ hq
   | panicked c => exact hq.elim
   | outgrown => obtain ⟨_, _, hq⟩ := hq; exact hq.elim
  | _ => exact h4.elim
 | halt x w' =>
  cases x with
  | panic v => exact h4.elim
  | _ => exact h4.elim
theorem in_back {ops ops' : Array Oper} {rest : List Oper} (h : wpListIn (Fence.wide.inRound l) n P ops Q rest a w) : wpList P ops' (oneQ P l n ops Q rest) [] a w := h
end
section
variable {F : Fence} {n : Nat} {P : Program} {ops : Array Oper} {Q : Exit → Act → World → Prop} {d : Option Tmp} {ty : TypeId} {pos : String} {aft : Array Edge} {g : Option (Tmp × Bool)} {rest : List Oper} {a : Act} {w : World}
theorem stopI_st {t : TypeId} {x y : Operand} (h : Stop (wpListIn F n P ops Q (⟨d, .store t x y, ty, pos, aft, g⟩ :: rest) a w)) : wpListIn F n P ops Q (⟨d, .store t x y, ty, pos, aft, g⟩ :: rest) a w := h
theorem stopI_al {e : TypeId} (h : Stop (wpListIn F n P ops Q (⟨d, .alloc e, ty, pos, aft, g⟩ :: rest) a w)) : wpListIn F n P ops Q (⟨d, .alloc e, ty, pos, aft, g⟩ :: rest) a w := h
theorem stop_rg (k : Nat) {dr : Bool} (h : Stop (Code.wp P (.region k ops dr) Q a w)) : Code.wp P (.region k ops dr) Q a w := h
theorem stop_rs (k : Nat) {dr : Bool} {c : Code} (h : Stop (Code.wp P (.seq (.region k ops dr) c) Q a w)) : Code.wp P (.seq (.region k ops dr) c) Q a w := h
theorem stop_rf {g : Operand} {ps : Array Tmp} {as' bd : Code} (h : Stop (Code.wp P (.rangeFunc g ps as' bd) Q a w)) : Code.wp P (.rangeFunc g ps as' bd) Q a w := h
end
theorem calls_of_wp_marks {P : Program} {f : FuncId} {fn : Func} {c : Code} {args : Array Value} {w : World} {R : Ending → World → Prop} (n : Nat) (hf : P.funcs[f]? = some fn) (hb : fn.body = some c)
  (h : c.wp P (bodyPostM Fence.wide n P fn R) { tmps := args ++ Array.replicate (fn.ntmps - args.size) undef, defers := [] } w) : Calls P f args w R :=
 (callsIn_wide (n := n)).1 (callsIn_of_wp_marks hf hb trivial (wpIn_wide.2 h))
end Go.Proofs.YtmkcpnlbicijoaaGreat
namespace Go.Proofs.YtmkcpnlbicijoaaGreat
open Go.RowKit
theorem Kp.refl (w : World) : Kp w w := fun _ _ H => H
theorem Kp.trans {a b c : World} (h : Kp a b) (k : Kp b c) : Kp a c := fun ε L H => k ε L (h ε L H)
section
variable {P : Program} {ops : Array Oper} {Q : Exit → Act → World → Prop} {md : Region.Mode} {S : World → Prop}
def oneValK (P : Program) (v : Value) (w : World) : Result Next → Prop
 | .ok (.value u) w' => w' = w ∧ u = v
 | .ok .skip w' => w' = w ∧ v = undef
 | .ok (.enter f args) w' => w' = w ∧ Calls P f args w fun e w'' => e = .returned v ∧ Kp w w''
 | _ => False
def YK (P : Program) (ops : Array Oper) (S : World → Prop) (o : Oper) (v : Value) (a : Act) : Prop :=
 (Region.wanted o (yielded ops a.tmps) = true ∧ ∀ w, S w → oneValK P v w ((execOp a.eval o).run P w)) ∨ (Region.wanted o (yielded ops a.tmps) = false ∧ v = undef)
theorem YK.wpOp {i : Nat} {o : Oper} {v : Value} {a : Act} (hi : ops[i]? = some o) (hy : YK P ops S o v a) {K : Act → World → Prop} {w : World} (hS : S w) (h : ∀ w', Kp w w' → K (a.put o.dst v) w') : wpOp P ops Q i K a w := by
 unfold Go.wpOp
 simp only [hi]
 rcases hy with ⟨hw, hv⟩ | ⟨hw, rfl⟩
 ·simp only [hw, if_true]
  have h1 := hv w hS
  refine .inl ?_
  unfold Oper.wp
  generalize (execOp a.eval o).run P w = r at *
  cases r with
  | ok n w' =>
   cases n <;> simp only [oneValK] at h1 <;> simp only [Oper.upon]
   case value u => obtain ⟨rfl, rfl⟩ := h1; exact h _ (Kp.refl _)
   case skip => obtain ⟨rfl, rfl⟩ := h1; exact h _ (Kp.refl _)
   case enter f args =>
    obtain ⟨rfl, hc⟩ := h1
    exact hc.mono fun e w'' ⟨he, hw''⟩ => by subst he; exact h _ hw''
  | halt x w' => simp only [oneValK] at h1
 ·simp only [hw, Bool.false_eq_true, if_false]; exact h _ (Kp.refl _)
theorem YK.of_same {o : Oper} {v : Value} {a a' : Act} (hy : YK P ops S o v a) (he : execOp a'.eval o = execOp a.eval o) (hw : Region.wanted o (yielded ops a'.tmps) = Region.wanted o (yielded ops a.tmps)) : YK P ops S o v a' := by
 unfold YK at *
 rw [he, hw]
 exact hy
theorem wpOp_putK {j : Nat} {oi oj : Oper} {v : Value} (hj : ops[j]? = some oj) (hap : oi.apart ops oj = true) (hsi : ∀ cs b, oi.op ≠ .select cs b) (hsj : ∀ cs b, oj.op ≠ .select cs b)
  (hQ : ∀ c a w, Q (.panic c) (a.put oi.dst v) w → Q (.panic c) a w) {K : Act → World → Prop} {a : Act} {w : World} (hy : YK P ops S oi v a) (h : wpOp P ops Q j K (a.put oi.dst v) w) :
  wpOp P ops Q j (fun a' w' => YK P ops S oi v a' ∧ K (a'.put oi.dst v) w') a w := by
 obtain ⟨h1, h2, h3⟩ := Oper.apart_spec hap
 have keep : ∀ (a : Act), YK P ops S oi v a → ∀ u, YK P ops S oi v (a.put oj.dst u) := fun a hy u => hy.of_same (execOp_put oi hsi a oj.dst u h3) (wanted_put oi a oj.dst u h3)
 have keepD : ∀ d, YK P ops S oi v { a with defers := d :: a.defers } := fun d => hy.of_same rfl rfl
 unfold wpOp at *
 simp only [hj] at *
 rw [wanted_put oj a oi.dst v h1] at h
 split
 ·rename_i hw
  simp only [hw, if_true] at h
  rcases h with h | ⟨hasks, hlets⟩
  ·refine .inl ?_
   unfold Oper.wp at *
   rw [execOp_put oj hsj a oi.dst v h1] at h
   generalize (execOp a.eval oj).run P w = r at *
   cases r with
   | ok n w' =>
    cases n <;> simp only [Oper.upon] at h ⊢
    case value u => exact ⟨keep a hy u, by rw [← Act.put_comm a v u h2]; exact h⟩
    case skip => exact ⟨keep a hy _, by rw [← Act.put_comm a v undef h2]; exact h⟩
    case defer d =>
     refine ⟨keep _ (keepD d) _, ?_⟩
     rw [← Act.put_comm _ v undef h2, ← Act.put_defers]
     exact h
    case enter f args =>
     refine Calls.mono h fun e w'' he => ?_
     cases e with
     | returned u => exact ⟨keep a hy u, by rw [← Act.put_comm a v u h2]; exact he⟩
     | panicked c => exact hQ _ _ _ he
     | outgrown => exact he
    case row row args => exact Rows.mono h fun u w'' he => ⟨keep a hy u, by rw [← Act.put_comm a v u h2]; exact he⟩
   | halt x w' =>
    cases x <;> simp only [Oper.upon] at h ⊢
    case panic u => exact hQ _ _ _ h
  ·exact .inr ⟨by unfold Oper.asks at *; rw [execOp_put oj hsj a oi.dst v h1] at hasks; exact hasks, hlets⟩
 ·rename_i hw
  simp only [hw] at h
  exact ⟨keep a hy _, by rw [← Act.put_comm a v undef h2]; exact h⟩

def wpMixK (P : Program) (md : Region.Mode) (ops : Array Oper) (Q : Exit → Act → World → Prop) (S : World → Prop) (last : Option Nat) : Nat → Array Bool → Act → World → Prop
 | 0, listed, a, w => Region.ready md ops listed = [] ∧ ∀ w', Kp w w' → Q .normal a w'
 | fuel + 1, listed, a, w => (Region.ready md ops listed = [] → ∀ w', Kp w w' → Q .normal a w') ∧
  ∀ i ∈ Region.ready md ops listed, ∀ w', Kp w w' → wpOp P ops Q i (fun a' w'' => (ended last (listed.setIfInBounds i true) = true ∨ S w'') ∧ wpMixK P md ops Q S last fuel (listed.setIfInBounds i true) a' w'') a w'
theorem wpMixK.kp {last : Option Nat} {fuel : Nat} {listed : Array Bool} {a : Act} {w w' : World} (h : wpMixK P md ops Q S last fuel listed a w) (hk : Kp w w') : wpMixK P md ops Q S last fuel listed a w' := by
 cases fuel with
 | zero => exact ⟨h.1, fun w'' h2 => h.2 w'' (hk.trans h2)⟩
 | succ n => exact ⟨fun h0 w'' h2 => h.1 h0 w'' (hk.trans h2), fun i hi w'' h2 => h.2 i hi w'' (hk.trans h2)⟩
theorem wpAny_of_mixK {last : Option Nat} : ∀ (fuel : Nat) (listed : Array Bool) (a : Act) (w : World), wpMixK P md ops Q S last fuel listed a w → wpAny P md ops Q fuel listed a w
 | 0, _, _, _, h => ⟨h.1, h.2 _ (Kp.refl _)⟩
 | fuel + 1, _, _, _, h => ⟨fun h0 => h.1 h0 _ (Kp.refl _), fun i hi => wpOp_mono (fun a' w' h' => wpAny_of_mixK fuel _ a' w' h'.2) (h.2 i hi _ (Kp.refl _))⟩
theorem wpMixK_first {last : Option Nat} {i : Nat} {oi : Oper} {v : Value} (hSk : ∀ w w', S w → Kp w w' → S w') (hi : ops[i]? = some oi) (hsel : ∀ (j : Nat) (o : Oper) cs b, ops[j]? = some o → o.op ≠ .select cs b)
  (hQ : ∀ c a w, Q (.panic c) (a.put oi.dst v) w → Q (.panic c) a w) :
  ∀ (fuel : Nat) (listed : Array Bool) (a : Act) (w : World),
   (∀ j oj, ops[j]? = some oj → j ≠ i → listed.getD j true = false → (∀ e ∈ oj.after, Region.binds md e = true → e.on ≠ i) → oi.apart ops oj = true) →
   before md ops last listed i = true → i ∈ Region.ready md ops listed → YK P ops S oi v a → S w →
   wpMixK P md ops Q S last fuel (listed.setIfInBounds i true) (a.put oi.dst v) w → wpMixK P md ops Q S last (fuel + 1) listed a w := by
 intro fuel
 induction fuel with
 | zero =>
  intro listed a w _ _ hr hy hS H
  refine ⟨fun h => (by rw [h] at hr; cases hr), fun j hj w' hk => ?_⟩
  by_cases hji : j = i
  ·subst hji; exact hy.wpOp hi (hSk _ _ hS hk) (fun w'' h2 => ⟨.inr (hSk _ _ (hSk _ _ hS hk) h2), H.kp (hk.trans h2)⟩)
  ·have := ready_mono hj hji
   rw [H.1] at this
   cases this
 | succ fuel ih =>
  intro listed a w hfree hbef hr hy hS H
  refine ⟨fun h => (by rw [h] at hr; cases hr), fun j hj w' hk => ?_⟩
  by_cases hji : j = i
  ·subst hji; exact hy.wpOp hi (hSk _ _ hS hk) (fun w'' h2 => ⟨.inr (hSk _ _ (hSk _ _ hS hk) h2), H.kp (hk.trans h2)⟩)
  ·have hun := (mem_ready.1 hr).1
   obtain ⟨hend, hbef'⟩ := before_not hbef hun hj
   have h1 := H.2 j (ready_mono hj hji) w' hk
   obtain ⟨hjun, oj, hoj, hall⟩ := mem_ready.1 hj
   have hnot : ∀ e ∈ oj.after, Region.binds md e = true → e.on ≠ i := fun e he hb heq => by
    have h1 := hall e he hb
    rw [heq] at h1
    rcases Nat.lt_or_ge i listed.size with h' | h'
    ·simp [h'] at hun h1; rw [hun] at h1; cases h1
    ·simp [Array.getElem?_eq_none h'] at h1
   have h2 := wpOp_putK hoj (hfree j oj hoj hji hjun hnot) (fun cs b => hsel i oi cs b hi) (fun cs b => hsel j oj cs b hoj) hQ hy h1
   have hfree' : ∀ k ok, ops[k]? = some ok → k ≠ i → (listed.setIfInBounds j true).getD k true = false → (∀ e ∈ ok.after, Region.binds md e = true → e.on ≠ i) → oi.apart ops ok = true := fun k ok hk hki hun' hno => by
    refine hfree k ok hk hki ?_ hno
    by_cases hjk : j = k
    ·subst hjk; exact hjun
    ·rw [getD_set_ne true hjk] at hun'; exact hun'
   refine wpOp_mono (fun a' w' h3 => ?_) h2
   have hS' : S w' := by
    rcases h3.2.1 with q | q
    ·rw [hend] at q; cases q
    ·exact q
   refine ⟨.inr hS', ih (listed.setIfInBounds j true) a' w' hfree' hbef' (ready_mono hr (Ne.symm hji)) h3.1 hS' ?_⟩
   rw [Array.setIfInBounds_comm _ _ hji]
   exact h3.2.2
theorem mixk_one {last : Option Nat} {i : Nat} {fuel : Nat} {listed : Array Bool} {a : Act} {w : World} (hr : (Region.ready md ops listed == [i]) = true)
  (h : ∀ w', Kp w w' → wpOp P ops Q i (fun a' w'' => (ended last (listed.setIfInBounds i true) = true ∨ S w'') ∧ wpMixK P md ops Q S last fuel (listed.setIfInBounds i true) a' w'') a w') : wpMixK P md ops Q S last (fuel + 1) listed a w := by
 have hr' : Region.ready md ops listed = [i] := by simpa using hr
 refine ⟨fun h0 => (by rw [hr'] at h0; cases h0), fun j hj => ?_⟩
 rw [hr'] at hj
 rw [List.mem_singleton.1 hj]
 exact h
theorem mixk_done {last : Option Nat} {listed : Array Bool} {a : Act} {w : World} (hr : (Region.ready md ops listed == []) = true) (h : ∀ w', Kp w w' → Q .normal a w') : ∀ fuel, wpMixK P md ops Q S last fuel listed a w
 | 0 => ⟨by simpa using hr, h⟩
 | _ + 1 => ⟨fun _ => h, by have hr' : Region.ready md ops listed = [] := by simpa using hr
                            rw [hr']; simp⟩
end
section
variable {P : Program} {ops : Array Oper} {Q : Exit → Act → World → Prop} {md : Region.Mode} {ε : World} {L : List Asn}
theorem wp_region_mixk (ε : World) (L : List Asn) (last : Option Nat) {id : Nat} {a : Act} {w : World} (hm : P.follows .mixedOrders = true)
  (h : wpMixK P .any ops Q (fun w' => Own ε w' L) last ops.size (Array.replicate ops.size false) a { w with drawn := w.drawn + 1 }) : (Code.region id ops true).wp P Q a w :=
 wp_region_any hm (wpAny_of_mixK _ _ _ _ h)
theorem mixk_q {last : Option Nat} {i : Nat} {oi : Oper} {fuel : Nat} {listed : Array Bool} {a : Act} {w : World} (hi : ops[i]? = some oi) (hB : takeOk md ops last listed i = true)
  (hQ : ∀ v c a w, Q (.panic c) (a.put oi.dst v) w → Q (.panic c) a w) (hS : Own ε w L)
  (h : ∀ K : Act → Prop, (∀ a', wpMixK P md ops Q (fun w' => Own ε w' L) last fuel (listed.setIfInBounds i true) a' w → K a') →
   if Region.wanted oi (yielded ops a.tmps) then ∃ v, (∀ w', Own ε w' L → oneValK P v w' ((execOp a.eval oi).run P w')) ∧ K (a.put oi.dst v) else K (a.put oi.dst undef)) :
  wpMixK P md ops Q (fun w' => Own ε w' L) last (fuel + 1) listed a w := by
 have h1 := h (fun a' => wpMixK P md ops Q (fun w' => Own ε w' L) last fuel (listed.setIfInBounds i true) a' w) (fun _ q => q)
 simp only [takeOk, Bool.and_eq_true] at hB
 obtain ⟨⟨⟨g1, g2⟩, g3⟩, g4⟩ := hB
 have hSk : ∀ w w', Own ε w L → Kp w w' → Own ε w' L := fun w w' H hk => hk _ _ H
 by_cases hw : Region.wanted oi (yielded ops a.tmps) = true
 ·rw [if_pos hw] at h1
  obtain ⟨v, h2, h3⟩ := h1
  exact wpMixK_first (S := fun w' => Own ε w' L) hSk hi (Region.noSelect_spec g1) (hQ v) fuel listed a w (Region.free_spec hi g2) g4 (by simpa using g3) (.inl ⟨hw, h2⟩) hS h3
 ·rw [if_neg hw] at h1
  exact wpMixK_first (S := fun w' => Own ε w' L) hSk hi (Region.noSelect_spec g1) (hQ undef) fuel listed a w (Region.free_spec hi g2) g4 (by simpa using g3) (.inr ⟨by simpa using hw, rfl⟩) hS h1
theorem mixk_l {last : Option Nat} {i : Nat} {oi : Oper} {fuel : Nat} {listed : Array Bool} {a : Act} {w : World} (hi : ops[i]? = some oi) (hr : (Region.ready md ops listed == [i]) = true)
  (h : ∀ K : Act → World → Prop, (∀ a' w', Own ε w' L → wpMixK P md ops Q (fun w' => Own ε w' L) last fuel (listed.setIfInBounds i true) a' w' → K a' w') → ∀ w', Kp w w' →
   if Region.wanted oi (yielded ops a.tmps) then oi.wp P a w' K Q else K (a.put oi.dst undef) w') : wpMixK P md ops Q (fun w' => Own ε w' L) last (fuel + 1) listed a w := by
 refine mixk_one hr (fun w' hk => ?_)
 have h1 := h (fun a' w' => (ended last (listed.setIfInBounds i true) = true ∨ Own ε w' L) ∧ wpMixK P md ops Q (fun w' => Own ε w' L) last fuel (listed.setIfInBounds i true) a' w') (fun _ _ hs q => ⟨.inr hs, q⟩) w' hk
 unfold wpOp
 simp only [hi]
 by_cases hw : Region.wanted oi (yielded ops a.tmps) = true
 ·rw [if_pos hw] at h1 ⊢; exact .inl h1
 ·rw [if_neg hw] at h1 ⊢; exact h1
theorem mixk_e {last : Nat} {oi : Oper} {fuel : Nat} {listed : Array Bool} {a : Act} {w : World} (hi : ops[last]? = some oi) (hr : (Region.ready md ops listed == [last] && ended (some last) (listed.setIfInBounds last true)) = true)
  (h : ∀ K : Act → World → Prop, (∀ a' w', wpMixK P md ops Q (fun w' => Own ε w' L) (some last) fuel (listed.setIfInBounds last true) a' w' → K a' w') → ∀ w', Kp w w' →
   if Region.wanted oi (yielded ops a.tmps) then oi.wp P a w' K Q else K (a.put oi.dst undef) w') : wpMixK P md ops Q (fun w' => Own ε w' L) (some last) (fuel + 1) listed a w := by
 rw [Bool.and_eq_true] at hr
 refine mixk_one hr.1 (fun w' hk => ?_)
 have h1 := h (fun a' w' => (ended (some last) (listed.setIfInBounds last true) = true ∨ Own ε w' L) ∧ wpMixK P md ops Q (fun w' => Own ε w' L) (some last) fuel (listed.setIfInBounds last true) a' w') (fun _ _ q => ⟨.inl hr.2, q⟩) w' hk
 unfold wpOp
 simp only [hi]
 by_cases hw : Region.wanted oi (yielded ops a.tmps) = true
 ·rw [if_pos hw] at h1 ⊢; exact .inl h1
 ·rw [if_neg hw] at h1 ⊢; exact h1
theorem oneValK_value (v u : Value) (w w' : World) : oneValK P v w (.ok (.value u) w') = (w' = w ∧ u = v) := rfl
theorem oneValK_skip (v : Value) (w w' : World) : oneValK P v w (.ok .skip w') = (w' = w ∧ v = undef) := rfl
theorem oneValK_enter (v : Value) (w w' : World) (f : FuncId) (args : Array Value) : oneValK P v w (.ok (.enter f args) w') = (w' = w ∧ Calls P f args w fun e w'' => e = .returned v ∧ Kp w w'') := rfl
end
attribute [go_sem] oneValK_value oneValK_skip oneValK_enter
section
variable {P : Program} {ops : Array Oper} {Q : Exit → Act → World → Prop} {md : Region.Mode} {ε : World} {L : List Asn}
theorem mixk_s {last : Option Nat} {oi : Oper} {fuel : Nat} {listed : Array Bool} {a a' : Act} {w : World} (i : Nat) {X : World → Prop} (hS : Own ε w L) (hX : ∀ wx, Own ε wx L → X wx)
  (next : wpMixK P md ops Q (fun w' => Own ε w' L) last fuel (listed.setIfInBounds i true) a' w)
  (hi : ops[i]? = some oi := by with_unfolding_all rfl) (hB : takeOk md ops last listed i = true := by kernel_rfl)
  (hQ : ∀ v c a w, Q (.panic c) (a.put oi.dst v) w → Q (.panic c) a w := by exact fun _ _ _ _ h => h)
  (h : if Region.wanted oi (yielded ops a.tmps) then ∃ v, (∀ w', Hid (X w') → oneValK P v w' ((execOp a.eval oi).run P w')) ∧ Is (a.put oi.dst v) a' else Is (a.put oi.dst undef) a' := by (go_simp; first | exact Is.rfl | (apply Exists.intro; refine ⟨?_, Is.rfl⟩; intro wx xh_; have xs_ := xh_.out; clear xh_; (try dsimp only at xs_); first | (go_simp; first | rfl | exact ⟨rfl, rfl⟩) | rfl | exact ⟨rfl, rfl⟩))) : wpMixK P md ops Q (fun w' => Own ε w' L) last (fuel + 1) listed a w := by
 refine mixk_q hi hB hQ hS (fun K hK => ?_)
 by_cases hw : Region.wanted oi (yielded ops a.tmps) = true
 ·rw [if_pos hw] at h ⊢
  obtain ⟨v, h2, rfl⟩ := h
  exact ⟨v, fun w' hx => h2 w' (Lib.hid (hX w' hx)), hK _ next⟩
 ·rw [if_neg hw] at h ⊢
  obtain rfl := h
  exact hK _ next
end
end Go.Proofs.YtmkcpnlbicijoaaGreat
