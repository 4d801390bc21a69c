/- Regions that draw: calm operations (one value in every world that owns these, and a world that keeps what is owned: loads, calls that write nothing old) are taken in the order of the text; the others (allocations, writing calls, stores) come in their one order, the last one may break what is read. -/
import Derived.Test.YtlhncdbigjgmnaaMix
import Derived.Test.YtlhncdbigjgmnaaKp
namespace Go.Proofs.Ytlhncdbigjgmnaa
open Go.RowKit
theorem Kp.refl (w : World) : Kp w w := fun _ _ H => H
theorem Kp.trans {a b c : World} (h : Kp a b) (k : Kp b c) : Kp a c := fun ε L H => k ε L (h ε L H)
section
variable {P : Program} {ops : Array Oper} {Q : Exit → Act → World → Prop} {md : Region.Mode} {S : World → Prop}
/-- One value, in a world that keeps what is owned. -/
def oneValK (P : Program) (v : Value) (w : World) : Result Next → Prop
  | .ok (.value u) w' => w' = w ∧ u = v
  | .ok .skip w' => w' = w ∧ v = undef
  | .ok (.enter f args) w' => w' = w ∧ Calls P f args w fun e w'' => e = .returned v ∧ Kp w w''
  | _ => False
def YK (P : Program) (ops : Array Oper) (S : World → Prop) (o : Oper) (v : Value) (a : Act) : Prop :=
  (Region.wanted o (yielded ops a.tmps) = true ∧ ∀ w, S w → oneValK P v w ((execOp a.eval o).run P w)) ∨ (Region.wanted o (yielded ops a.tmps) = false ∧ v = undef)
theorem YK.wpOp {i : Nat} {o : Oper} {v : Value} {a : Act} (hi : ops[i]? = some o) (hy : YK P ops S o v a) {K : Act → World → Prop} {w : World} (hS : S w) (h : ∀ w', Kp w w' → K (a.put o.dst v) w') : wpOp P ops Q i K a w := by
  unfold Go.wpOp
  simp only [hi]
  rcases hy with ⟨hw, hv⟩ | ⟨hw, rfl⟩
  · simp only [hw, if_true]
    have h1 := hv w hS
    refine .inl ?_
    unfold Oper.wp
    generalize (execOp a.eval o).run P w = r at *
    cases r with
    | ok n w' =>
      cases n <;> simp only [oneValK] at h1 <;> simp only [Oper.upon]
      case value u => obtain ⟨rfl, rfl⟩ := h1; exact h _ (Kp.refl _)
      case skip => obtain ⟨rfl, rfl⟩ := h1; exact h _ (Kp.refl _)
      case enter f args =>
        obtain ⟨rfl, hc⟩ := h1
        exact hc.mono fun e w'' ⟨he, hw''⟩ => by subst he; exact h _ hw''
    | halt x w' => simp only [oneValK] at h1
  · simp only [hw, Bool.false_eq_true, if_false]; exact h _ (Kp.refl _)
theorem YK.of_same {o : Oper} {v : Value} {a a' : Act} (hy : YK P ops S o v a) (he : execOp a'.eval o = execOp a.eval o) (hw : Region.wanted o (yielded ops a'.tmps) = Region.wanted o (yielded ops a.tmps)) : YK P ops S o v a' := by
  unfold YK at *
  rw [he, hw]
  exact hy
theorem wpOp_putK {j : Nat} {oi oj : Oper} {v : Value} (hj : ops[j]? = some oj) (hap : oi.apart ops oj = true) (hsi : ∀ cs b, oi.op ≠ .select cs b) (hsj : ∀ cs b, oj.op ≠ .select cs b)
    (hQ : ∀ c a w, Q (.panic c) (a.put oi.dst v) w → Q (.panic c) a w) {K : Act → World → Prop} {a : Act} {w : World} (hy : YK P ops S oi v a) (h : wpOp P ops Q j K (a.put oi.dst v) w) :
    wpOp P ops Q j (fun a' w' => YK P ops S oi v a' ∧ K (a'.put oi.dst v) w') a w := by
  obtain ⟨h1, h2, h3⟩ := Oper.apart_spec hap
  have keep : ∀ (a : Act), YK P ops S oi v a → ∀ u, YK P ops S oi v (a.put oj.dst u) := fun a hy u => hy.of_same (execOp_put oi hsi a oj.dst u h3) (wanted_put oi a oj.dst u h3)
  have keepD : ∀ d, YK P ops S oi v { a with defers := d :: a.defers } := fun d => hy.of_same rfl rfl
  unfold wpOp at *
  simp only [hj] at *
  rw [wanted_put oj a oi.dst v h1] at h
  split
  · rename_i hw
    simp only [hw, if_true] at h
    rcases h with h | ⟨hasks, hlets⟩
    · refine .inl ?_
      unfold Oper.wp at *
      rw [execOp_put oj hsj a oi.dst v h1] at h
      generalize (execOp a.eval oj).run P w = r at *
      cases r with
      | ok n w' =>
        cases n <;> simp only [Oper.upon] at h ⊢
        case value u => exact ⟨keep a hy u, by rw [← Act.put_comm a v u h2]; exact h⟩
        case skip => exact ⟨keep a hy _, by rw [← Act.put_comm a v undef h2]; exact h⟩
        case defer d =>
          refine ⟨keep _ (keepD d) _, ?_⟩
          rw [← Act.put_comm _ v undef h2, ← Act.put_defers]
          exact h
        case enter f args =>
          refine Calls.mono h fun e w'' he => ?_
          cases e with
          | returned u => exact ⟨keep a hy u, by rw [← Act.put_comm a v u h2]; exact he⟩
          | panicked c => exact hQ _ _ _ he
          | outgrown => exact he
        case row row args => exact Rows.mono h fun u w'' he => ⟨keep a hy u, by rw [← Act.put_comm a v u h2]; exact he⟩
      | halt x w' =>
        cases x <;> simp only [Oper.upon] at h ⊢
        case panic u => exact hQ _ _ _ h
    · exact .inr ⟨by unfold Oper.asks at *; rw [execOp_put oj hsj a oi.dst v h1] at hasks; exact hasks, hlets⟩
  · rename_i hw
    simp only [hw] at h
    exact ⟨keep a hy _, by rw [← Act.put_comm a v undef h2]; exact h⟩

def wpMixK (P : Program) (md : Region.Mode) (ops : Array Oper) (Q : Exit → Act → World → Prop) (S : World → Prop) (last : Option Nat) : Nat → Array Bool → Act → World → Prop
  | 0, listed, a, w => Region.ready md ops listed = [] ∧ ∀ w', Kp w w' → Q .normal a w'
  | fuel + 1, listed, a, w => (Region.ready md ops listed = [] → ∀ w', Kp w w' → Q .normal a w') ∧
    ∀ i ∈ Region.ready md ops listed, ∀ w', Kp w w' → wpOp P ops Q i (fun a' w'' => (ended last (listed.setIfInBounds i true) = true ∨ S w'') ∧ wpMixK P md ops Q S last fuel (listed.setIfInBounds i true) a' w'') a w'
theorem wpMixK.kp {last : Option Nat} {fuel : Nat} {listed : Array Bool} {a : Act} {w w' : World} (h : wpMixK P md ops Q S last fuel listed a w) (hk : Kp w w') : wpMixK P md ops Q S last fuel listed a w' := by
  cases fuel with
  | zero => exact ⟨h.1, fun w'' h2 => h.2 w'' (hk.trans h2)⟩
  | succ n => exact ⟨fun h0 w'' h2 => h.1 h0 w'' (hk.trans h2), fun i hi w'' h2 => h.2 i hi w'' (hk.trans h2)⟩
theorem wpAny_of_mixK {last : Option Nat} : ∀ (fuel : Nat) (listed : Array Bool) (a : Act) (w : World), wpMixK P md ops Q S last fuel listed a w → wpAny P md ops Q fuel listed a w
  | 0, _, _, _, h => ⟨h.1, h.2 _ (Kp.refl _)⟩
  | fuel + 1, _, _, _, h => ⟨fun h0 => h.1 h0 _ (Kp.refl _), fun i hi => wpOp_mono (fun a' w' h' => wpAny_of_mixK fuel _ a' w' h'.2) (h.2 i hi _ (Kp.refl _))⟩
theorem wpMixK_first {last : Option Nat} {i : Nat} {oi : Oper} {v : Value} (hSk : ∀ w w', S w → Kp w w' → S w') (hi : ops[i]? = some oi) (hsel : ∀ (j : Nat) (o : Oper) cs b, ops[j]? = some o → o.op ≠ .select cs b)
    (hQ : ∀ c a w, Q (.panic c) (a.put oi.dst v) w → Q (.panic c) a w) :
    ∀ (fuel : Nat) (listed : Array Bool) (a : Act) (w : World),
      (∀ j oj, ops[j]? = some oj → j ≠ i → listed.getD j true = false → (∀ e ∈ oj.after, Region.binds md e = true → e.on ≠ i) → oi.apart ops oj = true) →
      before md ops last listed i = true → i ∈ Region.ready md ops listed → YK P ops S oi v a → S w →
      wpMixK P md ops Q S last fuel (listed.setIfInBounds i true) (a.put oi.dst v) w → wpMixK P md ops Q S last (fuel + 1) listed a w := by
  intro fuel
  induction fuel with
  | zero =>
    intro listed a w _ _ hr hy hS H
    refine ⟨fun h => (by rw [h] at hr; cases hr), fun j hj w' hk => ?_⟩
    by_cases hji : j = i
    · subst hji; exact hy.wpOp hi (hSk _ _ hS hk) (fun w'' h2 => ⟨.inr (hSk _ _ (hSk _ _ hS hk) h2), H.kp (hk.trans h2)⟩)
    · have := ready_mono hj hji
      rw [H.1] at this
      cases this
  | succ fuel ih =>
    intro listed a w hfree hbef hr hy hS H
    refine ⟨fun h => (by rw [h] at hr; cases hr), fun j hj w' hk => ?_⟩
    by_cases hji : j = i
    · subst hji; exact hy.wpOp hi (hSk _ _ hS hk) (fun w'' h2 => ⟨.inr (hSk _ _ (hSk _ _ hS hk) h2), H.kp (hk.trans h2)⟩)
    · have hun := (mem_ready.1 hr).1
      obtain ⟨hend, hbef'⟩ := before_not hbef hun hj
      have h1 := H.2 j (ready_mono hj hji) w' hk
      obtain ⟨hjun, oj, hoj, hall⟩ := mem_ready.1 hj
      have hnot : ∀ e ∈ oj.after, Region.binds md e = true → e.on ≠ i := fun e he hb heq => by
        have h1 := hall e he hb
        rw [heq] at h1
        rcases Nat.lt_or_ge i listed.size with h' | h'
        · simp [h'] at hun h1; rw [hun] at h1; cases h1
        · simp [Array.getElem?_eq_none h'] at h1
      have h2 := wpOp_putK hoj (hfree j oj hoj hji hjun hnot) (fun cs b => hsel i oi cs b hi) (fun cs b => hsel j oj cs b hoj) hQ hy h1
      have hfree' : ∀ k ok, ops[k]? = some ok → k ≠ i → (listed.setIfInBounds j true).getD k true = false → (∀ e ∈ ok.after, Region.binds md e = true → e.on ≠ i) → oi.apart ops ok = true := fun k ok hk hki hun' hno => by
        refine hfree k ok hk hki ?_ hno
        by_cases hjk : j = k
        · subst hjk; exact hjun
        · rw [getD_set_ne true hjk] at hun'; exact hun'
      refine wpOp_mono (fun a' w' h3 => ?_) h2
      have hS' : S w' := by
        rcases h3.2.1 with q | q
        · rw [hend] at q; cases q
        · exact q
      refine ⟨.inr hS', ih (listed.setIfInBounds j true) a' w' hfree' hbef' (ready_mono hr (Ne.symm hji)) h3.1 hS' ?_⟩
      rw [Array.setIfInBounds_comm _ _ hji]
      exact h3.2.2
theorem mixk_one {last : Option Nat} {i : Nat} {fuel : Nat} {listed : Array Bool} {a : Act} {w : World} (hr : (Region.ready md ops listed == [i]) = true)
    (h : ∀ w', Kp w w' → wpOp P ops Q i (fun a' w'' => (ended last (listed.setIfInBounds i true) = true ∨ S w'') ∧ wpMixK P md ops Q S last fuel (listed.setIfInBounds i true) a' w'') a w') : wpMixK P md ops Q S last (fuel + 1) listed a w := by
  have hr' : Region.ready md ops listed = [i] := by simpa using hr
  refine ⟨fun h0 => (by rw [hr'] at h0; cases h0), fun j hj => ?_⟩
  rw [hr'] at hj
  rw [List.mem_singleton.1 hj]
  exact h
theorem mixk_done {last : Option Nat} {listed : Array Bool} {a : Act} {w : World} (hr : (Region.ready md ops listed == []) = true) (h : ∀ w', Kp w w' → Q .normal a w') : ∀ fuel, wpMixK P md ops Q S last fuel listed a w
  | 0 => ⟨by simpa using hr, h⟩
  | _ + 1 => ⟨fun _ => h, by have hr' : Region.ready md ops listed = [] := by simpa using hr
                             rw [hr']; simp⟩
end
section
variable {P : Program} {ops : Array Oper} {Q : Exit → Act → World → Prop} {md : Region.Mode} {ε : World} {L : List Asn}
/-- S is: these are owned. -/
theorem wp_region_mixk (ε : World) (L : List Asn) (last : Option Nat) {id : Nat} {a : Act} {w : World} (hm : P.follows .mixedOrders = true)
    (h : wpMixK P .any ops Q (fun w' => Own ε w' L) last ops.size (Array.replicate ops.size false) a { w with drawn := w.drawn + 1 }) : (Code.region id ops true).wp P Q a w :=
  wp_region_any hm (wpAny_of_mixK _ _ _ _ h)
/-- A calm one: -/
theorem mixk_q {last : Option Nat} {i : Nat} {oi : Oper} {fuel : Nat} {listed : Array Bool} {a : Act} {w : World} (hi : ops[i]? = some oi) (hB : takeOk md ops last listed i = true)
    (hQ : ∀ v c a w, Q (.panic c) (a.put oi.dst v) w → Q (.panic c) a w) (hS : Own ε w L)
    (h : ∀ K : Act → Prop, (∀ a', wpMixK P md ops Q (fun w' => Own ε w' L) last fuel (listed.setIfInBounds i true) a' w → K a') →
      if Region.wanted oi (yielded ops a.tmps) then ∃ v, (∀ w', Own ε w' L → oneValK P v w' ((execOp a.eval oi).run P w')) ∧ K (a.put oi.dst v) else K (a.put oi.dst undef)) :
    wpMixK P md ops Q (fun w' => Own ε w' L) last (fuel + 1) listed a w := by
  have h1 := h (fun a' => wpMixK P md ops Q (fun w' => Own ε w' L) last fuel (listed.setIfInBounds i true) a' w) (fun _ q => q)
  simp only [takeOk, Bool.and_eq_true] at hB
  obtain ⟨⟨⟨g1, g2⟩, g3⟩, g4⟩ := hB
  have hSk : ∀ w w', Own ε w L → Kp w w' → Own ε w' L := fun w w' H hk => hk _ _ H
  by_cases hw : Region.wanted oi (yielded ops a.tmps) = true
  · rw [if_pos hw] at h1
    obtain ⟨v, h2, h3⟩ := h1
    exact wpMixK_first (S := fun w' => Own ε w' L) hSk hi (Region.noSelect_spec g1) (hQ v) fuel listed a w (Region.free_spec hi g2) g4 (by simpa using g3) (.inl ⟨hw, h2⟩) hS h3
  · rw [if_neg hw] at h1
    exact wpMixK_first (S := fun w' => Own ε w' L) hSk hi (Region.noSelect_spec g1) (hQ undef) fuel listed a w (Region.free_spec hi g2) g4 (by simpa using g3) (.inr ⟨by simpa using hw, rfl⟩) hS h1
/-- One that writes, or makes memory, and leaves L owned: -/
theorem mixk_l {last : Option Nat} {i : Nat} {oi : Oper} {fuel : Nat} {listed : Array Bool} {a : Act} {w : World} (hi : ops[i]? = some oi) (hr : (Region.ready md ops listed == [i]) = true)
    (h : ∀ K : Act → World → Prop, (∀ a' w', Own ε w' L → wpMixK P md ops Q (fun w' => Own ε w' L) last fuel (listed.setIfInBounds i true) a' w' → K a' w') → ∀ w', Kp w w' →
      if Region.wanted oi (yielded ops a.tmps) then oi.wp P a w' K Q else K (a.put oi.dst undef) w') : wpMixK P md ops Q (fun w' => Own ε w' L) last (fuel + 1) listed a w := by
  refine mixk_one hr (fun w' hk => ?_)
  have h1 := h (fun a' w' => (ended last (listed.setIfInBounds i true) = true ∨ Own ε w' L) ∧ wpMixK P md ops Q (fun w' => Own ε w' L) last fuel (listed.setIfInBounds i true) a' w') (fun _ _ hs q => ⟨.inr hs, q⟩) w' hk
  unfold wpOp
  simp only [hi]
  by_cases hw : Region.wanted oi (yielded ops a.tmps) = true
  · rw [if_pos hw] at h1 ⊢; exact .inl h1
  · rw [if_neg hw] at h1 ⊢; exact h1
/-- The last one, which may break it: -/
theorem mixk_e {last : Nat} {oi : Oper} {fuel : Nat} {listed : Array Bool} {a : Act} {w : World} (hi : ops[last]? = some oi) (hr : (Region.ready md ops listed == [last] && ended (some last) (listed.setIfInBounds last true)) = true)
    (h : ∀ K : Act → World → Prop, (∀ a' w', wpMixK P md ops Q (fun w' => Own ε w' L) (some last) fuel (listed.setIfInBounds last true) a' w' → K a' w') → ∀ w', Kp w w' →
      if Region.wanted oi (yielded ops a.tmps) then oi.wp P a w' K Q else K (a.put oi.dst undef) w') : wpMixK P md ops Q (fun w' => Own ε w' L) (some last) (fuel + 1) listed a w := by
  rw [Bool.and_eq_true] at hr
  refine mixk_one hr.1 (fun w' hk => ?_)
  have h1 := h (fun a' w' => (ended (some last) (listed.setIfInBounds last true) = true ∨ Own ε w' L) ∧ wpMixK P md ops Q (fun w' => Own ε w' L) (some last) fuel (listed.setIfInBounds last true) a' w') (fun _ _ q => ⟨.inl hr.2, q⟩) w' hk
  unfold wpOp
  simp only [hi]
  by_cases hw : Region.wanted oi (yielded ops a.tmps) = true
  · rw [if_pos hw] at h1 ⊢; exact .inl h1
  · rw [if_neg hw] at h1 ⊢; exact h1
theorem oneValK_value (v u : Value) (w w' : World) : oneValK P v w (.ok (.value u) w') = (w' = w ∧ u = v) := rfl
theorem oneValK_skip (v : Value) (w w' : World) : oneValK P v w (.ok .skip w') = (w' = w ∧ v = undef) := rfl
theorem oneValK_enter (v : Value) (w w' : World) (f : FuncId) (args : Array Value) : oneValK P v w (.ok (.enter f args) w') = (w' = w ∧ Calls P f args w fun e w'' => e = .returned v ∧ Kp w w'') := rfl
end
attribute [go_sem] oneValK_value oneValK_skip oneValK_enter
end Go.Proofs.Ytlhncdbigjgmnaa
