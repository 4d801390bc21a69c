/- Regions that draw their order: quiet operations (one value in every world that meets S, the world left as it was; calls of such functions too) are taken first, the others come in their one order; the last one may break S. -/
import Derived.Test.YtmkcpnlbicijoaaGreatBase
namespace Go.Proofs.YtmkcpnlbicijoaaGreat
section
variable {P : Program} {ops : Array Oper} {Q : Exit → Act → World → Prop} {md : Region.Mode} {S : World → Prop}
def oneVal (P : Program) (v : Value) (w : World) : Result Next → Prop
 | .ok (.value u) w' => w' = w ∧ u = v
 | .ok .skip w' => w' = w ∧ v = undef
 | .ok (.enter f args) w' => w' = w ∧ Calls P f args w fun e w'' => e = .returned v ∧ w = w''
 | _ => False
def YX (P : Program) (ops : Array Oper) (S : World → Prop) (o : Oper) (v : Value) (a : Act) : Prop :=
 (Region.wanted o (yielded ops a.tmps) = true ∧ ∀ w, S w → oneVal P v w ((execOp a.eval o).run P w)) ∨ (Region.wanted o (yielded ops a.tmps) = false ∧ v = undef)
theorem YX.wpOp {i : Nat} {o : Oper} {v : Value} {a : Act} (hi : ops[i]? = some o) (hy : YX P ops S o v a) {K : Act → World → Prop} {w : World} (hS : S w) (h : K (a.put o.dst v) w) : wpOp P ops Q i K a w := by
 unfold Go.wpOp
 simp only [hi]
 rcases hy with ⟨hw, hv⟩ | ⟨hw, rfl⟩
 ·simp only [hw, if_true]
  have h1 := hv w hS
  refine .inl ?_
  unfold Oper.wp
  generalize (execOp a.eval o).run P w = r at *
  cases r with
  | ok n w' =>
   cases n <;> simp only [oneVal] at h1 <;> simp only [Oper.upon]
   case value u => obtain ⟨rfl, rfl⟩ := h1; exact h
   case skip => obtain ⟨rfl, rfl⟩ := h1; exact h
   case enter f args =>
    obtain ⟨rfl, hc⟩ := h1
    exact hc.mono fun e w'' ⟨he, hw''⟩ => by subst he; subst hw''; exact h
  | halt x w' => simp only [oneVal] at h1
 ·simp only [hw, Bool.false_eq_true, if_false]; exact h
theorem YX.of_same {o : Oper} {v : Value} {a a' : Act} (hy : YX P ops S o v a) (he : execOp a'.eval o = execOp a.eval o) (hw : Region.wanted o (yielded ops a'.tmps) = Region.wanted o (yielded ops a.tmps)) : YX P ops S o v a' := by
 unfold YX at *
 rw [he, hw]
 exact hy
theorem wpOp_putX {j : Nat} {oi oj : Oper} {v : Value} (hj : ops[j]? = some oj) (hap : oi.apart ops oj = true) (hsi : ∀ cs b, oi.op ≠ .select cs b) (hsj : ∀ cs b, oj.op ≠ .select cs b)
  (hQ : ∀ c a w, Q (.panic c) (a.put oi.dst v) w → Q (.panic c) a w) {K : Act → World → Prop} {a : Act} {w : World} (hy : YX P ops S oi v a) (h : wpOp P ops Q j K (a.put oi.dst v) w) :
  wpOp P ops Q j (fun a' w' => YX P ops S oi v a' ∧ K (a'.put oi.dst v) w') a w := by
 obtain ⟨h1, h2, h3⟩ := Oper.apart_spec hap
 have keep : ∀ (a : Act), YX P ops S oi v a → ∀ u, YX P ops S oi v (a.put oj.dst u) := fun a hy u => hy.of_same (execOp_put oi hsi a oj.dst u h3) (wanted_put oi a oj.dst u h3)
 have keepD : ∀ d, YX P ops S oi v { a with defers := d :: a.defers } := fun d => hy.of_same rfl rfl
 unfold wpOp at *
 simp only [hj] at *
 rw [wanted_put oj a oi.dst v h1] at h
 split
 ·rename_i hw
  simp only [hw, if_true] at h
  rcases h with h | ⟨hasks, hlets⟩
  ·refine .inl ?_
   unfold Oper.wp at *
   rw [execOp_put oj hsj a oi.dst v h1] at h
   generalize (execOp a.eval oj).run P w = r at *
   cases r with
   | ok n w' =>
    cases n <;> simp only [Oper.upon] at h ⊢
    case value u => exact ⟨keep a hy u, by rw [← Act.put_comm a v u h2]; exact h⟩
    case skip => exact ⟨keep a hy _, by rw [← Act.put_comm a v undef h2]; exact h⟩
    case defer d =>
     refine ⟨keep _ (keepD d) _, ?_⟩
     rw [← Act.put_comm _ v undef h2, ← Act.put_defers]
     exact h
    case enter f args =>
     refine Calls.mono h fun e w'' he => ?_
     cases e with
     | returned u => exact ⟨keep a hy u, by rw [← Act.put_comm a v u h2]; exact he⟩
     | panicked c => exact hQ _ _ _ he
     | outgrown => exact he
    case row row args => exact Rows.mono h fun u w'' he => ⟨keep a hy u, by rw [← Act.put_comm a v u h2]; exact he⟩
   | halt x w' =>
    cases x <;> simp only [Oper.upon] at h ⊢
    case panic u => exact hQ _ _ _ h
  ·exact .inr ⟨by unfold Oper.asks at *; rw [execOp_put oj hsj a oi.dst v h1] at hasks; exact hasks, hlets⟩
 ·rename_i hw
  simp only [hw] at h
  exact ⟨keep a hy _, by rw [← Act.put_comm a v undef h2]; exact h⟩

def ended (last : Option Nat) (listed : Array Bool) : Bool := match last with
 | none => false
 | some l => listed.getD l false
def waitsT (md : Region.Mode) (ops : Array Oper) (i : Nat) : Nat → Nat → Bool
 | 0, _ => false
 | f + 1, d => match ops[d]? with
  | some o => o.after.any fun e => Region.binds md e && (e.on == i || waitsT md ops i f e.on)
  | none => false
def closedL (md : Region.Mode) (ops : Array Oper) (listed : Array Bool) : Bool := (List.range ops.size).all fun j => !listed.getD j false || (match ops[j]? with
 | some o => o.after.all fun e => !Region.binds md e || listed.getD e.on false
 | none => true)
theorem closedL_spec {listed : Array Bool} (h : closedL md ops listed = true) {j : Nat} {o : Oper} (ho : ops[j]? = some o) (hj : listed.getD j false = true) : ∀ e ∈ o.after, Region.binds md e = true → listed.getD e.on false = true := by
 have h1 := List.all_eq_true.1 h j (List.mem_range.2 (Array.getElem?_eq_some_iff.1 ho).1)
 rw [hj, ho] at h1
 simp only [Bool.not_true, Bool.false_or] at h1
 intro e he hb
 have h2 := Array.all_eq_true'.1 h1 e he
 rw [hb] at h2
 simpa using h2
theorem waitsT_listed {listed : Array Bool} (h : closedL md ops listed = true) {i : Nat} : ∀ (f d : Nat), waitsT md ops i f d = true → (∀ o, ops[d]? = some o → ∀ e ∈ o.after, Region.binds md e = true → listed.getD e.on false = true) → listed.getD i false = true
 | 0, _, hw, _ => by cases hw
 | f + 1, d, hw, hd => by
  unfold waitsT at hw
  cases ho : ops[d]? with
  | none => rw [ho] at hw; cases hw
  | some o =>
   rw [ho] at hw
   simp only at hw
   obtain ⟨e, he, hb⟩ := Array.any_eq_true'.1 hw
   simp only [Bool.and_eq_true, Bool.or_eq_true, beq_iff_eq] at hb
   have h1 := hd o ho e he hb.1
   rcases hb.2 with q | q
   ·rw [← q]; exact h1
   ·exact waitsT_listed h f e.on q (fun o' ho' => closedL_spec h ho' h1)
theorem closedL_set {listed : Array Bool} (h : closedL md ops listed = true) {j : Nat} (hj : j ∈ Region.ready md ops listed) : closedL md ops (listed.setIfInBounds j true) = true := by
 obtain ⟨_, oj, hoj, hall⟩ := mem_ready.1 hj
 refine List.all_eq_true.2 (fun k hk => ?_)
 cases hl : (listed.setIfInBounds j true).getD k false with
 | false => rfl
 | true =>
  simp only [Bool.not_true, Bool.false_or]
  cases ho : ops[k]? with
  | none => rfl
  | some o =>
   refine Array.all_eq_true'.2 (fun e he => ?_)
   cases hb : Region.binds md e with
   | false => rfl
   | true =>
    simp only [Bool.not_true, Bool.false_or]
    by_cases hjk : j = k
    ·subst hjk
     have : o = oj := Option.some.inj (ho.symm.trans hoj)
     subst this
     exact getD_set_true (hall e he hb)
    ·rw [getD_set_ne false hjk] at hl
     exact getD_set_true (closedL_spec h ho hl e he hb)
def before (md : Region.Mode) (ops : Array Oper) (last : Option Nat) (listed : Array Bool) (i : Nat) : Bool := match last with
 | none => true
 | some l => decide (i ≠ l) && decide (l < listed.size) && !listed.getD l true && closedL md ops listed && waitsT md ops i ops.size l
def wpMix (P : Program) (md : Region.Mode) (ops : Array Oper) (Q : Exit → Act → World → Prop) (S : World → Prop) (last : Option Nat) : Nat → Array Bool → Act → World → Prop
 | 0, listed, a, w => Region.ready md ops listed = [] ∧ Q .normal a w
 | fuel + 1, listed, a, w => (Region.ready md ops listed = [] → Q .normal a w) ∧
  ∀ i ∈ Region.ready md ops listed, wpOp P ops Q i (fun a' w' => (ended last (listed.setIfInBounds i true) = true ∨ S w') ∧ wpMix P md ops Q S last fuel (listed.setIfInBounds i true) a' w') a w
theorem wpAny_of_mix {last : Option Nat} : ∀ (fuel : Nat) (listed : Array Bool) (a : Act) (w : World), wpMix P md ops Q S last fuel listed a w → wpAny P md ops Q fuel listed a w
 | 0, _, _, _, h => h
 | fuel + 1, _, _, _, h => ⟨h.1, fun i hi => wpOp_mono (fun a' w' h' => wpAny_of_mix fuel _ a' w' h'.2) (h.2 i hi)⟩
theorem before_not {last : Option Nat} {listed : Array Bool} {i j : Nat} (hb : before md ops last listed i = true) (hi : listed.getD i true = false) (hj : j ∈ Region.ready md ops listed) :
  ended last ((listed.setIfInBounds i true).setIfInBounds j true) = false ∧ before md ops last (listed.setIfInBounds j true) i = true := by
 cases last with
 | none => exact ⟨rfl, rfl⟩
 | some l =>
  simp only [before, Bool.and_eq_true, decide_eq_true_eq, Bool.not_eq_true'] at hb
  obtain ⟨⟨⟨⟨hil, hls⟩, hun⟩, hcl⟩, hwait⟩ := hb
  have hjl : j ≠ l := by
   intro e
   subst e
   obtain ⟨_, oj, hoj, hall⟩ := mem_ready.1 hj
   have h2 := waitsT_listed hcl _ _ hwait (fun o ho e he hb => by
    have : o = oj := Option.some.inj (ho.symm.trans hoj)
    subst this
    exact hall e he hb)
   rcases Nat.lt_or_ge i listed.size with h' | h'
   ·simp [h'] at hi h2; rw [hi] at h2; cases h2
   ·simp [Array.getElem?_eq_none h'] at h2
  have hf : listed.getD l false = false := by simp [hls] at hun ⊢; exact hun
  refine ⟨?_, ?_⟩
  ·simp only [ended]
   rw [getD_set_ne false hjl, getD_set_ne false hil]
   exact hf
  ·simp only [before, Bool.and_eq_true, decide_eq_true_eq, Bool.not_eq_true']
   exact ⟨⟨⟨⟨hil, by simpa using hls⟩, by rw [getD_set_ne true hjl]; exact hun⟩, closedL_set hcl hj⟩, hwait⟩
theorem wpMix_first {last : Option Nat} {i : Nat} {oi : Oper} {v : Value} (hi : ops[i]? = some oi) (hsel : ∀ (j : Nat) (o : Oper) cs b, ops[j]? = some o → o.op ≠ .select cs b)
  (hQ : ∀ c a w, Q (.panic c) (a.put oi.dst v) w → Q (.panic c) a w) :
  ∀ (fuel : Nat) (listed : Array Bool) (a : Act) (w : World),
   (∀ j oj, ops[j]? = some oj → j ≠ i → listed.getD j true = false → (∀ e ∈ oj.after, Region.binds md e = true → e.on ≠ i) → oi.apart ops oj = true) →
   before md ops last listed i = true → i ∈ Region.ready md ops listed → YX P ops S oi v a → S w →
   wpMix P md ops Q S last fuel (listed.setIfInBounds i true) (a.put oi.dst v) w → wpMix P md ops Q S last (fuel + 1) listed a w := by
 intro fuel
 induction fuel with
 | zero =>
  intro listed a w _ _ hr hy hS H
  refine ⟨fun h => (by rw [h] at hr; cases hr), fun j hj => ?_⟩
  by_cases hji : j = i
  ·subst hji; exact hy.wpOp hi hS ⟨.inr hS, H⟩
  ·have := ready_mono hj hji
   rw [H.1] at this
   cases this
 | succ fuel ih =>
  intro listed a w hfree hbef hr hy hS H
  refine ⟨fun h => (by rw [h] at hr; cases hr), fun j hj => ?_⟩
  by_cases hji : j = i
  ·subst hji; exact hy.wpOp hi hS ⟨.inr hS, H⟩
  ·have hun := (mem_ready.1 hr).1
   obtain ⟨hend, hbef'⟩ := before_not hbef hun hj
   have h1 := H.2 j (ready_mono hj hji)
   obtain ⟨hjun, oj, hoj, hall⟩ := mem_ready.1 hj
   have hnot : ∀ e ∈ oj.after, Region.binds md e = true → e.on ≠ i := fun e he hb heq => by
    have h1 := hall e he hb
    rw [heq] at h1
    rcases Nat.lt_or_ge i listed.size with h' | h'
    ·simp [h'] at hun h1; rw [hun] at h1; cases h1
    ·simp [Array.getElem?_eq_none h'] at h1
   have h2 := wpOp_putX hoj (hfree j oj hoj hji hjun hnot) (fun cs b => hsel i oi cs b hi) (fun cs b => hsel j oj cs b hoj) hQ hy h1
   have hfree' : ∀ k ok, ops[k]? = some ok → k ≠ i → (listed.setIfInBounds j true).getD k true = false → (∀ e ∈ ok.after, Region.binds md e = true → e.on ≠ i) → oi.apart ops ok = true := fun k ok hk hki hun' hno => by
    refine hfree k ok hk hki ?_ hno
    by_cases hjk : j = k
    ·subst hjk; exact hjun
    ·rw [getD_set_ne true hjk] at hun'; exact hun'
   refine wpOp_mono (fun a' w' h3 => ?_) h2
   have hS' : S w' := by
    rcases h3.2.1 with q | q
    ·rw [hend] at q; cases q
    ·exact q
   refine ⟨.inr hS', ih (listed.setIfInBounds j true) a' w' hfree' hbef' (ready_mono hr (Ne.symm hji)) h3.1 hS' ?_⟩
   rw [Array.setIfInBounds_comm _ _ hji]
   exact h3.2.2
def takeOk (md : Region.Mode) (ops : Array Oper) (last : Option Nat) (listed : Array Bool) (i : Nat) : Bool :=
 Region.noSelect ops && Region.free md ops listed i && (Region.ready md ops listed).contains i && before md ops last listed i
theorem mix_take {last : Option Nat} {i : Nat} {oi : Oper} {v : Value} {fuel : Nat} {listed : Array Bool} {a : Act} {w : World} (hi : ops[i]? = some oi) (hB : takeOk md ops last listed i = true)
  (hQ : ∀ c a w, Q (.panic c) (a.put oi.dst v) w → Q (.panic c) a w) (hS : S w) (hy : YX P ops S oi v a)
  (h : wpMix P md ops Q S last fuel (listed.setIfInBounds i true) (a.put oi.dst v) w) : wpMix P md ops Q S last (fuel + 1) listed a w := by
 simp only [takeOk, Bool.and_eq_true] at hB
 obtain ⟨⟨⟨h1, h2⟩, h3⟩, h4⟩ := hB
 exact wpMix_first hi (Region.noSelect_spec h1) hQ fuel listed a w (Region.free_spec hi h2) h4 (by simpa using h3) hy hS h
theorem mix_one {last : Option Nat} {i : Nat} {fuel : Nat} {listed : Array Bool} {a : Act} {w : World} (hr : (Region.ready md ops listed == [i]) = true)
  (h : wpOp P ops Q i (fun a' w' => (ended last (listed.setIfInBounds i true) = true ∨ S w') ∧ wpMix P md ops Q S last fuel (listed.setIfInBounds i true) a' w') a w) : wpMix P md ops Q S last (fuel + 1) listed a w := by
 have hr' : Region.ready md ops listed = [i] := by simpa using hr
 refine ⟨fun h0 => (by rw [hr'] at h0; cases h0), fun j hj => ?_⟩
 rw [hr'] at hj
 rw [List.mem_singleton.1 hj]
 exact h
theorem mix_done {last : Option Nat} {listed : Array Bool} {a : Act} {w : World} (hr : (Region.ready md ops listed == []) = true) (h : Q .normal a w) : ∀ fuel, wpMix P md ops Q S last fuel listed a w
 | 0 => ⟨by simpa using hr, h⟩
 | _ + 1 => ⟨fun _ => h, by have hr' : Region.ready md ops listed = [] := by simpa using hr
                            rw [hr']; simp⟩
theorem wp_region_mix (S : World → Prop) (last : Option Nat) {id : Nat} {a : Act} {w : World} (hm : P.follows .mixedOrders = true)
  (h : wpMix P .any ops Q S last ops.size (Array.replicate ops.size false) a { w with drawn := w.drawn + 1 }) : (Code.region id ops true).wp P Q a w :=
 wp_region_any hm (wpAny_of_mix _ _ _ _ h)
theorem mix_q {last : Option Nat} {i : Nat} {oi : Oper} {fuel : Nat} {listed : Array Bool} {a : Act} {w : World} (hi : ops[i]? = some oi) (hB : takeOk md ops last listed i = true)
  (hQ : ∀ v c a w, Q (.panic c) (a.put oi.dst v) w → Q (.panic c) a w) (hS : S w)
  (h : ∀ K : Act → Prop, (∀ a', wpMix P md ops Q S last fuel (listed.setIfInBounds i true) a' w → K a') →
   if Region.wanted oi (yielded ops a.tmps) then ∃ v, (∀ w', S w' → oneVal P v w' ((execOp a.eval oi).run P w')) ∧ K (a.put oi.dst v) else K (a.put oi.dst undef)) :
  wpMix P md ops Q S last (fuel + 1) listed a w := by
 have h1 := h (fun a' => wpMix P md ops Q S last fuel (listed.setIfInBounds i true) a' w) (fun _ q => q)
 by_cases hw : Region.wanted oi (yielded ops a.tmps) = true
 ·rw [if_pos hw] at h1
  obtain ⟨v, h2, h3⟩ := h1
  exact mix_take hi hB (hQ v) hS (.inl ⟨hw, h2⟩) h3
 ·rw [if_neg hw] at h1
  exact mix_take hi hB (hQ undef) hS (.inr ⟨by simpa using hw, rfl⟩) h1
theorem mix_l {last : Option Nat} {i : Nat} {oi : Oper} {fuel : Nat} {listed : Array Bool} {a : Act} {w : World} (hi : ops[i]? = some oi) (hr : (Region.ready md ops listed == [i]) = true)
  (h : ∀ K : Act → World → Prop, (∀ a' w', S w' → wpMix P md ops Q S last fuel (listed.setIfInBounds i true) a' w' → K a' w') →
   if Region.wanted oi (yielded ops a.tmps) then oi.wp P a w K Q else K (a.put oi.dst undef) w) : wpMix P md ops Q S last (fuel + 1) listed a w := by
 refine mix_one hr ?_
 have h1 := h (fun a' w' => (ended last (listed.setIfInBounds i true) = true ∨ S w') ∧ wpMix P md ops Q S last fuel (listed.setIfInBounds i true) a' w') (fun _ _ hs q => ⟨.inr hs, q⟩)
 unfold wpOp
 simp only [hi]
 by_cases hw : Region.wanted oi (yielded ops a.tmps) = true
 ·rw [if_pos hw] at h1 ⊢; exact .inl h1
 ·rw [if_neg hw] at h1 ⊢; exact h1
theorem mix_e {last : Nat} {oi : Oper} {fuel : Nat} {listed : Array Bool} {a : Act} {w : World} (hi : ops[last]? = some oi) (hr : (Region.ready md ops listed == [last] && ended (some last) (listed.setIfInBounds last true)) = true)
  (h : ∀ K : Act → World → Prop, (∀ a' w', wpMix P md ops Q S (some last) fuel (listed.setIfInBounds last true) a' w' → K a' w') →
   if Region.wanted oi (yielded ops a.tmps) then oi.wp P a w K Q else K (a.put oi.dst undef) w) : wpMix P md ops Q S (some last) (fuel + 1) listed a w := by
 rw [Bool.and_eq_true] at hr
 refine mix_one hr.1 ?_
 have h1 := h (fun a' w' => (ended (some last) (listed.setIfInBounds last true) = true ∨ S w') ∧ wpMix P md ops Q S (some last) fuel (listed.setIfInBounds last true) a' w') (fun _ _ q => ⟨.inl hr.2, q⟩)
 unfold wpOp
 simp only [hi]
 by_cases hw : Region.wanted oi (yielded ops a.tmps) = true
 ·rw [if_pos hw] at h1 ⊢; exact .inl h1
 ·rw [if_neg hw] at h1 ⊢; exact h1
theorem oneVal_value (v u : Value) (w w' : World) : oneVal P v w (.ok (.value u) w') = (w' = w ∧ u = v) := rfl
theorem oneVal_skip (v : Value) (w w' : World) : oneVal P v w (.ok .skip w') = (w' = w ∧ v = undef) := rfl
theorem oneVal_enter (v : Value) (w w' : World) (f : FuncId) (args : Array Value) : oneVal P v w (.ok (.enter f args) w') = (w' = w ∧ Calls P f args w fun e w'' => e = .returned v ∧ w = w'') := rfl
end
attribute [go_sem] oneVal_value oneVal_skip oneVal_enter
section
variable {P : Program} {ops : Array Oper} {Q : Exit → Act → World → Prop} {md : Region.Mode} {S : World → Prop}
theorem mix_s {last : Option Nat} {oi : Oper} {fuel : Nat} {listed : Array Bool} {a a' : Act} {w : World} (i : Nat) (hS : S w)
  (next : wpMix P md ops Q S last fuel (listed.setIfInBounds i true) a' w)
  (hi : ops[i]? = some oi := by with_unfolding_all rfl) (hB : takeOk md ops last listed i = true := by kernel_rfl)
  (hQ : ∀ v c a w, Q (.panic c) (a.put oi.dst v) w → Q (.panic c) a w := by exact fun _ _ _ _ h => h)
  (h : if Region.wanted oi (yielded ops a.tmps) then ∃ v, (∀ w', S w' → oneVal P v w' ((execOp a.eval oi).run P w')) ∧ Is (a.put oi.dst v) a' else Is (a.put oi.dst undef) a' := by (go_simp; first | exact Is.rfl | (apply Exists.intro; refine ⟨?_, Is.rfl⟩; intros; first | rfl | exact ⟨rfl, rfl⟩ | (go_simp; first | rfl | exact ⟨rfl, rfl⟩)))) : wpMix P md ops Q S last (fuel + 1) listed a w := by
 refine mix_q hi hB hQ hS (fun K hK => ?_)
 by_cases hw : Region.wanted oi (yielded ops a.tmps) = true
 ·rw [if_pos hw] at h ⊢
  obtain ⟨v, h2, rfl⟩ := h
  exact ⟨v, h2, hK _ next⟩
 ·rw [if_neg hw] at h ⊢
  obtain rfl := h
  exact hK _ next
end
end Go.Proofs.YtmkcpnlbicijoaaGreat
