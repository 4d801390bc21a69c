/- Regions that draw, with two stages: S1 until l1 has come up, S2 until l2 has (or for good). -/
import Derived.Test.YtlhncdbigjgmnaaMix
namespace Go.Proofs.Ytlhncdbigjgmnaa
section
variable {P : Program} {ops : Array Oper} {Q : Exit → Act → World → Prop} {md : Region.Mode} {S S1 S2 : World → Prop} {l1 l2 : Option Nat}
def Inv2 (l1 l2 : Option Nat) (S1 S2 : World → Prop) (L : Array Bool) (w : World) : Prop := (ended l1 L = true ∨ S1 w) ∧ (ended l2 L = true ∨ S2 w)
theorem ended_set {l : Option Nat} {L : Array Bool} {i : Nat} (h : ended l L = true) : ended l (L.setIfInBounds i true) = true := by
  cases l with
  | none => exact h
  | some l => exact getD_set_true h
theorem Inv2.set {L : Array Bool} {w : World} {i : Nat} (h : Inv2 l1 l2 S1 S2 L w) : Inv2 l1 l2 S1 S2 (L.setIfInBounds i true) w := ⟨h.1.imp ended_set id, h.2.imp ended_set id⟩
def wpMix2 (P : Program) (md : Region.Mode) (ops : Array Oper) (Q : Exit → Act → World → Prop) (l1 l2 : Option Nat) (S1 S2 : World → Prop) : Nat → Array Bool → Act → World → Prop
  | 0, listed, a, w => Region.ready md ops listed = [] ∧ Q .normal a w
  | fuel + 1, listed, a, w => (Region.ready md ops listed = [] → Q .normal a w) ∧
    ∀ i ∈ Region.ready md ops listed, wpOp P ops Q i (fun a' w' => Inv2 l1 l2 S1 S2 (listed.setIfInBounds i true) w' ∧ wpMix2 P md ops Q l1 l2 S1 S2 fuel (listed.setIfInBounds i true) a' w') a w
theorem wpAny_of_mix2 : ∀ (fuel : Nat) (listed : Array Bool) (a : Act) (w : World), wpMix2 P md ops Q l1 l2 S1 S2 fuel listed a w → wpAny P md ops Q fuel listed a w
  | 0, _, _, _, h => h
  | fuel + 1, _, _, _, h => ⟨h.1, fun i hi => wpOp_mono (fun a' w' h' => wpAny_of_mix2 fuel _ a' w' h'.2) (h.2 i hi)⟩
theorem wpMix2_first {last : Option Nat} (hproj : ∀ L w, Inv2 l1 l2 S1 S2 L w → ended last L = true ∨ S w) {i : Nat} (hn1 : l1 ≠ some i) (hn2 : l2 ≠ some i) {oi : Oper} {v : Value} (hi : ops[i]? = some oi) (hsel : ∀ (j : Nat) (o : Oper) cs b, ops[j]? = some o → o.op ≠ .select cs b)
    (hQ : ∀ c a w, Q (.panic c) (a.put oi.dst v) w → Q (.panic c) a w) :
    ∀ (fuel : Nat) (listed : Array Bool) (a : Act) (w : World),
      (∀ j oj, ops[j]? = some oj → j ≠ i → listed.getD j true = false → (∀ e ∈ oj.after, Region.binds md e = true → e.on ≠ i) → oi.apart ops oj = true) →
      before md ops last listed i = true → i ∈ Region.ready md ops listed → YX P ops S oi v a → S w → Inv2 l1 l2 S1 S2 listed w →
      wpMix2 P md ops Q l1 l2 S1 S2 fuel (listed.setIfInBounds i true) (a.put oi.dst v) w → wpMix2 P md ops Q l1 l2 S1 S2 (fuel + 1) listed a w := by
  intro fuel
  induction fuel with
  | zero =>
    intro listed a w _ _ hr hy hS hI H
    refine ⟨fun h => (by rw [h] at hr; cases hr), fun j hj => ?_⟩
    by_cases hji : j = i
    · subst hji; exact hy.wpOp hi hS ⟨hI.set, H⟩
    · have := ready_mono hj hji
      rw [H.1] at this
      cases this
  | succ fuel ih =>
    intro listed a w hfree hbef hr hy hS hI H
    refine ⟨fun h => (by rw [h] at hr; cases hr), fun j hj => ?_⟩
    by_cases hji : j = i
    · subst hji; exact hy.wpOp hi hS ⟨hI.set, H⟩
    · have hun := (mem_ready.1 hr).1
      obtain ⟨hend, hbef'⟩ := before_not hbef hun hj
      have h1 := H.2 j (ready_mono hj hji)
      obtain ⟨hjun, oj, hoj, hall⟩ := mem_ready.1 hj
      have hnot : ∀ e ∈ oj.after, Region.binds md e = true → e.on ≠ i := fun e he hb heq => by
        have h1 := hall e he hb
        rw [heq] at h1
        rcases Nat.lt_or_ge i listed.size with h' | h'
        · simp [h'] at hun h1; rw [hun] at h1; cases h1
        · simp [Array.getElem?_eq_none h'] at h1
      have h2 := wpOp_putX hoj (hfree j oj hoj hji hjun hnot) (fun cs b => hsel i oi cs b hi) (fun cs b => hsel j oj cs b hoj) hQ hy h1
      have hfree' : ∀ k ok, ops[k]? = some ok → k ≠ i → (listed.setIfInBounds j true).getD k true = false → (∀ e ∈ ok.after, Region.binds md e = true → e.on ≠ i) → oi.apart ops ok = true := fun k ok hk hki hun' hno => by
        refine hfree k ok hk hki ?_ hno
        by_cases hjk : j = k
        · subst hjk; exact hjun
        · rw [getD_set_ne true hjk] at hun'; exact hun'
      refine wpOp_mono (fun a' w' h3 => ?_) h2
      have hcomm : (listed.setIfInBounds j true).setIfInBounds i true = (listed.setIfInBounds i true).setIfInBounds j true := Array.setIfInBounds_comm _ _ hji
      have hI' : Inv2 l1 l2 S1 S2 (listed.setIfInBounds j true) w' := by
        have hI2 := h3.2.1
        have hne : ∀ l : Option Nat, ended l ((listed.setIfInBounds i true).setIfInBounds j true) = true → (l = some i ∨ ended l (listed.setIfInBounds j true) = true) := by
          intro l hl
          cases l with
          | none => exact .inr hl
          | some l =>
            by_cases hil : i = l
            · left; rw [hil]
            · right
              simp only [ended] at hl ⊢
              rw [← hcomm, getD_set_ne false hil] at hl
              exact hl
        exact ⟨hI2.1.imp (fun h => (hne l1 h).resolve_left hn1) id, hI2.2.imp (fun h => (hne l2 h).resolve_left hn2) id⟩
      have hS' : S w' := by
        rcases hproj _ _ h3.2.1 with q | q
        · rw [hend] at q; cases q
        · exact q
      refine ⟨hI', ih (listed.setIfInBounds j true) a' w' hfree' hbef' (ready_mono hr (Ne.symm hji)) h3.1 hS' hI' ?_⟩
      rw [hcomm]
      exact h3.2.2
/-- What the kernel checks when number i is taken first, with what holds until 'last'. -/
def takeOk2 (md : Region.Mode) (ops : Array Oper) (l1 l2 last : Option Nat) (listed : Array Bool) (i : Nat) : Bool :=
  takeOk md ops last listed i && !(l1 == some i) && !(l2 == some i)
theorem mix2_take {last : Option Nat} (hproj : ∀ L w, Inv2 l1 l2 S1 S2 L w → ended last L = true ∨ S w) {i : Nat} {oi : Oper} {v : Value} {fuel : Nat} {listed : Array Bool} {a : Act} {w : World} (hi : ops[i]? = some oi) (hB : takeOk2 md ops l1 l2 last listed i = true)
    (hQ : ∀ c a w, Q (.panic c) (a.put oi.dst v) w → Q (.panic c) a w) (hS : S w) (hI : Inv2 l1 l2 S1 S2 listed w) (hy : YX P ops S oi v a)
    (h : wpMix2 P md ops Q l1 l2 S1 S2 fuel (listed.setIfInBounds i true) (a.put oi.dst v) w) : wpMix2 P md ops Q l1 l2 S1 S2 (fuel + 1) listed a w := by
  simp only [takeOk2, takeOk, Bool.and_eq_true, Bool.not_eq_true', beq_eq_false_iff_ne, ne_eq] at hB
  obtain ⟨⟨⟨⟨⟨h1, h2⟩, h3⟩, h4⟩, h5⟩, h6⟩ := hB
  exact wpMix2_first hproj h5 h6 hi (Region.noSelect_spec h1) hQ fuel listed a w (Region.free_spec hi h2) h4 (by simpa using h3) hy hS hI h
theorem proj1 : ∀ L w, Inv2 l1 l2 S1 S2 L w → ended l1 L = true ∨ S1 w := fun _ _ h => h.1
theorem proj2 : ∀ L w, Inv2 l1 l2 S1 S2 L w → ended l2 L = true ∨ S2 w := fun _ _ h => h.2
theorem mix2_q {last : Option Nat} (hproj : ∀ L w, Inv2 l1 l2 S1 S2 L w → ended last L = true ∨ S w) {i : Nat} {oi : Oper} {fuel : Nat} {listed : Array Bool} {a : Act} {w : World} (hi : ops[i]? = some oi) (hB : takeOk2 md ops l1 l2 last listed i = true)
    (hQ : ∀ v c a w, Q (.panic c) (a.put oi.dst v) w → Q (.panic c) a w) (hS : S w) (hI : Inv2 l1 l2 S1 S2 listed w)
    (h : ∀ K : Act → Prop, (∀ a', Inv2 l1 l2 S1 S2 (listed.setIfInBounds i true) w → wpMix2 P md ops Q l1 l2 S1 S2 fuel (listed.setIfInBounds i true) a' w → K a') →
      if Region.wanted oi (yielded ops a.tmps) then ∃ v, (∀ w', S w' → oneVal P v w' ((execOp a.eval oi).run P w')) ∧ K (a.put oi.dst v) else K (a.put oi.dst undef)) :
    wpMix2 P md ops Q l1 l2 S1 S2 (fuel + 1) listed a w := by
  have h1 := h (fun a' => wpMix2 P md ops Q l1 l2 S1 S2 fuel (listed.setIfInBounds i true) a' w) (fun _ _ q => q)
  by_cases hw : Region.wanted oi (yielded ops a.tmps) = true
  · rw [if_pos hw] at h1
    obtain ⟨v, h2, h3⟩ := h1
    exact mix2_take hproj hi hB (hQ v) hS hI (.inl ⟨hw, h2⟩) h3
  · rw [if_neg hw] at h1
    exact mix2_take hproj hi hB (hQ undef) hS hI (.inr ⟨by simpa using hw, rfl⟩) h1
/-- One that writes, or makes memory: behind it, what still has to hold. -/
theorem mix2_l {i : Nat} {oi : Oper} {fuel : Nat} {listed : Array Bool} {a : Act} {w : World} (hi : ops[i]? = some oi) (hr : (Region.ready md ops listed == [i]) = true)
    (h : ∀ K : Act → World → Prop, (∀ a' w', Inv2 l1 l2 S1 S2 (listed.setIfInBounds i true) w' → wpMix2 P md ops Q l1 l2 S1 S2 fuel (listed.setIfInBounds i true) a' w' → K a' w') →
      if Region.wanted oi (yielded ops a.tmps) then oi.wp P a w K Q else K (a.put oi.dst undef) w) : wpMix2 P md ops Q l1 l2 S1 S2 (fuel + 1) listed a w := by
  have h1 := h (fun a' w' => Inv2 l1 l2 S1 S2 (listed.setIfInBounds i true) w' ∧ wpMix2 P md ops Q l1 l2 S1 S2 fuel (listed.setIfInBounds i true) a' w') (fun _ _ hs q => ⟨hs, q⟩)
  have hr' : Region.ready md ops listed = [i] := by simpa using hr
  refine ⟨fun h0 => (by rw [hr'] at h0; cases h0), fun j hj => ?_⟩
  rw [hr'] at hj
  rw [List.mem_singleton.1 hj]
  unfold wpOp
  simp only [hi]
  by_cases hw : Region.wanted oi (yielded ops a.tmps) = true
  · rw [if_pos hw] at h1 ⊢; exact .inl h1
  · rw [if_neg hw] at h1 ⊢; exact h1
theorem mix2_done {listed : Array Bool} {a : Act} {w : World} (hr : (Region.ready md ops listed == []) = true) (h : Q .normal a w) : ∀ fuel, wpMix2 P md ops Q l1 l2 S1 S2 fuel listed a w
  | 0 => ⟨by simpa using hr, h⟩
  | _ + 1 => ⟨fun _ => h, by have hr' : Region.ready md ops listed = [] := by simpa using hr
                             rw [hr']; simp⟩
theorem wp_region_mix2 (S1 S2 : World → Prop) (l1 l2 : Option Nat) {id : Nat} {a : Act} {w : World} (hm : P.follows .mixedOrders = true)
    (h : wpMix2 P .any ops Q l1 l2 S1 S2 ops.size (Array.replicate ops.size false) a { w with drawn := w.drawn + 1 }) : (Code.region id ops true).wp P Q a w :=
  wp_region_any hm (wpAny_of_mix2 _ _ _ _ h)
end
end Go.Proofs.Ytlhncdbigjgmnaa
