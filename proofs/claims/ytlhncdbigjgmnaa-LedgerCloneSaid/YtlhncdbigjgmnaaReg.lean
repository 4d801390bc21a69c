/- Regions that draw, in stages: what is owned may turn at each loud operation; pure operations may be taken at any time, calm ones ahead of the next writing one. -/
import Derived.Test.YtlhncdbigjgmnaaMixK
namespace Go.Proofs.Ytlhncdbigjgmnaa
open Go.RowKit
section
variable {P : Program} {ops : Array Oper} {Q : Exit → Act → World → Prop} {md : Region.Mode} {S S' : World → Prop}
theorem ended_setR {last : Option Nat} {listed : Array Bool} (i : Nat) (h : ended last listed = true) : ended last (listed.setIfInBounds i true) = true := by
  cases last with
  | none => cases h
  | some l => exact getD_set_true h
theorem ended_set_ne {last : Option Nat} {listed : Array Bool} {i : Nat} (hi : last ≠ some i) : ended last (listed.setIfInBounds i true) = ended last listed := by
  cases last with
  | none => rfl
  | some l =>
    simp only [ended]
    exact getD_set_ne false (fun e => hi (by rw [e]))
theorem mixk_switch {last last' : Option Nat} : ∀ (fuel : Nat) (listed : Array Bool) (a : Act) (w : World), (ended last listed = true ∨ (last' = last ∧ ∀ w, S' w → S w)) →
    wpMixK P md ops Q S' last' fuel listed a w → wpMixK P md ops Q S last fuel listed a w := by
  intro fuel
  induction fuel with
  | zero => intro listed a w _ h; exact h
  | succ fuel ih =>
    intro listed a w hc h
    refine ⟨h.1, fun i hi w' hk => wpOp_mono (fun a' w'' h' => ?_) (h.2 i hi w' hk)⟩
    rcases hc with hc | ⟨rfl, hm⟩
    · exact ⟨.inl (ended_setR i hc), ih _ _ _ (.inl (ended_setR i hc)) h'.2⟩
    · exact ⟨h'.1.imp id (hm _), ih _ _ _ (.inr ⟨rfl, hm⟩) h'.2⟩
theorem wpMixK_firstP {last : Option Nat} {i : Nat} {oi : Oper} {v : Value} (hSk : ∀ w w', S w → Kp w w' → S w') (hi : ops[i]? = some oi) (hsel : ∀ (j : Nat) (o : Oper) cs b, ops[j]? = some o → o.op ≠ .select cs b)
    (hQ : ∀ c a w, Q (.panic c) (a.put oi.dst v) w → Q (.panic c) a w) (hl : last ≠ some i) :
    ∀ (fuel : Nat) (listed : Array Bool) (a : Act) (w : World),
      (∀ j oj, ops[j]? = some oj → j ≠ i → listed.getD j true = false → (∀ e ∈ oj.after, Region.binds md e = true → e.on ≠ i) → oi.apart ops oj = true) →
      i ∈ Region.ready md ops listed → Yields P ops oi v a → (ended last listed = true ∨ S w) →
      wpMixK P md ops Q S last fuel (listed.setIfInBounds i true) (a.put oi.dst v) w → wpMixK P md ops Q S last (fuel + 1) listed a w := by
  intro fuel
  induction fuel with
  | zero =>
    intro listed a w _ hr hy hS H
    refine ⟨fun h => (by rw [h] at hr; cases hr), fun j hj w' hk => ?_⟩
    by_cases hji : j = i
    · subst hji; exact hy.wpOp hi ⟨by rw [ended_set_ne hl]; exact hS.imp id (fun h => hSk _ _ h hk), H.kp hk⟩
    · have := ready_mono hj hji
      rw [H.1] at this
      cases this
  | succ fuel ih =>
    intro listed a w hfree hr hy hS H
    refine ⟨fun h => (by rw [h] at hr; cases hr), fun j hj w' hk => ?_⟩
    by_cases hji : j = i
    · subst hji; exact hy.wpOp hi ⟨by rw [ended_set_ne hl]; exact hS.imp id (fun h => hSk _ _ h hk), H.kp hk⟩
    · have h1 := H.2 j (ready_mono hj hji) w' hk
      obtain ⟨hjun, oj, hoj, hall⟩ := mem_ready.1 hj
      have hun := (mem_ready.1 hr).1
      have hnot : ∀ e ∈ oj.after, Region.binds md e = true → e.on ≠ i := fun e he hb heq => by
        have h1 := hall e he hb
        rw [heq] at h1
        rcases Nat.lt_or_ge i listed.size with h' | h'
        · simp [h'] at hun h1; rw [hun] at h1; cases h1
        · simp [Array.getElem?_eq_none h'] at h1
      have h2 := wpOp_put hoj (hfree j oj hoj hji hjun hnot) (fun cs b => hsel i oi cs b hi) (fun cs b => hsel j oj cs b hoj) (fun c a w => hQ c a w) hy h1
      have hfree' : ∀ k ok, ops[k]? = some ok → k ≠ i → (listed.setIfInBounds j true).getD k true = false → (∀ e ∈ ok.after, Region.binds md e = true → e.on ≠ i) → oi.apart ops ok = true := fun k ok hk hki hun' hno => by
        refine hfree k ok hk hki ?_ hno
        by_cases hjk : j = k
        · subst hjk; exact hjun
        · rw [getD_set_ne true hjk] at hun'; exact hun'
      refine wpOp_mono (fun a' w' h3 => ?_) h2
      have hS' : ended last (listed.setIfInBounds j true) = true ∨ S w' := by
        rcases h3.2.1 with q | q
        · left
          rw [Array.setIfInBounds_comm _ _ (Ne.symm hji), ended_set_ne hl] at q
          exact q
        · exact .inr q
      refine ⟨hS', ih (listed.setIfInBounds j true) a' w' hfree' (ready_mono hr (Ne.symm hji)) h3.1 hS' ?_⟩
      rw [Array.setIfInBounds_comm _ _ hji]
      exact h3.2.2
/-- What must be so of a pure operation that is taken. -/
def takeP (md : Region.Mode) (ops : Array Oper) (last : Option Nat) (listed : Array Bool) (i : Nat) : Bool :=
  Region.noSelect ops && Region.free md ops listed i && (Region.ready md ops listed).contains i && (match last with | some l => l != i | none => true)
end
section
variable {P : Program} {ops : Array Oper} {Q : Exit → Act → World → Prop} {md : Region.Mode} {ε : World} {L : List Asn}
theorem wp_region_reg (last : Option Nat) {w : World} (H : Own ε w L) {id : Nat} {a : Act} (hm : P.follows .mixedOrders = true)
    (h : ∀ wm, Own ε wm L → wpMixK P .any ops Q (fun w' => Own ε w' L) last ops.size (Array.replicate ops.size false) a wm) : (Code.region id ops true).wp P Q a w :=
  wp_region_mixk ε L last hm (h _ H.drew)
theorem wp_region_regK (last : Option Nat) (L : List Asn) {L0 : List Asn} {w : World} (H : Own ε w L0) {id : Nat} {a : Act} (hm : P.follows .mixedOrders = true)
    (h : ∀ wm, Own ε wm L0 → wpMixK P .any ops Q (fun w' => Own ε w' L) last ops.size (Array.replicate ops.size false) a wm) : (Code.region id ops true).wp P Q a w :=
  wp_region_mixk ε L last hm (h _ H.drew)
theorem reg_p {last : Option Nat} {i : Nat} {oi : Oper} {fuel : Nat} {listed : Array Bool} {a : Act} {w : World} (hi : ops[i]? = some oi) (hB : takeP md ops last listed i = true)
    (hQ : ∀ v c a w, Q (.panic c) (a.put oi.dst v) w → Q (.panic c) a w) (hS : Own ε w L)
    (h : ∀ K : Act → Prop, (∀ a', wpMixK P md ops Q (fun w' => Own ε w' L) last fuel (listed.setIfInBounds i true) a' w → K a') →
      if Region.wanted oi (yielded ops a.tmps) then ∃ v, (∀ w', (execOp a.eval oi).run P w' = .ok (.value v) w') ∧ K (a.put oi.dst v) else K (a.put oi.dst undef)) :
    wpMixK P md ops Q (fun w' => Own ε w' L) last (fuel + 1) listed a w := by
  have h1 := h (fun a' => wpMixK P md ops Q (fun w' => Own ε w' L) last fuel (listed.setIfInBounds i true) a' w) (fun _ q => q)
  simp only [takeP, Bool.and_eq_true] at hB
  obtain ⟨⟨⟨g1, g2⟩, g3⟩, g4⟩ := hB
  have hl : last ≠ some i := by
    rintro rfl
    simp at g4
  have hSk : ∀ w w', Own ε w L → Kp w w' → Own ε w' L := fun w w' H hk => hk _ _ H
  by_cases hw : Region.wanted oi (yielded ops a.tmps) = true
  · rw [if_pos hw] at h1
    obtain ⟨v, h2, h3⟩ := h1
    exact wpMixK_firstP (S := fun w' => Own ε w' L) hSk hi (Region.noSelect_spec g1) (hQ v) hl fuel listed a w (Region.free_spec hi g2) (by simpa using g3) (.inl ⟨hw, h2⟩) (.inr hS) h3
  · rw [if_neg hw] at h1
    exact wpMixK_firstP (S := fun w' => Own ε w' L) hSk hi (Region.noSelect_spec g1) (hQ undef) hl fuel listed a w (Region.free_spec hi g2) (by simpa using g3) (.inr ⟨by simpa using hw, rfl⟩) (.inr hS) h1
theorem reg_loud {last : Option Nat} {i : Nat} {oi : Oper} {fuel : Nat} {listed : Array Bool} {a : Act} {w' : World} (last' : Option Nat) (hi : ops[i]? = some oi)
    (h : ∀ K : Act → World → Prop, (∀ a' w' L', Own ε w' L' → (ended last (listed.setIfInBounds i true) = true ∨ (last' = last ∧ ∀ wx, Own ε wx L' → Own ε wx L)) →
        wpMixK P md ops Q (fun w' => Own ε w' L') last' fuel (listed.setIfInBounds i true) a' w' → K a' w') →
      if Region.wanted oi (yielded ops a.tmps) then oi.wp P a w' K Q else K (a.put oi.dst undef) w') :
    wpOp P ops Q i (fun a' w'' => (ended last (listed.setIfInBounds i true) = true ∨ Own ε w'' L) ∧ wpMixK P md ops Q (fun w' => Own ε w' L) last fuel (listed.setIfInBounds i true) a' w'') a w' := by
  have h1 := h (fun a' w' => (ended last (listed.setIfInBounds i true) = true ∨ Own ε w' L) ∧ wpMixK P md ops Q (fun w' => Own ε w' L) last fuel (listed.setIfInBounds i true) a' w')
    (fun a' w' L' HL hc q => ⟨hc.imp id (fun x => x.2 _ HL), mixk_switch _ _ _ _ hc q⟩)
  unfold wpOp
  simp only [hi]
  by_cases hw : Region.wanted oi (yielded ops a.tmps) = true
  · rw [if_pos hw] at h1 ⊢; exact .inl h1
  · rw [if_neg hw] at h1 ⊢; exact h1
/-- A loud one; behind it, other things may be owned, and another one be the next to write. -/
theorem reg_l {last : Option Nat} {i : Nat} {oi : Oper} {fuel : Nat} {listed : Array Bool} {a : Act} {w : World} (last' : Option Nat) (hi : ops[i]? = some oi) (hr : (Region.ready md ops listed == [i]) = true)
    (h : ∀ w', Kp w w' → ∀ K : Act → World → Prop, (∀ a' w' L', Own ε w' L' → (ended last (listed.setIfInBounds i true) = true ∨ (last' = last ∧ ∀ wx, Own ε wx L' → Own ε wx L)) →
        wpMixK P md ops Q (fun w' => Own ε w' L') last' fuel (listed.setIfInBounds i true) a' w' → K a' w') →
      if Region.wanted oi (yielded ops a.tmps) then oi.wp P a w' K Q else K (a.put oi.dst undef) w') : wpMixK P md ops Q (fun w' => Own ε w' L) last (fuel + 1) listed a w :=
  mixk_one hr (fun w' hk => reg_loud last' hi (h w' hk))
/-- Two that may come up, in either order. -/
theorem reg_two {last : Option Nat} {i j : Nat} {oi oj : Oper} {fuel : Nat} {listed : Array Bool} {a : Act} {w : World} (l1 l2 : Option Nat) (hi : ops[i]? = some oi) (hj : ops[j]? = some oj) (hr : (Region.ready md ops listed == [i, j]) = true)
    (h1 : ∀ w', Kp w w' → ∀ K : Act → World → Prop, (∀ a' w' L', Own ε w' L' → (ended last (listed.setIfInBounds i true) = true ∨ (l1 = last ∧ ∀ wx, Own ε wx L' → Own ε wx L)) →
        wpMixK P md ops Q (fun w' => Own ε w' L') l1 fuel (listed.setIfInBounds i true) a' w' → K a' w') →
      if Region.wanted oi (yielded ops a.tmps) then oi.wp P a w' K Q else K (a.put oi.dst undef) w')
    (h2 : ∀ w', Kp w w' → ∀ K : Act → World → Prop, (∀ a' w' L', Own ε w' L' → (ended last (listed.setIfInBounds j true) = true ∨ (l2 = last ∧ ∀ wx, Own ε wx L' → Own ε wx L)) →
        wpMixK P md ops Q (fun w' => Own ε w' L') l2 fuel (listed.setIfInBounds j true) a' w' → K a' w') →
      if Region.wanted oj (yielded ops a.tmps) then oj.wp P a w' K Q else K (a.put oj.dst undef) w') : wpMixK P md ops Q (fun w' => Own ε w' L) last (fuel + 1) listed a w := by
  have hr' : Region.ready md ops listed = [i, j] := by simpa using hr
  refine ⟨fun h0 => (by rw [hr'] at h0; cases h0), fun x hx w' hk => ?_⟩
  rw [hr'] at hx
  rcases List.mem_cons.1 hx with rfl | hx
  · exact reg_loud l1 hi (h1 w' hk)
  · rcases List.mem_singleton.1 hx with rfl
    exact reg_loud l2 hj (h2 w' hk)
theorem reg_three {last : Option Nat} {i j k : Nat} {oi oj ok : Oper} {fuel : Nat} {listed : Array Bool} {a : Act} {w : World} (l1 l2 l3 : Option Nat) (hi : ops[i]? = some oi) (hj : ops[j]? = some oj) (hk' : ops[k]? = some ok) (hr : (Region.ready md ops listed == [i, j, k]) = true)
    (h1 : ∀ w', Kp w w' → ∀ K : Act → World → Prop, (∀ a' w' L', Own ε w' L' → (ended last (listed.setIfInBounds i true) = true ∨ (l1 = last ∧ ∀ wx, Own ε wx L' → Own ε wx L)) →
        wpMixK P md ops Q (fun w' => Own ε w' L') l1 fuel (listed.setIfInBounds i true) a' w' → K a' w') →
      if Region.wanted oi (yielded ops a.tmps) then oi.wp P a w' K Q else K (a.put oi.dst undef) w')
    (h2 : ∀ w', Kp w w' → ∀ K : Act → World → Prop, (∀ a' w' L', Own ε w' L' → (ended last (listed.setIfInBounds j true) = true ∨ (l2 = last ∧ ∀ wx, Own ε wx L' → Own ε wx L)) →
        wpMixK P md ops Q (fun w' => Own ε w' L') l2 fuel (listed.setIfInBounds j true) a' w' → K a' w') →
      if Region.wanted oj (yielded ops a.tmps) then oj.wp P a w' K Q else K (a.put oj.dst undef) w')
    (h3 : ∀ w', Kp w w' → ∀ K : Act → World → Prop, (∀ a' w' L', Own ε w' L' → (ended last (listed.setIfInBounds k true) = true ∨ (l3 = last ∧ ∀ wx, Own ε wx L' → Own ε wx L)) →
        wpMixK P md ops Q (fun w' => Own ε w' L') l3 fuel (listed.setIfInBounds k true) a' w' → K a' w') →
      if Region.wanted ok (yielded ops a.tmps) then ok.wp P a w' K Q else K (a.put ok.dst undef) w') : wpMixK P md ops Q (fun w' => Own ε w' L) last (fuel + 1) listed a w := by
  have hr' : Region.ready md ops listed = [i, j, k] := by simpa using hr
  refine ⟨fun h0 => (by rw [hr'] at h0; cases h0), fun x hx w' hk => ?_⟩
  rw [hr'] at hx
  rcases List.mem_cons.1 hx with rfl | hx
  · exact reg_loud l1 hi (h1 w' hk)
  rcases List.mem_cons.1 hx with rfl | hx
  · exact reg_loud l2 hj (h2 w' hk)
  · rcases List.mem_singleton.1 hx with rfl
    exact reg_loud l3 hk' (h3 w' hk)
end
end Go.Proofs.Ytlhncdbigjgmnaa
