/- ledger: the iterator over those that are out. -/
import Derived.Test.YtmkcpnlbicijoaaGreatMixK
import Derived.OrdersIn
import Derived.Test.YtmkcpnlbicijoaaGreatRange
import Derived.Sort.LoopGhostIn
import Derived.Shelf.Abstract
namespace Go.Proofs.YtmkcpnlbicijoaaGreat
open Go.RowKit
section
variable {P : Program} {ops : Array Oper} {Q : Exit → Act → World → Prop} {md : Region.Mode} {S S' : World → Prop}
theorem ended_setR {last : Option Nat} {listed : Array Bool} (i : Nat) (h : ended last listed = true) : ended last (listed.setIfInBounds i true) = true := by
 cases last with
 | none => cases h
 | some l => exact getD_set_true h
theorem ended_set_ne {last : Option Nat} {listed : Array Bool} {i : Nat} (hi : last ≠ some i) : ended last (listed.setIfInBounds i true) = ended last listed := by
 cases last with
 | none => rfl
 | some l =>
  simp only [ended]
  exact getD_set_ne false (fun e => hi (by rw [e]))
theorem mixk_switch {last last' : Option Nat} : ∀ (fuel : Nat) (listed : Array Bool) (a : Act) (w : World), (ended last listed = true ∨ (last' = last ∧ ∀ w, S' w → S w)) →
  wpMixK P md ops Q S' last' fuel listed a w → wpMixK P md ops Q S last fuel listed a w := by
 intro fuel
 induction fuel with
 | zero => intro listed a w _ h; exact h
 | succ fuel ih =>
  intro listed a w hc h
  refine ⟨h.1, fun i hi w' hk => wpOp_mono (fun a' w'' h' => ?_) (h.2 i hi w' hk)⟩
  rcases hc with hc | ⟨rfl, hm⟩
  ·exact ⟨.inl (ended_setR i hc), ih _ _ _ (.inl (ended_setR i hc)) h'.2⟩
  ·exact ⟨h'.1.imp id (hm _), ih _ _ _ (.inr ⟨rfl, hm⟩) h'.2⟩
theorem wpMixK_firstP {last : Option Nat} {i : Nat} {oi : Oper} {v : Value} (hSk : ∀ w w', S w → Kp w w' → S w') (hi : ops[i]? = some oi) (hsel : ∀ (j : Nat) (o : Oper) cs b, ops[j]? = some o → o.op ≠ .select cs b)
  (hQ : ∀ c a w, Q (.panic c) (a.put oi.dst v) w → Q (.panic c) a w) (hl : last ≠ some i) :
  ∀ (fuel : Nat) (listed : Array Bool) (a : Act) (w : World),
   (∀ j oj, ops[j]? = some oj → j ≠ i → listed.getD j true = false → (∀ e ∈ oj.after, Region.binds md e = true → e.on ≠ i) → oi.apart ops oj = true) →
   i ∈ Region.ready md ops listed → Yields P ops oi v a → (ended last listed = true ∨ S w) →
   wpMixK P md ops Q S last fuel (listed.setIfInBounds i true) (a.put oi.dst v) w → wpMixK P md ops Q S last (fuel + 1) listed a w := by
 intro fuel
 induction fuel with
 | zero =>
  intro listed a w _ hr hy hS H
  refine ⟨fun h => (by rw [h] at hr; cases hr), fun j hj w' hk => ?_⟩
  by_cases hji : j = i
  ·subst hji; exact hy.wpOp hi ⟨by rw [ended_set_ne hl]; exact hS.imp id (fun h => hSk _ _ h hk), H.kp hk⟩
  ·have := ready_mono hj hji
   rw [H.1] at this
   cases this
 | succ fuel ih =>
  intro listed a w hfree hr hy hS H
  refine ⟨fun h => (by rw [h] at hr; cases hr), fun j hj w' hk => ?_⟩
  by_cases hji : j = i
  ·subst hji; exact hy.wpOp hi ⟨by rw [ended_set_ne hl]; exact hS.imp id (fun h => hSk _ _ h hk), H.kp hk⟩
  ·have h1 := H.2 j (ready_mono hj hji) w' hk
   obtain ⟨hjun, oj, hoj, hall⟩ := mem_ready.1 hj
   have hun := (mem_ready.1 hr).1
   have hnot : ∀ e ∈ oj.after, Region.binds md e = true → e.on ≠ i := fun e he hb heq => by
    have h1 := hall e he hb
    rw [heq] at h1
    rcases Nat.lt_or_ge i listed.size with h' | h'
    ·simp [h'] at hun h1; rw [hun] at h1; cases h1
    ·simp [Array.getElem?_eq_none h'] at h1
   have h2 := wpOp_put hoj (hfree j oj hoj hji hjun hnot) (fun cs b => hsel i oi cs b hi) (fun cs b => hsel j oj cs b hoj) (fun c a w => hQ c a w) hy h1
   have hfree' : ∀ k ok, ops[k]? = some ok → k ≠ i → (listed.setIfInBounds j true).getD k true = false → (∀ e ∈ ok.after, Region.binds md e = true → e.on ≠ i) → oi.apart ops ok = true := fun k ok hk hki hun' hno => by
    refine hfree k ok hk hki ?_ hno
    by_cases hjk : j = k
    ·subst hjk; exact hjun
    ·rw [getD_set_ne true hjk] at hun'; exact hun'
   refine wpOp_mono (fun a' w' h3 => ?_) h2
   have hS' : ended last (listed.setIfInBounds j true) = true ∨ S w' := by
    rcases h3.2.1 with q | q
    ·left
     rw [Array.setIfInBounds_comm _ _ (Ne.symm hji), ended_set_ne hl] at q
     exact q
    ·exact .inr q
   refine ⟨hS', ih (listed.setIfInBounds j true) a' w' hfree' (ready_mono hr (Ne.symm hji)) h3.1 hS' ?_⟩
   rw [Array.setIfInBounds_comm _ _ hji]
   exact h3.2.2
def takeP (md : Region.Mode) (ops : Array Oper) (last : Option Nat) (listed : Array Bool) (i : Nat) : Bool :=
 Region.noSelect ops && Region.free md ops listed i && (Region.ready md ops listed).contains i && (match last with | some l => l != i | none => true)
end
section
variable {P : Program} {ops : Array Oper} {Q : Exit → Act → World → Prop} {md : Region.Mode} {ε : World} {L : List Asn}
theorem wp_region_reg (last : Option Nat) {w : World} (H : Own ε w L) {id : Nat} {a : Act} (hm : P.follows .mixedOrders = true)
  (h : ∀ wm, Own ε wm L → wpMixK P .any ops Q (fun w' => Own ε w' L) last ops.size (Array.replicate ops.size false) a wm) : (Code.region id ops true).wp P Q a w :=
 wp_region_mixk ε L last hm (h _ H.drew)
theorem wp_region_regK (last : Option Nat) (L : List Asn) {L0 : List Asn} {w : World} (H : Own ε w L0) {id : Nat} {a : Act} (hm : P.follows .mixedOrders = true)
  (h : ∀ wm, Own ε wm L0 → wpMixK P .any ops Q (fun w' => Own ε w' L) last ops.size (Array.replicate ops.size false) a wm) : (Code.region id ops true).wp P Q a w :=
 wp_region_mixk ε L last hm (h _ H.drew)
theorem reg_p {last : Option Nat} {i : Nat} {oi : Oper} {fuel : Nat} {listed : Array Bool} {a : Act} {w : World} (hi : ops[i]? = some oi) (hB : takeP md ops last listed i = true)
  (hQ : ∀ v c a w, Q (.panic c) (a.put oi.dst v) w → Q (.panic c) a w) (hS : Own ε w L)
  (h : ∀ K : Act → Prop, (∀ a', wpMixK P md ops Q (fun w' => Own ε w' L) last fuel (listed.setIfInBounds i true) a' w → K a') →
   if Region.wanted oi (yielded ops a.tmps) then ∃ v, (∀ w', (execOp a.eval oi).run P w' = .ok (.value v) w') ∧ K (a.put oi.dst v) else K (a.put oi.dst undef)) :
  wpMixK P md ops Q (fun w' => Own ε w' L) last (fuel + 1) listed a w := by
 have h1 := h (fun a' => wpMixK P md ops Q (fun w' => Own ε w' L) last fuel (listed.setIfInBounds i true) a' w) (fun _ q => q)
 simp only [takeP, Bool.and_eq_true] at hB
 obtain ⟨⟨⟨g1, g2⟩, g3⟩, g4⟩ := hB
 have hl : last ≠ some i := by
  rintro rfl
  simp at g4
 have hSk : ∀ w w', Own ε w L → Kp w w' → Own ε w' L := fun w w' H hk => hk _ _ H
 by_cases hw : Region.wanted oi (yielded ops a.tmps) = true
 ·rw [if_pos hw] at h1
  obtain ⟨v, h2, h3⟩ := h1
  exact wpMixK_firstP (S := fun w' => Own ε w' L) hSk hi (Region.noSelect_spec g1) (hQ v) hl fuel listed a w (Region.free_spec hi g2) (by simpa using g3) (.inl ⟨hw, h2⟩) (.inr hS) h3
 ·rw [if_neg hw] at h1
  exact wpMixK_firstP (S := fun w' => Own ε w' L) hSk hi (Region.noSelect_spec g1) (hQ undef) hl fuel listed a w (Region.free_spec hi g2) (by simpa using g3) (.inr ⟨by simpa using hw, rfl⟩) (.inr hS) h1
theorem reg_loud {last : Option Nat} {i : Nat} {oi : Oper} {fuel : Nat} {listed : Array Bool} {a : Act} {w' : World} (last' : Option Nat) (hi : ops[i]? = some oi)
  (h : ∀ K : Act → World → Prop, (∀ a' w' L', Own ε w' L' → (ended last (listed.setIfInBounds i true) = true ∨ (last' = last ∧ ∀ wx, Own ε wx L' → Own ε wx L)) →
    wpMixK P md ops Q (fun w' => Own ε w' L') last' fuel (listed.setIfInBounds i true) a' w' → K a' w') →
   if Region.wanted oi (yielded ops a.tmps) then oi.wp P a w' K Q else K (a.put oi.dst undef) w') :
  wpOp P ops Q i (fun a' w'' => (ended last (listed.setIfInBounds i true) = true ∨ Own ε w'' L) ∧ wpMixK P md ops Q (fun w' => Own ε w' L) last fuel (listed.setIfInBounds i true) a' w'') a w' := by
 have h1 := h (fun a' w' => (ended last (listed.setIfInBounds i true) = true ∨ Own ε w' L) ∧ wpMixK P md ops Q (fun w' => Own ε w' L) last fuel (listed.setIfInBounds i true) a' w')
  (fun a' w' L' HL hc q => ⟨hc.imp id (fun x => x.2 _ HL), mixk_switch _ _ _ _ hc q⟩)
 unfold wpOp
 simp only [hi]
 by_cases hw : Region.wanted oi (yielded ops a.tmps) = true
 ·rw [if_pos hw] at h1 ⊢; exact .inl h1
 ·rw [if_neg hw] at h1 ⊢; exact h1
theorem reg_l {last : Option Nat} {i : Nat} {oi : Oper} {fuel : Nat} {listed : Array Bool} {a : Act} {w : World} (last' : Option Nat) (hi : ops[i]? = some oi) (hr : (Region.ready md ops listed == [i]) = true)
  (h : ∀ w', Kp w w' → ∀ K : Act → World → Prop, (∀ a' w' L', Own ε w' L' → (ended last (listed.setIfInBounds i true) = true ∨ (last' = last ∧ ∀ wx, Own ε wx L' → Own ε wx L)) →
    wpMixK P md ops Q (fun w' => Own ε w' L') last' fuel (listed.setIfInBounds i true) a' w' → K a' w') →
   if Region.wanted oi (yielded ops a.tmps) then oi.wp P a w' K Q else K (a.put oi.dst undef) w') : wpMixK P md ops Q (fun w' => Own ε w' L) last (fuel + 1) listed a w :=
 mixk_one hr (fun w' hk => reg_loud last' hi (h w' hk))
theorem reg_two {last : Option Nat} {i j : Nat} {oi oj : Oper} {fuel : Nat} {listed : Array Bool} {a : Act} {w : World} (l1 l2 : Option Nat) (hi : ops[i]? = some oi) (hj : ops[j]? = some oj) (hr : (Region.ready md ops listed == [i, j]) = true)
  (h1 : ∀ w', Kp w w' → ∀ K : Act → World → Prop, (∀ a' w' L', Own ε w' L' → (ended last (listed.setIfInBounds i true) = true ∨ (l1 = last ∧ ∀ wx, Own ε wx L' → Own ε wx L)) →
    wpMixK P md ops Q (fun w' => Own ε w' L') l1 fuel (listed.setIfInBounds i true) a' w' → K a' w') →
   if Region.wanted oi (yielded ops a.tmps) then oi.wp P a w' K Q else K (a.put oi.dst undef) w')
  (h2 : ∀ w', Kp w w' → ∀ K : Act → World → Prop, (∀ a' w' L', Own ε w' L' → (ended last (listed.setIfInBounds j true) = true ∨ (l2 = last ∧ ∀ wx, Own ε wx L' → Own ε wx L)) →
    wpMixK P md ops Q (fun w' => Own ε w' L') l2 fuel (listed.setIfInBounds j true) a' w' → K a' w') →
   if Region.wanted oj (yielded ops a.tmps) then oj.wp P a w' K Q else K (a.put oj.dst undef) w') : wpMixK P md ops Q (fun w' => Own ε w' L) last (fuel + 1) listed a w := by
 have hr' : Region.ready md ops listed = [i, j] := by simpa using hr
 refine ⟨fun h0 => (by rw [hr'] at h0; cases h0), fun x hx w' hk => ?_⟩
 rw [hr'] at hx
 rcases List.mem_cons.1 hx with rfl | hx
 ·exact reg_loud l1 hi (h1 w' hk)
 ·rcases List.mem_singleton.1 hx with rfl
  exact reg_loud l2 hj (h2 w' hk)
theorem reg_three {last : Option Nat} {i j k : Nat} {oi oj ok : Oper} {fuel : Nat} {listed : Array Bool} {a : Act} {w : World} (l1 l2 l3 : Option Nat) (hi : ops[i]? = some oi) (hj : ops[j]? = some oj) (hk' : ops[k]? = some ok) (hr : (Region.ready md ops listed == [i, j, k]) = true)
  (h1 : ∀ w', Kp w w' → ∀ K : Act → World → Prop, (∀ a' w' L', Own ε w' L' → (ended last (listed.setIfInBounds i true) = true ∨ (l1 = last ∧ ∀ wx, Own ε wx L' → Own ε wx L)) →
    wpMixK P md ops Q (fun w' => Own ε w' L') l1 fuel (listed.setIfInBounds i true) a' w' → K a' w') →
   if Region.wanted oi (yielded ops a.tmps) then oi.wp P a w' K Q else K (a.put oi.dst undef) w')
  (h2 : ∀ w', Kp w w' → ∀ K : Act → World → Prop, (∀ a' w' L', Own ε w' L' → (ended last (listed.setIfInBounds j true) = true ∨ (l2 = last ∧ ∀ wx, Own ε wx L' → Own ε wx L)) →
    wpMixK P md ops Q (fun w' => Own ε w' L') l2 fuel (listed.setIfInBounds j true) a' w' → K a' w') →
   if Region.wanted oj (yielded ops a.tmps) then oj.wp P a w' K Q else K (a.put oj.dst undef) w')
  (h3 : ∀ w', Kp w w' → ∀ K : Act → World → Prop, (∀ a' w' L', Own ε w' L' → (ended last (listed.setIfInBounds k true) = true ∨ (l3 = last ∧ ∀ wx, Own ε wx L' → Own ε wx L)) →
    wpMixK P md ops Q (fun w' => Own ε w' L') l3 fuel (listed.setIfInBounds k true) a' w' → K a' w') →
   if Region.wanted ok (yielded ops a.tmps) then ok.wp P a w' K Q else K (a.put ok.dst undef) w') : wpMixK P md ops Q (fun w' => Own ε w' L) last (fuel + 1) listed a w := by
 have hr' : Region.ready md ops listed = [i, j, k] := by simpa using hr
 refine ⟨fun h0 => (by rw [hr'] at h0; cases h0), fun x hx w' hk => ?_⟩
 rw [hr'] at hx
 rcases List.mem_cons.1 hx with rfl | hx
 ·exact reg_loud l1 hi (h1 w' hk)
 rcases List.mem_cons.1 hx with rfl | hx
 ·exact reg_loud l2 hj (h2 w' hk)
 ·rcases List.mem_singleton.1 hx with rfl
  exact reg_loud l3 hk' (h3 w' hk)
end
section
variable {P : Program} {ops : Array Oper} {Q : Exit → Act → World → Prop} {md : Region.Mode} {ε : World} {L : List Asn}
theorem reg_s {last : Option Nat} {oi : Oper} {fuel : Nat} {listed : Array Bool} {a a' : Act} {w : World} (i : Nat) (hS : Own ε w L)
  (next : wpMixK P md ops Q (fun w' => Own ε w' L) last fuel (listed.setIfInBounds i true) a' w)
  (hi : ops[i]? = some oi := by with_unfolding_all rfl) (hB : takeP md ops last listed i = true := by kernel_rfl)
  (hQ : ∀ v c a w, Q (.panic c) (a.put oi.dst v) w → Q (.panic c) a w := by exact fun _ _ _ _ h => h)
  (h : if Region.wanted oi (yielded ops a.tmps) then ∃ v, (∀ w', (execOp a.eval oi).run P w' = .ok (.value v) w') ∧ Is (a.put oi.dst v) a' else Is (a.put oi.dst undef) a' := by (go_simp; first | exact Is.rfl | (apply Exists.intro; refine ⟨?_, Is.rfl⟩; intro wx; first | (go_simp; rfl) | rfl))) : wpMixK P md ops Q (fun w' => Own ε w' L) last (fuel + 1) listed a w := by
 refine reg_p hi hB hQ hS (fun K hK => ?_)
 by_cases hw : Region.wanted oi (yielded ops a.tmps) = true
 ·rw [if_pos hw] at h ⊢
  obtain ⟨v, h2, rfl⟩ := h
  exact ⟨v, h2, hK _ next⟩
 ·rw [if_neg hw] at h ⊢
  obtain rfl := h
  exact hK _ next
end
end Go.Proofs.YtmkcpnlbicijoaaGreat
namespace Go.Proofs.YtmkcpnlbicijoaaGreat
theorem min_ite' (a b : Int) : (if b < a then b else a) = min a b := by split <;> omega
theorem max_ite' (a b : Int) : (if a < b then b else a) = max a b := by split <;> omega
end Go.Proofs.YtmkcpnlbicijoaaGreat
namespace Go.Proofs.YtmkcpnlbicijoaaGreat
open Go.RowKit
section
variable {P : Program} {l n : Nat} {md : Region.Mode} {ops : Array Oper} {Q : Exit → Act → World → Prop}
theorem wpOpIn_of_op (hd : ∀ (i : Nat) (o : Oper), ops[i]? = some o → ∀ c, o.op ≠ .defer c) (hq : ¬ LetsOut Q) {i : Nat} {K : Act → World → Prop} {a : Act} {w : World} (h : wpOp P ops Q i K a w) : wpOpIn (Fence.wide.inRound l) n P ops Q i K a w := by
 unfold wpOp at h
 unfold wpOpIn
 cases ho : ops[i]? with
 | none => simp only [ho] at h ⊢; exact h
 | some o =>
  simp only [ho] at h ⊢
  split
  ·rename_i hw
   rw [if_pos hw] at h
   rcases h with h | ⟨_, h⟩
   ·exact wpIn_of_wp (hd i o ho) h
   ·exact absurd h hq
  ·rename_i hw
   rw [if_neg hw] at h
   exact ⟨fun _ _ => trivial, h⟩
theorem wpAnyIn_of_any (hd : ∀ (i : Nat) (o : Oper), ops[i]? = some o → ∀ c, o.op ≠ .defer c) (hq : ¬ LetsOut Q) : ∀ (fuel : Nat) (listed : Array Bool) (a : Act) (w : World), wpAny P md ops Q fuel listed a w → wpAnyIn (Fence.wide.inRound l) n P md ops Q fuel listed a w
 | 0, _, _, _, h => h
 | fuel + 1, _, _, _, h => ⟨h.1, fun i hi => wpOpIn_mono (fun a w => wpAnyIn_of_any hd hq fuel _ a w) (wpOpIn_of_op hd hq (h.2 i hi))⟩
def noDefer (ops : Array Oper) : Bool := ops.toList.all fun (o : Oper) => match o.op with
 | .defer _ => false
 | _ => true
theorem noDefer_spec (h : noDefer ops = true) : ∀ (i : Nat) (o : Oper), ops[i]? = some o → ∀ c, o.op ≠ .defer c := by
 intro i o ho c e
 have hm : o ∈ ops.toList := by
  have := Array.mem_of_getElem? ho
  exact Array.mem_toList_iff.2 this
 have := List.all_eq_true.1 h o hm
 rw [e] at this
 simp at this
theorem wpIn_region_reg {ε : World} {L : List Asn} (last : Option Nat) {w : World} (H : Own ε w L) {id : Nat} {a : Act} (hm : P.follows .mixedOrders = true) (hd : noDefer ops = true) (hq : ¬ LetsOut Q)
  (h : ∀ wm, Own ε wm L → wpMixK P .any ops Q (fun w' => Own ε w' L) last ops.size (Array.replicate ops.size false) a wm) : (Code.region id ops true).wpIn (Fence.wide.inRound l) n P Q a w :=
 wpIn_region_any hm (wpAnyIn_of_any (noDefer_spec hd) hq _ _ _ _ (wpAny_of_mixK _ _ _ _ (h _ H.drew)))
end
end Go.Proofs.YtmkcpnlbicijoaaGreat
namespace Go.Proofs.YtmkcpnlbicijoaaGreat
open Go.RowKit
section
variable (ε w : World) (R : List Asn) (b : Nat)
theorem ledNew_c (re : Int) (H : Own ε w R) :
  Calls Tryz.prog 27 #[.int .u64 re] w fun e w' => ∃ b, e = .returned (.pointer (some ⟨b, 0, none⟩)) ∧ Own ε w' (led b ⟨re, 0, 0, false, []⟩ :: R) := by
 have HH := Lib.hid H; clear H
 go_enter Tryz.func27, Tryz.ntmps27
 go_wp2_with fail
 refine (rlNew_c ε _ _ [] none 0 0 rfl (fun _ _ => ⟨rfl, .inl rfl⟩) (by decide) HH.out).mono ?_
 rintro e w1_ ⟨rb, rfl, H9_⟩
 replace HH := Lib.hid H9_
 clear H9_
 go_wp2_with (with_reducible refine stop_bx ?_)
 refine Stop.go ?_
 refine wpList_box_own HH.out [_, _, _, _, _] rfl ?_
 intro b w2_ H9_
 replace HH := Lib.hid H9_
 clear H9_
 go_wp2_with fail
 go_ret
 exact ⟨_, rfl, Own.led_mk (rb := rb) (Own.ents_nil HH.out).l3⟩
abbrev sentPk (n size q1 q2 q3 q4 : Int) (q5 : Bool) : Pk := ⟨n, size, q1, q2, q3, q4, q5⟩
set_option maxHeartbeats 1600000 in
theorem ledSend_c (s : Led) (size q1 q2 q3 q4 : Int) (q5 : Bool) (hn : s.row.length ≤ 1000000) (h0 : 0 ≤ s.next) (hx : s.next < 9223372036854775807) (H : Own ε w (led b s :: R)) :
  Calls Tryz.prog 85 #[.pointer (some ⟨b, 0, none⟩), .int .u64 size, .agg #[.int .u64 q1, .int .u64 q2, .int .u64 q3, .int .u64 q4, .bool q5]] w fun e w' => ∃ eb, e = .returned (.int .u64 s.next) ∧
   Own ε w' (led b { s with next := s.next + 1, row := s.row ++ [⟨eb, ⟨s.next, size, q1, q2, q3, q4, q5⟩, true⟩] } :: R) := by
 obtain ⟨re, next, top, sm, row⟩ := s
 obtain ⟨rb, H⟩ := H.led_open
 simp only at hn h0 hx H ⊢
 have HH := Lib.hid H; clear H
 have hw : IntKind.u64.wrap (next + 1) = next + 1 := by rw [IntKind.wrap_u64]; omega
 replace hn := Lib.hid hn
 clear h0 hx
 go_enter Tryz.func85, Tryz.ntmps85
 go_wp2_with (with_reducible refine stop_bx ?_)
 refine Stop.go ?_
 refine wpList_box_own HH.out [_, _, _, _, _] rfl ?_
 intro sp w3_ H9_
 replace HH := Lib.hid H9_
 clear H9_
 (try clear cc1_); (try clear cc2_)
 have cc1_ := HH.out.cells
 have cc2_ := HH.out.r2.cells
 go_wp2_with fail
 refine wp_region_reg (some 10) HH.out (by kernel_rfl) ?_
 intro wm H9_
 replace HH := Lib.hid H9_
 clear H9_
 refine reg_s 0 HH.out ?_
 refine reg_s 1 HH.out ?_
 refine reg_s 2 HH.out ?_
 refine mixk_s 3 HH.out (fun _ hx => And.intro hx.cells hx.r2.cells) ?_
 refine reg_s 4 HH.out ?_
 refine reg_s 5 HH.out ?_
 refine mixk_s 6 HH.out (fun _ hx => And.intro hx.cells hx.r2.cells) ?_
 refine reg_s 7 HH.out ?_
 refine reg_s 8 HH.out ?_
 refine reg_l (some 10) (i := 9) rfl (by kernel_rfl) (fun wn hk K hK => ?_)
 replace HH := Lib.hid (hk _ _ HH.out)
 clear hk
 go_simp
 replace HH := Lib.hid (HH.out.alloc (.cells #[.int .u64 next, .int .u64 size, .int .u64 q1, .int .u64 q2, .int .u64 q3, .int .u64 q4, .bool q5, .bool true] 185))
 generalize wn.alloc (.cells #[.int .u64 next, .int .u64 size, .int .u64 q1, .int .u64 q2, .int .u64 q3, .int .u64 q4, .bool q5, .bool true] 185) = wm at *
 generalize wn.heap.size = eb at *
 refine hK _ _ _ HH.out (.inr ⟨rfl, fun _ h => h.tail⟩) ?_
 clear hK K
 refine reg_l none (i := 10) rfl (by kernel_rfl) (fun wn hk K hK => ?_)
 replace HH := Lib.hid (hk _ _ HH.out)
 clear hk
 go_simp
 refine (rlPush_c ε wn _ rb (blks row) eb (by simpa using hn.out) HH.out.r4).mono ?_
 rintro e wm ⟨rfl, H9_⟩
 replace HH := Lib.hid H9_
 clear H9_
 refine hK _ _ _ HH.out (.inl (by kernel_rfl)) ?_
 clear hK K
 refine mixk_done (by kernel_rfl) (fun w4_ hk => ?_) _
 replace HH := Lib.hid (hk _ _ HH.out)
 clear hk
 replace HH := Lib.hid (HH.out.pn : Own _ _ (pts b _ :: ringL rb _ :: ents row :: pts eb _ :: R))
 (try clear cc1_); (try clear cc2_)
 have cc1_ := HH.out.cells
 go_wp2_with (with_reducible refine stop_st ?_)
 refine Stop.go ?_
 refine wpList_store1_own (v := .int .u64 (next + 1)) (k := 2) rfl rfl HH.out (by kernel_rfl) (by simp) (by first | rfl | assumption) ?_
 intro w5_ H9_
 replace HH := Lib.hid H9_
 clear H9_
 simp only [List.setIfInBounds_toArray, List.set_cons_succ, List.set_cons_zero] at HH
 go_wp2_with fail
 go_ret
 refine ⟨eb, rfl, Own.led_mk (rb := rb) ?_⟩
 have H9 := HH.out
 have e1 : blks row ++ [eb] = blks (row ++ [⟨eb, ⟨next, size, q1, q2, q3, q4, q5⟩, true⟩]) := by simp
 simp only
 rw [← e1]
 have H8 := (H9.pn : Own ε _ (pts eb _ :: ents row :: pts b _ :: ringL rb _ :: R))
 have H10 := Own.ents_snoc (l := row) (e := ⟨eb, ⟨next, size, q1, q2, q3, q4, q5⟩, true⟩) H8
 exact H10.pn
abbrev capL (bb b : Nat) : Asn := pts bb (.cells #[.pointer (some ⟨b, 0, none⟩)] 60 (0, 0))
theorem ledSeq_c (H : Own ε w R) :
  Calls Tryz.prog 104 #[.pointer (some ⟨b, 0, none⟩)] w fun e w' => ∃ bb, e = .returned (.func (.func 140) #[] #[.pointer (some ⟨bb, 0, none⟩)]) ∧ Own ε w' (capL bb b :: R) := by
 have HH := Lib.hid H; clear H
 go_enter Tryz.func104, Tryz.ntmps104
 go_wp2_with (with_reducible refine stop_bx ?_)
 refine Stop.go ?_
 refine wpList_box_own HH.out [_] rfl ?_
 intro bb w7_ H9_
 replace HH := Lib.hid H9_
 clear H9_
 go_wp2_with fail
 go_ret
 exact ⟨_, rfl, HH.out⟩
end
end Go.Proofs.YtmkcpnlbicijoaaGreat
namespace Go.Proofs.YtmkcpnlbicijoaaGreat
open Go.RowKit Go.Shelf
section
variable (ε w : World) (A : List Asn)
theorem atP_in {l : List Nat} {k x : Nat} (h : l[k]? = some x) : atP l (k : Int) = (some ⟨x, 0, none⟩, true) := by
 obtain ⟨hk, rfl⟩ := List.getElem?_eq_some_iff.1 h
 rw [atP, if_pos (by omega)]
 simp [hk]
set_option maxHeartbeats 1600000 in
theorem ledIter_c (m l bb b rb : Nat) (s : Led) (bs : List Nat) (es : Nat → List En) (Fr : Nat → Asn) (hm : bs.length ≤ 1000000)
  (hB : ∀ i, i < bs.length → ∃ e, (es i)[i]? = some e ∧ bs[i]? = some e.b)
  (hN : ∀ i e, (es i)[i]? = some e → e.o = false → es (i + 1) = es i ∧ Fr (i + 1) = Fr i)
  (hY : ∀ i e W, (es i)[i]? = some e → e.o = true → Own ε W (capL bb b :: ledN b rb s :: ringL rb bs :: ents (es i) :: Fr i :: A) → YieldAt Fence.wide m Tryz.prog l #[.pointer (some ⟨e.b, 0, none⟩)] W fun e' W' => e' = .returned (.bool true) ∧ Own ε W' (capL bb b :: ledN b rb s :: ringL rb bs :: ents (es (i + 1)) :: Fr (i + 1) :: A))
  (H : Own ε w (capL bb b :: ledN b rb s :: ringL rb bs :: ents (es 0) :: Fr 0 :: A)) :
  Calls Tryz.prog 140 #[.func (.yield l) #[] #[], .pointer (some ⟨bb, 0, none⟩)] w fun e w' => (∃ v, e = .returned v) ∧ Own ε w' (capL bb b :: ledN b rb s :: ringL rb bs :: ents (es bs.length) :: Fr bs.length :: A) := by
 have HH := Lib.hid H; clear H
 replace hY := Lib.hid hY
 replace hN := Lib.hid hN
 replace hB := Lib.hid hB
 go_enter Tryz.func140, Tryz.ntmps140
 (try clear cc1_); (try clear cc2_)
 have cc1_ := HH.out.cells
 have cc2_ := HH.out.r2.cells
 go_wp2_with fail
 refine (rlLen_c ε _ _ rb bs HH.out.r3).mono ?_
 rintro e w1_ ⟨rfl, hbel⟩
 replace HH := Lib.hid ((by first | exact .same hbel | exact .drew hbel | exact .below hbel : Kp _ w1_) _ _ (by first | exact HH.out | exact HH.out.drewN _ | exact (HH.out.alloc _).tail | exact ((HH.out.alloc _).drewN _).tail | exact ((HH.out.alloc _).alloc _).tail.tail))
 clear hbel
 obtain ⟨n, hn⟩ : ∃ n, n = bs.length := ⟨_, rfl⟩
 rw [← hn] at hm ⊢
 replace hn := Lib.hid hn
 go_wp2_with fail
 go_loopg [11] n (fun k i wr => ∃ j : Nat, j + k = n ∧ i = .int .i64 j ∧ Own ε wr (capL bb b :: ledN b rb s :: ringL rb bs :: ents (es j) :: Fr j :: A))
 case atStart => exact ⟨0, by omega, rfl, HH.out⟩
 case round =>
  clear HH
  obtain ⟨j, hk, rfl, HR⟩ := hrel
  have HH := Lib.hid HR
  clear HR
  by_cases hj : j < n
  ·have hji : (j : Int) < n := by omega
   obtain ⟨e, he, heb⟩ := hB.out j (by rw [← hn.out]; exact hj)
   have hat := atP_in heb
   replace hk := Lib.hid hk
   replace he := Lib.hid he
   replace heb := Lib.hid heb
   replace hat := Lib.hid hat
   obtain ⟨eb, ⟨pn, ps, p3, p4, p5, p6, p7⟩, o⟩ := e
   (try clear cc1_); (try clear cc2_)
   have cc1_ := HH.out.cells
   have cc2_ := HH.out.r2.cells
   go_wp2_with fail
   refine (rlAt_c ε _ _ rb bs (j : Int) (by simp only [Lit.wf, IntKind.min, IntKind.max, IntKind.signed, IntKind.bits]; simp; omega) HH.out.r3).mono ?_
   rw [hat.out]
   rintro e w2_ ⟨rfl, nd, hnd⟩
   replace HH := Lib.hid (HH.out.drewN nd)
   rw [← hnd] at HH
   clear hnd
   clear hat
   have x1_ := (HH.out.r4.ents_at he.out).cells
   (try clear cc1_); (try clear cc2_)
   have cc1_ := HH.out.cells
   have cc2_ := HH.out.r2.cells
   cases o with
   | true =>
    try dsimp only
    repeat (first | (with_reducible refine stop_rs 4 ?_) | (with_reducible refine stop_rg 4 ?_) | go_values | go_skip | go_guarded | go_step | go_upon | go_back)
    refine Stop.go ?_
    obtain ⟨fn, tmps, assign, body, hy, hR⟩ := hY.out j _ _ he.out rfl HH.out
    refine (wpIn_wide (n := m + 1)).1 ?_
    gi_wp2
    refine hR.mono ?_
    clear hy hR x1_
    rintro e w10 ⟨rfl, H10⟩
    replace HH := Lib.hid H10
    clear H10
    gi_wp2
    go_wp2_with fail
    go_roundg (n - (j + 1))
    case measure => have := hk.out; omega
    case rel => exact ⟨j + 1, by omega, by go_num, HH.out⟩
   | false =>
    go_wp2_with fail
    go_roundg (n - (j + 1))
    case measure => have := hk.out; omega
    case rel => exact ⟨j + 1, by omega, by go_num, by have := hN.out j _ he.out rfl; rw [this.1, this.2]; exact HH.out⟩
  ·have hjn : ¬ (j : Int) < n := by omega
   obtain rfl : j = n := by omega
   go_wp2_with fail
   first | go_end0 | ((try simp only [Exit.inBlock, Exit.then]); refine bodyPost_ret (results_none rfl _ _ _) rfl ?_)
   exact ⟨⟨_, rfl⟩, by rw [← hn.out]; exact HH.out⟩
end
end Go.Proofs.YtmkcpnlbicijoaaGreat
