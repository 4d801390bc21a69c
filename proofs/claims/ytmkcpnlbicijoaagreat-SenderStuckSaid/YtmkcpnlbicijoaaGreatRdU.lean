/- Rows of uint64 numbers: as they stand, and owned. -/
import Derived.Test.YtmkcpnlbicijoaaGreatSlc
import Derived.Test.YtmkcpnlbicijoaaGreatMix
import Derived.Test.YtmkcpnlbicijoaaGreatLen
namespace Go.Proofs.YtmkcpnlbicijoaaGreat
open Go.RowKit
def rix (P from_ i : Nat) : Nat := if from_ + i < P then from_ + i else from_ + i - P
theorem rix_mod {P f i : Nat} (hf : f < P) (hi : i ≤ P) : (f + i) % P = rix P f i := by
 unfold rix; split
 ·exact Nat.mod_eq_of_lt (by omega)
 ·rw [Nat.mod_eq_sub_mod (by omega), Nat.mod_eq_of_lt (by omega)]
theorem rix_lt {P f i : Nat} (hf : f < P) (hi : i ≤ P) : rix P f i < P := by unfold rix; split <;> omega
theorem rix_inj {P f i j : Nat} (_hf : f < P) (hi : i < P) (hj : j < P) (hij : i ≠ j) : rix P f i ≠ rix P f j := by unfold rix; split <;> split <;> omega
structure RingOk (sz P f : Nat) (pl items : List (List Value)) : Prop where
 len : pl.length = P
 flt : f < P
 few : items.length ≤ P
 four : 4 ≤ P
 most : P ≤ 4000000
 wide : ∀ c ∈ pl, c.length = sz
 one : ∀ c ∈ pl, ∀ u ∈ c, u.oneCell' = true
 hold : ∀ i, ∀ h : i < items.length, pl[rix P f i]? = some items[i]
section
variable {sz P f : Nat} {pl items : List (List Value)}
theorem flat_len (L : List (List Value)) (h : ∀ c ∈ L, c.length = sz) : L.flatten.length = L.length * sz := by
 induction L with
 | nil => simp
 | cons x L ih => simp only [List.flatten_cons, List.length_append, List.length_cons, h x (by simp), ih (fun c hc => h c (by simp [hc])), Nat.add_mul, Nat.one_mul]; omega
theorem flat_at (L : List (List Value)) (h : ∀ c ∈ L, c.length = sz) (p j : Nat) (c : List Value) (hp : L[p]? = some c) (hj : j < sz) : L.flatten[p * sz + j]? = c[j]? := by
 induction L generalizing p with
 | nil => simp at hp
 | cons x L ih =>
  have hx := h x (by simp)
  cases p with
  | zero =>
   simp at hp
   subst hp
   rw [Nat.zero_mul, Nat.zero_add, List.flatten_cons, List.getElem?_append_left (by omega)]
  | succ p =>
   rw [List.flatten_cons, List.getElem?_append_right (by rw [hx, Nat.succ_mul]; omega), hx, Nat.succ_mul]
   have := ih (fun c hc => h c (by simp [hc])) p (by simpa using hp)
   rw [← this]
   congr 1; omega
theorem flat_take (L : List (List Value)) (h : ∀ c ∈ L, c.length = sz) (p : Nat) : L.flatten.take (p * sz) = (L.take p).flatten := by
 induction L generalizing p with
 | nil => simp
 | cons x L ih =>
  cases p with
  | zero => simp
  | succ p =>
   have hx := h x (by simp)
   rw [List.flatten_cons, List.take_append, hx, Nat.succ_mul, List.take_of_length_le (by omega), List.take_succ_cons, List.flatten_cons]
   congr 1
   rw [← ih (fun c hc => h c (by simp [hc])) p]
   congr 1; omega
theorem flat_drop (L : List (List Value)) (h : ∀ c ∈ L, c.length = sz) (p : Nat) : L.flatten.drop (p * sz) = (L.drop p).flatten := by
 induction L generalizing p with
 | nil => simp
 | cons x L ih =>
  cases p with
  | zero => simp
  | succ p =>
   have hx := h x (by simp)
   rw [List.flatten_cons, List.drop_append, hx, Nat.succ_mul, List.drop_of_length_le (by omega), List.drop_succ_cons, List.nil_append]
   rw [← ih (fun c hc => h c (by simp [hc])) p]
   congr 1; omega
theorem flat_set (L : List (List Value)) (h : ∀ c ∈ L, c.length = sz) (p : Nat) (hp : p < L.length) (x : List Value) (hx : x.length = sz) :
  (L.set p x).flatten = L.flatten.take (p * sz) ++ x ++ L.flatten.drop (p * sz + x.length) := by
 rw [flat_take L h, hx, show p * sz + sz = (p + 1) * sz from (Nat.succ_mul p sz).symm, flat_drop L h]
 rw [List.set_eq_take_append_cons_drop, if_pos hp]
 simp
theorem flat_set1 (L : List (List Value)) (h : ∀ c ∈ L, c.length = 1) (p : Nat) (hp : p < L.length) (v : Value) : (L.set p [v]).flatten = L.flatten.set p v := by
 rw [flat_set L h p hp [v] rfl, List.set_eq_take_append_cons_drop, if_pos (by rw [flat_len L h]; omega)]
 simp
theorem RingOk.push (h : RingOk sz P f pl items) (hn : items.length < P) (x : List Value) (hx : x.length = sz) (hx1 : ∀ u ∈ x, u.oneCell' = true) : RingOk sz P f (pl.set (rix P f items.length) x) (items ++ [x]) := by
 refine ⟨by simp [h.len], h.flt, by simp; omega, h.four, h.most, ?_, ?_, ?_⟩
 ·intro c hc
  rcases List.mem_or_eq_of_mem_set hc with q | q
  ·exact h.wide c q
  ·rw [q]; exact hx
 ·intro c hc
  rcases List.mem_or_eq_of_mem_set hc with q | q
  ·exact h.one c q
  ·rw [q]; exact hx1
 ·intro i hi
  have hi' : i < items.length + 1 := by simpa using hi
  by_cases hil : i = items.length
  ·subst hil
   rw [List.getElem?_set_self (by rw [h.len]; exact rix_lt h.flt (by omega))]
   simp
  ·rw [List.getElem?_set_ne (Ne.symm (rix_inj h.flt (by omega) hn hil)), h.hold i (by omega), List.getElem_append_left (by omega)]
theorem RingOk.shift (h : RingOk sz P f pl items) (hn : 0 < items.length) (z : List Value) (hz : z.length = sz) (hz1 : ∀ u ∈ z, u.oneCell' = true) : RingOk sz P ((f + 1) % P) (pl.set (rix P f 0) z) (items.drop 1) := by
 have hP := h.flt
 have hr := rix_mod (P := P) (i := 1) h.flt (by omega)
 have hr1 := rix_lt (P := P) (i := 1) h.flt (by omega)
 refine ⟨by simp [h.len], Nat.mod_lt _ (by omega), by have := h.few; simp; omega, h.four, h.most, ?_, ?_, ?_⟩
 ·intro c hc
  rcases List.mem_or_eq_of_mem_set hc with q | q
  ·exact h.wide c q
  ·rw [q]; exact hz
 ·intro c hc
  rcases List.mem_or_eq_of_mem_set hc with q | q
  ·exact h.one c q
  ·rw [q]; exact hz1
 ·intro i hi
  have hi' : i < items.length - 1 := by simpa using hi
  have hfew := h.few
  have e : rix P ((f + 1) % P) i = rix P f (i + 1) := by
   rw [hr]; unfold rix; split <;> split <;> split <;> omega
  rw [e, List.getElem?_set_ne (rix_inj h.flt (by omega) (by omega) (by omega)), h.hold (i + 1) (by omega)]
  simp
theorem RingOk.pop (h : RingOk sz P f pl items) (hn : 0 < items.length) (z : List Value) (hz : z.length = sz) (hz1 : ∀ u ∈ z, u.oneCell' = true) : RingOk sz P f (pl.set (rix P f (items.length - 1)) z) items.dropLast := by
 refine ⟨by simp [h.len], h.flt, by have := h.few; simp; omega, h.four, h.most, ?_, ?_, ?_⟩
 ·intro c hc
  rcases List.mem_or_eq_of_mem_set hc with q | q
  ·exact h.wide c q
  ·rw [q]; exact hz
 ·intro c hc
  rcases List.mem_or_eq_of_mem_set hc with q | q
  ·exact h.one c q
  ·rw [q]; exact hz1
 ·intro i hi
  have hi' : i < items.length - 1 := by simpa using hi
  have hfew := h.few
  rw [List.getElem?_set_ne (rix_inj h.flt (by omega) (by omega) (by omega)), h.hold i (by omega)]
  simp
theorem RingOk.grow (h : RingOk sz P f pl items) (hm : P ≤ 2000000) (z : List Value) (hz : z.length = sz) (hz1 : ∀ u ∈ z, u.oneCell' = true) : RingOk sz (2 * P) 0 (pl.drop f ++ pl.take f ++ List.replicate P z) items := by
 have hfew := h.few
 have hlen := h.len
 have hf := h.flt
 have h4 := h.four
 refine ⟨by simp; omega, by omega, by omega, by omega, by omega, ?_, ?_, ?_⟩
 ·intro c hc
  simp only [List.mem_append, List.mem_replicate] at hc
  rcases hc with (q | q) | q
  ·exact h.wide c (List.mem_of_mem_drop q)
  ·exact h.wide c (List.mem_of_mem_take q)
  ·rw [q.2]; exact hz
 ·intro c hc
  simp only [List.mem_append, List.mem_replicate] at hc
  rcases hc with (q | q) | q
  ·exact h.one c (List.mem_of_mem_drop q)
  ·exact h.one c (List.mem_of_mem_take q)
  ·rw [q.2]; exact hz1
 ·intro i hi
  have e : rix (2 * P) 0 i = i := by unfold rix; rw [if_pos (by omega)]; omega
  rw [e, List.getElem?_append_left (by simp; omega), ← h.hold i hi]
  by_cases hif : i < P - f
  ·rw [List.getElem?_append_left (by simp; omega), List.getElem?_drop]
   congr 1; unfold rix; rw [if_pos (by omega)]
  ·rw [List.getElem?_append_right (by simp; omega), List.getElem?_take, if_pos (by simp; omega)]
   congr 1; unfold rix; rw [if_neg (by omega)]; simp; omega
theorem RingOk.new (items : List (List Value)) (hw : ∀ c ∈ items, c.length = sz) (hw1 : ∀ c ∈ items, ∀ u ∈ c, u.oneCell' = true) (hm : items.length ≤ 1000000) (z : List Value) (hz : z.length = sz) (hz1 : ∀ u ∈ z, u.oneCell' = true) :
  RingOk sz (max 4 items.length) 0 (items ++ List.replicate (max 4 items.length - items.length) z) items := by
 refine ⟨by simp; omega, by omega, by omega, by omega, by omega, ?_, ?_, ?_⟩
 ·intro c hc
  simp only [List.mem_append, List.mem_replicate] at hc
  rcases hc with q | q
  ·exact hw c q
  ·rw [q.2]; exact hz
 ·intro c hc
  simp only [List.mem_append, List.mem_replicate] at hc
  rcases hc with q | q
  ·exact hw1 c q
  ·rw [q.2]; exact hz1
 ·intro i hi
  have e : rix (max 4 items.length) 0 i = i := by unfold rix; rw [if_pos (by omega)]; omega
  rw [e, List.getElem?_append_left hi]
  simp
theorem flat_one {L : List (List Value)} (h : ∀ c ∈ L, ∀ u ∈ c, u.oneCell' = true) : ∀ u ∈ L.flatten, u.oneCell' = true := by
 intro u hu
 obtain ⟨c, hc, hu⟩ := List.mem_flatten.1 hu
 exact h c hc u hu
theorem flat_rep (z : List Value) (hz : z.length = sz) (n k : Nat) : ((List.replicate n z).flatten).drop (k * sz) = (List.replicate (n - k) z).flatten := by
 rw [flat_drop _ (fun c hc => by rw [(List.mem_replicate.1 hc).2]; exact hz), List.drop_replicate]
theorem RingOk.at (h : RingOk sz P f pl items) {i : Nat} (hi : i < items.length) : pl[rix P f i]? = some items[i] := h.hold i hi
end
def ring (RT IT : TypeId) (sz b : Nat) (items : List (List Value)) : Asn := exA fun p : Nat × Nat × Nat × Nat × List (List Value) =>
 lift (RingOk sz p.2.1 p.2.2.2.1 p.2.2.2.2 items) (sep (pts b (.cells #[.slice (some ⟨p.1, 0, none⟩) p.2.1 p.2.2.1, .int .i64 p.2.2.2.1, .int .i64 items.length] RT (0, 0)))
  (slc IT sz (.slice (some ⟨p.1, 0, none⟩) p.2.1 p.2.2.1) p.2.2.2.2.flatten))
section
variable {ε w : World} {R : List Asn} {RT IT : TypeId} {sz b : Nat} {items : List (List Value)}
theorem Own.ring_open (H : Own ε w (ring RT IT sz b items :: R)) : ∃ (g P cap f : Nat) (pl : List (List Value)), RingOk sz P f pl items ∧
  Own ε w (pts b (.cells #[.slice (some ⟨g, 0, none⟩) P cap, .int .i64 f, .int .i64 items.length] RT (0, 0)) :: slc IT sz (.slice (some ⟨g, 0, none⟩) P cap) pl.flatten :: R) := by
 obtain ⟨⟨g, P, cap, f, pl⟩, H⟩ := H.ex
 obtain ⟨h, H⟩ := H.lift
 exact ⟨g, P, cap, f, pl, h, H.split⟩
theorem Own.ring_mk {g P cap f : Nat} {pl : List (List Value)} (h : RingOk sz P f pl items)
  (H : Own ε w (pts b (.cells #[.slice (some ⟨g, 0, none⟩) P cap, .int .i64 f, .int .i64 items.length] RT (0, 0)) :: slc IT sz (.slice (some ⟨g, 0, none⟩) P cap) pl.flatten :: R)) : Own ε w (ring RT IT sz b items :: R) :=
 Own.ex_mk (g, P, cap, f, pl) (Own.lift_mk h H.join)
theorem Own.ring_mk' {g P cap f n : Nat} {pl : List (List Value)} (hn : items.length = n) (h : RingOk sz P f pl items)
  (H : Own ε w (pts b (.cells #[.slice (some ⟨g, 0, none⟩) P cap, .int .i64 f, .int .i64 n] RT (0, 0)) :: slc IT sz (.slice (some ⟨g, 0, none⟩) P cap) pl.flatten :: R)) : Own ε w (ring RT IT sz b items :: R) := by
 subst hn; exact Own.ring_mk h H
end
end Go.Proofs.YtmkcpnlbicijoaaGreat
namespace Go.Proofs.YtmkcpnlbicijoaaGreat
section
variable {P : Program} {ops : Array Oper} {Q : Exit → Act → World → Prop} {md : Region.Mode} {S S1 S2 : World → Prop} {l1 l2 : Option Nat}
def Inv2 (l1 l2 : Option Nat) (S1 S2 : World → Prop) (L : Array Bool) (w : World) : Prop := (ended l1 L = true ∨ S1 w) ∧ (ended l2 L = true ∨ S2 w)
theorem ended_set {l : Option Nat} {L : Array Bool} {i : Nat} (h : ended l L = true) : ended l (L.setIfInBounds i true) = true := by
 cases l with
 | none => exact h
 | some l => exact getD_set_true h
theorem Inv2.set {L : Array Bool} {w : World} {i : Nat} (h : Inv2 l1 l2 S1 S2 L w) : Inv2 l1 l2 S1 S2 (L.setIfInBounds i true) w := ⟨h.1.imp ended_set id, h.2.imp ended_set id⟩
def wpMix2 (P : Program) (md : Region.Mode) (ops : Array Oper) (Q : Exit → Act → World → Prop) (l1 l2 : Option Nat) (S1 S2 : World → Prop) : Nat → Array Bool → Act → World → Prop
 | 0, listed, a, w => Region.ready md ops listed = [] ∧ Q .normal a w
 | fuel + 1, listed, a, w => (Region.ready md ops listed = [] → Q .normal a w) ∧
  ∀ i ∈ Region.ready md ops listed, wpOp P ops Q i (fun a' w' => Inv2 l1 l2 S1 S2 (listed.setIfInBounds i true) w' ∧ wpMix2 P md ops Q l1 l2 S1 S2 fuel (listed.setIfInBounds i true) a' w') a w
theorem wpAny_of_mix2 : ∀ (fuel : Nat) (listed : Array Bool) (a : Act) (w : World), wpMix2 P md ops Q l1 l2 S1 S2 fuel listed a w → wpAny P md ops Q fuel listed a w
 | 0, _, _, _, h => h
 | fuel + 1, _, _, _, h => ⟨h.1, fun i hi => wpOp_mono (fun a' w' h' => wpAny_of_mix2 fuel _ a' w' h'.2) (h.2 i hi)⟩
theorem wpMix2_first {last : Option Nat} (hproj : ∀ L w, Inv2 l1 l2 S1 S2 L w → ended last L = true ∨ S w) {i : Nat} (hn1 : l1 ≠ some i) (hn2 : l2 ≠ some i) {oi : Oper} {v : Value} (hi : ops[i]? = some oi) (hsel : ∀ (j : Nat) (o : Oper) cs b, ops[j]? = some o → o.op ≠ .select cs b)
  (hQ : ∀ c a w, Q (.panic c) (a.put oi.dst v) w → Q (.panic c) a w) :
  ∀ (fuel : Nat) (listed : Array Bool) (a : Act) (w : World),
   (∀ j oj, ops[j]? = some oj → j ≠ i → listed.getD j true = false → (∀ e ∈ oj.after, Region.binds md e = true → e.on ≠ i) → oi.apart ops oj = true) →
   before md ops last listed i = true → i ∈ Region.ready md ops listed → YX P ops S oi v a → S w → Inv2 l1 l2 S1 S2 listed w →
   wpMix2 P md ops Q l1 l2 S1 S2 fuel (listed.setIfInBounds i true) (a.put oi.dst v) w → wpMix2 P md ops Q l1 l2 S1 S2 (fuel + 1) listed a w := by
 intro fuel
 induction fuel with
 | zero =>
  intro listed a w _ _ hr hy hS hI H
  refine ⟨fun h => (by rw [h] at hr; cases hr), fun j hj => ?_⟩
  by_cases hji : j = i
  ·subst hji; exact hy.wpOp hi hS ⟨hI.set, H⟩
  ·have := ready_mono hj hji
   rw [H.1] at this
   cases this
 | succ fuel ih =>
  intro listed a w hfree hbef hr hy hS hI H
  refine ⟨fun h => (by rw [h] at hr; cases hr), fun j hj => ?_⟩
  by_cases hji : j = i
  ·subst hji; exact hy.wpOp hi hS ⟨hI.set, H⟩
  ·have hun := (mem_ready.1 hr).1
   obtain ⟨hend, hbef'⟩ := before_not hbef hun hj
   have h1 := H.2 j (ready_mono hj hji)
   obtain ⟨hjun, oj, hoj, hall⟩ := mem_ready.1 hj
   have hnot : ∀ e ∈ oj.after, Region.binds md e = true → e.on ≠ i := fun e he hb heq => by
    have h1 := hall e he hb
    rw [heq] at h1
    rcases Nat.lt_or_ge i listed.size with h' | h'
    ·simp [h'] at hun h1; rw [hun] at h1; cases h1
    ·simp [Array.getElem?_eq_none h'] at h1
   have h2 := wpOp_putX hoj (hfree j oj hoj hji hjun hnot) (fun cs b => hsel i oi cs b hi) (fun cs b => hsel j oj cs b hoj) hQ hy h1
   have hfree' : ∀ k ok, ops[k]? = some ok → k ≠ i → (listed.setIfInBounds j true).getD k true = false → (∀ e ∈ ok.after, Region.binds md e = true → e.on ≠ i) → oi.apart ops ok = true := fun k ok hk hki hun' hno => by
    refine hfree k ok hk hki ?_ hno
    by_cases hjk : j = k
    ·subst hjk; exact hjun
    ·rw [getD_set_ne true hjk] at hun'; exact hun'
   refine wpOp_mono (fun a' w' h3 => ?_) h2
   have hcomm : (listed.setIfInBounds j true).setIfInBounds i true = (listed.setIfInBounds i true).setIfInBounds j true := Array.setIfInBounds_comm _ _ hji
   have hI' : Inv2 l1 l2 S1 S2 (listed.setIfInBounds j true) w' := by
    have hI2 := h3.2.1
    have hne : ∀ l : Option Nat, ended l ((listed.setIfInBounds i true).setIfInBounds j true) = true → (l = some i ∨ ended l (listed.setIfInBounds j true) = true) := by
     intro l hl
     cases l with
     | none => exact .inr hl
     | some l =>
      by_cases hil : i = l
      ·left; rw [hil]
      ·right
       simp only [ended] at hl ⊢
       rw [← hcomm, getD_set_ne false hil] at hl
       exact hl
    exact ⟨hI2.1.imp (fun h => (hne l1 h).resolve_left hn1) id, hI2.2.imp (fun h => (hne l2 h).resolve_left hn2) id⟩
   have hS' : S w' := by
    rcases hproj _ _ h3.2.1 with q | q
    ·rw [hend] at q; cases q
    ·exact q
   refine ⟨hI', ih (listed.setIfInBounds j true) a' w' hfree' hbef' (ready_mono hr (Ne.symm hji)) h3.1 hS' hI' ?_⟩
   rw [hcomm]
   exact h3.2.2
def takeOk2 (md : Region.Mode) (ops : Array Oper) (l1 l2 last : Option Nat) (listed : Array Bool) (i : Nat) : Bool :=
 takeOk md ops last listed i && !(l1 == some i) && !(l2 == some i)
theorem mix2_take {last : Option Nat} (hproj : ∀ L w, Inv2 l1 l2 S1 S2 L w → ended last L = true ∨ S w) {i : Nat} {oi : Oper} {v : Value} {fuel : Nat} {listed : Array Bool} {a : Act} {w : World} (hi : ops[i]? = some oi) (hB : takeOk2 md ops l1 l2 last listed i = true)
  (hQ : ∀ c a w, Q (.panic c) (a.put oi.dst v) w → Q (.panic c) a w) (hS : S w) (hI : Inv2 l1 l2 S1 S2 listed w) (hy : YX P ops S oi v a)
  (h : wpMix2 P md ops Q l1 l2 S1 S2 fuel (listed.setIfInBounds i true) (a.put oi.dst v) w) : wpMix2 P md ops Q l1 l2 S1 S2 (fuel + 1) listed a w := by
 simp only [takeOk2, takeOk, Bool.and_eq_true, Bool.not_eq_true', beq_eq_false_iff_ne, ne_eq] at hB
 obtain ⟨⟨⟨⟨⟨h1, h2⟩, h3⟩, h4⟩, h5⟩, h6⟩ := hB
 exact wpMix2_first hproj h5 h6 hi (Region.noSelect_spec h1) hQ fuel listed a w (Region.free_spec hi h2) h4 (by simpa using h3) hy hS hI h
theorem proj1 : ∀ L w, Inv2 l1 l2 S1 S2 L w → ended l1 L = true ∨ S1 w := fun _ _ h => h.1
theorem proj2 : ∀ L w, Inv2 l1 l2 S1 S2 L w → ended l2 L = true ∨ S2 w := fun _ _ h => h.2
theorem mix2_q {last : Option Nat} (hproj : ∀ L w, Inv2 l1 l2 S1 S2 L w → ended last L = true ∨ S w) {i : Nat} {oi : Oper} {fuel : Nat} {listed : Array Bool} {a : Act} {w : World} (hi : ops[i]? = some oi) (hB : takeOk2 md ops l1 l2 last listed i = true)
  (hQ : ∀ v c a w, Q (.panic c) (a.put oi.dst v) w → Q (.panic c) a w) (hS : S w) (hI : Inv2 l1 l2 S1 S2 listed w)
  (h : ∀ K : Act → Prop, (∀ a', Inv2 l1 l2 S1 S2 (listed.setIfInBounds i true) w → wpMix2 P md ops Q l1 l2 S1 S2 fuel (listed.setIfInBounds i true) a' w → K a') →
   if Region.wanted oi (yielded ops a.tmps) then ∃ v, (∀ w', S w' → oneVal P v w' ((execOp a.eval oi).run P w')) ∧ K (a.put oi.dst v) else K (a.put oi.dst undef)) :
  wpMix2 P md ops Q l1 l2 S1 S2 (fuel + 1) listed a w := by
 have h1 := h (fun a' => wpMix2 P md ops Q l1 l2 S1 S2 fuel (listed.setIfInBounds i true) a' w) (fun _ _ q => q)
 by_cases hw : Region.wanted oi (yielded ops a.tmps) = true
 ·rw [if_pos hw] at h1
  obtain ⟨v, h2, h3⟩ := h1
  exact mix2_take hproj hi hB (hQ v) hS hI (.inl ⟨hw, h2⟩) h3
 ·rw [if_neg hw] at h1
  exact mix2_take hproj hi hB (hQ undef) hS hI (.inr ⟨by simpa using hw, rfl⟩) h1
theorem mix2_l {i : Nat} {oi : Oper} {fuel : Nat} {listed : Array Bool} {a : Act} {w : World} (hi : ops[i]? = some oi) (hr : (Region.ready md ops listed == [i]) = true)
  (h : ∀ K : Act → World → Prop, (∀ a' w', Inv2 l1 l2 S1 S2 (listed.setIfInBounds i true) w' → wpMix2 P md ops Q l1 l2 S1 S2 fuel (listed.setIfInBounds i true) a' w' → K a' w') →
   if Region.wanted oi (yielded ops a.tmps) then oi.wp P a w K Q else K (a.put oi.dst undef) w) : wpMix2 P md ops Q l1 l2 S1 S2 (fuel + 1) listed a w := by
 have h1 := h (fun a' w' => Inv2 l1 l2 S1 S2 (listed.setIfInBounds i true) w' ∧ wpMix2 P md ops Q l1 l2 S1 S2 fuel (listed.setIfInBounds i true) a' w') (fun _ _ hs q => ⟨hs, q⟩)
 have hr' : Region.ready md ops listed = [i] := by simpa using hr
 refine ⟨fun h0 => (by rw [hr'] at h0; cases h0), fun j hj => ?_⟩
 rw [hr'] at hj
 rw [List.mem_singleton.1 hj]
 unfold wpOp
 simp only [hi]
 by_cases hw : Region.wanted oi (yielded ops a.tmps) = true
 ·rw [if_pos hw] at h1 ⊢; exact .inl h1
 ·rw [if_neg hw] at h1 ⊢; exact h1
theorem mix2_done {listed : Array Bool} {a : Act} {w : World} (hr : (Region.ready md ops listed == []) = true) (h : Q .normal a w) : ∀ fuel, wpMix2 P md ops Q l1 l2 S1 S2 fuel listed a w
 | 0 => ⟨by simpa using hr, h⟩
 | _ + 1 => ⟨fun _ => h, by have hr' : Region.ready md ops listed = [] := by simpa using hr
                            rw [hr']; simp⟩
theorem wp_region_mix2 (S1 S2 : World → Prop) (l1 l2 : Option Nat) {id : Nat} {a : Act} {w : World} (hm : P.follows .mixedOrders = true)
  (h : wpMix2 P .any ops Q l1 l2 S1 S2 ops.size (Array.replicate ops.size false) a { w with drawn := w.drawn + 1 }) : (Code.region id ops true).wp P Q a w :=
 wp_region_any hm (wpAny_of_mix2 _ _ _ _ h)
end
section
variable {P : Program} {ops : Array Oper} {Q : Exit → Act → World → Prop} {md : Region.Mode} {S S1 S2 : World → Prop} {l1 l2 : Nat}
theorem mix2_s {last : Option Nat} {oi : Oper} {fuel : Nat} {listed : Array Bool} {a a' : Act} {w : World} (i : Nat) (hproj : ∀ L w, Inv2 l1 l2 S1 S2 L w → ended last L = true ∨ S w) (hS : S w) (hI : Inv2 l1 l2 S1 S2 listed w)
  (hJ : Inv2 l1 l2 S1 S2 (listed.setIfInBounds i true) w) (next : wpMix2 P md ops Q l1 l2 S1 S2 fuel (listed.setIfInBounds i true) a' w)
  (hi : ops[i]? = some oi := by with_unfolding_all rfl) (hB : takeOk2 md ops l1 l2 last listed i = true := by kernel_rfl)
  (hQ : ∀ v c a w, Q (.panic c) (a.put oi.dst v) w → Q (.panic c) a w := by exact fun _ _ _ _ h => h)
  (h : if Region.wanted oi (yielded ops a.tmps) then ∃ v, (∀ w', S w' → oneVal P v w' ((execOp a.eval oi).run P w')) ∧ Is (a.put oi.dst v) a' else Is (a.put oi.dst undef) a' := by (go_simp; first | exact Is.rfl | (apply Exists.intro; refine ⟨?_, Is.rfl⟩; intros; first | rfl | exact ⟨rfl, rfl⟩ | (go_simp; first | rfl | exact ⟨rfl, rfl⟩)))) : wpMix2 P md ops Q l1 l2 S1 S2 (fuel + 1) listed a w := by
 refine mix2_q hproj hi hB hQ hS hI (fun K hK => ?_)
 by_cases hw : Region.wanted oi (yielded ops a.tmps) = true
 ·rw [if_pos hw] at h ⊢
  obtain ⟨v, h2, rfl⟩ := h
  exact ⟨v, h2, hK _ hJ next⟩
 ·rw [if_neg hw] at h ⊢
  obtain rfl := h
  exact hK _ hJ next
end
end Go.Proofs.YtmkcpnlbicijoaaGreat
namespace Go.Proofs.YtmkcpnlbicijoaaGreat
open Go.RowKit
theorem ite_max (a b : Int) : (if a < b then b else a) = max a b := by split <;> omega
theorem rdInts_U {w : World} {A : Option Addr} {len cap : Nat} {xs : List Int} (h : rdSlice (rdInt .u64) 1 w [.slice A len cap] xs) : ∀ x ∈ xs, U x := by
 intro x hx
 obtain ⟨A', len', cap', e, hl, hc, hm, h⟩ := h
 obtain ⟨i, hi, rfl⟩ := List.getElem_of_mem hx
 obtain ⟨b, off, _, c, _, _, _, h2⟩ := h i hi
 exact U_of_wf h2
theorem rdInts_cell {w : World} {A : Option Addr} {len cap : Nat} {xs : List Int} (h : rdSlice (rdInt .u64) 1 w [.slice A len cap] xs) :
  xs.length = len ∧ len ≤ 9223372036854775807 ∧ (len ≤ 0 ∨ ∃ b off, A = some ⟨b, off, none⟩ ∧ ∀ i, ∀ h : i < xs.length, w.cell? ⟨b, off + i, none⟩ = some (.int .u64 xs[i]) ∧ U xs[i]) := by
 have hU := rdInts_U h
 obtain ⟨h1, h2, h3⟩ := rdSlice_cases h
 refine ⟨h1, h2, h3.imp id fun ⟨b, off, e, hx⟩ => ⟨b, off, e, fun i hi => ?_⟩⟩
 obtain ⟨c, _, hcell, hR⟩ := hx i hi
 obtain ⟨rfl, _⟩ := hR
 exact ⟨by simpa using hcell 0 _ rfl, hU _ (List.getElem_mem hi)⟩
theorem rdInts_mk {w : World} {b off len cap : Nat} {xs : List Int} (hl : xs.length = len) (hlc : len ≤ cap) (hcap : cap ≤ maxLen) (hU : ∀ x ∈ xs, (Lit.int .u64 x).wf = true)
  (h : ∀ i, ∀ h : i < xs.length, w.cell? ⟨b, off + i, none⟩ = some (.int .u64 xs[i])) : rdSlice (rdInt .u64) 1 w [.slice (some ⟨b, off, none⟩) len cap] xs :=
 ⟨_, _, _, rfl, hl, hlc, hcap, fun i hi => ⟨b, off, rfl, [.int .u64 xs[i]], rfl, fun j u hj => by
  cases j with
  | zero => simp at hj; subst hj; simpa using h i hi
  | succ j => simp at hj, rfl, hU _ (List.getElem_mem hi)⟩⟩
theorem wf_of_U {x : Int} (h : U x) : (Lit.int .u64 x).wf = true := by
 obtain ⟨h1, h2⟩ := h
 simp only [Lit.wf, IntKind.min, IntKind.max, IntKind.signed, IntKind.bits]
 simp
 omega
theorem rdSlice_drew {α : Type} {R : Rd α} (hR : RdMono R) {sz : Nat} {w : World} {cs : List Value} {xs : List α} (h : rdSlice R sz w cs xs) : rdSlice R sz w.drew cs xs := mono_slice hR sz w w.drew cs xs (fun _ _ h => h) h
def nums (l : List Int) : List Value := l.map (Value.int .u64)
theorem nums_one (l : List Int) : ∀ u ∈ nums l, u.oneCell' = true := by
 intro u h
 obtain ⟨x, _, rfl⟩ := List.mem_map.1 h
 rfl
def own64 (v : Value) (l : List Int) : Asn := slc 22 1 v (nums l)
theorem Own.nums_rd {ε w : World} {v : Value} {l : List Int} {R : List Asn} (H : Own ε w (own64 v l :: R)) (hU : ∀ x ∈ l, U x) : ∃ A n cap, v = .slice A n cap ∧ rdSlice (rdInt .u64) 1 w [.slice A n cap] l := by
 rcases H.slc_val with ⟨rfl, h⟩ | ⟨g, n, cap, rfl, h1, h2, h3, h4, _⟩
 ·have hl : l = [] := by simpa [nums] using h
  subst hl
  exact ⟨none, 0, 0, rfl, none, 0, 0, rfl, rfl, Nat.le_refl _, Nat.zero_le _, fun i hi => by simp at hi⟩
 ·have hl : l.length = n := by simpa [nums] using h3
  refine ⟨_, n, cap, rfl, rdInts_mk hl h1 h2 (fun x hx => wf_of_U (hU x hx)) (fun i hi => ?_)⟩
  rw [Nat.zero_add]
  exact h4 i _ (by simp [nums, hi])
theorem srcAt_rd {w : World} {A : Option Addr} {n cap : Nat} {l : List Int} (h : rdSlice (rdInt .u64) 1 w [.slice A n cap] l) : srcAt w A n 1 (nums l) := by
 obtain ⟨h1, _, h3⟩ := rdInts_cell h
 refine ⟨by simp [nums, h1], h3.imp (by omega) fun ⟨b, off, e, hx⟩ => ⟨b, off, e, fun j u hj => ?_⟩⟩
 have hjl : j < l.length := by
  rcases Nat.lt_or_ge j l.length with q | q
  ·exact q
  ·rw [List.getElem?_eq_none (by simpa [nums] using q)] at hj; cases hj
 rw [(hx j hjl).1, ← hj]
 simp [nums, hjl]
end Go.Proofs.YtmkcpnlbicijoaaGreat
