/- Rings of places, in plain words: items from one place on; and the assertion of a ring in the heap. -/
import Derived.Test.YtlhncdbigjgmnaaSlc
import Derived.Test.YtlhncdbigjgmnaaMix
namespace Go.Proofs.Ytlhncdbigjgmnaa
open Go.RowKit
def rix (P from_ i : Nat) : Nat := if from_ + i < P then from_ + i else from_ + i - P
theorem rix_mod {P f i : Nat} (hf : f < P) (hi : i ≤ P) : (f + i) % P = rix P f i := by
  unfold rix; split
  · exact Nat.mod_eq_of_lt (by omega)
  · rw [Nat.mod_eq_sub_mod (by omega), Nat.mod_eq_of_lt (by omega)]
theorem rix_lt {P f i : Nat} (hf : f < P) (hi : i ≤ P) : rix P f i < P := by unfold rix; split <;> omega
theorem rix_inj {P f i j : Nat} (_hf : f < P) (hi : i < P) (hj : j < P) (hij : i ≠ j) : rix P f i ≠ rix P f j := by unfold rix; split <;> split <;> omega
/-- The places pl, P of them, of sz cells each, hold these items from one place on. -/
structure RingOk (sz P f : Nat) (pl items : List (List Value)) : Prop where
  len : pl.length = P
  flt : f < P
  few : items.length ≤ P
  four : 4 ≤ P
  most : P ≤ 4000000
  wide : ∀ c ∈ pl, c.length = sz
  one : ∀ c ∈ pl, ∀ u ∈ c, u.oneCell' = true
  hold : ∀ i, ∀ h : i < items.length, pl[rix P f i]? = some items[i]
section
variable {sz P f : Nat} {pl items : List (List Value)}
theorem flat_len (L : List (List Value)) (h : ∀ c ∈ L, c.length = sz) : L.flatten.length = L.length * sz := by
  induction L with
  | nil => simp
  | cons x L ih => simp only [List.flatten_cons, List.length_append, List.length_cons, h x (by simp), ih (fun c hc => h c (by simp [hc])), Nat.add_mul, Nat.one_mul]; omega
theorem flat_at (L : List (List Value)) (h : ∀ c ∈ L, c.length = sz) (p j : Nat) (c : List Value) (hp : L[p]? = some c) (hj : j < sz) : L.flatten[p * sz + j]? = c[j]? := by
  induction L generalizing p with
  | nil => simp at hp
  | cons x L ih =>
    have hx := h x (by simp)
    cases p with
    | zero =>
      simp at hp
      subst hp
      rw [Nat.zero_mul, Nat.zero_add, List.flatten_cons, List.getElem?_append_left (by omega)]
    | succ p =>
      rw [List.flatten_cons, List.getElem?_append_right (by rw [hx, Nat.succ_mul]; omega), hx, Nat.succ_mul]
      have := ih (fun c hc => h c (by simp [hc])) p (by simpa using hp)
      rw [← this]
      congr 1; omega
theorem flat_take (L : List (List Value)) (h : ∀ c ∈ L, c.length = sz) (p : Nat) : L.flatten.take (p * sz) = (L.take p).flatten := by
  induction L generalizing p with
  | nil => simp
  | cons x L ih =>
    cases p with
    | zero => simp
    | succ p =>
      have hx := h x (by simp)
      rw [List.flatten_cons, List.take_append, hx, Nat.succ_mul, List.take_of_length_le (by omega), List.take_succ_cons, List.flatten_cons]
      congr 1
      rw [← ih (fun c hc => h c (by simp [hc])) p]
      congr 1; omega
theorem flat_drop (L : List (List Value)) (h : ∀ c ∈ L, c.length = sz) (p : Nat) : L.flatten.drop (p * sz) = (L.drop p).flatten := by
  induction L generalizing p with
  | nil => simp
  | cons x L ih =>
    cases p with
    | zero => simp
    | succ p =>
      have hx := h x (by simp)
      rw [List.flatten_cons, List.drop_append, hx, Nat.succ_mul, List.drop_of_length_le (by omega), List.drop_succ_cons, List.nil_append]
      rw [← ih (fun c hc => h c (by simp [hc])) p]
      congr 1; omega
theorem flat_set (L : List (List Value)) (h : ∀ c ∈ L, c.length = sz) (p : Nat) (hp : p < L.length) (x : List Value) (hx : x.length = sz) :
    (L.set p x).flatten = L.flatten.take (p * sz) ++ x ++ L.flatten.drop (p * sz + x.length) := by
  rw [flat_take L h, hx, show p * sz + sz = (p + 1) * sz from (Nat.succ_mul p sz).symm, flat_drop L h]
  rw [List.set_eq_take_append_cons_drop, if_pos hp]
  simp
theorem flat_set1 (L : List (List Value)) (h : ∀ c ∈ L, c.length = 1) (p : Nat) (hp : p < L.length) (v : Value) : (L.set p [v]).flatten = L.flatten.set p v := by
  rw [flat_set L h p hp [v] rfl, List.set_eq_take_append_cons_drop, if_pos (by rw [flat_len L h]; omega)]
  simp
theorem RingOk.push (h : RingOk sz P f pl items) (hn : items.length < P) (x : List Value) (hx : x.length = sz) (hx1 : ∀ u ∈ x, u.oneCell' = true) : RingOk sz P f (pl.set (rix P f items.length) x) (items ++ [x]) := by
  refine ⟨by simp [h.len], h.flt, by simp; omega, h.four, h.most, ?_, ?_, ?_⟩
  · intro c hc
    rcases List.mem_or_eq_of_mem_set hc with q | q
    · exact h.wide c q
    · rw [q]; exact hx
  · intro c hc
    rcases List.mem_or_eq_of_mem_set hc with q | q
    · exact h.one c q
    · rw [q]; exact hx1
  · intro i hi
    have hi' : i < items.length + 1 := by simpa using hi
    by_cases hil : i = items.length
    · subst hil
      rw [List.getElem?_set_self (by rw [h.len]; exact rix_lt h.flt (by omega))]
      simp
    · rw [List.getElem?_set_ne (Ne.symm (rix_inj h.flt (by omega) hn hil)), h.hold i (by omega), List.getElem_append_left (by omega)]
theorem RingOk.shift (h : RingOk sz P f pl items) (hn : 0 < items.length) (z : List Value) (hz : z.length = sz) (hz1 : ∀ u ∈ z, u.oneCell' = true) : RingOk sz P ((f + 1) % P) (pl.set (rix P f 0) z) (items.drop 1) := by
  have hP := h.flt
  have hr := rix_mod (P := P) (i := 1) h.flt (by omega)
  have hr1 := rix_lt (P := P) (i := 1) h.flt (by omega)
  refine ⟨by simp [h.len], Nat.mod_lt _ (by omega), by have := h.few; simp; omega, h.four, h.most, ?_, ?_, ?_⟩
  · intro c hc
    rcases List.mem_or_eq_of_mem_set hc with q | q
    · exact h.wide c q
    · rw [q]; exact hz
  · intro c hc
    rcases List.mem_or_eq_of_mem_set hc with q | q
    · exact h.one c q
    · rw [q]; exact hz1
  · intro i hi
    have hi' : i < items.length - 1 := by simpa using hi
    have hfew := h.few
    have e : rix P ((f + 1) % P) i = rix P f (i + 1) := by
      rw [hr]; unfold rix; split <;> split <;> split <;> omega
    rw [e, List.getElem?_set_ne (rix_inj h.flt (by omega) (by omega) (by omega)), h.hold (i + 1) (by omega)]
    simp
theorem RingOk.pop (h : RingOk sz P f pl items) (hn : 0 < items.length) (z : List Value) (hz : z.length = sz) (hz1 : ∀ u ∈ z, u.oneCell' = true) : RingOk sz P f (pl.set (rix P f (items.length - 1)) z) items.dropLast := by
  refine ⟨by simp [h.len], h.flt, by have := h.few; simp; omega, h.four, h.most, ?_, ?_, ?_⟩
  · intro c hc
    rcases List.mem_or_eq_of_mem_set hc with q | q
    · exact h.wide c q
    · rw [q]; exact hz
  · intro c hc
    rcases List.mem_or_eq_of_mem_set hc with q | q
    · exact h.one c q
    · rw [q]; exact hz1
  · intro i hi
    have hi' : i < items.length - 1 := by simpa using hi
    have hfew := h.few
    rw [List.getElem?_set_ne (rix_inj h.flt (by omega) (by omega) (by omega)), h.hold i (by omega)]
    simp
/-- The places, from the first item's on, then the others, then new ones. -/
theorem RingOk.grow (h : RingOk sz P f pl items) (hm : P ≤ 2000000) (z : List Value) (hz : z.length = sz) (hz1 : ∀ u ∈ z, u.oneCell' = true) : RingOk sz (2 * P) 0 (pl.drop f ++ pl.take f ++ List.replicate P z) items := by
  have hfew := h.few
  have hlen := h.len
  have hf := h.flt
  have h4 := h.four
  refine ⟨by simp; omega, by omega, by omega, by omega, by omega, ?_, ?_, ?_⟩
  · intro c hc
    simp only [List.mem_append, List.mem_replicate] at hc
    rcases hc with (q | q) | q
    · exact h.wide c (List.mem_of_mem_drop q)
    · exact h.wide c (List.mem_of_mem_take q)
    · rw [q.2]; exact hz
  · intro c hc
    simp only [List.mem_append, List.mem_replicate] at hc
    rcases hc with (q | q) | q
    · exact h.one c (List.mem_of_mem_drop q)
    · exact h.one c (List.mem_of_mem_take q)
    · rw [q.2]; exact hz1
  · intro i hi
    have e : rix (2 * P) 0 i = i := by unfold rix; rw [if_pos (by omega)]; omega
    rw [e, List.getElem?_append_left (by simp; omega), ← h.hold i hi]
    by_cases hif : i < P - f
    · rw [List.getElem?_append_left (by simp; omega), List.getElem?_drop]
      congr 1; unfold rix; rw [if_pos (by omega)]
    · rw [List.getElem?_append_right (by simp; omega), List.getElem?_take, if_pos (by simp; omega)]
      congr 1; unfold rix; rw [if_neg (by omega)]; simp; omega
theorem RingOk.new (items : List (List Value)) (hw : ∀ c ∈ items, c.length = sz) (hw1 : ∀ c ∈ items, ∀ u ∈ c, u.oneCell' = true) (hm : items.length ≤ 1000000) (z : List Value) (hz : z.length = sz) (hz1 : ∀ u ∈ z, u.oneCell' = true) :
    RingOk sz (max 4 items.length) 0 (items ++ List.replicate (max 4 items.length - items.length) z) items := by
  refine ⟨by simp; omega, by omega, by omega, by omega, by omega, ?_, ?_, ?_⟩
  · intro c hc
    simp only [List.mem_append, List.mem_replicate] at hc
    rcases hc with q | q
    · exact hw c q
    · rw [q.2]; exact hz
  · intro c hc
    simp only [List.mem_append, List.mem_replicate] at hc
    rcases hc with q | q
    · exact hw1 c q
    · rw [q.2]; exact hz1
  · intro i hi
    have e : rix (max 4 items.length) 0 i = i := by unfold rix; rw [if_pos (by omega)]; omega
    rw [e, List.getElem?_append_left hi]
    simp
theorem flat_one {L : List (List Value)} (h : ∀ c ∈ L, ∀ u ∈ c, u.oneCell' = true) : ∀ u ∈ L.flatten, u.oneCell' = true := by
  intro u hu
  obtain ⟨c, hc, hu⟩ := List.mem_flatten.1 hu
  exact h c hc u hu
theorem flat_rep (z : List Value) (hz : z.length = sz) (n k : Nat) : ((List.replicate n z).flatten).drop (k * sz) = (List.replicate (n - k) z).flatten := by
  rw [flat_drop _ (fun c hc => by rw [(List.mem_replicate.1 hc).2]; exact hz), List.drop_replicate]
theorem RingOk.at (h : RingOk sz P f pl items) {i : Nat} (hi : i < items.length) : pl[rix P f i]? = some items[i] := h.hold i hi
end
/-- A ring: an object of three cells (places, first place, how many) of type RT, and its places, of type IT, of sz cells each. -/
def ring (RT IT : TypeId) (sz b : Nat) (items : List (List Value)) : Asn := exA fun p : Nat × Nat × Nat × Nat × List (List Value) =>
  lift (RingOk sz p.2.1 p.2.2.2.1 p.2.2.2.2 items) (sep (pts b (.cells #[.slice (some ⟨p.1, 0, none⟩) p.2.1 p.2.2.1, .int .i64 p.2.2.2.1, .int .i64 items.length] RT (0, 0)))
    (slc IT sz (.slice (some ⟨p.1, 0, none⟩) p.2.1 p.2.2.1) p.2.2.2.2.flatten))
section
variable {ε w : World} {R : List Asn} {RT IT : TypeId} {sz b : Nat} {items : List (List Value)}
theorem Own.ring_open (H : Own ε w (ring RT IT sz b items :: R)) : ∃ (g P cap f : Nat) (pl : List (List Value)), RingOk sz P f pl items ∧
    Own ε w (pts b (.cells #[.slice (some ⟨g, 0, none⟩) P cap, .int .i64 f, .int .i64 items.length] RT (0, 0)) :: slc IT sz (.slice (some ⟨g, 0, none⟩) P cap) pl.flatten :: R) := by
  obtain ⟨⟨g, P, cap, f, pl⟩, H⟩ := H.ex
  obtain ⟨h, H⟩ := H.lift
  exact ⟨g, P, cap, f, pl, h, H.split⟩
theorem Own.ring_mk {g P cap f : Nat} {pl : List (List Value)} (h : RingOk sz P f pl items)
    (H : Own ε w (pts b (.cells #[.slice (some ⟨g, 0, none⟩) P cap, .int .i64 f, .int .i64 items.length] RT (0, 0)) :: slc IT sz (.slice (some ⟨g, 0, none⟩) P cap) pl.flatten :: R)) : Own ε w (ring RT IT sz b items :: R) :=
  Own.ex_mk (g, P, cap, f, pl) (Own.lift_mk h H.join)
theorem Own.ring_mk' {g P cap f n : Nat} {pl : List (List Value)} (hn : items.length = n) (h : RingOk sz P f pl items)
    (H : Own ε w (pts b (.cells #[.slice (some ⟨g, 0, none⟩) P cap, .int .i64 f, .int .i64 n] RT (0, 0)) :: slc IT sz (.slice (some ⟨g, 0, none⟩) P cap) pl.flatten :: R)) : Own ε w (ring RT IT sz b items :: R) := by
  subst hn; exact Own.ring_mk h H
end
end Go.Proofs.Ytlhncdbigjgmnaa
