/- seqs: rising ranges that do not touch, in plain Lean: putting is in any order one. -/
import Derived.Test.YtlhncdbigjgmnaaSpec
namespace Go.Proofs.Ytlhncdbigjgmnaa
/-- Numbers from one to another one. -/
abbrev Rg := Int × Int
def hasR (l : List Rg) (n : Int) : Prop := ∃ r ∈ l, r.1 ≤ n ∧ n ≤ r.2
/-- Rising, none touches the next. -/
def apart (l : List Rg) : Prop := (∀ r ∈ l, r.1 ≤ r.2) ∧ l.Pairwise fun a b => a.2 + 1 < b.1
def putL (x : Rg) : List Rg → List Rg
  | [] => [x]
  | y :: l => if y.2 + 1 < x.1 then y :: putL x l else if x.2 + 1 < y.1 then x :: y :: l else putL (min x.1 y.1, max x.2 y.2) l
theorem hasR_nil (n : Int) : ¬ hasR [] n := by rintro ⟨r, hr, _⟩; exact absurd hr List.not_mem_nil
theorem hasR_cons (x : Rg) (l : List Rg) (n : Int) : hasR (x :: l) n ↔ (x.1 ≤ n ∧ n ≤ x.2) ∨ hasR l n := by
  constructor
  · rintro ⟨r, hr, h⟩
    rcases List.mem_cons.1 hr with rfl | hr
    · exact .inl h
    · exact .inr ⟨r, hr, h⟩
  · rintro (h | ⟨r, hr, h⟩)
    · exact ⟨x, List.mem_cons_self .., h⟩
    · exact ⟨r, List.mem_cons_of_mem _ hr, h⟩
theorem apart_nil : apart [] := ⟨by simp, List.Pairwise.nil⟩
theorem apart_cons {x : Rg} {l : List Rg} : apart (x :: l) ↔ x.1 ≤ x.2 ∧ (∀ r ∈ l, x.2 + 1 < r.1) ∧ apart l := by
  unfold apart
  rw [List.pairwise_cons]
  constructor
  · rintro ⟨h1, h2, h3⟩
    exact ⟨h1 x (List.mem_cons_self ..), h2, fun r hr => h1 r (List.mem_cons_of_mem _ hr), h3⟩
  · rintro ⟨h1, h2, h3, h4⟩
    refine ⟨fun r hr => ?_, h2, h4⟩
    rcases List.mem_cons.1 hr with rfl | hr
    · exact h1
    · exact h3 r hr
theorem hasR_putL (n : Int) : ∀ (l : List Rg) (x : Rg), x.1 ≤ x.2 → apart l → (hasR (putL x l) n ↔ (x.1 ≤ n ∧ n ≤ x.2) ∨ hasR l n)
  | [], x, _, _ => by unfold putL; rw [hasR_cons]
  | y :: l, x, hx, hl => by
    obtain ⟨h1, h2, h3⟩ := apart_cons.1 hl
    unfold putL
    split
    · rw [hasR_cons, hasR_cons, hasR_putL n l x hx h3]
      constructor
      · rintro (h | h | h)
        · exact .inr (.inl h)
        · exact .inl h
        · exact .inr (.inr h)
      · rintro (h | h | h)
        · exact .inr (.inl h)
        · exact .inl h
        · exact .inr (.inr h)
    · split
      · rw [hasR_cons]
      · rw [hasR_putL n l _ (show min x.1 y.1 ≤ max x.2 y.2 by omega) h3, hasR_cons]
        show (min x.1 y.1 ≤ n ∧ n ≤ max x.2 y.2) ∨ _ ↔ _
        constructor
        · rintro (h | h)
          · rcases Int.le_total x.1 n with q | q
            · rcases Int.le_total n x.2 with q' | q'
              · exact .inl ⟨q, q'⟩
              · by_cases q3 : n = x.2
                · exact .inl ⟨q, by omega⟩
                · exact .inr (.inl ⟨by omega, by omega⟩)
            · by_cases q3 : n = x.1
              · exact .inl ⟨by omega, by omega⟩
              · exact .inr (.inl ⟨by omega, by omega⟩)
          · exact .inr (.inr h)
        · rintro (h | h | h)
          · exact .inl ⟨by omega, by omega⟩
          · exact .inl ⟨by omega, by omega⟩
          · exact .inr h
theorem putL_above : ∀ (l : List Rg) (x : Rg) (b : Int), b < x.1 → (∀ r ∈ l, b < r.1) → ∀ r ∈ putL x l, b < r.1
  | [], x, b, hx, _, r, hr => by
    unfold putL at hr
    rw [List.mem_singleton.1 hr]; exact hx
  | y :: l, x, b, hx, hl, r, hr => by
    have hy := hl y (List.mem_cons_self ..)
    have hl' : ∀ r ∈ l, b < r.1 := fun r hr => hl r (List.mem_cons_of_mem _ hr)
    unfold putL at hr
    split at hr
    · rcases List.mem_cons.1 hr with rfl | hr
      · exact hy
      · exact putL_above l x b hx hl' r hr
    · split at hr
      · rcases List.mem_cons.1 hr with rfl | hr
        · exact hx
        · exact hl r hr
      · exact putL_above l _ b (show b < min x.1 y.1 by omega) hl' r hr
theorem apart_putL : ∀ (l : List Rg) (x : Rg), x.1 ≤ x.2 → apart l → apart (putL x l)
  | [], x, hx, _ => apart_cons.2 ⟨hx, by simp, apart_nil⟩
  | y :: l, x, hx, hl => by
    obtain ⟨h1, h2, h3⟩ := apart_cons.1 hl
    unfold putL
    split
    · exact apart_cons.2 ⟨h1, putL_above l x _ (by assumption) h2, apart_putL l x hx h3⟩
    · split
      · rename_i hxy
        refine apart_cons.2 ⟨hx, fun r hr => ?_, hl⟩
        rcases List.mem_cons.1 hr with rfl | hr
        · exact hxy
        · have := h2 r hr; omega
      · exact apart_putL l _ (show min x.1 y.1 ≤ max x.2 y.2 by omega) h3
theorem hasR_above {l : List Rg} {b n : Int} (h : ∀ r ∈ l, b < r.1) (hn : hasR l n) : b < n := by
  obtain ⟨r, hr, h1, _⟩ := hn
  have := h r hr
  omega
/-- Rising ranges that do not touch are told by their numbers. -/
theorem apart_ext : ∀ (l m : List Rg), apart l → apart m → (∀ n, hasR l n ↔ hasR m n) → l = m
  | [], [], _, _, _ => rfl
  | [], y :: m, _, hm, h => by
    have h1 := (apart_cons.1 hm).1
    exact absurd ((h y.1).2 ((hasR_cons y m _).2 (.inl ⟨Int.le_refl _, h1⟩))) (hasR_nil _)
  | x :: l, [], hl, _, h => by
    have h1 := (apart_cons.1 hl).1
    exact absurd ((h x.1).1 ((hasR_cons x l _).2 (.inl ⟨Int.le_refl _, h1⟩))) (hasR_nil _)
  | x :: l, y :: m, hl, hm, h => by
    obtain ⟨a1, a2, a3⟩ := apart_cons.1 hl
    obtain ⟨b1, b2, b3⟩ := apart_cons.1 hm
    have e1 : x.1 = y.1 := by
      have q1 := (h x.1).1 ((hasR_cons x l _).2 (.inl ⟨Int.le_refl _, a1⟩))
      have q2 := (h y.1).2 ((hasR_cons y m _).2 (.inl ⟨Int.le_refl _, b1⟩))
      rcases (hasR_cons y m _).1 q1 with q1 | q1
      · rcases (hasR_cons x l _).1 q2 with q2 | q2
        · omega
        · have := hasR_above a2 q2; omega
      · have := hasR_above b2 q1
        rcases (hasR_cons x l _).1 q2 with q2 | q2
        · omega
        · have := hasR_above a2 q2; omega
    have e2 : x.2 = y.2 := by
      rcases Int.lt_trichotomy x.2 y.2 with q | q | q
      · have q1 := (h (x.2 + 1)).2 ((hasR_cons y m _).2 (.inl ⟨by omega, by omega⟩))
        rcases (hasR_cons x l _).1 q1 with q1 | q1
        · omega
        · have := hasR_above a2 q1; omega
      · exact q
      · have q1 := (h (y.2 + 1)).1 ((hasR_cons x l _).2 (.inl ⟨by omega, by omega⟩))
        rcases (hasR_cons y m _).1 q1 with q1 | q1
        · omega
        · have := hasR_above b2 q1; omega
    have e : x = y := Prod.ext e1 e2
    subst e
    rw [apart_ext l m a3 b3 (fun n => ?_)]
    constructor
    · intro hn
      have h1 := hasR_above a2 hn
      rcases (hasR_cons x m _).1 ((h n).1 ((hasR_cons x l _).2 (.inr hn))) with q | q
      · omega
      · exact q
    · intro hn
      have h1 := hasR_above b2 hn
      rcases (hasR_cons x l _).1 ((h n).2 ((hasR_cons x m _).2 (.inr hn))) with q | q
      · omega
      · exact q
/-- Puts, one behind the other. -/
def putsL (l : List Rg) (xs : List Rg) : List Rg := xs.foldl (fun l x => putL x l) l
theorem putsL_apart : ∀ (xs : List Rg) (l : List Rg), apart l → (∀ x ∈ xs, x.1 ≤ x.2) → apart (putsL l xs)
  | [], _, hl, _ => hl
  | x :: xs, l, hl, hx => putsL_apart xs (putL x l) (apart_putL l x (hx x (List.mem_cons_self ..)) hl) (fun y hy => hx y (List.mem_cons_of_mem _ hy))
theorem putsL_has (n : Int) : ∀ (xs : List Rg) (l : List Rg), apart l → (∀ x ∈ xs, x.1 ≤ x.2) → (hasR (putsL l xs) n ↔ hasR xs n ∨ hasR l n)
  | [], l, _, _ => ⟨.inr, fun h => h.resolve_left (hasR_nil n)⟩
  | x :: xs, l, hl, hx => by
    have h0 := hx x (List.mem_cons_self ..)
    show hasR (putsL (putL x l) xs) n ↔ _
    rw [putsL_has n xs (putL x l) (apart_putL l x h0 hl) (fun y hy => hx y (List.mem_cons_of_mem _ hy)), hasR_putL n l x h0 hl, hasR_cons]
    constructor
    · rintro (h | h | h)
      · exact .inl (.inr h)
      · exact .inl (.inl h)
      · exact .inr h
    · rintro ((h | h) | h)
      · exact .inr (.inl h)
      · exact .inl h
      · exact .inr (.inr h)
/-- In any order: lists of the same ranges put into none give one set. -/
theorem putsL_same {xs ys : List Rg} (h1 : ∀ x ∈ xs, x.1 ≤ x.2) (h : ∀ x, x ∈ xs ↔ x ∈ ys) : putsL [] xs = putsL [] ys := by
  have h2 : ∀ x ∈ ys, x.1 ≤ x.2 := fun x hx => h1 x ((h x).2 hx)
  refine apart_ext _ _ (putsL_apart xs [] apart_nil h1) (putsL_apart ys [] apart_nil h2) (fun n => ?_)
  rw [putsL_has n xs [] apart_nil h1, putsL_has n ys [] apart_nil h2]
  constructor
  · rintro (⟨r, hr, q⟩ | q)
    · exact .inl ⟨r, (h r).1 hr, q⟩
    · exact .inr q
  · rintro (⟨r, hr, q⟩ | q)
    · exact .inl ⟨r, (h r).2 hr, q⟩
    · exact .inr q
end Go.Proofs.Ytlhncdbigjgmnaa
