/- A range over a function, where the iterator, and the body, own what they read and write. -/
import Derived.RangeFuncNested
import Derived.RangeFuncBound
import Derived.RangeFuncCalls
import Derived.RangeFuncLeaves
import Derived.Test.YtlhncdbigjgmnaaKp
import Derived.Test.YtlhncdbigjgmnaaSet
namespace Go.Proofs.Ytlhncdbigjgmnaa
open Go.RowKit
/-- The record of a loop. -/
def lrec (fn : FuncId) (tmps : Array Value) (ps : Array Tmp) (assign body : Code) (D : Nat) (st : LoopState) (pe : Option Code) : Loop := { state := st, pending := pe, fn, tmps, params := ps, assign, body, defers := D }
theorem Own.putObj {ε w : World} {R : List Asn} {b : Nat} {o : Obj} (o' : Obj) (H : Own ε w (pts b o :: R)) : Own ε (w.putObj b o') (pts b o' :: R) :=
  H.put rfl rfl rfl (World.putObj_heap_same (Array.getElem?_eq_some_iff.1 H.blk).1) (fun _ _ hk => World.putObj_heap_other hk)
/-- How a round's body may be left. -/
def roundOut (ε : World) (l : Nat) (rec : LoopState → Option Code → Loop) (Rp : Ending → World → Prop) : Exit → World → Prop
  | .normal, W => ∃ B, Own ε W (pts l (.loop (rec .busy none)) :: B) ∧ ∀ W2, Own ε W2 (pts l (.loop (rec .ready none)) :: B) → Rp (.returned (.bool true)) W2
  | .ret, W => ∃ B, Own ε W (pts l (.loop (rec .busy none)) :: B) ∧ ∀ W2, Own ε W2 (pts l (.loop (rec .done (some .ret))) :: B) → Rp (.returned (.bool false)) W2
  | .exit id, W => ∃ B, Own ε W (pts l (.loop (rec .busy none)) :: B) ∧ ∀ W2, Own ε W2 (pts l (.loop (rec .done (some (.exit id)))) :: B) → Rp (.returned (.bool false)) W2
  | _, _ => False
section
variable {P : Program} {ε : World} {m l D fn : Nat} {tmps : Array Value} {ps : Array Tmp} {assign body : Code}
/-- A call of yield. -/
theorem yieldAt_own {W : World} {args : Array Value} (hs : args.size = ps.size) {A : List Asn} {Rp : Ending → World → Prop} (H : Own ε W (pts l (.loop (lrec fn tmps ps assign body D .ready none)) :: A))
    (hwalk : assign.wpIn (Fence.wide.inRound l) m P (Exit.then (fun a' W' => ∃ A', Own ε W' (pts l (.loop (lrec fn tmps ps assign body D .ready none)) :: A') ∧
        ∀ W2, Own ε W2 (pts l (.loop (lrec fn tmps ps assign body D .busy none)) :: A') → body.wpIn (Fence.wide.inRound l) m P (fun e _ W3 => roundOut ε l (lrec fn tmps ps assign body D) Rp e W3) a' W2) (fun _ _ _ => False))
      { tmps := (ps.zip args).foldl (fun t (p, v) => t.setIfInBounds p v) tmps, defers := [] } W) :
    YieldAt Fence.wide m P l args W Rp := by
  refine ⟨fn, _, assign, body, run_yield H.blk hs, roundIn_of_wpIn trivial (wpIn_mono hwalk ?_)⟩
  rintro e a' W' hq
  cases e with
  | normal =>
    obtain ⟨A', H', hb⟩ := hq
    refine ⟨_, run_beginRound H'.blk rfl, ?_⟩
    refine wpIn_mono (hb _ (H'.putObj _)) ?_
    rintro e a3 W3 hr
    cases e with
    | normal =>
      obtain ⟨B, HB, hR⟩ := hr
      exact ⟨_, _, run_endRound none HB.blk, hR _ (HB.putObj _)⟩
    | ret =>
      obtain ⟨B, HB, hR⟩ := hr
      exact ⟨_, _, run_endRound (some .ret) HB.blk, hR _ (HB.putObj _)⟩
    | exit id =>
      obtain ⟨B, HB, hR⟩ := hr
      exact ⟨_, _, run_endRound (some (.exit id)) HB.blk, hR _ (HB.putObj _)⟩
    | goto t => exact hr.elim
    | panic c => exact hr.elim
    | outgrown => exact hr.elim
  | _ => exact hq.elim
/-- The statement. -/
theorem wpIn_rangeFunc_sep {n : Nat} {g : Operand} {Q : Exit → Act → World → Prop} {a : Act} {w : World} {gf : Nat} {lb : Array Value} (hg : a.eval g = .func (.func gf) #[] lb) (eg : ∀ args w, (callFunc gf args).run P w = .ok (.enter gf args) w)
    {A : List Asn} (H : Own ε w A)
    (hit : ∀ fn l D W, Own ε W (pts l (.loop (lrec fn a.tmps ps assign body D .ready none)) :: pts D (.deferred (some [])) :: A) →
      CallsIn Fence.wide (n - 1) P gf (#[.func (.yield l) #[] #[]] ++ lb) W fun e W2 => (∃ v, e = .returned v) ∧
        ((∃ B, Own ε W2 (pts l (.loop (lrec fn a.tmps ps assign body D .ready none)) :: pts D (.deferred (some [])) :: B) ∧ ∀ W3, Own ε W3 (pts D (.deferred (some [])) :: B) → Q .normal { a with defers := { target := .collected D, args := #[] } :: a.defers } W3) ∨
         (∃ c B, Own ε W2 (pts l (.loop (lrec fn a.tmps ps assign body D .done (some c))) :: pts D (.deferred (some [])) :: B) ∧ ∀ W3, Own ε W3 (pts D (.deferred (some [])) :: B) → c.wpIn Fence.wide n P Q { a with defers := { target := .collected D, args := #[] } :: a.defers } W3))) :
    (Code.rangeFunc g ps assign body).wpIn Fence.wide n P Q a w := by
  refine wpIn_rangeFunc ?_
  intro fn hfn
  have H1 := (H.alloc (.deferred (some []))).alloc (.loop (lrec fn a.tmps ps assign body w.heap.size .ready none))
  rw [World.size_alloc] at H1
  have he := run_enterLoop_outer (P := P) (w := w) fn a.tmps ps assign body
  obtain ⟨W1, hW1⟩ : ∃ W1, (w.alloc (.deferred (some []))).alloc (.loop (lrec fn a.tmps ps assign body w.heap.size .ready none)) = W1 := ⟨_, rfl⟩
  rw [hW1] at H1
  replace he : (Instr.enterLoop fn a.tmps ps assign body none).run P w = .ok (w.heap.size + 1, [{ target := .collected w.heap.size, args := #[] }]) W1 := by rw [← hW1]; exact he
  clear hW1
  refine ⟨w.heap.size + 1, [{ target := .collected w.heap.size, args := #[] }], W1, { target := .fn (.func gf) lb, args := #[.func (.yield (w.heap.size + 1)) #[] #[]] }, W1, gf,
    #[.func (.yield (w.heap.size + 1)) #[] #[]] ++ lb, W1, he, ?_, fun _ _ => trivial, ?_, fun h => by simp [Fence.wide] at h, ?_⟩
  · simp only [resolve, hg]
    simp [go_sem]
  · simp [invoke, go_sem, eg]
  · refine (hit fn _ _ _ H1).mono ?_
    rintro e W2 ⟨⟨v, rfl⟩, (⟨B, HB, hd⟩ | ⟨c, B, HB, hd⟩)⟩
    · exact ⟨none, _, run_endLoop HB.blk (by simp [lrec]), hd _ (HB.putObj _).tail⟩
    · exact ⟨some c, _, run_endLoop HB.blk (by simp [lrec]), hd _ (HB.putObj _).tail⟩
end
end Go.Proofs.Ytlhncdbigjgmnaa
