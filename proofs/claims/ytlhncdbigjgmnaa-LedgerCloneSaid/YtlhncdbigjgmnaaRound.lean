/- In a round of a range over a function: an operation that is no defer goes as in the plain walk. -/
import Derived.Test.YtlhncdbigjgmnaaRange
import Derived.Test.YtlhncdbigjgmnaaEv
namespace Go.Proofs.Ytlhncdbigjgmnaa
open Go.RowKit
section
variable {P : Program} {l n : Nat} {Q : Exit → Act → World → Prop} {a : Act} {w : World}
theorem wpIn_of_wp {o : Oper} {K : Act → World → Prop} (hd : ∀ c, o.op ≠ .defer c) (h : o.wp P a w K Q) : o.wpIn (Fence.wide.inRound l) n P a w K Q := by
  refine ⟨fun _ _ => trivial, ?_⟩
  rw [show o.semAt (Fence.wide.inRound l).round a.eval = execOp a.eval o from Oper.semAt_some l _ _ hd]
  unfold Oper.wp at h
  revert h
  generalize (execOp a.eval o).run P w = r
  intro h
  cases r with
  | ok v w' =>
    cases v with
    | enter f args => exact ⟨fun h => by simp [Fence.wide, Fence.inRound] at h, (callsIn_wide.2 h).inRound l⟩
    | row r args =>
      refine ⟨fun h => by simp [Fence.wide, Fence.inRound] at h, fun c cs _ => ?_⟩
      obtain ⟨v, w', hr, hs⟩ := h c cs
      exact ⟨v, w', hr, stepsIn_wide.2 hs⟩
    | value v => exact h
    | skip => exact h
    | defer d => exact h
    | round => exact h.elim
    | _ => exact h.elim
  | halt x w' =>
    cases x with
    | panic v => exact h
    | _ => exact h.elim
/-- Behind one operation. -/
def oneQ (P : Program) (l n : Nat) (ops : Array Oper) (Q : Exit → Act → World → Prop) (rest : List Oper) : Exit → Act → World → Prop
  | .normal, a, w => wpListIn (Fence.wide.inRound l) n P ops Q rest a w
  | _, _, _ => False
theorem in_of_list {ops : Array Oper} {o : Oper} {rest : List Oper} (hg : o.guard = none) (hd : ∀ c, o.op ≠ .defer c) (h : wpList P ops (oneQ P l n ops Q rest) [o] a w) : wpListIn (Fence.wide.inRound l) n P ops Q (o :: rest) a w := by
  have h2 : o.wp P a w (wpListIn (Fence.wide.inRound l) n P ops Q rest) (oneQ P l n ops Q rest) := by
    have hw : Region.wanted o (yielded ops a.tmps) = true := by simp [Region.wanted, hg]
    unfold wpList at h
    rw [if_pos hw] at h
    rcases h with h | ⟨_, a', w', h⟩
    · exact h
    · exact h.elim
  refine wpListIn_plain hg fun K hK => ?_
  have h3 := wpIn_of_wp (l := l) (n := n) hd h2
  refine ⟨h3.1, ?_⟩
  have h4 := h3.2
  revert h4
  generalize Sem.run P (o.semAt (Fence.wide.inRound l).round a.eval) w = r
  intro h4
  cases r with
  | ok v w' =>
    cases v with
    | enter f args =>
      refine ⟨h4.1, h4.2.mono ?_⟩
      intro e w2 hq
      cases e with
      | returned v => exact hK _ _ hq
      | panicked c => exact hq.elim
      | outgrown => obtain ⟨_, _, hq⟩ := hq; exact hq.elim
    | row r args => exact ⟨h4.1, h4.2.mono fun v w2 hq => hK _ _ hq⟩
    | value v => exact hK _ _ h4
    | skip => exact hK _ _ h4
    | defer d => exact hK _ _ h4
    | round l2 f tmps assign body =>
      refine ⟨h4.1, h4.2.mono ?_⟩
      intro e w2 hq
      cases e with
      | returned v => exact hK _ _ hq
      | panicked c => exact hq.elim
      | outgrown => obtain ⟨_, _, hq⟩ := hq; exact hq.elim
    | _ => exact h4.elim
  | halt x w' =>
    cases x with
    | panic v => exact h4.elim
    | _ => exact h4.elim
theorem in_back {ops ops' : Array Oper} {rest : List Oper} (h : wpListIn (Fence.wide.inRound l) n P ops Q rest a w) : wpList P ops' (oneQ P l n ops Q rest) [] a w := h
end
section
variable {F : Fence} {n : Nat} {P : Program} {ops : Array Oper} {Q : Exit → Act → World → Prop} {d : Option Tmp} {ty : TypeId} {pos : String} {aft : Array Edge} {g : Option (Tmp × Bool)} {rest : List Oper} {a : Act} {w : World}
theorem stopI_bs {t : TypeId} {m : Nat} {ps : Array (Nat × Operand)} (h : Stop (wpListIn F n P ops Q (⟨d, .buildSlice t m ps, ty, pos, aft, g⟩ :: rest) a w)) : wpListIn F n P ops Q (⟨d, .buildSlice t m ps, ty, pos, aft, g⟩ :: rest) a w := h
theorem stopI_app {xs : Array Operand} {ts : Array TypeId} (h : Stop (wpListIn F n P ops Q (⟨d, .call { callee := .builtin .append, args := xs, argTypes := ts }, ty, pos, aft, g⟩ :: rest) a w)) : wpListIn F n P ops Q (⟨d, .call { callee := .builtin .append, args := xs, argTypes := ts }, ty, pos, aft, g⟩ :: rest) a w := h
theorem stopI_st {t : TypeId} {x y : Operand} (h : Stop (wpListIn F n P ops Q (⟨d, .store t x y, ty, pos, aft, g⟩ :: rest) a w)) : wpListIn F n P ops Q (⟨d, .store t x y, ty, pos, aft, g⟩ :: rest) a w := h
theorem stopI_bx {e : TypeId} {x : Operand} (h : Stop (wpListIn F n P ops Q (⟨d, .box e x, ty, pos, aft, g⟩ :: rest) a w)) : wpListIn F n P ops Q (⟨d, .box e x, ty, pos, aft, g⟩ :: rest) a w := h
theorem stopI_al {e : TypeId} (h : Stop (wpListIn F n P ops Q (⟨d, .alloc e, ty, pos, aft, g⟩ :: rest) a w)) : wpListIn F n P ops Q (⟨d, .alloc e, ty, pos, aft, g⟩ :: rest) a w := h
theorem stop_rg (k : Nat) {dr : Bool} (h : Stop (Code.wp P (.region k ops dr) Q a w)) : Code.wp P (.region k ops dr) Q a w := h
theorem stop_rs (k : Nat) {dr : Bool} {c : Code} (h : Stop (Code.wp P (.seq (.region k ops dr) c) Q a w)) : Code.wp P (.seq (.region k ops dr) c) Q a w := h
theorem stop_rf {g : Operand} {ps : Array Tmp} {as' bd : Code} (h : Stop (Code.wp P (.rangeFunc g ps as' bd) Q a w)) : Code.wp P (.rangeFunc g ps as' bd) Q a w := h
end
theorem calls_of_wp_marks {P : Program} {f : FuncId} {fn : Func} {c : Code} {args : Array Value} {w : World} {R : Ending → World → Prop} (n : Nat) (hf : P.funcs[f]? = some fn) (hb : fn.body = some c)
    (h : c.wp P (bodyPostM Fence.wide n P fn R) { tmps := args ++ Array.replicate (fn.ntmps - args.size) undef, defers := [] } w) : Calls P f args w R :=
  (callsIn_wide (n := n)).1 (callsIn_of_wp_marks hf hb trivial (wpIn_wide.2 h))
end Go.Proofs.Ytlhncdbigjgmnaa
