/- Regions that draw, in a round of a range over a function. -/
import Derived.Test.YtlhncdbigjgmnaaRound
import Derived.Test.YtlhncdbigjgmnaaReg2
import Derived.OrdersIn
namespace Go.Proofs.Ytlhncdbigjgmnaa
open Go.RowKit
section
variable {P : Program} {l n : Nat} {md : Region.Mode} {ops : Array Oper} {Q : Exit → Act → World → Prop}
theorem wpOpIn_of_op (hd : ∀ (i : Nat) (o : Oper), ops[i]? = some o → ∀ c, o.op ≠ .defer c) (hq : ¬ LetsOut Q) {i : Nat} {K : Act → World → Prop} {a : Act} {w : World} (h : wpOp P ops Q i K a w) : wpOpIn (Fence.wide.inRound l) n P ops Q i K a w := by
  unfold wpOp at h
  unfold wpOpIn
  cases ho : ops[i]? with
  | none => simp only [ho] at h ⊢; exact h
  | some o =>
    simp only [ho] at h ⊢
    split
    · rename_i hw
      rw [if_pos hw] at h
      rcases h with h | ⟨_, h⟩
      · exact wpIn_of_wp (hd i o ho) h
      · exact absurd h hq
    · rename_i hw
      rw [if_neg hw] at h
      exact ⟨fun _ _ => trivial, h⟩
theorem wpAnyIn_of_any (hd : ∀ (i : Nat) (o : Oper), ops[i]? = some o → ∀ c, o.op ≠ .defer c) (hq : ¬ LetsOut Q) : ∀ (fuel : Nat) (listed : Array Bool) (a : Act) (w : World), wpAny P md ops Q fuel listed a w → wpAnyIn (Fence.wide.inRound l) n P md ops Q fuel listed a w
  | 0, _, _, _, h => h
  | fuel + 1, _, _, _, h => ⟨h.1, fun i hi => wpOpIn_mono (fun a w => wpAnyIn_of_any hd hq fuel _ a w) (wpOpIn_of_op hd hq (h.2 i hi))⟩
/-- No operation defers. -/
def noDefer (ops : Array Oper) : Bool := ops.toList.all fun (o : Oper) => match o.op with
  | .defer _ => false
  | _ => true
theorem noDefer_spec (h : noDefer ops = true) : ∀ (i : Nat) (o : Oper), ops[i]? = some o → ∀ c, o.op ≠ .defer c := by
  intro i o ho c e
  have hm : o ∈ ops.toList := by
    have := Array.mem_of_getElem? ho
    exact Array.mem_toList_iff.2 this
  have := List.all_eq_true.1 h o hm
  rw [e] at this
  simp at this
theorem wpIn_region_reg {ε : World} {L : List Asn} (last : Option Nat) {w : World} (H : Own ε w L) {id : Nat} {a : Act} (hm : P.follows .mixedOrders = true) (hd : noDefer ops = true) (hq : ¬ LetsOut Q)
    (h : ∀ wm, Own ε wm L → wpMixK P .any ops Q (fun w' => Own ε w' L) last ops.size (Array.replicate ops.size false) a wm) : (Code.region id ops true).wpIn (Fence.wide.inRound l) n P Q a w :=
  wpIn_region_any hm (wpAnyIn_of_any (noDefer_spec hd) hq _ _ _ _ (wpAny_of_mixK _ _ _ _ (h _ H.drew)))
end
end Go.Proofs.Ytlhncdbigjgmnaa
