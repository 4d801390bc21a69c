/- Cells written one behind another. -/
import Derived.Test.YtlhncdbigjgmnaaKp
import Derived.Test.YtlhncdbigjgmnaaSlc
import Derived.Laws.ResultCell
import Derived.Laws.CopyRow
import Derived.Laws.Rows
namespace Go.Proofs.Ytlhncdbigjgmnaa
open Go.RowKit
/-- A store of a cell that is not known but for being one. -/
@[go_sem] theorem run_store_one {P : Program} {w : World} {a : Addr} {v : Value} {m : Mode} (hv : v.oneCell' = true) : (store a v m).run P w = stored P w a v m := run_store P w a v m hv
/-- Cells written one behind another. -/
def setsL : List Value → Nat → List Value → List Value
  | L, _, [] => L
  | L, o, v :: vs => setsL (L.set o v) (o + 1) vs
def setsW : World → Nat → Nat → List Value → World
  | w, _, _, [] => w
  | w, g, o, v :: vs => setsW (w.setCell ⟨g, o, none⟩ v) g (o + 1) vs
theorem setsL_eq (L : List Value) (o : Nat) (vs : List Value) (h : o + vs.length ≤ L.length) : setsL L o vs = L.take o ++ vs ++ L.drop (o + vs.length) := by
  induction vs generalizing L o with
  | nil => simp [setsL]
  | cons v vs ih =>
    have h' : o + (vs.length + 1) ≤ L.length := h
    have e1 : (L.set o v).take (o + 1) = L.take o ++ [v] := by
      rw [List.take_succ_eq_append_getElem (by simp; omega), List.take_set_of_le (Nat.le_refl o)]
      simp
    have e2 : (L.set o v).drop (o + 1 + vs.length) = L.drop (o + (vs.length + 1)) := by
      rw [List.drop_set_of_lt (by omega)]
      congr 1; omega
    rw [setsL, ih _ _ (by simp; omega), e1, e2]
    simp
section
variable {ε w : World} {R : List Asn} {T : TypeId} {g : Nat}
theorem Own.slc_setsB {cs : Array Value} {f : Nat × Nat} (H : Own ε w (pts g (.cells cs T f) :: R)) (vs : List Value) (_h : vs.length = cs.size := by rfl) :
    Own ε (setsW w g 0 vs) (pts g (.cells vs.toArray T f) :: R) := by
  have key : ∀ (vs : List Value) (w : World) (cs : Array Value) (o : Nat), Own ε w (pts g (.cells cs T f) :: R) → Own ε (setsW w g o vs) (pts g (.cells (setsL cs.toList o vs).toArray T f) :: R) := by
    intro vs
    induction vs with
    | nil => intro w cs o H; simpa [setsW, setsL] using H
    | cons v vs ih =>
      intro w cs o H
      have := ih _ _ (o + 1) (H.set o v)
      rw [Array.toList_setIfInBounds] at this
      exact this
  have h1 := key vs w cs 0 H
  rwa [setsL_eq _ _ _ (by simp; omega), List.take_zero, List.nil_append, List.drop_of_length_le (by simp; omega), List.append_nil] at h1
end
section
variable {P : Program} {ops : Array Oper} {Q : Exit → Act → World → Prop} {d : Option Tmp} {ty : TypeId} {pos : String} {aft : Array Edge} {rest : List Oper} {a : Act} {ε w : World} {R : List Asn} {b : Nat} {T t : TypeId}
/-- A store of all cells of an owned block, at the operation. -/
theorem wpList_store_own {x y : Operand} (cur vs : Array Value) (hx : a.eval x = .pointer (some ⟨b, 0, none⟩)) (hy : a.eval y = .agg vs) (H : Own ε w (pts b (.cells cur T (0, 0)) :: R)) (hi : (P.info? t).map (·.size) = some vs.size) (hs : cur.size = vs.size)
    (h1 : ∀ v ∈ vs.toList, v.oneCell' = true) (h : ∀ w', Own ε w' (pts b (.cells vs T (0, 0)) :: R) → wpList P ops Q rest (a.put d undef) w') : wpList P ops Q (⟨d, .store t x y, ty, pos, aft, none⟩ :: rest) a w := by
  refine wpList_plain rfl fun K' hK' => ?_
  have hg := H.blk
  have hst := run_storeCells_at P b 0 T vs.toList 0 cur w hg (by simp [hs]) h1
  have hrow : (cur.toList.take (0 + 0) ++ vs.toList ++ cur.toList.drop (0 + 0 + vs.toList.length)).toArray = vs := by
    rw [List.drop_of_length_le (by simp [hs])]; simp
  rw [hrow] at hst
  have H2 : Own ε (w.setRow b vs) (pts b (.cells vs T (0, 0)) :: R) := H.put rfl rfl rfl (setRow_heap w b cur _ T _ hg) (fun k _ hk => setRow_other w b k _ hk)
  cases hq : P.info? t with
  | none => simp [hq] at hi
  | some i =>
    have hsz : i.size = vs.size := by simpa [hq] using hi
    unfold Oper.wp execOp
    simp only [hx, hy]
    simp [Instr.storeAt, Instr.sureAddr, storeVar, sizeOf, typeInfo, hq, hsz, Value.cells, hst, Result.andThen]
    exact hK' _ _ (h _ H2)
end
end Go.Proofs.Ytlhncdbigjgmnaa
