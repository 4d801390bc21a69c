/- Several cells of an owned block, stored at once. -/
import Derived.Test.YtlhncdbigjgmnaaEv
import Derived.Test.YtlhncdbigjgmnaaSet
import Derived.Laws.ResultCell
import Derived.Laws.CopyRow
import Derived.Laws.Rows
namespace Go.Proofs.Ytlhncdbigjgmnaa
open Go.RowKit
section
variable {P : Program} {ops : Array Oper} {Q : Exit → Act → World → Prop} {d : Option Tmp} {ty : TypeId} {pos : String} {aft : Array Edge} {rest : List Oper} {a : Act} {ε w : World} {R : List Asn} {b k : Nat} {T t : TypeId}
theorem wpList_storek_own {x y : Operand} {cur : Array Value} (vs : Array Value) (hx : a.eval x = .pointer (some ⟨b, k, none⟩)) (hy : a.eval y = .agg vs) (H : Own ε w (pts b (.cells cur T (0, 0)) :: R)) (hi : (P.info? t).map (·.size) = some vs.size) (hk : k + vs.size ≤ cur.size)
    (h1 : ∀ v ∈ vs.toList, v.oneCell' = true) (h : ∀ w', Own ε w' (pts b (.cells (cur.toList.take k ++ vs.toList ++ cur.toList.drop (k + vs.size)).toArray T (0, 0)) :: R) → wpList P ops Q rest (a.put d undef) w') : wpList P ops Q (⟨d, .store t x y, ty, pos, aft, none⟩ :: rest) a w := by
  refine wpList_plain rfl fun K' hK' => ?_
  have hg := H.blk
  have hst := run_storeCells_at P b k T vs.toList 0 cur w hg (by simp; omega) h1
  rw [Nat.add_zero, Array.length_toList] at hst
  obtain ⟨row, hr⟩ : ∃ row, (cur.toList.take k ++ vs.toList ++ cur.toList.drop (k + vs.size)).toArray = row := ⟨_, rfl⟩
  rw [hr] at hst h
  have H2 : Own ε (w.setRow b row) (pts b (.cells row T (0, 0)) :: R) := H.put rfl rfl rfl (setRow_heap w b cur _ T _ hg) (fun j _ hj => setRow_other w b j _ hj)
  cases hq : P.info? t with
  | none => simp [hq] at hi
  | some i =>
    have hsz : i.size = vs.size := by simpa [hq] using hi
    unfold Oper.wp execOp
    simp only [hx, hy]
    simp [Instr.storeAt, Instr.sureAddr, storeVar, sizeOf, typeInfo, hq, hsz, Value.cells, hst, Result.andThen]
    exact hK' _ _ (h _ H2)
theorem wp_storek_own {o : Oper} {x y : Operand} {cur : Array Value} {K : Act → World → Prop} (vs : Array Value) (ho : o.op = .store t x y) (hx : a.eval x = .pointer (some ⟨b, k, none⟩)) (hy : a.eval y = .agg vs) (H : Own ε w (pts b (.cells cur T (0, 0)) :: R)) (hi : (P.info? t).map (·.size) = some vs.size) (hk : k + vs.size ≤ cur.size)
    (h1 : ∀ v ∈ vs.toList, v.oneCell' = true) (h : ∀ w', Own ε w' (pts b (.cells (cur.toList.take k ++ vs.toList ++ cur.toList.drop (k + vs.size)).toArray T (0, 0)) :: R) → K (a.put o.dst undef) w') : o.wp P a w K Q := by
  have hg := H.blk
  have hst := run_storeCells_at P b k T vs.toList 0 cur w hg (by simp; omega) h1
  rw [Nat.add_zero, Array.length_toList] at hst
  obtain ⟨row, hr⟩ : ∃ row, (cur.toList.take k ++ vs.toList ++ cur.toList.drop (k + vs.size)).toArray = row := ⟨_, rfl⟩
  rw [hr] at hst h
  have H2 : Own ε (w.setRow b row) (pts b (.cells row T (0, 0)) :: R) := H.put rfl rfl rfl (setRow_heap w b cur _ T _ hg) (fun j _ hj => setRow_other w b j _ hj)
  cases hq : P.info? t with
  | none => simp [hq] at hi
  | some i =>
    have hsz : i.size = vs.size := by simpa [hq] using hi
    unfold Oper.wp execOp
    simp only [ho, hx, hy]
    simp [Instr.storeAt, Instr.sureAddr, storeVar, sizeOf, typeInfo, hq, hsz, Value.cells, hst, Result.andThen]
    exact h _ H2
end
end Go.Proofs.Ytlhncdbigjgmnaa
