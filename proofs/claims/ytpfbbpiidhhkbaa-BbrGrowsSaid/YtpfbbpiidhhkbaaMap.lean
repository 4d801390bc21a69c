/- Maps that a call makes: as a list of keys and values, in the order in which they came. -/
import Derived.Test.YtpfbbpiidhhkbaaKp
import Derived.Test.YtpfbbpiidhhkbaaSlc
import Derived.MapKept
import Derived.WideMake
import Derived.Maps.OwnOps
namespace Go.Proofs.Ytpfbbpiidhhkbaa
open Go.RowKit
def entsAt : Nat → List (Value × Value) → List MapEntry
  | _, [] => []
  | i, (k, v) :: l => { key := k, val := v, born := i } :: entsAt (i + 1) l
def mpObj (l : List (Value × Value)) : Obj := .map (entsAt 0 l).toArray l.length
theorem entsAt_snoc (l : List (Value × Value)) (k v : Value) : ∀ i, entsAt i (l ++ [(k, v)]) = entsAt i l ++ [{ key := k, val := v, born := i + l.length }] := by
  induction l with
  | nil => intro i; rfl
  | cons p l ih =>
    intro i
    obtain ⟨a, b⟩ := p
    simp only [List.cons_append, entsAt, ih, List.length_cons]
    rw [show i + 1 + l.length = i + (l.length + 1) from by omega]
theorem mpObj_nil : mpObj [] = .map #[] 0 := rfl
section
variable {P : Program} {ops : Array Oper} {Q : Exit → Act → World → Prop} {d : Option Tmp} {ty : TypeId} {pos : String} {aft : Array Edge} {g : Option (Tmp × Bool)} {rest : List Oper} {a : Act} {ε w : World} {R : List Asn} {b : Nat} {l : List (Value × Value)}
theorem stop_mu {t : TypeId} {x y z : Operand} (h : Stop (wpList P ops Q (⟨d, .mapUpdate t x y z, ty, pos, aft, g⟩ :: rest) a w)) : wpList P ops Q (⟨d, .mapUpdate t x y z, ty, pos, aft, g⟩ :: rest) a w := h
theorem stop_in {t : TypeId} {x y z : Operand} (h : Stop (wpList P ops Q (⟨d, .insert t x y z, ty, pos, aft, g⟩ :: rest) a w)) : wpList P ops Q (⟨d, .insert t x y z, ty, pos, aft, g⟩ :: rest) a w := h
theorem run_mapUpdate_new (t kt et : TypeId) (dsc : TypeDesc) (key val : Value) (ht : P.underlying t = some (.map kt et)) (hk : P.underlying kt = some dsc) (hik : MapKept.IsKey dsc key)
    (H : Own ε w (pts b (mpObj l) :: R)) (hf : Instr.findNow dsc key (entsAt 0 l) 0 = some none) :
    ∃ w', (Instr.mapUpdate t (.map (some b)) key val).run P w = .ok () w' ∧ Own ε w' (pts b (mpObj (l ++ [(key, val)])) :: R) := by
  have hb : w.heap[b]? = some (.map (entsAt 0 l).toArray l.length) := H.blk
  have hs := MapKept.heap_set (o' := mpObj (l ++ [(key, val)])) hb
  refine ⟨{ w with heap := w.heap.setIfInBounds b (mpObj (l ++ [(key, val)])) }, ?_, H.put rfl rfl rfl hs.1 (fun k _ hk => hs.2 k hk)⟩
  simp [Instr.mapUpdate, run_underlying ht, MapKept.run_getObj_map hb, MapKept.run_checkKey hk hik, MapKept.run_findKey hk hf, MapKept.run_setObj_map _ hb, Result.andThen, mpObj, entsAt_snoc]
theorem run_lookup_has (t kt et : TypeId) (dsc : TypeDesc) (key val : Value) (i : Nat) (ht : P.underlying t = some (.map kt et)) (hk : P.underlying kt = some dsc) (hik : MapKept.IsKey dsc key)
    (H : Own ε w (pts b (mpObj l) :: R)) (hf : Instr.findNow dsc key (entsAt 0 l) 0 = some (some (i, val))) :
    (Instr.lookup t (.map (some b)) key true).run P w = .ok (.tuple #[val, .bool true]) w := by
  have hb : w.heap[b]? = some (.map (entsAt 0 l).toArray l.length) := H.blk
  simp [Instr.lookup, run_underlying ht, MapKept.run_getObj_map hb, MapKept.run_checkKey hk hik, MapKept.run_findKey hk hf, Result.andThen]
theorem run_lookup_not (t kt et : TypeId) (dsc : TypeDesc) (key z : Value) (ht : P.underlying t = some (.map kt et)) (hk : P.underlying kt = some dsc) (hik : MapKept.IsKey dsc key)
    (H : Own ε w (pts b (mpObj l) :: R)) (hf : Instr.findNow dsc key (entsAt 0 l) 0 = some none) (hz : (zeroValue et).run P w = .ok z w) :
    (Instr.lookup t (.map (some b)) key true).run P w = .ok (.tuple #[z, .bool false]) w := by
  have hb : w.heap[b]? = some (.map (entsAt 0 l).toArray l.length) := H.blk
  simp [Instr.lookup, run_underlying ht, MapKept.run_getObj_map hb, MapKept.run_checkKey hk hik, MapKept.run_findKey hk hf, Result.andThen, hz]
/-- At the operation. -/
theorem wpList_mapUpdate_new {m x v : Operand} {t : TypeId} (kt et : TypeId) (dsc : TypeDesc) (key val : Value) (ht : P.underlying t = some (.map kt et)) (hk : P.underlying kt = some dsc) (hik : MapKept.IsKey dsc key)
    (hm : a.eval m = .map (some b)) (hx : a.eval x = key) (hv : a.eval v = val) (H : Own ε w (pts b (mpObj l) :: R)) (hf : Instr.findNow dsc key (entsAt 0 l) 0 = some none)
    (h : ∀ w', Own ε w' (pts b (mpObj (l ++ [(key, val)])) :: R) → wpList P ops Q rest (a.put d undef) w') : wpList P ops Q (⟨d, .mapUpdate t m x v, ty, pos, aft, none⟩ :: rest) a w := by
  refine wpList_plain rfl fun K' hK' => ?_
  obtain ⟨w', hrun, H'⟩ := run_mapUpdate_new t kt et dsc key val ht hk hik H hf
  unfold Oper.wp
  simp [execOp, hm, hx, hv, hrun, Result.andThen]
  exact hK' _ _ (h w' H')
theorem wpList_insert_new {m x v : Operand} {t : TypeId} (kt et : TypeId) (dsc : TypeDesc) (key val : Value) (ht : P.underlying t = some (.map kt et)) (hk : P.underlying kt = some dsc) (hik : MapKept.IsKey dsc key)
    (hm : a.eval m = .map (some b)) (hx : a.eval x = key) (hv : a.eval v = val) (H : Own ε w (pts b (mpObj l) :: R)) (hf : Instr.findNow dsc key (entsAt 0 l) 0 = some none)
    (h : ∀ w', Own ε w' (pts b (mpObj (l ++ [(key, val)])) :: R) → wpList P ops Q rest (a.put d undef) w') : wpList P ops Q (⟨d, .insert t m x v, ty, pos, aft, none⟩ :: rest) a w := by
  refine wpList_plain rfl fun K' hK' => ?_
  obtain ⟨w', hrun, H'⟩ := run_mapUpdate_new t kt et dsc key val ht hk hik H hf
  unfold Oper.wp
  simp [execOp, hm, hx, hv, hrun, Result.andThen]
  exact hK' _ _ (h w' H')
end
end Go.Proofs.Ytpfbbpiidhhkbaa
