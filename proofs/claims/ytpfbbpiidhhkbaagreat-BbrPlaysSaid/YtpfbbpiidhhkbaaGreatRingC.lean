/- Rings of items of several cells, in plain words. -/
import Derived.Test.YtpfbbpiidhhkbaaGreatBase
import Derived.Test.YtpfbbpiidhhkbaaGreatSlc
import Derived.Laws.ResultCell
import Derived.Laws.CopyRow
import Derived.Laws.Rows
import Derived.Test.YtpfbbpiidhhkbaaGreatMix2
namespace Go.Proofs.YtpfbbpiidhhkbaaGreat
open Go.RowKit
theorem star_ext {L : List Asn} : ∀ {h1 h2 h : PH}, star L h2 → (∀ k, h1 k = none ∨ h2 k = none) → (∀ k, h k = (h1 k).or (h2 k)) → star L h := by
  induction L with
  | nil => intro _ _ _ _ _ _; trivial
  | cons A L ih =>
    rintro h1 h2 h ⟨ha, hb, a, b, d, e⟩ hd he
    refine ⟨ha, fun k => (h1 k).or (hb k), a, ih b (fun k => ?_) (fun _ => rfl), fun k => ?_, fun k => ?_⟩
    · rcases hd k with q | q
      · exact .inl q
      · right
        rw [e k] at q
        rcases d k with r | r
        · rw [r] at q; simpa using q
        · exact r
    · rcases hd k with q | q
      · rcases d k with r | r
        · exact .inl r
        · right; show (h1 k).or (hb k) = none; rw [q, r]; rfl
      · left
        rw [e k] at q
        cases r : ha k with
        | none => rfl
        | some x => rw [r] at q; cases q
    · show h k = (ha k).or ((h1 k).or (hb k))
      rw [he k, e k]
      rcases hd k with q | q
      · rw [q]; simp
      · rw [e k] at q
        cases r : ha k with
        | none => simp
        | some x => rw [r] at q; cases q
def Pm (L L' : List Asn) : Prop := ∀ h, star L h → star L' h
section
variable {A B C D E F G J : Asn} {L L' : List Asn}
theorem Pm.refl (L : List Asn) : Pm L L := fun _ x => x
theorem Pm.nil (L : List Asn) : Pm L [] := fun _ _ => trivial
theorem Pm.here (f : Pm L L') : Pm (A :: L) (A :: L') := fun _ x => star_in f x
theorem Pm.at2 (f : Pm (B :: L) L') : Pm (B :: A :: L) (A :: L') := fun _ x => star_in f (star_r2 x)
theorem Pm.at3 (f : Pm (B :: C :: L) L') : Pm (B :: C :: A :: L) (A :: L') := fun _ x => star_in f (star_r3 x)
theorem Pm.at4 (f : Pm (B :: C :: D :: L) L') : Pm (B :: C :: D :: A :: L) (A :: L') := fun _ x => star_in f (star_r4 x)
theorem Pm.at5 (f : Pm (B :: C :: D :: E :: L) L') : Pm (B :: C :: D :: E :: A :: L) (A :: L') := fun _ x => star_in f (star_r5 x)
theorem Pm.at6 (f : Pm (B :: C :: D :: E :: F :: L) L') : Pm (B :: C :: D :: E :: F :: A :: L) (A :: L') := fun _ x => star_in f (star_r6 x)
theorem Pm.at7 (f : Pm (B :: C :: D :: E :: F :: G :: L) L') : Pm (B :: C :: D :: E :: F :: G :: A :: L) (A :: L') := fun _ x => star_in f (star_r7 x)
theorem star_r8 {R : List Asn} {h : PH} (x : star (A :: B :: C :: D :: E :: F :: G :: J :: R) h) : star (J :: A :: B :: C :: D :: E :: F :: G :: R) h := star_r2 (star_in (fun _ y => star_r7 y) x)
theorem Pm.at8 (f : Pm (B :: C :: D :: E :: F :: G :: J :: L) L') : Pm (B :: C :: D :: E :: F :: G :: J :: A :: L) (A :: L') := fun _ x => star_in f (star_r8 x)
theorem Pm.skip (f : Pm L L') : Pm (A :: L) L' := fun h x => by
  obtain ⟨h1, h2, _, b, d, e⟩ := x
  exact f h (star_ext b d e)
end
theorem Own.pm {ε w : World} {L L' : List Asn} (H : Own ε w L) (f : Pm L L') : Own ε w L' := H.map f
def Kp (w w' : World) : Prop := ∀ ε L, Own ε w L → Own ε w' L
theorem Kp.same {w w' : World} (h : w = w') : Kp w w' := fun _ _ H => h ▸ H
theorem Kp.drew {w w' : World} (h : ∃ n, w' = w.drewN n) : Kp w w' := fun _ _ H => by
  obtain ⟨n, rfl⟩ := h
  exact H.drewN n
theorem Kp.below {w w' : World} (h : Below w.heap.size w w') : Kp w w' := fun _ _ H => H.below h
theorem Below.of_drewN (w : World) (n : Nat) : Below w.heap.size w (w.drewN n) := ⟨rfl, rfl, rfl, Nat.le_refl _, fun _ _ => rfl⟩
theorem Below.of_drewN_alloc (w : World) (n : Nat) (o : Obj) : Below w.heap.size w ((w.alloc o).drewN n) := ⟨rfl, rfl, rfl, by show _ ≤ (w.heap.push o).size; simp, fun k hk => by show (w.heap.push o)[k]? = _; rw [Array.getElem?_push, if_neg (by omega)]⟩
end Go.Proofs.YtpfbbpiidhhkbaaGreat
namespace Go.Proofs.YtpfbbpiidhhkbaaGreat
open Go.RowKit
@[go_sem] theorem run_store_one {P : Program} {w : World} {a : Addr} {v : Value} {m : Mode} (hv : v.oneCell' = true) : (store a v m).run P w = stored P w a v m := run_store P w a v m hv
def setsL : List Value → Nat → List Value → List Value
  | L, _, [] => L
  | L, o, v :: vs => setsL (L.set o v) (o + 1) vs
def setsW : World → Nat → Nat → List Value → World
  | w, _, _, [] => w
  | w, g, o, v :: vs => setsW (w.setCell ⟨g, o, none⟩ v) g (o + 1) vs
theorem setsL_eq (L : List Value) (o : Nat) (vs : List Value) (h : o + vs.length ≤ L.length) : setsL L o vs = L.take o ++ vs ++ L.drop (o + vs.length) := by
  induction vs generalizing L o with
  | nil => simp [setsL]
  | cons v vs ih =>
    have h' : o + (vs.length + 1) ≤ L.length := h
    have e1 : (L.set o v).take (o + 1) = L.take o ++ [v] := by
      rw [List.take_succ_eq_append_getElem (by simp; omega), List.take_set_of_le (Nat.le_refl o)]
      simp
    have e2 : (L.set o v).drop (o + 1 + vs.length) = L.drop (o + (vs.length + 1)) := by
      rw [List.drop_set_of_lt (by omega)]
      congr 1; omega
    rw [setsL, ih _ _ (by simp; omega), e1, e2]
    simp
section
variable {ε w : World} {R : List Asn} {T : TypeId} {g : Nat}
theorem Own.slc_setsB {cs : Array Value} {f : Nat × Nat} (H : Own ε w (pts g (.cells cs T f) :: R)) (vs : List Value) (_h : vs.length = cs.size := by rfl) :
    Own ε (setsW w g 0 vs) (pts g (.cells vs.toArray T f) :: R) := by
  have key : ∀ (vs : List Value) (w : World) (cs : Array Value) (o : Nat), Own ε w (pts g (.cells cs T f) :: R) → Own ε (setsW w g o vs) (pts g (.cells (setsL cs.toList o vs).toArray T f) :: R) := by
    intro vs
    induction vs with
    | nil => intro w cs o H; simpa [setsW, setsL] using H
    | cons v vs ih =>
      intro w cs o H
      have := ih _ _ (o + 1) (H.set o v)
      rw [Array.toList_setIfInBounds] at this
      exact this
  have h1 := key vs w cs 0 H
  rwa [setsL_eq _ _ _ (by simp; omega), List.take_zero, List.nil_append, List.drop_of_length_le (by simp; omega), List.append_nil] at h1
end
section
variable {P : Program} {ops : Array Oper} {Q : Exit → Act → World → Prop} {d : Option Tmp} {ty : TypeId} {pos : String} {aft : Array Edge} {rest : List Oper} {a : Act} {ε w : World} {R : List Asn} {b : Nat} {T t : TypeId}
theorem wpList_store_own {x y : Operand} (cur vs : Array Value) (hx : a.eval x = .pointer (some ⟨b, 0, none⟩)) (hy : a.eval y = .agg vs) (H : Own ε w (pts b (.cells cur T (0, 0)) :: R)) (hi : (P.info? t).map (·.size) = some vs.size) (hs : cur.size = vs.size)
    (h1 : ∀ v ∈ vs.toList, v.oneCell' = true) (h : ∀ w', Own ε w' (pts b (.cells vs T (0, 0)) :: R) → wpList P ops Q rest (a.put d undef) w') : wpList P ops Q (⟨d, .store t x y, ty, pos, aft, none⟩ :: rest) a w := by
  refine wpList_plain rfl fun K' hK' => ?_
  have hg := H.blk
  have hst := run_storeCells_at P b 0 T vs.toList 0 cur w hg (by simp [hs]) h1
  have hrow : (cur.toList.take (0 + 0) ++ vs.toList ++ cur.toList.drop (0 + 0 + vs.toList.length)).toArray = vs := by
    rw [List.drop_of_length_le (by simp [hs])]; simp
  rw [hrow] at hst
  have H2 : Own ε (w.setRow b vs) (pts b (.cells vs T (0, 0)) :: R) := H.put rfl rfl rfl (setRow_heap w b cur _ T _ hg) (fun k _ hk => setRow_other w b k _ hk)
  cases hq : P.info? t with
  | none => simp [hq] at hi
  | some i =>
    have hsz : i.size = vs.size := by simpa [hq] using hi
    unfold Oper.wp execOp
    simp only [hx, hy]
    simp [Instr.storeAt, Instr.sureAddr, storeVar, sizeOf, typeInfo, hq, hsz, Value.cells, hst, Result.andThen]
    exact hK' _ _ (h _ H2)
end
end Go.Proofs.YtpfbbpiidhhkbaaGreat
namespace Go.Proofs.YtpfbbpiidhhkbaaGreat
open Go.RowKit
section
variable {ε w : World} {R : List Asn} {T : TypeId} {sz g n cap : Nat} {xs : List Value}
theorem Own.slc_setsW (H : Own ε w (slc T sz (.slice (some ⟨g, 0, none⟩) n cap) xs :: R)) (o : Nat) (vs : List Value) :
    Own ε (setsW w g o vs) (slc T sz (.slice (some ⟨g, 0, none⟩) n cap) (setsL xs o vs) :: R) := by
  induction vs generalizing w xs o with
  | nil => exact H
  | cons v vs ih => exact ih (H.slc_set o v) (o + 1)
theorem RingOk.item {sz P f : Nat} {pl items : List (List Value)} (h : RingOk sz P f pl items) {k : Nat} (hk : k < items.length) : items[k].length = sz ∧ ∀ u ∈ items[k], u.oneCell' = true := by
  have h1 := h.hold k hk
  have h2 := List.mem_of_getElem? h1
  exact ⟨h.wide _ h2, h.one _ h2⟩
theorem placeAt {P f : Nat} {pl items : List (List Value)} (h : RingOk sz P f pl items) (H : Own ε w (slc T sz (.slice (some ⟨g, 0, none⟩) P cap) pl.flatten :: R)) (p : Nat) (hp : p < P) :
    (∃ c, pl[p]? = some c ∧ c.length = sz ∧ (∀ u ∈ c, u.oneCell' = true) ∧ ∀ j, j < sz → w.cell? ⟨g, p * sz + j, none⟩ = c[j]?) ∧ (∀ i, w.frozen? ⟨g, i, none⟩ = false) ∧
    ∀ vs, vs.length = sz → Own ε (setsW w g (p * sz) vs) (slc T sz (.slice (some ⟨g, 0, none⟩) P cap) (pl.set p vs).flatten :: R) := by
  rcases H.slc_val with ⟨e, _⟩ | ⟨_, _, _, e, _, _, hl, hv, hf⟩
  · cases e
  cases e
  have hpl : p < pl.length := by rw [h.len]; exact hp
  have hc : pl[p]? = some pl[p] := List.getElem?_eq_getElem hpl
  have hlen := h.wide pl[p] (List.getElem_mem hpl)
  refine ⟨⟨pl[p], hc, hlen, h.one _ (List.getElem_mem hpl), fun j hj => ?_⟩, hf, fun vs hvs => ?_⟩
  · have h1 := flat_at (sz := sz) pl h.wide p j _ hc hj
    have h2 : pl[p][j]? = some (pl[p][j]'(by omega)) := List.getElem?_eq_getElem _
    rw [h2] at h1 ⊢
    exact hv _ _ h1
  · have hfl := flat_len pl h.wide
    have hle : p * sz + vs.length ≤ pl.flatten.length := by
      rw [hfl, hvs, ← Nat.succ_mul]
      exact Nat.mul_le_mul_right sz hpl
    rw [flat_set pl h.wide p hpl vs hvs, ← setsL_eq _ _ _ hle]
    exact H.slc_setsW (p * sz) vs
end
theorem bodyPost_cell {P : Program} {fn : Func} {K : Ending → World → Prop} {a : Act} {w ε : World} {R : List Asn} {p u : Tmp} {ty : TypeId} {g : Nat} {cs : Array Value} {T : TypeId} {d : TypeDesc} {v : Value} (h : fn.results = #[.cell p ty, .tmp u]) (hp : a.tmps.getD p undef = .pointer (some ⟨g, 0, none⟩)) (hu : a.tmps.getD u undef = v)
    (hd : a.defers = []) (hty : P.underlying ty = some d) (hagg : (match d with | .struct _ | .array _ _ => true | _ => false) = true) (hi : (P.info? ty).map (·.size) = some cs.size) (H : Own ε w (pts g (.cells cs T (0, 0)) :: R)) (hR : K (.returned (.tuple #[.agg cs, v])) w) : bodyPost P fn K .ret a w := by
  refine bodyPost_ret (v := .tuple #[.agg cs, v]) ?_ hd hR
  rw [results_cell_tmp h, hp, hu]
  simp [asAddr, run_loadVar_row (P := P) w g T ty cs (0, 0) d H.blk hty hagg hi]
def atC (z : List Value) (l : List (List Value)) (i : Int) : List Value × Bool := if 0 ≤ i ∧ i < l.length then (l.getD i.toNat z, true) else (z, false)
theorem atC_in {z : List Value} {l : List (List Value)} {k : Nat} (hk : k < l.length) : atC z l k = (l[k], true) := by
  rw [atC, if_pos (by omega)]; simp [hk]
theorem atC_out {z : List Value} {l : List (List Value)} {i : Int} (h : i < 0 ∨ (l.length : Int) ≤ i) : atC z l i = (z, false) := if_neg (by omega)
theorem len_two {c : List Value} (h : c.length = 2) : ∃ a0 a1, c = [a0, a1] := by
  match c, h with
  | [a, b], _ => exact ⟨a, b, rfl⟩
end Go.Proofs.YtpfbbpiidhhkbaaGreat
