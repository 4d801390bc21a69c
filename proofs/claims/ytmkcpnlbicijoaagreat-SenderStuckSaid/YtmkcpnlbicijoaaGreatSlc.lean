/- Slices that a walk owns: an assertion on their blocks, and append, make and copy over it. -/
import Derived.Test.YtmkcpnlbicijoaaGreatBase
import Derived.Laws.AppendOwn
import Derived.Laws.OwnMore
import Derived.Laws.MakeOwn
import Derived.Laws.Cover3
namespace Go.Proofs.YtmkcpnlbicijoaaGreat
open Go.RowKit

def Stop (p : Prop) : Prop := p
@[congr] theorem Stop.cong (p : Prop) : Stop p = Stop p := rfl
theorem Stop.go {p : Prop} (h : p) : Stop p := h
section
variable {P : Program} {ops : Array Oper} {Q : Exit → Act → World → Prop} {d : Option Tmp} {ty : TypeId} {pos : String} {aft : Array Edge} {g : Option (Tmp × Bool)} {rest : List Oper} {a : Act} {w : World}
theorem stop_bs {t : TypeId} {n : Nat} {ps : Array (Nat × Operand)} (h : Stop (wpList P ops Q (⟨d, .buildSlice t n ps, ty, pos, aft, g⟩ :: rest) a w)) : wpList P ops Q (⟨d, .buildSlice t n ps, ty, pos, aft, g⟩ :: rest) a w := h
theorem stop_ms {t : TypeId} {x y : Operand} (h : Stop (wpList P ops Q (⟨d, .makeSlice t x y, ty, pos, aft, g⟩ :: rest) a w)) : wpList P ops Q (⟨d, .makeSlice t x y, ty, pos, aft, g⟩ :: rest) a w := h
theorem stop_app {xs : Array Operand} {ts : Array TypeId} (h : Stop (wpList P ops Q (⟨d, .call { callee := .builtin .append, args := xs, argTypes := ts }, ty, pos, aft, g⟩ :: rest) a w)) : wpList P ops Q (⟨d, .call { callee := .builtin .append, args := xs, argTypes := ts }, ty, pos, aft, g⟩ :: rest) a w := h
theorem stop_st {t : TypeId} {x y : Operand} (h : Stop (wpList P ops Q (⟨d, .store t x y, ty, pos, aft, g⟩ :: rest) a w)) : wpList P ops Q (⟨d, .store t x y, ty, pos, aft, g⟩ :: rest) a w := h
theorem stop_bx {e : TypeId} {x : Operand} (h : Stop (wpList P ops Q (⟨d, .box e x, ty, pos, aft, g⟩ :: rest) a w)) : wpList P ops Q (⟨d, .box e x, ty, pos, aft, g⟩ :: rest) a w := h
theorem stop_al {e : TypeId} (h : Stop (wpList P ops Q (⟨d, .alloc e, ty, pos, aft, g⟩ :: rest) a w)) : wpList P ops Q (⟨d, .alloc e, ty, pos, aft, g⟩ :: rest) a w := h
theorem stop_copy {xs : Array Operand} {ts : Array TypeId} (h : Stop (wpList P ops Q (⟨d, .call { callee := .builtin .copy, args := xs, argTypes := ts }, ty, pos, aft, g⟩ :: rest) a w)) : wpList P ops Q (⟨d, .call { callee := .builtin .copy, args := xs, argTypes := ts }, ty, pos, aft, g⟩ :: rest) a w := h
end
@[go_sem] theorem run_eql_slice_nil {P : Program} (w : World) (t e : TypeId) (a : Option Addr) (l c : Nat) (h : P.underlying t = some (.slice e)) : (binOp .eql t (.slice a l c) (.slice none 0 0)).run P w = .ok (.bool a.isNone) w := by
 simp only [binOp]
 simp [run_equal_slice_nil w t e a l c h]
def slc (T : TypeId) (sz : Nat) (v : Value) (xs : List Value) : Asn := fun h =>
 (v = .slice none 0 0 ∧ xs = []) ∨ ∃ g n cap cur, v = .slice (some ⟨g, 0, none⟩) n cap ∧ n ≤ cap ∧ cap ≤ maxLen ∧ cur.size = cap * sz ∧ xs.length = n * sz ∧ cur.toList.take (n * sz) = xs ∧ pts g (.cells cur T (0, 0)) h
def srcAt (w : World) (A : Option Addr) (m sz : Nat) (news : List Value) : Prop := news.length = m * sz ∧ (m = 0 ∨ ∃ b off, A = some ⟨b, off, none⟩ ∧ ∀ j u, news[j]? = some u → w.cell? ⟨b, off + j, none⟩ = some u)
def elOk (P : Program) (e : TypeId) (sz bytes : Nat) : Bool := match P.info? e with
 | some i => i.size == sz && i.bytes == bytes && (match i.zero with
  | some z => z.cells.size == sz
  | none => false)
 | none => false
theorem elOk_spec {P : Program} {e : TypeId} {sz bytes : Nat} (h : elOk P e sz bytes = true) : ∃ i z, P.info? e = some i ∧ i.size = sz ∧ i.bytes = bytes ∧ i.zero = some z ∧ z.cells.size = sz := by
 unfold elOk at h
 split at h
 ·rename_i i hi
  simp only [Bool.and_eq_true, beq_iff_eq] at h
  obtain ⟨⟨h1, h2⟩, h3⟩ := h
  split at h3
  ·rename_i z hz
   exact ⟨i, z, hi, h1, h2, hz, by simpa using h3⟩
  ·cases h3
 ·cases h

section
variable {ε w : World} {T : TypeId} {sz : Nat} {v : Value} {xs : List Value} {R : List Asn}
theorem slc_nil {h : PH} : slc T sz (.slice none 0 0) [] h := .inl ⟨rfl, rfl⟩
theorem Own.slc_none (H : Own ε w R) : Own ε w (slc T sz (.slice none 0 0) [] :: R) := by
 obtain ⟨e, h, a, b⟩ := H
 exact ⟨e, h, ⟨fun _ => none, h, slc_nil, a, fun _ => .inl rfl, fun k => rfl⟩, b⟩
theorem Own.slc_open (H : Own ε w (slc T sz v xs :: R)) : (v = .slice none 0 0 ∧ xs = [] ∧ Own ε w R) ∨
  ∃ g n cap cur, v = .slice (some ⟨g, 0, none⟩) n cap ∧ n ≤ cap ∧ cap ≤ maxLen ∧ cur.size = cap * sz ∧ xs.length = n * sz ∧ cur.toList.take (n * sz) = xs ∧ Own ε w (pts g (.cells cur T (0, 0)) :: R) := by
 have Ht := H.tail
 obtain ⟨e, h, ⟨h1, h2, a, b, d, q⟩, s⟩ := H
 rcases a with ⟨rfl, rfl⟩ | ⟨g, n, cap, cur, rfl, h3, h4, h5, h6, h7, h8⟩
 ·exact .inl ⟨rfl, rfl, Ht⟩
 ·exact .inr ⟨g, n, cap, cur, rfl, h3, h4, h5, h6, h7, e, h, ⟨h1, h2, h8, b, d, q⟩, s⟩
theorem Own.slc_mk {g n cap : Nat} {cur : Array Value} (H : Own ε w (pts g (.cells cur T (0, 0)) :: R)) (h3 : n ≤ cap) (h4 : cap ≤ maxLen) (h5 : cur.size = cap * sz) (h6 : xs.length = n * sz) (h7 : cur.toList.take (n * sz) = xs) :
  Own ε w (slc T sz (.slice (some ⟨g, 0, none⟩) n cap) xs :: R) := H.imp fun _ x => .inr ⟨g, n, cap, cur, rfl, h3, h4, h5, h6, h7, x⟩
theorem Own.slc_all {g n : Nat} {cur : Array Value} (H : Own ε w (pts g (.cells cur T (0, 0)) :: R)) (h4 : n ≤ maxLen) (h5 : cur.size = n * sz) : Own ε w (slc T sz (.slice (some ⟨g, 0, none⟩) n n) cur.toList :: R) :=
 H.slc_mk (Nat.le_refl n) h4 h5 (by simpa using h5) (List.take_of_length_le (by simp [h5]))
theorem Own.slc_val (H : Own ε w (slc T sz v xs :: R)) : (v = .slice none 0 0 ∧ xs = []) ∨ ∃ g n cap, v = .slice (some ⟨g, 0, none⟩) n cap ∧ n ≤ cap ∧ cap ≤ maxLen ∧ xs.length = n * sz ∧
  (∀ j u, xs[j]? = some u → w.cell? ⟨g, j, none⟩ = some u) ∧ ∀ i, w.frozen? ⟨g, i, none⟩ = false := by
 rcases H.slc_open with ⟨e, rfl, _⟩ | ⟨g, n, cap, cur, e, h1, h2, _, h4, h5, H'⟩
 ·exact .inl ⟨e, rfl⟩
 ·refine .inr ⟨g, n, cap, e, h1, h2, h4, fun j u hj => ?_, H'.cells.2⟩
  rw [H'.cells.1 j]
  rw [← h5, List.getElem?_take] at hj
  split at hj
  ·simpa using hj
  ·cases hj
theorem Own.slc_set {g n cap : Nat} (H : Own ε w (slc T sz (.slice (some ⟨g, 0, none⟩) n cap) xs :: R)) (j : Nat) (u : Value) :
  Own ε (w.setCell ⟨g, j, none⟩ u) (slc T sz (.slice (some ⟨g, 0, none⟩) n cap) (xs.set j u) :: R) := by
 rcases H.slc_open with ⟨e, _⟩ | ⟨g', n', cap', cur, e, h1, h2, h3, h4, h5, H'⟩
 ·cases e
 ·cases e
  refine (H'.set j u).slc_mk h1 h2 (by simpa using h3) (by simpa using h4) ?_
  rw [Array.toList_setIfInBounds, ← h5, List.take_set]

section
variable {P : Program} {n m c : Nat} {A : Option Addr} {news : List Value} {bytes : Nat} {e t : TypeId}
theorem run_append_slc (ty : TypeId) (ht : P.underlying t = some (.slice e)) (hel : elOk P e sz bytes = true) (hsz : 0 < sz) (H : Own ε w (slc e sz v xs :: R)) (hn : xs.length = n * sz)
  (hs : srcAt w A m sz news) (h1 : ∀ u ∈ news, u.oneCell' = true) (h63 : n + m ≤ maxLen) (hb : (n + m) * bytes ≤ 140737488355328) :
  ∃ v' w', (Builtin.append_ #[t, t] ty #[v, .slice A m c]).run P w = .ok v' w' ∧ Own ε w' (slc e sz v' (xs ++ news) :: R) := by
 obtain ⟨i, z, hi, hsize, hby, hz, hzs⟩ := elOk_spec hel
 obtain ⟨hl, hs⟩ := hs
 have key : ∀ (a : Addr), A = some a → (∀ j u, news[j]? = some u → w.cell? (a.add j) = some u) → ∃ v' w', (Builtin.append_ #[t, t] ty #[v, .slice A m c]).run P w = .ok v' w' ∧ Own ε w' (slc e sz v' (xs ++ news) :: R) := by
  intro a ha hnews
  subst ha
  have hsmall : n + m ≤ 9223372036854775807 := by simp only [maxLen] at h63; omega
  have grown : ∀ (old : Nat), old < n + m → Own ε (w.drew.alloc (.cells (xs.toArray ++ news.toArray ++ Builtin.zeroCells z.cells (grownCap w (n + m) old e - (n + m))) e))
    (slc e sz (.slice (some ⟨w.heap.size, 0, none⟩) (n + m) (grownCap w (n + m) old e)) (xs ++ news) :: R) := by
   intro old _
   have hge := grownCap_ge w (n + m) old e
   have hcm : grownCap w (n + m) old e ≤ maxLen := grownCap_le_maxLen w (n + m) old e h63
   have hlen : (xs ++ news).length = (n + m) * sz := by rw [List.length_append, hn, hl, Nat.add_mul]
   refine (H.tail.drew.alloc _).slc_mk hge hcm ?_ hlen ?_
   ·simp only [Array.size_append, List.size_toArray, size_zeroCells, hzs, hn, hl, ← Nat.add_mul]
    congr 1
    omega
   ·simp only [Array.toList_append, List.append_assoc]
    rw [← List.append_assoc, ← hlen]
    exact List.take_left
  rcases H.slc_open with ⟨rfl, rfl, H'⟩ | ⟨g, n', cap, cur, rfl, hnc, hcm, hcs, hxl, htake, H'⟩
  ·have hn0 : n = 0 := by
    simp only [List.length_nil] at hn
    rcases Nat.eq_zero_or_pos n with q | q
    ·exact q
    ·have := Nat.mul_pos q hsz; omega
   subst hn0
   by_cases hm : m = 0
   ·subst hm
    have hn : news = [] := List.eq_nil_of_length_eq_zero (by simpa using hl)
    subst hn
    refine ⟨.slice none 0 0, w, ?_, H'.slc_none⟩
    simp [Builtin.append_, run_underlying ht, sizeOf, typeInfo, hi, Builtin.lenOf, Builtin.firstCells, loadCells, loadCellsFrom]
   ·have hr := run_append_nil (P := P) (w := w) t ty e i z ht hi hz a m c news (by rw [hsize]; exact hl) hnews (by omega) (by omega) (by rw [hby]; have := hb; simp only [Nat.zero_add] at this; omega)
    have hgr := grown 0 (by omega)
    simp only [Nat.zero_add, List.nil_append, Array.empty_append] at hgr ⊢
    exact ⟨_, _, hr, hgr⟩
  ·have hnn : n' = n := Nat.eq_of_mul_eq_mul_right hsz (hxl.symm.trans hn)
   subst hnn
   by_cases hroom : n' + m ≤ cap
   ·have hfit : n' * i.size + news.length ≤ cur.size := by rw [hl, hcs, hsize, ← Nat.add_mul]; exact Nat.mul_le_mul_right _ hroom
    have hg := H'.blk
    have hr := run_append_room (P := P) w t ty e i ht hi g n' cap cur hg a m c news (by rw [hsize]; exact hl) hnews h1 hroom hfit
    rw [hsize] at hr hfit
    refine ⟨_, _, hr, ?_⟩
    have H2 : Own ε (w.setRow g (cur.toList.take (n' * sz) ++ news ++ cur.toList.drop (n' * sz + news.length)).toArray) (pts g (.cells (cur.toList.take (n' * sz) ++ news ++ cur.toList.drop (n' * sz + news.length)).toArray e (0, 0)) :: R) :=
     H'.put rfl rfl rfl (setRow_heap w g cur _ e _ hg) (fun k _ hk => setRow_other w g k _ hk)
    have hlen : (xs ++ news).length = (n' + m) * sz := by rw [List.length_append, hn, hl, Nat.add_mul]
    refine H2.slc_mk hroom hcm ?_ hlen ?_
    ·simp only [List.size_toArray, List.length_append, List.length_take, List.length_drop, Array.length_toList]
     omega
    ·rw [htake, ← hlen]
     exact List.take_left
   ·have holds : ∀ j u, xs[j]? = some u → w.cell? ((⟨g, 0, none⟩ : Addr).add j) = some u := fun j u hj => by
     have hadd : (⟨g, 0, none⟩ : Addr).add j = ⟨g, j, none⟩ := by unfold Addr.add; split <;> simp_all
     rw [hadd, H'.cells.1 j]
     rw [← htake, List.getElem?_take] at hj
     split at hj
     ·simpa using hj
     ·cases hj
    have hr := run_append_grow (P := P) (w := w) t ty e i z ht hi hz ⟨g, 0, none⟩ n' cap xs (by rw [hsize]; exact hn) holds a m c news (by rw [hsize]; exact hl) hnews (by omega) (by omega) (by rw [hby]; exact growslice_fits (by omega) hb)
    exact ⟨_, _, hr, grown cap (by omega)⟩
 rcases hs with rfl | ⟨b, off, rfl, hc⟩
 ·have hn0 : news = [] := List.eq_nil_of_length_eq_zero (by simpa using hl)
  subst hn0
  cases A with
  | some a => exact key a rfl (fun j u hj => by simp at hj)
  | none =>
   refine ⟨v, w, ?_, by simpa using H⟩
   rcases H.slc_open with ⟨rfl, rfl, H'⟩ | ⟨g, n', cap, cur, rfl, hnc, hcm, hcs, hxl, htake, H'⟩
   ·simp [Builtin.append_, run_underlying ht, sizeOf, typeInfo, hi, Builtin.lenOf, Builtin.firstCells]
   ·simp [Builtin.append_, run_underlying ht, sizeOf, typeInfo, hi, Builtin.lenOf, Builtin.firstCells, hnc, storeCells]
 ·refine key _ rfl (fun j u hj => ?_)
  have hadd : (⟨b, off, none⟩ : Addr).add j = ⟨b, off + j, none⟩ := by unfold Addr.add; split <;> simp_all
  rw [hadd]
  exact hc j u hj
theorem wp_append_slc {o : Oper} {a : Act} {K : Act → World → Prop} {Q : Exit → Act → World → Prop} (s x : Operand) (t : TypeId)
  (ho : o.op = .call { callee := .builtin .append, args := #[s, x], argTypes := #[t, t] }) (e : TypeId) (sz bytes : Nat) (ht : P.underlying t = some (.slice e)) (hel : elOk P e sz bytes = true) (hsz : 0 < sz)
  (hv : a.eval s = v) (H : Own ε w (slc e sz v xs :: R)) (hx : a.eval x = .slice A m c) (hn : xs.length = n * sz)
  (hs : srcAt w A m sz news) (h1 : ∀ u ∈ news, u.oneCell' = true) (h63 : n + m ≤ maxLen) (hb : (n + m) * bytes ≤ 140737488355328)
  (h : ∀ v' w', Own ε w' (slc e sz v' (xs ++ news) :: R) → K (a.put o.dst v') w') : o.wp P a w K Q := by
 obtain ⟨v', w', hr, h2⟩ := run_append_slc (P := P) (c := c) o.type ht hel hsz H hn hs h1 h63 hb
 unfold Oper.wp execOp
 simp only [ho, resolve, invoke, builtin, Sem.run_bind, Sem.run_pure, Result.andThen_ok, List.map_toArray, List.map_cons, List.map_nil, hv, hx, hr]
 exact h v' w' h2
theorem wpList_append_slc {ops : Array Oper} {rest : List Oper} {o : Oper} {a : Act} {Q : Exit → Act → World → Prop} (hgd : o.guard = none) (s x : Operand) (t : TypeId)
  (ho : o.op = .call { callee := .builtin .append, args := #[s, x], argTypes := #[t, t] }) (e : TypeId) (sz bytes : Nat) (ht : P.underlying t = some (.slice e)) (hel : elOk P e sz bytes = true) (hsz : 0 < sz)
  (hv : a.eval s = v) (H : Own ε w (slc e sz v xs :: R)) (hx : a.eval x = .slice A m c) (hn : xs.length = n * sz)
  (hs : srcAt w A m sz news) (h1 : ∀ u ∈ news, u.oneCell' = true) (h63 : n + m ≤ maxLen) (hb : (n + m) * bytes ≤ 140737488355328)
  (h : ∀ v' w', Own ε w' (slc e sz v' (xs ++ news) :: R) → wpList P ops Q rest (a.put o.dst v') w') : wpList P ops Q (o :: rest) a w :=
 wpList_plain hgd fun _ hK => wp_append_slc s x t ho e sz bytes ht hel hsz hv H hx hn hs h1 h63 hb fun v' w' h2 => hK _ _ (h v' w' h2)
theorem run_copy_slc {T : TypeId} (dT sT ty : TypeId) (hu : P.underlying dT = some (.slice e)) (hel : elOk P e sz bytes = true) {g off dLen dCap sLen sCap : Nat} {dp sp : Option Addr} {cur : Array Value} {cs : List Value}
  (H : Own ε w (pts g (.cells cur T (0, 0)) :: R)) (hd : Nat.min sLen dLen = 0 ∨ dp = some ⟨g, off, none⟩) (hs : srcAt w sp (Nat.min sLen dLen) sz cs) (hfit : off + cs.length ≤ cur.size) (h1 : ∀ u ∈ cs, u.oneCell' = true) :
  ∃ w', (Builtin.copy_ #[dT, sT] ty #[.slice dp dLen dCap, .slice sp sLen sCap]).run P w = .ok (goInt (Nat.min sLen dLen)) w' ∧ Own ε w' (pts g (.cells (cur.toList.take off ++ cs ++ cur.toList.drop (off + cs.length)).toArray T (0, 0)) :: R) := by
 obtain ⟨i, z, hi, hsize, hby, hz, hzs⟩ := elOk_spec hel
 obtain ⟨hl, hs⟩ := hs
 by_cases h0 : Nat.min sLen dLen = 0
 ·have hc : cs = [] := List.eq_nil_of_length_eq_zero (by rw [hl, h0]; simp)
  subst hc
  have hll : ∀ (x : Addr), (loadCells x 0).run P w = .ok #[] w := fun x => by simpa using run_loadCells_list (P := P) w x [] (by simp)
  refine ⟨w, ?_, by simpa using H⟩
  rw [h0]
  cases dp <;> cases sp <;> simp [Builtin.copy_, run_underlying hu, Builtin.lenOf, Builtin.firstCells, sizeOf, typeInfo, hi, h0, storeCells, hll]
 ·obtain ⟨b, o2, rfl, hc⟩ := hs.resolve_left h0
  obtain rfl := hd.resolve_left h0
  have hll := run_loadCells_list (P := P) w ⟨b, o2, none⟩ cs (fun j u hj => by
   have hadd : (⟨b, o2, none⟩ : Addr).add j = ⟨b, o2 + j, none⟩ := by unfold Addr.add; split <;> simp_all
   rw [hadd]; exact hc j u hj)
  have hg := H.blk
  have hst := run_storeCells_at P g off T cs 0 cur w hg (by simpa using hfit) h1
  simp only [Nat.add_zero] at hst
  have H2 : Own ε (w.setRow g (cur.toList.take off ++ cs ++ cur.toList.drop (off + cs.length)).toArray) (pts g (.cells (cur.toList.take off ++ cs ++ cur.toList.drop (off + cs.length)).toArray T (0, 0)) :: R) :=
   H.put rfl rfl rfl (setRow_heap w g cur _ T _ hg) (fun k _ hk => setRow_other w g k _ hk)
  refine ⟨_, ?_, H2⟩
  rw [hl] at hll
  simp [Builtin.copy_, run_underlying hu, Builtin.lenOf, Builtin.firstCells, sizeOf, typeInfo, hi, hsize, hll, hst]
theorem wp_copy_slc {T : TypeId} {o : Oper} {a : Act} {K : Act → World → Prop} {Q : Exit → Act → World → Prop} (d s : Operand) (dT sT : TypeId)
  (ho : o.op = .call { callee := .builtin .copy, args := #[d, s], argTypes := #[dT, sT] }) (e : TypeId) (sz bytes : Nat) (hu : P.underlying dT = some (.slice e)) (hel : elOk P e sz bytes = true)
  {g dLen dCap sLen sCap : Nat} {dp sp : Option Addr} {cur : Array Value} (off : Nat) (cs : List Value) (m : Nat) (hd' : a.eval d = .slice dp dLen dCap) (hs' : a.eval s = .slice sp sLen sCap)
  (hm : Nat.min sLen dLen = m) (H : Own ε w (pts g (.cells cur T (0, 0)) :: R)) (hd : m = 0 ∨ dp = some ⟨g, off, none⟩) (hs : srcAt w sp m sz cs) (hfit : off + cs.length ≤ cur.size) (h1 : ∀ u ∈ cs, u.oneCell' = true)
  (h : ∀ w', Own ε w' (pts g (.cells (cur.toList.take off ++ cs ++ cur.toList.drop (off + cs.length)).toArray T (0, 0)) :: R) → K (a.put o.dst (.int .i64 (m : Int))) w') : o.wp P a w K Q := by
 subst hm
 obtain ⟨w', hr, h2⟩ := run_copy_slc (P := P) (dCap := dCap) (sCap := sCap) dT sT o.type hu hel H hd hs hfit h1
 unfold Oper.wp execOp
 simp only [ho, resolve, invoke, builtin, Sem.run_bind, Sem.run_pure, Result.andThen_ok, List.map_toArray, List.map_cons, List.map_nil, hd', hs', hr]
 exact h w' h2
theorem madeCells_flat (z : Array Value) (n : Nat) (hz : 0 < z.size) : (madeCells z (n * z.size)).toList = (List.replicate n z.toList).flatten := by
 induction n with
 | zero => simp [madeCells]
 | succ n ih =>
  rw [List.replicate_succ', List.flatten_append, ← ih]
  have e : (n + 1) * z.size = n * z.size + z.size := Nat.succ_mul n z.size
  rw [e]
  unfold madeCells
  apply List.ext_getElem
  ·simp
  ·intro i h1 h2
   simp only [Array.toList_map, Array.toList_range, List.getElem_map, List.getElem_range]
   by_cases hi : i < n * z.size
   ·rw [List.getElem_append_left (by simpa using hi)]
    simp
   ·rw [List.getElem_append_right (by simpa using hi)]
    simp only [List.length_map, List.length_range, List.flatten_cons, List.flatten_nil, List.append_nil, Array.getElem_toList]
    have hlt : i < n * z.size + z.size := by simpa using h1
    have hm : i % z.size = i - n * z.size := by
     have e2 : i = (i - n * z.size) + z.size * n := by rw [Nat.mul_comm z.size n]; omega
     conv => lhs; rw [e2]
     rw [Nat.add_mul_mod_self_left, Nat.mod_eq_of_lt (by omega)]
    rw [getElem!_pos z (i % z.size) (Nat.mod_lt _ hz)]
    congr 1
theorem wp_make_slc {o : Oper} {a : Act} {K : Act → World → Prop} {Q : Exit → Act → World → Prop} (l c : Operand) (t : TypeId) (ho : o.op = Op.makeSlice t l c)
  (e : TypeId) (sz bytes : Nat) (ht : P.underlying t = some (.slice e)) (hel : elOk P e sz bytes = true) (hsz : 0 < sz) (zs : List Value) (hzs : ((P.info? e).bind (·.zero)).map (·.cells.toList) = some zs)
  (n : Nat) {kl kc : IntKind} {L C : Int} (hl : a.eval l = .int kl L) (hc : a.eval c = .int kc C) (hL : L = (n : Int)) (hC : C = (n : Int)) (hb : bytes * n ≤ 281474976710656) (h63 : n ≤ maxLen) (H : Own ε w R)
  (h : ∀ g w', Own ε w' (pts g (.cells (List.replicate n zs).flatten.toArray e (0, 0)) :: R) → K (a.put o.dst (.slice (some ⟨g, 0, none⟩) n n)) w') : o.wp P a w K Q := by
 obtain ⟨i, z, hi, hsize, hby, hz, hzz⟩ := elOk_spec hel
 subst hL hC
 have h63' : (n : Int) ≤ 9223372036854775807 := by simp only [maxLen] at h63; omega
 have hb' : (i.bytes : Int) * (n : Int) ≤ 281474976710656 := by
  have h : ((i.bytes * n : Nat) : Int) ≤ 281474976710656 := by rw [hby]; omega
  rwa [Int.natCast_mul] at h
 have hr := run_make (P := P) w t e i z ht hi hz kl kc n n (by omega) (Int.le_refl _) hb' h63'
 simp only [Int.toNat_natCast] at hr
 rw [hsize, ← hzz] at hr
 have hz2 : z.cells.toList = zs := by simpa [hi, hz] using hzs
 have hcells : madeCells z.cells (n * z.cells.size) = (List.replicate n zs).flatten.toArray := by
  rw [← hz2, ← madeCells_flat _ _ (by omega)]
 rw [hcells] at hr
 unfold Oper.wp execOp
 simp only [ho, Sem.run_bind, Sem.run_pure, Result.andThen_ok, hl, hc, hr]
 exact h _ _ (H.alloc _)
theorem wpList_make_slc {ops : Array Oper} {rest : List Oper} {o : Oper} {a : Act} {Q : Exit → Act → World → Prop} (hgd : o.guard = none) (l c : Operand) (t : TypeId) (ho : o.op = Op.makeSlice t l c)
  (e : TypeId) (sz bytes : Nat) (ht : P.underlying t = some (.slice e)) (hel : elOk P e sz bytes = true) (hsz : 0 < sz) (zs : List Value) (hzs : ((P.info? e).bind (·.zero)).map (·.cells.toList) = some zs)
  (n : Nat) {kl kc : IntKind} {L C : Int} (hl : a.eval l = .int kl L) (hc : a.eval c = .int kc C) (hL : L = (n : Int)) (hC : C = (n : Int)) (hb : bytes * n ≤ 281474976710656) (h63 : n ≤ maxLen) (H : Own ε w R)
  (h : ∀ g w', Own ε w' (pts g (.cells (List.replicate n zs).flatten.toArray e (0, 0)) :: R) → wpList P ops Q rest (a.put o.dst (.slice (some ⟨g, 0, none⟩) n n)) w') : wpList P ops Q (o :: rest) a w :=
 wpList_plain hgd fun _ hK => wp_make_slc l c t ho e sz bytes ht hel hsz zs hzs n hl hc hL hC hb h63 H fun g w' h2 => hK _ _ (h g w' h2)
theorem wpList_copy_slc {T : TypeId} {ops : Array Oper} {rest : List Oper} {o : Oper} {a : Act} {Q : Exit → Act → World → Prop} (hgd : o.guard = none) (d s : Operand) (dT sT : TypeId)
  (ho : o.op = .call { callee := .builtin .copy, args := #[d, s], argTypes := #[dT, sT] }) (e : TypeId) (sz bytes : Nat) (hu : P.underlying dT = some (.slice e)) (hel : elOk P e sz bytes = true)
  {g dLen dCap sLen sCap : Nat} {dp sp : Option Addr} {cur : Array Value} (off : Nat) (cs : List Value) (m : Nat) (hd' : a.eval d = .slice dp dLen dCap) (hs' : a.eval s = .slice sp sLen sCap)
  (hm : Nat.min sLen dLen = m) (H : Own ε w (pts g (.cells cur T (0, 0)) :: R)) (hd : m = 0 ∨ dp = some ⟨g, off, none⟩) (hs : srcAt w sp m sz cs) (hfit : off + cs.length ≤ cur.size) (h1 : ∀ u ∈ cs, u.oneCell' = true)
  (h : ∀ w', Own ε w' (pts g (.cells (cur.toList.take off ++ cs ++ cur.toList.drop (off + cs.length)).toArray T (0, 0)) :: R) → wpList P ops Q rest (a.put o.dst (.int .i64 (m : Int))) w') : wpList P ops Q (o :: rest) a w :=
 wpList_plain hgd fun _ hK => wp_copy_slc d s dT sT ho e sz bytes hu hel off cs m hd' hs' hm H hd hs hfit h1 fun w' h2 => hK _ _ (h w' h2)
theorem want {o : Oper} {y : Nat → Option Bool} {A B : Prop} (hg : o.guard = none) (h : A) : if Region.wanted o y = true then A else B := by
 rw [if_pos (by simp [Region.wanted, hg])]; exact h
end
end
end Go.Proofs.YtmkcpnlbicijoaaGreat
