/- Slices that a walk owns: a part of one, clear, an append that moves away and leaves the old row. -/
import Derived.Test.YtmkcpnlbicijoaaGreatSlc
import Derived.Test.YtmkcpnlbicijoaaGreatItAt
namespace Go.Proofs.YtmkcpnlbicijoaaGreat
open Go.RowKit
section
variable {ε w : World} {T : TypeId} {sz : Nat} {v : Value} {xs : List Value} {R : List Asn}
end
theorem srcAt_tail {ε w : World} {T : TypeId} {sz : Nat} {R : List Asn} {g n cap j : Nat} {cur : Array Value} {xs : List Value} (H : Own ε w (pts g (.cells cur T (0, 0)) :: R)) (hj : j ≤ n) (hn : n ≤ cap) (hcs : cur.size = cap * sz) (hx : cur.toList.take (n * sz) = xs) :
  srcAt w (if cap = j then some ⟨g, 0, none⟩ else some ⟨g, j * sz, none⟩) (n - j) sz (xs.drop (j * sz)) := by
 have hm : n * sz ≤ cap * sz := Nat.mul_le_mul_right _ hn
 have hl : xs.length = n * sz := by rw [← hx, List.length_take, Array.length_toList, hcs]; omega
 refine ⟨by rw [List.length_drop, hl, Nat.sub_mul], ?_⟩
 rcases Nat.lt_or_ge j n with q | q
 ·refine .inr ⟨g, j * sz, if_neg (by omega), fun i u hi => ?_⟩
  rw [List.getElem?_drop, ← hx, List.getElem?_take] at hi
  rw [H.cells.1 (j * sz + i)]
  split at hi
  ·simpa using hi
  ·cases hi
 ·exact .inl (by omega)
theorem encs_drop {α : Type} {enc : α → List Value} {sz : Nat} (he : ∀ x, (enc x).length = sz) : ∀ (j : Nat) (l : List α), (encs enc l).drop (j * sz) = encs enc (l.drop j)
 | 0, l => by simp
 | j + 1, [] => by simp [encs]
 | j + 1, x :: l => by
  rw [encs_cons, List.drop_succ_cons, ← encs_drop he j l, Nat.add_mul, Nat.one_mul, Nat.add_comm, ← List.drop_drop, ← he x, List.drop_left]
theorem encs_take {α : Type} {enc : α → List Value} {sz : Nat} (he : ∀ x, (enc x).length = sz) : ∀ (j : Nat) (l : List α), (encs enc l).take (j * sz) = encs enc (l.take j)
 | 0, l => by simp [encs]
 | j + 1, [] => by simp [encs]
 | j + 1, x :: l => by
  rw [encs_cons, List.take_succ_cons, encs_cons, ← encs_take he j l, Nat.add_mul, Nat.one_mul, Nat.add_comm, ← he x, List.take_length_add_append]
theorem encs_append {α : Type} {enc : α → List Value} (a b : List α) : encs enc (a ++ b) = encs enc a ++ encs enc b := by simp [encs]
section
variable {P : Program} {ε w : World} {R : List Asn} {e t : TypeId} {sz bytes : Nat}
theorem run_append_moved (ty : TypeId) (ht : P.underlying t = some (.slice e)) (hel : elOk P e sz bytes = true) {g i cap m c : Nat} {cur : Array Value} {A : Option Addr} {news : List Value}
  (H : Own ε w (pts g (.cells cur e (0, 0)) :: R)) (hcap : cur.size = cap * sz) (hi : i ≤ cap) (hm : cap < i + m) (hs : srcAt w A m sz news) (h63 : i + m ≤ maxLen) (hb : (i + m) * bytes ≤ 140737488355328) :
  ∃ v' w', (Builtin.append_ #[t, t] ty #[.slice (some ⟨g, 0, none⟩) i cap, .slice A m c]).run P w = .ok v' w' ∧
   ∃ g' cap' cur', v' = .slice (some ⟨g', 0, none⟩) (i + m) cap' ∧ i + m ≤ cap' ∧ cap' ≤ maxLen ∧ cur'.size = cap' * sz ∧ cur'.toList.take ((i + m) * sz) = cur.toList.take (i * sz) ++ news ∧ Own ε w' (pts g' (.cells cur' e (0, 0)) :: pts g (.cells cur e (0, 0)) :: R) := by
 obtain ⟨z0, z, hinf, hsize, hby, hz, hzs⟩ := elOk_spec hel
 obtain ⟨hl, hs⟩ := hs
 obtain ⟨b, off, rfl, hc⟩ := hs.resolve_left (by omega)
 have hxl : (cur.toList.take (i * sz)).length = i * sz := by
  have : i * sz ≤ cap * sz := Nat.mul_le_mul_right _ hi
  rw [List.length_take, Array.length_toList, hcap]; omega
 have holds : ∀ j u, (cur.toList.take (i * sz))[j]? = some u → w.cell? ((⟨g, 0, none⟩ : Addr).add j) = some u := fun j u hj => by
  have hadd : (⟨g, 0, none⟩ : Addr).add j = ⟨g, j, none⟩ := by unfold Addr.add; split <;> simp_all
  rw [hadd, H.cells.1 j]
  rw [List.getElem?_take] at hj
  split at hj
  ·simpa using hj
  ·cases hj
 have hnews : ∀ j u, news[j]? = some u → w.cell? ((⟨b, off, none⟩ : Addr).add j) = some u := fun j u hj => by
  have hadd : (⟨b, off, none⟩ : Addr).add j = ⟨b, off + j, none⟩ := by unfold Addr.add; split <;> simp_all
  rw [hadd]
  exact hc j u hj
 have hsmall : i + m ≤ 9223372036854775807 := by simp only [maxLen] at h63; omega
 have hr := run_append_grow (P := P) (w := w) t ty e z0 z ht hinf hz ⟨g, 0, none⟩ i cap (cur.toList.take (i * sz)) (by rw [hsize]; exact hxl) holds ⟨b, off, none⟩ m c news (by rw [hsize]; exact hl) hnews hm (by omega) (by rw [hby]; exact growslice_fits hm hb)
 have hge := grownCap_ge w (i + m) cap e
 have hcm : grownCap w (i + m) cap e ≤ maxLen := grownCap_le_maxLen w (i + m) cap e h63
 refine ⟨_, _, hr, w.heap.size, grownCap w (i + m) cap e, _, rfl, hge, hcm, ?_, ?_, H.drew.alloc _⟩
 ·simp only [Array.size_append, List.size_toArray, size_zeroCells, hzs, hxl, hl, ← Nat.add_mul]
  congr 1
  omega
 ·have hlen : (cur.toList.take (i * sz) ++ news).length = (i + m) * sz := by rw [List.length_append, hxl, hl, Nat.add_mul]
  simp only [Array.toList_append, List.append_assoc]
  rw [← List.append_assoc, ← hlen]
  exact List.take_left
theorem run_append_zeros {u : TypeId} (ty : TypeId) (ht : P.underlying t = some (.slice e)) (hu : P.underlying u = some (.int .i64)) {i : TypeInfo} {z : Value} (hi : P.info? e = some i) (hz : i.zero = some z)
  (b : Addr) (sLen sCap : Nat) (olds : List Value) (hlo : olds.length = sLen * i.size) (holds : ∀ j v, olds[j]? = some v → w.cell? (b.add j) = some v) (n : Nat)
  (hg : sCap < sLen + n) (h63 : ((sLen + n : Nat) : Int) ≤ 9223372036854775807) (hnb : n * i.bytes ≤ 281474976710656) (hfit : Builtin.nextslicecap (sLen + n) sCap * i.bytes ≤ 281474976710656) :
  (Builtin.append_ #[t, u] ty #[.slice (some b) sLen sCap, .int .i64 (n : Int)]).run P w =
   .ok (.slice (some ⟨w.heap.size, 0, none⟩) (sLen + n) (grownCap w (sLen + n) sCap e))
    (w.drew.alloc (.cells (olds.toArray ++ (if n * i.size = 0 then #[] else Builtin.zeroCells z.cells n) ++ Builtin.zeroCells z.cells (grownCap w (sLen + n) sCap e - (sLen + n))) e)) := by
 have hn : ¬ (sLen + n ≤ sCap) := by omega
 have h63' : ¬ (9223372036854775807 < ((sLen : Int) + (n : Int))) := by omega
 have h48' : ¬ (281474976710656 < Builtin.nextslicecap (sLen + n) sCap * i.bytes) := by omega
 have hw : IntKind.i64.wrap (n : Int) = (n : Int) := by rw [IntKind.wrap_i64]; omega
 have h0 : ¬ ((n : Int) < 0) := by omega
 have hnb' : ¬ (281474976710656 < (n : Int) * (i.bytes : Int)) := by
  have : ((n * i.bytes : Nat) : Int) = (n : Int) * (i.bytes : Int) := Int.natCast_mul n i.bytes
  omega
 have hfo := run_firstCells_some (P := P) w.drew i.size sLen b sLen sCap olds hlo (by simpa using holds)
 by_cases hns : n * i.size = 0
 ·simp [Builtin.append_, run_underlying ht, run_underlying hu, sizeOf, typeInfo, zeroValue, hi, hz, asInt, asIntOf, hw, h0, hnb', hn, h63', h48', Question.forced, hfo, newRow, grownCap, hns]
 ·simp [Builtin.append_, run_underlying ht, run_underlying hu, sizeOf, typeInfo, zeroValue, hi, hz, asInt, asIntOf, hw, h0, hnb', hn, h63', h48', Question.forced, hfo, newRow, grownCap, hns]
theorem run_append_made {u : TypeId} (ty : TypeId) (ht : P.underlying t = some (.slice e)) (hu : P.underlying u = some (.int .i64)) (hel : elOk P e sz bytes = true) (hsz : 0 < sz) {g i cap m : Nat} {cur : Array Value}
  (H : Own ε w (pts g (.cells cur e (0, 0)) :: R)) (hcap : cur.size = cap * sz) (hi : i ≤ cap) (hm : cap < i + m) (h63 : i + m ≤ maxLen) (hb : (i + m) * bytes ≤ 140737488355328) :
  ∃ v' w', (Builtin.append_ #[t, u] ty #[.slice (some ⟨g, 0, none⟩) i cap, .int .i64 (m : Int)]).run P w = .ok v' w' ∧
   ∃ g' cap' cur', v' = .slice (some ⟨g', 0, none⟩) (i + m) cap' ∧ i + m ≤ cap' ∧ cap' ≤ maxLen ∧ cur'.size = cap' * sz ∧ cur'.toList.take (i * sz) = cur.toList.take (i * sz) ∧ Own ε w' (pts g' (.cells cur' e (0, 0)) :: pts g (.cells cur e (0, 0)) :: R) := by
 obtain ⟨z0, z, hinf, hsize, hby, hz, hzs⟩ := elOk_spec hel
 have hxl : (cur.toList.take (i * sz)).length = i * sz := by
  have : i * sz ≤ cap * sz := Nat.mul_le_mul_right _ hi
  rw [List.length_take, Array.length_toList, hcap]; omega
 have holds : ∀ j u, (cur.toList.take (i * sz))[j]? = some u → w.cell? ((⟨g, 0, none⟩ : Addr).add j) = some u := fun j u hj => by
  have hadd : (⟨g, 0, none⟩ : Addr).add j = ⟨g, j, none⟩ := by unfold Addr.add; split <;> simp_all
  rw [hadd, H.cells.1 j]
  rw [List.getElem?_take] at hj
  split at hj
  ·simpa using hj
  ·cases hj
 have hsmall : i + m ≤ 9223372036854775807 := by simp only [maxLen] at h63; omega
 have hmb : m * bytes ≤ 140737488355328 := Nat.le_trans (Nat.mul_le_mul_right _ (Nat.le_add_left m i)) hb
 have hr := run_append_zeros (P := P) (w := w) ty ht hu hinf hz ⟨g, 0, none⟩ i cap (cur.toList.take (i * sz)) (by rw [hsize]; exact hxl) holds m hm (by omega) (by rw [hby]; omega) (by rw [hby]; exact growslice_fits hm hb)
 have hge := grownCap_ge w (i + m) cap e
 have hcm : grownCap w (i + m) cap e ≤ maxLen := grownCap_le_maxLen w (i + m) cap e h63
 have hms : ¬ m * z0.size = 0 := by
  rw [hsize]
  have := Nat.mul_pos (show 0 < m by omega) hsz
  omega
 rw [if_neg hms] at hr
 refine ⟨_, _, hr, w.heap.size, grownCap w (i + m) cap e, _, rfl, hge, hcm, ?_, ?_, H.drew.alloc _⟩
 ·simp only [Array.size_append, List.size_toArray, size_zeroCells, hzs, hxl, ← Nat.add_mul]
  congr 1
  omega
 ·simp only [Array.toList_append, List.append_assoc]
  exact List.take_left' hxl
theorem wp_append_made {u : TypeId} {o : Oper} {a : Act} {K : Act → World → Prop} {Q : Exit → Act → World → Prop} (s x : Operand) (t : TypeId)
  (ho : o.op = .call { callee := .builtin .append, args := #[s, x], argTypes := #[t, u] }) (e : TypeId) (sz bytes : Nat) (ht : P.underlying t = some (.slice e)) (hu : P.underlying u = some (.int .i64)) (hel : elOk P e sz bytes = true) (hsz : 0 < sz)
  {g i cap m : Nat} {M : Int} {cur : Array Value} (hv : a.eval s = .slice (some ⟨g, 0, none⟩) i cap) (hx : a.eval x = .int .i64 M) (hM : M = (m : Int))
  (H : Own ε w (pts g (.cells cur e (0, 0)) :: R)) (hcap : cur.size = cap * sz) (hi : i ≤ cap) (hm : cap < i + m) (h63 : i + m ≤ maxLen) (hb : (i + m) * bytes ≤ 140737488355328)
  (h : ∀ g' cap' cur' w', i + m ≤ cap' → cap' ≤ maxLen → cur'.size = cap' * sz → cur'.toList.take (i * sz) = cur.toList.take (i * sz) → Own ε w' (pts g' (.cells cur' e (0, 0)) :: pts g (.cells cur e (0, 0)) :: R) → K (a.put o.dst (.slice (some ⟨g', 0, none⟩) (i + m) cap')) w') : o.wp P a w K Q := by
 subst hM
 obtain ⟨v', w', hr, g', cap', cur', rfl, h1, h2, h3, h4, h5⟩ := run_append_made (P := P) o.type ht hu hel hsz H hcap hi hm h63 hb
 unfold Oper.wp execOp
 simp only [ho, resolve, invoke, builtin, Sem.run_bind, Sem.run_pure, Result.andThen_ok, List.map_toArray, List.map_cons, List.map_nil, hv, hx, hr]
 exact h g' cap' cur' w' h1 h2 h3 h4 h5
theorem run_append_in (ty : TypeId) (ht : P.underlying t = some (.slice e)) (hel : elOk P e sz bytes = true) {g i cap m c : Nat} {cur : Array Value} {A : Option Addr} {news : List Value}
  (H : Own ε w (pts g (.cells cur e (0, 0)) :: R)) (hcap : cur.size = cap * sz) (hm : i + m ≤ cap) (hs : srcAt w A m sz news) (h1 : ∀ u ∈ news, u.oneCell' = true) (hA : A ≠ none) :
  ∃ w', (Builtin.append_ #[t, t] ty #[.slice (some ⟨g, 0, none⟩) i cap, .slice A m c]).run P w = .ok (.slice (some ⟨g, 0, none⟩) (i + m) cap) w' ∧
   Own ε w' (pts g (.cells (cur.toList.take (i * sz) ++ news ++ cur.toList.drop (i * sz + news.length)).toArray e (0, 0)) :: R) := by
 obtain ⟨z0, z, hinf, hsize, hby, hz, hzs⟩ := elOk_spec hel
 obtain ⟨hl, hs⟩ := hs
 have key : ∀ (a : Addr), A = some a → (∀ j u, news[j]? = some u → w.cell? (a.add j) = some u) → ∃ w', (Builtin.append_ #[t, t] ty #[.slice (some ⟨g, 0, none⟩) i cap, .slice A m c]).run P w = .ok (.slice (some ⟨g, 0, none⟩) (i + m) cap) w' ∧
   Own ε w' (pts g (.cells (cur.toList.take (i * sz) ++ news ++ cur.toList.drop (i * sz + news.length)).toArray e (0, 0)) :: R) := by
  intro a ha hnews
  subst ha
  have hg := H.blk
  have hfit : i * z0.size + news.length ≤ cur.size := by rw [hl, hcap, hsize, ← Nat.add_mul]; exact Nat.mul_le_mul_right _ hm
  have hr := run_append_room (P := P) w t ty e z0 ht hinf g i cap cur hg a m c news (by rw [hsize]; exact hl) hnews h1 hm hfit
  rw [hsize] at hr
  exact ⟨_, hr, H.put rfl rfl rfl (setRow_heap w g cur _ e _ hg) (fun k _ hk => setRow_other w g k _ hk)⟩
 rcases hs with rfl | ⟨b, off, rfl, hc⟩
 ·have hn0 : news = [] := List.eq_nil_of_length_eq_zero (by simpa using hl)
  subst hn0
  cases A with
  | some a => exact key a rfl (fun j u hj => by simp at hj)
  | none => exact absurd rfl hA
 ·refine key _ rfl (fun j u hj => ?_)
  have hadd : (⟨b, off, none⟩ : Addr).add j = ⟨b, off + j, none⟩ := by unfold Addr.add; split <;> simp_all
  rw [hadd]
  exact hc j u hj
theorem wp_append_in {o : Oper} {a : Act} {K : Act → World → Prop} {Q : Exit → Act → World → Prop} (s x : Operand) (t : TypeId)
  (ho : o.op = .call { callee := .builtin .append, args := #[s, x], argTypes := #[t, t] }) (e : TypeId) (sz bytes : Nat) (ht : P.underlying t = some (.slice e)) (hel : elOk P e sz bytes = true)
  {g i cap m c : Nat} {cur : Array Value} {A : Option Addr} (news : List Value) (hv : a.eval s = .slice (some ⟨g, 0, none⟩) i cap) (hx : a.eval x = .slice A m c)
  (H : Own ε w (pts g (.cells cur e (0, 0)) :: R)) (hcap : cur.size = cap * sz) (hm : i + m ≤ cap) (hs : srcAt w A m sz news) (h1 : ∀ u ∈ news, u.oneCell' = true) (hA : A ≠ none)
  (h : ∀ w', Own ε w' (pts g (.cells (cur.toList.take (i * sz) ++ news ++ cur.toList.drop (i * sz + news.length)).toArray e (0, 0)) :: R) → K (a.put o.dst (.slice (some ⟨g, 0, none⟩) (i + m) cap)) w') : o.wp P a w K Q := by
 obtain ⟨w', hr, h2⟩ := run_append_in (P := P) (c := c) o.type ht hel H hcap hm hs h1 hA
 unfold Oper.wp execOp
 simp only [ho, resolve, invoke, builtin, Sem.run_bind, Sem.run_pure, Result.andThen_ok, List.map_toArray, List.map_cons, List.map_nil, hv, hx, hr]
 exact h w' h2
theorem run_clear_pts (ty : TypeId) (ht : P.underlying t = some (.slice e)) {z : Value} (hz : ∀ w : World, (zeroValue e).run P w = .ok z w) (hz1 : ∀ u ∈ z.cells.toList, u.oneCell' = true) {g off m c : Nat} {cur : Array Value}
  (H : Own ε w (pts g (.cells cur e (0, 0)) :: R)) (hfit : off + m * z.cells.size ≤ cur.size) :
  ∃ w', (Builtin.clear_ #[t] ty #[.slice (some ⟨g, off, none⟩) m c]).run P w = .ok (.tuple #[]) w' ∧ ∃ cur' : Array Value, cur'.size = cur.size ∧ cur'.toList.take off = cur.toList.take off ∧ Own ε w' (pts g (.cells cur' e (0, 0)) :: R) := by
 by_cases h0 : m = 0
 ·subst h0
  refine ⟨w, ?_, cur, rfl, rfl, H⟩
  simp [Builtin.clear_, run_underlying ht]
 ·have hall : ∀ u ∈ (Builtin.zeroCells z.cells m).toList, u.oneCell' = true := fun u hu => by
   simp only [Builtin.zeroCells, Array.toList_map, List.mem_map] at hu
   obtain ⟨i, hi, rfl⟩ := hu
   rcases Nat.eq_zero_or_pos z.cells.size with q | q
   ·rw [q] at hi
    simp at hi
   ·rw [getElem!_pos z.cells _ (Nat.mod_lt _ q)]
    exact hz1 _ (Array.getElem_mem_toList _)
  have hlen : (Builtin.zeroCells z.cells m).toList.length = m * z.cells.size := by rw [Array.length_toList, size_zeroCells]
  have hg := H.blk
  have hst := run_storeCells_at P g off e (Builtin.zeroCells z.cells m).toList 0 cur w hg (by rw [hlen]; simpa using hfit) hall
  simp only [Nat.add_zero] at hst
  have H2 : Own ε (w.setRow g (cur.toList.take off ++ (Builtin.zeroCells z.cells m).toList ++ cur.toList.drop (off + (Builtin.zeroCells z.cells m).toList.length)).toArray) (pts g (.cells (cur.toList.take off ++ (Builtin.zeroCells z.cells m).toList ++ cur.toList.drop (off + (Builtin.zeroCells z.cells m).toList.length)).toArray e (0, 0)) :: R) :=
   H.put rfl rfl rfl (setRow_heap w g cur _ e _ hg) (fun k _ hk => setRow_other w g k _ hk)
  refine ⟨_, ?_, _, ?_, ?_, H2⟩
  ·obtain ⟨m', rfl⟩ : ∃ m', m = m' + 1 := ⟨m - 1, by omega⟩
   simp [Builtin.clear_, run_underlying ht, hz, hst]
  ·rw [List.size_toArray, List.length_append, List.length_append, List.length_take, List.length_drop, Array.length_toList, hlen]
   omega
  ·have : (cur.toList.take off).length = off := by rw [List.length_take, Array.length_toList]; omega
   simp only [List.append_assoc]
   exact List.take_left' this
theorem wp_clear_pts {o : Oper} {a : Act} {K : Act → World → Prop} {Q : Exit → Act → World → Prop} (s : Operand) (t : TypeId) (ho : o.op = .call { callee := .builtin .clear, args := #[s], argTypes := #[t] }) (e : TypeId) (ht : P.underlying t = some (.slice e))
  {z : Value} (hz : ∀ w : World, (zeroValue e).run P w = .ok z w) (hz1 : ∀ u ∈ z.cells.toList, u.oneCell' = true) {g off m c : Nat} {cur : Array Value} (hv : a.eval s = .slice (some ⟨g, off, none⟩) m c)
  (H : Own ε w (pts g (.cells cur e (0, 0)) :: R)) (hfit : off + m * z.cells.size ≤ cur.size)
  (h : ∀ cur' w', cur'.size = cur.size → cur'.toList.take off = cur.toList.take off → Own ε w' (pts g (.cells cur' e (0, 0)) :: R) → K (a.put o.dst (.tuple #[])) w') : o.wp P a w K Q := by
 obtain ⟨w', hr, cur', h1, h2, h3⟩ := run_clear_pts (P := P) (c := c) o.type ht hz hz1 H hfit
 unfold Oper.wp execOp
 simp only [ho, resolve, invoke, builtin, Sem.run_bind, Sem.run_pure, Result.andThen_ok, List.map_toArray, List.map_cons, List.map_nil, hv, hr]
 exact h cur' w' h1 h2 h3
theorem wpList_append_made {u : TypeId} {ops : Array Oper} {rest : List Oper} {o : Oper} {a : Act} {Q : Exit → Act → World → Prop} (hgd : o.guard = none) (s x : Operand) (t : TypeId)
  (ho : o.op = .call { callee := .builtin .append, args := #[s, x], argTypes := #[t, u] }) (e : TypeId) (sz bytes : Nat) (ht : P.underlying t = some (.slice e)) (hu : P.underlying u = some (.int .i64)) (hel : elOk P e sz bytes = true) (hsz : 0 < sz)
  {g i cap m : Nat} {M : Int} {cur : Array Value} (hv : a.eval s = .slice (some ⟨g, 0, none⟩) i cap) (hx : a.eval x = .int .i64 M) (hM : M = (m : Int))
  (H : Own ε w (pts g (.cells cur e (0, 0)) :: R)) (hcap : cur.size = cap * sz) (hi : i ≤ cap) (hm : cap < i + m) (h63 : i + m ≤ maxLen) (hb : (i + m) * bytes ≤ 140737488355328)
  (h : ∀ g' cap' cur' w', i + m ≤ cap' → cap' ≤ maxLen → cur'.size = cap' * sz → cur'.toList.take (i * sz) = cur.toList.take (i * sz) → Own ε w' (pts g' (.cells cur' e (0, 0)) :: pts g (.cells cur e (0, 0)) :: R) → wpList P ops Q rest (a.put o.dst (.slice (some ⟨g', 0, none⟩) (i + m) cap')) w') : wpList P ops Q (o :: rest) a w :=
 wpList_plain hgd fun _ hK => wp_append_made s x t ho e sz bytes ht hu hel hsz hv hx hM H hcap hi hm h63 hb fun g' cap' cur' w' h1 h2 h3 h4 h5 => hK _ _ (h g' cap' cur' w' h1 h2 h3 h4 h5)
theorem wpList_clear_pts {ops : Array Oper} {rest : List Oper} {o : Oper} {a : Act} {Q : Exit → Act → World → Prop} (hgd : o.guard = none) (s : Operand) (t : TypeId) (ho : o.op = .call { callee := .builtin .clear, args := #[s], argTypes := #[t] }) (e : TypeId) (ht : P.underlying t = some (.slice e))
  {z : Value} (hz : ∀ w : World, (zeroValue e).run P w = .ok z w) (hz1 : ∀ u ∈ z.cells.toList, u.oneCell' = true) {g off m c : Nat} {cur : Array Value} (hv : a.eval s = .slice (some ⟨g, off, none⟩) m c)
  (H : Own ε w (pts g (.cells cur e (0, 0)) :: R)) (hfit : off + m * z.cells.size ≤ cur.size)
  (h : ∀ cur' w', cur'.size = cur.size → cur'.toList.take off = cur.toList.take off → Own ε w' (pts g (.cells cur' e (0, 0)) :: R) → wpList P ops Q rest (a.put o.dst (.tuple #[])) w') : wpList P ops Q (o :: rest) a w :=
 wpList_plain hgd fun _ hK => wp_clear_pts s t ho e ht hz hz1 hv H hfit fun cur' w' h1 h2 h3 => hK _ _ (h cur' w' h1 h2 h3)
theorem stop_clear {P : Program} {ops : Array Oper} {Q : Exit → Act → World → Prop} {rest : List Oper} {a : Act} {w : World} {d : Option Tmp} {ty : TypeId} {pos : String} {aft : Array Edge} {g : Option (Tmp × Bool)} {xs : Array Operand} {ts : Array TypeId} (h : Stop (wpList P ops Q (⟨d, .call { callee := .builtin .clear, args := xs, argTypes := ts }, ty, pos, aft, g⟩ :: rest) a w)) : wpList P ops Q (⟨d, .call { callee := .builtin .clear, args := xs, argTypes := ts }, ty, pos, aft, g⟩ :: rest) a w := h
end
end Go.Proofs.YtmkcpnlbicijoaaGreat
