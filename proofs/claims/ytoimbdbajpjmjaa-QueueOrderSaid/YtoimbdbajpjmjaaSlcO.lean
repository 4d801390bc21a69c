/- Slices of items of one cell that begin anywhere in their block. -/
import Derived.Test.YtoimbdbajpjmjaaEv
import Derived.ArgAppend
namespace Go.Proofs.Ytoimbdbajpjmjaa
open Go.RowKit
def slcO (T : TypeId) (v : Value) (xs : List Value) : Asn := fun h =>
  (v = .slice none 0 0 ∧ xs = []) ∨ ∃ g off n cap cur, v = .slice (some ⟨g, off, none⟩) n cap ∧ n ≤ cap ∧ cap ≤ maxLen ∧ off + cap ≤ cur.size ∧ xs.length = n ∧ (cur.toList.drop off).take n = xs ∧ pts g (.cells cur T (0, 0)) h
section
variable {ε w : World} {R : List Asn} {T : TypeId} {v : Value} {xs : List Value}
theorem Own.slco_none (H : Own ε w R) : Own ε w (slcO T (.slice none 0 0) [] :: R) := by
  obtain ⟨e, h, a, b⟩ := H
  exact ⟨e, h, ⟨fun _ => none, h, .inl ⟨rfl, rfl⟩, a, fun _ => .inl rfl, fun k => rfl⟩, b⟩
theorem Own.slco_open (H : Own ε w (slcO T v xs :: R)) : (v = .slice none 0 0 ∧ xs = [] ∧ Own ε w R) ∨
    ∃ g off n cap cur, v = .slice (some ⟨g, off, none⟩) n cap ∧ n ≤ cap ∧ cap ≤ maxLen ∧ off + cap ≤ cur.size ∧ xs.length = n ∧ (cur.toList.drop off).take n = xs ∧ Own ε w (pts g (.cells cur T (0, 0)) :: R) := by
  have Ht := H.tail
  obtain ⟨e, h, ⟨h1, h2, a, b, d, q⟩, s⟩ := H
  rcases a with ⟨rfl, rfl⟩ | ⟨g, off, n, cap, cur, rfl, h3, h4, h5, h6, h7, h8⟩
  · exact .inl ⟨rfl, rfl, Ht⟩
  · exact .inr ⟨g, off, n, cap, cur, rfl, h3, h4, h5, h6, h7, e, h, ⟨h1, h2, h8, b, d, q⟩, s⟩
theorem Own.slco_mk {g off n cap : Nat} {cur : Array Value} (H : Own ε w (pts g (.cells cur T (0, 0)) :: R)) (h3 : n ≤ cap) (h4 : cap ≤ maxLen) (h5 : off + cap ≤ cur.size) (h6 : xs.length = n) (h7 : (cur.toList.drop off).take n = xs) :
    Own ε w (slcO T (.slice (some ⟨g, off, none⟩) n cap) xs :: R) := H.imp fun _ x => .inr ⟨g, off, n, cap, cur, rfl, h3, h4, h5, h6, h7, x⟩
theorem Own.slco_nil {g off cap : Nat} {cur : Array Value} (H : Own ε w (pts g (.cells cur T (0, 0)) :: R)) (h4 : cap ≤ maxLen) (h5 : off + cap ≤ cur.size) :
    Own ε w (slcO T (.slice (some ⟨g, off, none⟩) 0 cap) [] :: R) := H.slco_mk (Nat.zero_le _) h4 h5 rfl rfl
theorem Own.slco_val (H : Own ε w (slcO T v xs :: R)) : ∃ A n c, v = .slice A n c ∧ xs.length = n ∧ ∀ j u, xs[j]? = some u → ∃ g off, A = some ⟨g, off, none⟩ ∧ w.cell? ⟨g, off + j, none⟩ = some u := by
  rcases H.slco_open with ⟨rfl, rfl, _⟩ | ⟨g, off, n, cap, cur, rfl, _, _, _, h4, h5, H'⟩
  · exact ⟨none, 0, 0, rfl, rfl, fun j u hj => by simp at hj⟩
  · refine ⟨_, n, cap, rfl, h4, fun j u hj => ⟨g, off, rfl, ?_⟩⟩
    rw [H'.cells.1]
    rw [← h5, List.getElem?_take] at hj
    split at hj
    · rw [List.getElem?_drop] at hj
      simpa using hj
    · cases hj
theorem at_slco {cur : Array Value} {off n : Nat} (h7 : (cur.toList.drop off).take n = xs) (j : Nat) (u : Value) (hj : xs[j]? = some u) : cur[off + j]? = some u := by
  rw [← h7, List.getElem?_take] at hj
  split at hj
  · rw [List.getElem?_drop] at hj
    simpa using hj
  · cases hj
theorem Own.slco_tail {g off n d : Nat} {x : Value} (H : Own ε w (slcO T (.slice (some ⟨g, off, none⟩) (n + 1) d) (x :: xs) :: R)) : Own ε w (slcO T (.slice (some ⟨g, off + 1, none⟩) n (d - 1)) xs :: R) ∧ (d = 1 → xs = [] ∧ n = 0 ∧ Own ε w (slcO T (.slice (some ⟨g, off, none⟩) 0 0) [] :: R)) := by
  rcases H.slco_open with ⟨e, _⟩ | ⟨g', off', n', cap, cur, e, h1, h2, h3, h4, h5, H'⟩
  · cases e
  · cases e
    simp only [List.length_cons] at h4
    refine ⟨H'.slco_mk (by omega) (by omega) (by omega) (by omega) ?_, fun hd => ⟨List.eq_nil_of_length_eq_zero (by omega), by omega, H'.slco_nil (by simp [maxLen]) (by omega)⟩⟩
    have e2 := congrArg (List.drop 1) h5
    rw [List.drop_take, List.drop_drop] at e2
    simpa using e2
end
section
variable {P : Program} {ε w : World} {R : List Asn} {e : TypeId} {v : Value} {xs : List Value}
theorem run_append_slco (t ty : TypeId) (bytes : Nat) (ht : P.underlying t = some (.slice e)) (hel : elOk P e 1 bytes = true) {sb c : Nat} {u : Value} {T : TypeId} (H : Own ε w (slcO e v xs :: pts sb (.cells #[u] T (0, 0)) :: R)) {n : Nat} (hn : xs.length = n)
    (h1 : u.oneCell' = true) (h63 : n + 1 ≤ maxLen) (hb : (n + 1) * bytes ≤ 140737488355328) :
    ∃ v' w', (Builtin.append_ #[t, t] ty #[v, .slice (some ⟨sb, 0, none⟩) 1 c]).run P w = .ok v' w' ∧ Own ε w' (slcO e v' (xs ++ [u]) :: R) := by
  obtain ⟨i, z, hi, hsize, hby, hz, hzs⟩ := elOk_spec hel
  have hcu : w.cell? ⟨sb, 0, none⟩ = some u := H.r2.cells.1 0
  have hnews : ∀ j x, [u][j]? = some x → w.cell? ((⟨sb, 0, none⟩ : Addr).add j) = some x := fun j x hj => by
    cases j with
    | zero => simp at hj; subst hj; exact hcu
    | succ j => simp at hj
  have hl : [u].length = 1 * i.size := by rw [hsize]; rfl
  have h1' : ∀ x ∈ [u], x.oneCell' = true := fun x hx => by rw [List.mem_singleton.1 hx]; exact h1
  have grown : ∀ old, old < n + 1 → Own ε (w.drew.alloc (.cells ((xs ++ [u]).toArray ++ Builtin.zeroCells z.cells (grownCap w (n + 1) old e - (n + 1))) e))
      (slcO e (.slice (some ⟨w.heap.size, 0, none⟩) (n + 1) (grownCap w (n + 1) old e)) (xs ++ [u]) :: R) := by
    intro old _
    have hge := grownCap_ge w (n + 1) old e
    have hcm : grownCap w (n + 1) old e ≤ maxLen := grownCap_le_maxLen w (n + 1) old e h63
    have hlen : (xs ++ [u]).length = n + 1 := by simp [hn]
    refine (H.tail.tail.drew.alloc _).slco_mk hge hcm ?_ hlen ?_
    · simp only [Array.size_append, List.size_toArray, size_zeroCells, hzs, hlen, Nat.mul_one]
      omega
    · simp only [Array.toList_append, List.drop_zero]
      rw [← hlen]
      exact List.take_left
  rcases H.slco_open with ⟨rfl, rfl, H'⟩ | ⟨g, off, n', cap, cur, rfl, hnc, hcm, hcs, hxl, htake, H'⟩
  · obtain rfl : n = 0 := by simpa using hn.symm
    have hr := run_append_nil (P := P) (w := w) t ty e i z ht hi hz ⟨sb, 0, none⟩ 1 c [u] hl hnews (by omega) (by simp only [maxLen] at h63; omega) (by rw [hby]; have := hb; simp only [Nat.zero_add] at this; omega)
    have hgr := grown 0 (by omega)
    simp only [Nat.zero_add, List.nil_append] at hgr hr ⊢
    exact ⟨_, _, hr, hgr⟩
  · obtain rfl : n' = n := hxl.symm.trans hn
    by_cases hroom : n' + 1 ≤ cap
    · have hlt : off + n' < cur.size := by omega
      have hc := H'.cells
      have hr := run_append_room_cells (P := P) (w := w) t ty e i ht hi g off n' cap ⟨sb, 0, none⟩ 1 c [u] hl hnews h1' hroom
        (fun j hj => by
          obtain rfl : j = 0 := by simpa using hj
          rw [hsize, hc.1]; simp; omega) (fun j _ => hc.2 _)
      rw [hsize, Nat.mul_one] at hr
      refine ⟨_, _, hr, ?_⟩
      have H2 := H'.set (off + n') u
      refine (H2.slco_mk (xs := xs ++ [u]) hroom hcm (by simpa using hcs) (by simp [hxl]) ?_).imp (fun _ x => x) |> fun K => (Own.pm K (Pm.here (Pm.skip (Pm.refl _))))
      have hlen2 : (cur.toList.drop off).length ≥ n' + 1 := by simp; omega
      have e1 : (cur.setIfInBounds (off + n') u).toList.drop off = (cur.toList.drop off).set n' u := by
        rw [Array.toList_setIfInBounds, List.drop_set, if_neg (by omega), show off + n' - off = n' by omega]
      rw [e1, List.take_succ_eq_append_getElem (by simp; omega), List.take_set_of_le (Nat.le_refl _), htake]
      simp
    · have holds : ∀ j x, xs[j]? = some x → w.cell? ((⟨g, off, none⟩ : Addr).add j) = some x := fun j x hj => by
        have hx := at_slco htake j x hj
        by_cases hj0 : j = 0
        · subst hj0; show w.cell? ⟨g, off, none⟩ = _; rw [H'.cells.1]; simpa using hx
        · have hadd : (⟨g, off, none⟩ : Addr).add j = ⟨g, off + j, none⟩ := by unfold Addr.add; rw [if_neg hj0]
          rw [hadd, H'.cells.1]; exact hx
      have hr := run_append_grow (P := P) (w := w) t ty e i z ht hi hz ⟨g, off, none⟩ n' cap xs (by rw [hsize, Nat.mul_one]; exact hn) holds ⟨sb, 0, none⟩ 1 c [u] hl hnews (by omega) (by simp only [maxLen] at h63; omega) (by rw [hby]; exact growslice_fits (by omega) hb)
      have hgr := grown cap (by omega)
      rw [show (xs ++ [u]).toArray = xs.toArray ++ #[u] by simp] at hgr
      exact ⟨_, _, hr, hgr⟩
theorem wpList_app_slco {ops : Array Oper} {rest : List Oper} {o : Oper} {a : Act} {Q : Exit → Act → World → Prop} (hgd : o.guard = none) (s x : Operand) (t : TypeId)
    (ho : o.op = .call { callee := .builtin .append, args := #[s, x], argTypes := #[t, t] }) (e : TypeId) (bytes : Nat) (ht : P.underlying t = some (.slice e)) (hel : elOk P e 1 bytes = true) {sb c : Nat} {u : Value} {T : TypeId} (n : Nat)
    (hv : a.eval s = v) (hx : a.eval x = .slice (some ⟨sb, 0, none⟩) 1 c) (H : Own ε w (slcO e v xs :: pts sb (.cells #[u] T (0, 0)) :: R)) (hn : xs.length = n) (h1 : u.oneCell' = true) (h63 : n + 1 ≤ maxLen) (hb : (n + 1) * bytes ≤ 140737488355328)
    (h : ∀ v' w', Own ε w' (slcO e v' (xs ++ [u]) :: R) → wpList P ops Q rest (a.put o.dst v') w') : wpList P ops Q (o :: rest) a w := by
  refine wpList_plain hgd fun K hK => ?_
  obtain ⟨v', w', hr, h2⟩ := run_append_slco (P := P) (c := c) t o.type bytes ht hel H hn h1 h63 hb
  unfold Oper.wp execOp
  simp only [ho, resolve, invoke, builtin, Sem.run_bind, Sem.run_pure, Result.andThen_ok, List.map_toArray, List.map_cons, List.map_nil, hv, hx, hr]
  exact hK _ _ (h v' w' h2)
end
end Go.Proofs.Ytoimbdbajpjmjaa
