/- seqs: ranges that may not be put. -/
import Derived.Test.YtmkcpnlbicijoaaGreatSeq4
namespace Go.Proofs.YtmkcpnlbicijoaaGreat
open Go.RowKit
theorem wpList_append_in {P : Program} {ε w : World} {R : List Asn} {ops : Array Oper} {rest : List Oper} {o : Oper} {a : Act} {Q : Exit → Act → World → Prop} (hgd : o.guard = none) (s x : Operand) (t : TypeId)
  (ho : o.op = .call { callee := .builtin .append, args := #[s, x], argTypes := #[t, t] }) (e : TypeId) (sz bytes : Nat) (ht : P.underlying t = some (.slice e)) (hel : elOk P e sz bytes = true)
  {g i cap m c : Nat} {cur : Array Value} {A : Option Addr} (news : List Value) (hv : a.eval s = .slice (some ⟨g, 0, none⟩) i cap) (hx : a.eval x = .slice A m c)
  (H : Own ε w (pts g (.cells cur e (0, 0)) :: R)) (hcap : cur.size = cap * sz) (hm : i + m ≤ cap) (hs : srcAt w A m sz news) (h1 : ∀ u ∈ news, u.oneCell' = true) (hA : A ≠ none)
  (h : ∀ w', Own ε w' (pts g (.cells (cur.toList.take (i * sz) ++ news ++ cur.toList.drop (i * sz + news.length)).toArray e (0, 0)) :: R) → wpList P ops Q rest (a.put o.dst (.slice (some ⟨g, 0, none⟩) (i + m) cap)) w') : wpList P ops Q (o :: rest) a w :=
 wpList_plain hgd fun _ hK => wp_append_in s x t ho e sz bytes ht hel news hv hx H hcap hm hs h1 hA fun w' h2 => hK _ _ (h w' h2)
theorem wpList_clear_none {P : Program} {w : World} {ops : Array Oper} {rest : List Oper} {o : Oper} {a : Act} {Q : Exit → Act → World → Prop} {e : TypeId} {ad : Addr} {c : Nat} (hgd : o.guard = none) (s : Operand) (t : TypeId) (ho : o.op = .call { callee := .builtin .clear, args := #[s], argTypes := #[t] }) (ht : P.underlying t = some (.slice e))
  (hv : a.eval s = .slice (some ad) 0 c) (h : wpList P ops Q rest (a.put o.dst (.tuple #[])) w) : wpList P ops Q (o :: rest) a w :=
 wpList_plain hgd fun _ hK => by
  have hr : (Builtin.clear_ #[t] o.type #[.slice (some ad) 0 c]).run P w = .ok (.tuple #[]) w := by simp [Builtin.clear_, run_underlying ht]
  unfold Oper.wp execOp
  simp only [ho, resolve, invoke, builtin, Sem.run_bind, Sem.run_pure, Result.andThen_ok, List.map_toArray, List.map_cons, List.map_nil, hv, hr]
  exact hK _ _ h
theorem laid_facts {cur : Array Value} {l : List Rg} {n cap i : Nat} {x : Rg} (hcs : cur.size = cap * 2) (hnc : n ≤ cap) (hi : i < n) (hxt : cur.toList.take (n * 2) = encs encRg l) :
  ∃ c1, c1 = cur.toList.take (i * 2) ++ encs encRg [x] ++ cur.toList.drop (i * 2 + (encs encRg [x]).length) ∧ c1.length = cap * 2 ∧ c1.take ((i + 1) * 2) = encs encRg (l.take i) ++ encs encRg [x] ∧
   ∀ j, i + 1 ≤ j → (c1.take (n * 2)).drop (j * 2) = encs encRg (l.drop j) := by
 have hx2 : (encs encRg [x]).length = 2 := rfl
 have ha : (cur.toList.take (i * 2)).length = i * 2 := by rw [List.length_take, Array.length_toList, hcs]; omega
 have hti : cur.toList.take (i * 2) = encs encRg (l.take i) := by
  rw [← encs_take encRg_len, ← hxt, List.take_take]
  congr 1
  omega
 refine ⟨_, rfl, ?_, ?_, fun j hj => ?_⟩
 ·rw [List.length_append, List.length_append, ha, hx2, List.length_drop, Array.length_toList, hcs]
  omega
 ·rw [← hti]
  exact List.take_left' (by rw [List.length_append, ha, hx2]; omega)
 ·rw [← encs_drop encRg_len, ← hxt, List.drop_take, List.drop_take, List.append_assoc, List.drop_append, ha, List.drop_of_length_le (by rw [ha]; omega), List.nil_append, List.drop_append, hx2, List.drop_of_length_le (by rw [hx2]; omega), List.nil_append, List.drop_drop]
  congr 2
  omega
section
variable (ε w : World) (R : List Asn)
set_option maxRecDepth 100000 in
set_option maxHeartbeats 6400000 in
theorem seqReplace_c (v : Value) (l : List Rg) (i j : Nat) (hij : i ≤ j) (hj : j ≤ l.length) (hm : l.length ≤ 1000000) (x : Rg) (xb : Nat) (H : Own ε w (slc 55 2 v (encs encRg l) :: pts xb (.cells #[.int .u64 x.1, .int .u64 x.2] 55 (0, 0)) :: R)) :
  Calls Tryz.prog 129 #[v, .int .i64 (i : Int), .int .i64 (j : Int), .slice (some ⟨xb, 0, none⟩) 1 1] w fun e w' => ∃ v', e = .returned v' ∧ Own ε w' (slc 55 2 v' (encs encRg (l.take i ++ x :: l.drop j)) :: R) := by
 have HH := Lib.hid H; clear H
 rcases HH.out.slc_open with ⟨rfl, hx, _⟩ | ⟨g, n, cap, cur, rfl, hnc, hcm, hcs, hxl, hxt, H2⟩
 ·have hl0 : l.length = 0 := by have := encs_len encRg_len l; rw [hx] at this; simp at this; omega
  obtain rfl : l = [] := List.eq_nil_of_length_eq_zero hl0
  obtain rfl : j = 0 := by simpa using hj
  obtain rfl : i = 0 := by omega
  clear hx hl0 hij hj hm
  go_enter Tryz.func129, Tryz.ntmps129
  go_wp2_with fail
  refine (seqInsert_c ε _ _ (.slice none 0 0) [] 0 (Nat.le_refl _) (by simp) x xb HH.out).mono ?_
  rintro e w1_ ⟨v', rfl, H9_⟩
  replace HH := Lib.hid H9_
  clear H9_
  go_wp2_with fail
  go_ret
  exact ⟨v', rfl, HH.out⟩
 ·rw [encs_len encRg_len] at hxl
  have hnl : l.length = n := by omega
  by_cases hij2 : i = j
  ·subst hij2
   have hi := hj
   rw [hnl] at hj
   clear hxt hcs hcm H2 hxl hij
   replace hi := Lib.hid hi
   replace hm := Lib.hid hm
   replace hnl := Lib.hid hnl
   by_cases hci : cap = i
   ·obtain rfl : n = i := by omega
    subst hci
    clear hnc hj
    go_enter Tryz.func129, Tryz.ntmps129
    go_wp2_with fail
    refine (seqInsert_c ε _ _ _ l cap hi.out hm.out x xb HH.out).mono ?_
    rintro e w2_ ⟨v', rfl, H9_⟩
    replace HH := Lib.hid H9_
    clear H9_
    go_wp2_with fail
    go_ret
    exact ⟨v', rfl, HH.out⟩
   ·go_enter Tryz.func129, Tryz.ntmps129
    go_wp2_with fail
    refine (seqInsert_c ε _ _ _ l i hi.out hm.out x xb HH.out).mono ?_
    rintro e w3_ ⟨v', rfl, H9_⟩
    replace HH := Lib.hid H9_
    clear H9_
    go_wp2_with fail
    go_ret
    exact ⟨v', rfl, HH.out⟩
  ·have hlt : i < j := by omega
   have hn6 : n ≤ 1000000 := by omega
   rw [hnl] at hj
   have hci : ¬ cap = i := by omega
   have hw3 : IntKind.i64.wrap ((i : Int) + 1) = (i : Int) + 1 := by rw [IntKind.wrap_i64]; omega
   clear HH
   have HH := Lib.hid H2
   clear H2 hm hxl hij
   obtain ⟨c1, hc1, c1l, c1t, c1d⟩ := laid_facts (x := x) hcs hnc (show i < n by omega) hxt
   have htl : (encs encRg (l.take i)).length = i * 2 := by rw [encs_len encRg_len, List.length_take]; omega
   have hdl : (encs encRg (l.drop j)).length = (n - j) * 2 := by rw [encs_len encRg_len, List.length_drop]; omega
   have hsplit : encs encRg (l.take i ++ x :: l.drop j) = encs encRg (l.take i) ++ encs encRg [x] ++ encs encRg (l.drop j) := by
    rw [show l.take i ++ x :: l.drop j = l.take i ++ [x] ++ l.drop j by simp, encs_append, encs_append]
   have hfin : (encs encRg (l.take i ++ x :: l.drop j)).length = (i + 1 + (n - j)) * 2 := by rw [hsplit, List.length_append, List.length_append, htl, hdl, encsRg_x]; simp only [List.length_cons, List.length_nil]; omega
   replace hcm := Lib.hid hcm
   replace hcs := Lib.hid hcs
   replace hxt := Lib.hid hxt
   replace hc1 := Lib.hid hc1
   replace c1l := Lib.hid c1l
   replace c1t := Lib.hid c1t
   replace c1d := Lib.hid c1d
   replace htl := Lib.hid htl
   replace hdl := Lib.hid hdl
   replace hsplit := Lib.hid hsplit
   replace hfin := Lib.hid hfin
   replace hnl := Lib.hid hnl
   by_cases hjn : j = n
   ·subst hjn
    have hde : encs encRg (l.drop j) = [] := List.eq_nil_of_length_eq_zero (by rw [hdl.out]; omega)
    replace hde := Lib.hid hde
    rw [show encs encRg (l.take i ++ x :: l.drop j) = encs encRg (l.take i) ++ encs encRg [x] by rw [hsplit.out, hde.out, List.append_nil]]
    go_enter Tryz.func129, Tryz.ntmps129
    go_wp2_with (with_reducible refine stop_app ?_)
    refine Stop.go ?_
    refine wpList_append_in rfl _ _ _ rfl 55 2 16 Tryz.underlying35 (by kernel_rfl) (encs encRg [x]) rfl rfl HH.out hcs.out (by omega) (src_x _ _ _ HH.out.r2) (encsRg_one _) (by simp) ?_
    intro w3 H3
    clear HH
    rw [← hc1.out] at H3
    have HH := Lib.hid H3
    clear H3
    have hf2 : (encs encRg (l.take i) ++ encs encRg [x]).length = (i + 1) * 2 := by rw [List.length_append, htl.out, encsRg_x]; simp only [List.length_cons, List.length_nil]; omega
    replace hf2 := Lib.hid hf2
    clear hfin hsplit hde hdl c1d hxt hcs hc1 hnl htl
    by_cases hlast : i + 1 < j
    ·have hc2 : ¬ cap = i + 1 := by omega
     go_wp2_with (with_reducible refine stop_clear ?_)
     refine Stop.go ?_
     refine wpList_clear_pts rfl _ _ rfl 55 Tryz.underlying35 (z := .agg #[.int .u64 0, .int .u64 0]) Tryz.zeroValue55 (by simp [Value.cells, Value.oneCell']) rfl HH.out (by show _ + _ * 2 ≤ c1.length; rw [c1l.out]; omega) ?_
     intro cur2 w4 hs2 ht2 H4
     clear HH
     have HH := Lib.hid H4
     clear H4
     replace hs2 := Lib.hid hs2
     replace ht2 := Lib.hid ht2
     go_wp2_with fail
     go_ret
     exact ⟨.slice (some ⟨g, 0, none⟩) (i + 1) cap, rfl, HH.out.r2.tail.slc_mk (by omega) hcm.out (hs2.out.trans c1l.out) hf2.out (ht2.out.trans c1t.out)⟩
    ·obtain rfl : j = i + 1 := by omega
     go_wp2_with fail
     go_ret
     exact ⟨.slice (some ⟨g, 0, none⟩) (i + 1) cap, rfl, HH.out.r2.tail.slc_mk (by omega) hcm.out c1l.out hf2.out c1t.out⟩
   ·have hjn2 : j < n := by omega
    obtain ⟨tot, htot⟩ : ∃ tot : Nat, i + 1 + (n - j) = tot := ⟨_, rfl⟩
    have hw4 : IntKind.i64.wrap ((i : Int) + 1 + ((n - j : Nat) : Int)) = (tot : Int) := by rw [IntKind.wrap_i64]; omega
    have hcj : ¬ cap = j := by omega
    have hc2 : ¬ cap = i + 1 := by omega
    have ht1 : tot ≤ n := by omega
    have ht2 : tot ≤ cap := by omega
    have ht3 : i + 1 ≤ tot := by omega
    have ht5 : tot - (i + 1) = n - j := by omega
    have ht6 : (tot : Int) ≤ (cap : Int) := by omega
    have ht7 : (i : Int) + 1 ≤ (tot : Int) := by omega
    have ht8 : (i : Int) + 1 ≤ (j : Int) := by omega
    have q1 : (0 : Int) ≤ (i : Int) + 1 := by omega
    have q2 : i ≤ cap := by omega
    have q3 : i ≤ tot := by omega
    have hmin : Nat.min 1 (tot - i) = 1 := Nat.min_eq_left (by omega)
    replace htot := Lib.hid htot
    replace hmin := Lib.hid hmin
    replace ht5 := Lib.hid ht5
    go_enter Tryz.func129, Tryz.ntmps129
    go_wp2_with fail
    go_wp2_with fail
    refine wp_region_reg none HH.out (by kernel_rfl) ?_
    intro wm H9_
    replace HH := Lib.hid H9_
    clear H9_
    refine reg_s 0 HH.out ?_
    refine reg_s 1 HH.out ?_
    refine reg_s 2 HH.out ?_
    refine reg_s 3 HH.out ?_
    refine reg_s 4 HH.out ?_
    refine reg_s 5 HH.out ?_
    refine reg_s 6 HH.out ?_
    refine reg_s 7 HH.out ?_
    refine reg_s 8 HH.out ?_
    refine reg_s 9 HH.out ?_
    refine reg_s 10 HH.out ?_
    refine reg_s 11 HH.out ?_
    refine reg_s 12 HH.out ?_
    refine mixk_done (by kernel_rfl) (fun w4_ hk => ?_) _
    replace HH := Lib.hid (hk _ _ HH.out)
    clear hk
    go_wp2_with (with_reducible refine stop_copy ?_)
    refine Stop.go ?_
    refine wpList_copy_slc rfl _ _ _ _ rfl 55 2 16 Tryz.underlying35 (by kernel_rfl) (i * 2) (encs encRg [x]) 1 rfl rfl hmin.out HH.out (.inr rfl) (src_x _ _ _ HH.out.r2) (by rw [hcs.out]; show _ + 2 ≤ _; omega) (encsRg_one _) ?_
    intro w3 H3
    clear HH
    rw [← hc1.out] at H3
    have HH := Lib.hid H3
    clear H3
    have hsrc : ∀ wx, Own ε wx (pts g (.cells c1.toArray 55 (0, 0)) :: pts xb (.cells #[.int .u64 x.1, .int .u64 x.2] 55 (0, 0)) :: R) → srcAt wx (some ⟨g, j * 2, none⟩) (n - j) 2 (encs encRg (l.drop j)) := fun wx Hx => by
     have := srcAt_tail (sz := 2) Hx (Nat.le_of_lt hjn2) hnc (by rw [List.size_toArray, c1l.out]) rfl
     rw [if_neg hcj] at this
     rw [← c1d.out j hlt]
     exact this
    obtain ⟨c2, hc2e⟩ : ∃ c2, c2 = c1.take ((i + 1) * 2) ++ encs encRg (l.drop j) ++ c1.drop ((i + 1) * 2 + (encs encRg (l.drop j)).length) := ⟨_, rfl⟩
    have c2l : c2.length = cap * 2 := by
     have h1 := c1l.out
     have h2 := hdl.out
     rw [hc2e, List.length_append, List.length_append, List.length_take, List.length_drop, h1, h2]
     omega
    have c2t : c2.take (tot * 2) = encs encRg (l.take i ++ x :: l.drop j) := by
     have h3 := hfin.out
     rw [htot.out, hsplit.out] at h3
     rw [hc2e, c1t.out, hsplit.out]
     exact List.take_left' h3
    have hf3 : (encs encRg (l.take i ++ x :: l.drop j)).length = tot * 2 := by rw [hfin.out, htot.out]
    have hmin2 : Nat.min (n - j) (tot - (i + 1)) = n - j := Nat.min_eq_left (by have := ht5.out; omega)
    replace hsrc := Lib.hid hsrc
    replace hc2e := Lib.hid hc2e
    replace c2l := Lib.hid c2l
    replace c2t := Lib.hid c2t
    replace hf3 := Lib.hid hf3
    replace hmin2 := Lib.hid hmin2
    go_wp2_with fail
    go_wp2_with fail
    refine wp_region_reg (some 9) HH.out (by kernel_rfl) ?_
    intro wm H9_
    replace HH := Lib.hid H9_
    clear H9_
    refine reg_s 0 HH.out ?_
    refine reg_s 1 HH.out ?_
    refine reg_s 2 HH.out ?_
    refine reg_s 3 HH.out ?_
    refine reg_s 4 HH.out ?_
    refine reg_s 5 HH.out ?_
    refine reg_s 6 HH.out ?_
    refine reg_s 7 HH.out ?_
    refine reg_s 8 HH.out ?_
    refine reg_l none (i := 9) rfl (by kernel_rfl) (fun wn hk K hK => ?_)
    replace HH := Lib.hid (hk _ _ HH.out)
    clear hk
    have hx := HH.out
    clear hx
    refine want rfl (wp_copy_slc _ _ _ _ rfl 55 2 16 Tryz.underlying35 (by kernel_rfl) ((i + 1) * 2) (encs encRg (l.drop j)) (n - j) rfl rfl hmin2.out HH.out (.inr rfl) (hsrc.out _ HH.out) (by rw [List.size_toArray, c1l.out, hdl.out]; omega) (encsRg_one _) ?_)
    intro wm H9_
    replace HH := Lib.hid (show Own _ _ (pts g (.cells (c1.toArray.toList.take ((i + 1) * 2) ++ encs encRg (l.drop j) ++ c1.toArray.toList.drop ((i + 1) * 2 + (encs encRg (l.drop j)).length)).toArray 55 (0, 0)) :: pts xb (.cells #[.int .u64 x.1, .int .u64 x.2] 55 (0, 0)) :: R) from H9_)
    clear H9_
    refine hK _ _ _ HH.out (.inl (by kernel_rfl)) ?_
    clear hK K
    refine mixk_done (by kernel_rfl) (fun w5_ hk => ?_) _
    replace HH := Lib.hid (hk _ _ HH.out)
    clear hk
    have H9 : Own ε _ (pts g (.cells (c1.take ((i + 1) * 2) ++ encs encRg (l.drop j) ++ c1.drop ((i + 1) * 2 + (encs encRg (l.drop j)).length)).toArray 55 (0, 0)) :: pts xb (.cells #[.int .u64 x.1, .int .u64 x.2] 55 (0, 0)) :: R) := HH.out
    rw [← hc2e.out] at H9
    clear HH
    have HH := Lib.hid H9
    clear H9
    by_cases hlast : i + 1 < j
    ·have hct : ¬ cap = tot := by have := htot.out; omega
     go_wp2_with (with_reducible refine stop_clear ?_)
     refine Stop.go ?_
     refine wpList_clear_pts rfl _ _ rfl 55 Tryz.underlying35 (z := .agg #[.int .u64 0, .int .u64 0]) Tryz.zeroValue55 (by simp [Value.cells, Value.oneCell']) rfl HH.out (by show _ + _ * 2 ≤ c2.length; rw [c2l.out]; omega) ?_
     intro cur2 w4 hs2 hr2 H4
     clear HH
     have HH := Lib.hid H4
     clear H4
     replace hs2 := Lib.hid hs2
     replace hr2 := Lib.hid hr2
     go_wp2_with fail
     go_ret
     exact ⟨.slice (some ⟨g, 0, none⟩) tot cap, rfl, HH.out.r2.tail.slc_mk ht2 hcm.out (hs2.out.trans c2l.out) hf3.out (hr2.out.trans c2t.out)⟩
    ·obtain rfl : tot = n := by have := htot.out; omega
     by_cases hct : cap = tot
     ·subst hct
      go_wp2_with (with_reducible refine stop_clear ?_)
      refine Stop.go ?_
      refine wpList_clear_none rfl _ _ rfl Tryz.underlying35 rfl ?_
      go_wp2_with fail
      go_ret
      exact ⟨.slice (some ⟨g, 0, none⟩) cap cap, rfl, HH.out.r2.tail.slc_mk ht2 hcm.out c2l.out hf3.out c2t.out⟩
     ·go_wp2_with (with_reducible refine stop_clear ?_)
      refine Stop.go ?_
      refine wpList_clear_none rfl _ _ rfl Tryz.underlying35 rfl ?_
      go_wp2_with fail
      go_ret
      exact ⟨.slice (some ⟨g, 0, none⟩) tot cap, rfl, HH.out.r2.tail.slc_mk ht2 hcm.out c2l.out hf3.out c2t.out⟩
end
end Go.Proofs.YtmkcpnlbicijoaaGreat
namespace Go.Proofs.YtmkcpnlbicijoaaGreat
open Go.RowKit
def badR (x : Rg) : Bool := decide (x.2 < x.1) || decide (x.2 = 18446744073709551615)
section
variable (ε w : World) (R : List Asn)
theorem put1_c (x : Rg) (h2 : U x.2) (H : Own ε w R) :
  Calls Tryz.prog 91 #[.agg #[.int .u64 x.1, .int .u64 x.2]] w fun e w' => e = .returned (.bool (badR x)) ∧ Own ε w' R := by
 have HH := Lib.hid H; clear H
 obtain ⟨x1, x2⟩ := x
 unfold badR
 simp only at h2 ⊢
 by_cases h : x2 < x1
 ·have e1 : (decide (x2 < x1) || decide (x2 = 18446744073709551615)) = true := by simp [h]
  rw [e1]
  clear e1 h2
  go_enter Tryz.func91, Tryz.ntmps91
  go_wp2_with (with_reducible refine stop_bx ?_)
  refine Stop.go ?_
  refine wpList_box_own HH.out [_, _] rfl ?_
  intro g w1_ H9_
  replace HH := Lib.hid H9_
  clear H9_
  (try clear cc1_)
  have cc1_ := HH.out.cells
  go_wp2_with fail
  go_ret
  exact ⟨rfl, HH.out.tail⟩
 ·by_cases hm : x2 = 18446744073709551615
  ·subst hm
   have e1 : (decide ((18446744073709551615 : Int) < x1) || decide ((18446744073709551615 : Int) = 18446744073709551615)) = true := by simp
   rw [e1]
   have d1 : decide ((18446744073709551615 : Int) < x1) = false := decide_eq_false h
   have d2 : (IntKind.u64.wrap 18446744073709551616 == 0) = true := by rfl
   clear e1 h2 h
   go_enter Tryz.func91, Tryz.ntmps91
   go_wp2_with (with_reducible refine stop_bx ?_)
   refine Stop.go ?_
   refine wpList_box_own HH.out [_, _] rfl ?_
   intro g w2_ H9_
   replace HH := Lib.hid H9_
   clear H9_
   (try clear cc1_)
   have cc1_ := HH.out.cells
   go_wp2_with fail
   go_ret
   exact ⟨rfl, HH.out.tail⟩
  ·have e1 : (decide (x2 < x1) || decide (x2 = 18446744073709551615)) = false := by simp [h, hm]
   rw [e1]
   have e2 : IntKind.u64.wrap (x2 + 1) = x2 + 1 := by unfold U at h2; rw [IntKind.wrap_u64]; omega
   have e3 : (x2 + 1 == 0) = false := by unfold U at h2; simp; omega
   have d1 : decide (x2 < x1) = false := decide_eq_false h
   clear e1 h2 h hm
   go_enter Tryz.func91, Tryz.ntmps91
   go_wp2_with (with_reducible refine stop_bx ?_)
   refine Stop.go ?_
   refine wpList_box_own HH.out [_, _] rfl ?_
   intro g w3_ H9_
   replace HH := Lib.hid H9_
   clear H9_
   (try clear cc1_)
   have cc1_ := HH.out.cells
   go_wp2_with fail
   go_ret
   exact ⟨rfl, HH.out.tail⟩
theorem any_next {l : List Rg} {k : Nat} {x : Rg} (h : l[k]? = some x) : (l.take (k + 1)).any badR = ((l.take k).any badR || badR x) := by
 rw [List.take_add_one, h]
 simp
set_option maxRecDepth 100000 in
set_option maxHeartbeats 3200000 in
theorem indexBad_c (l : List Rg) (hU : ∀ x ∈ l, U x.2) (A : Option Addr) (len cap : Nat) (hA : ∀ wx, Own ε wx R → itAt encRg 2 wx A len l) (hm : len ≤ 1000000) (H : Own ε w R) :
  Calls Tryz.prog 127 #[.slice A len cap, .func (.func 91) #[] #[]] w fun e w' => ∃ k : Int, ∃ _ : decide (0 ≤ k) = l.any badR, e = .returned (.int .i64 k) ∧ Own ε w' R := by
 have HH := Lib.hid H; clear H
 have hlen : l.length = len := (hA w HH.out).1
 replace hA := Lib.hid hA
 replace hU := Lib.hid hU
 replace hlen := Lib.hid hlen
 go_enter Tryz.func127, Tryz.ntmps127
 go_wp2_with fail
 go_loopw [8] (fun vi wr => ∃ i : Nat, i ≤ len ∧ vi = .int .i64 i ∧ (l.take i).any badR = false ∧ Own ε wr R) (fun vi _ => len - (intOf vi).toNat)
 case atStart => exact ⟨0, Nat.zero_le _, rfl, rfl, HH.out⟩
 case round =>
  clear HH
  obtain ⟨i, hi, rfl, hno, HR⟩ := hrel
  have HH := Lib.hid HR
  clear HR
  by_cases hlt : i < len
  ·have w3 : IntKind.i64.wrap ((i : Int) + 1) = ((i + 1 : Nat) : Int) := by rw [IntKind.wrap_i64]; omega
   obtain ⟨g, off, x, rfl, hx, hcell⟩ := (hA.out _ HH.out).get hlt
   have hux := Lib.hid (hU.out x (List.mem_of_getElem? hx))
   have o0 := hcell 0 _ rfl
   have o1 := hcell 1 _ rfl
   simp only [Nat.add_zero] at o0
   have hnx := any_next hx
   rw [hno, Bool.false_or] at hnx
   replace hcell := Lib.hid hcell
   replace hno := Lib.hid hno
   replace hx := Lib.hid hx
   obtain ⟨bd, hbd⟩ : ∃ y, badR x = y := ⟨_, rfl⟩
   rw [hbd] at hnx
   replace hbd := Lib.hid hbd
   replace hnx := Lib.hid hnx
   cases bd
   ·go_wp2_with fail
    refine (put1_c ε _ _ x hux.out HH.out).mono ?_
    rw [hbd.out]
    rintro e w4_ ⟨rfl, H9_⟩
    replace HH := Lib.hid H9_
    clear H9_
    clear o0 o1
    go_wp2_with fail
    go_roundw
    case rel => exact ⟨i + 1, by omega, by go_num, hnx.out, HH.out⟩
    case measure => simp [intOf]; omega
   ·go_wp2_with fail
    refine (put1_c ε _ _ x hux.out HH.out).mono ?_
    rw [hbd.out]
    rintro e w5_ ⟨rfl, H9_⟩
    replace HH := Lib.hid H9_
    clear H9_
    clear o0 o1
    go_wp2_with fail
    go_ret
    refine ⟨(i : Int), ?_, rfl, HH.out⟩
    have h1 : l.any badR = true := List.any_eq_true.2 ⟨x, List.mem_of_getElem? hx.out, hbd.out⟩
    rw [h1]
    exact decide_eq_true (by omega)
  ·have hfull : l.any badR = false := by
    rw [List.take_of_length_le (by rw [hlen.out]; omega)] at hno
    exact hno
   clear hno
   go_wp2_with fail
   go_ret
   exact ⟨-1, by rw [hfull]; rfl, rfl, HH.out⟩
theorem containsBad_c (l : List Rg) (hU : ∀ x ∈ l, U x.2) (A : Option Addr) (len cap : Nat) (hA : ∀ wx, Own ε wx R → itAt encRg 2 wx A len l) (hm : len ≤ 1000000) (H : Own ε w R) :
  Calls Tryz.prog 90 #[.slice A len cap, .func (.func 91) #[] #[]] w fun e w' => e = .returned (.bool (l.any badR)) ∧ Own ε w' R := by
 have HH := Lib.hid H; clear H
 replace hA := Lib.hid hA
 replace hU := Lib.hid hU
 go_enter Tryz.func90, Tryz.ntmps90
 go_wp2_with fail
 refine (indexBad_c ε _ _ l hU.out A len cap hA.out hm HH.out).mono ?_
 rintro e w6_ ⟨k, hk, rfl, H9_⟩
 replace HH := Lib.hid H9_
 clear H9_
 go_wp2_with fail
 go_ret
 exact ⟨rfl, HH.out⟩
end
end Go.Proofs.YtmkcpnlbicijoaaGreat
