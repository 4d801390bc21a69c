/- conf: may a setup be. -/
import Derived.Test.YtmkcpnlbicijoaaGreatConf2
import Derived.Test.YtmkcpnlbicijoaaGreatRange
import Derived.Test.YtmkcpnlbicijoaaGreatLed3
namespace Go.Proofs.YtmkcpnlbicijoaaGreat
open Go.RowKit Go.Shelf
attribute [local go_sem] Oper.semAt_some
theorem results_cell1 {P : Program} {fn : Func} {p : Tmp} {ty : TypeId} (h : fn.results = #[.cell p ty]) (tmps : Array Value) (w : World) (g : Nat) (v : Value) (hp : tmps.getD p undef = .pointer (some ⟨g, 0, none⟩)) (ha : ∀ w, (isAgg ty).run P w = .ok false w) (hc : w.cell? ⟨g, 0, none⟩ = some v) : (results fn tmps).run P w = .ok v w := by
 have hp' : tmps[p]?.getD undef = .pointer (some ⟨g, 0, none⟩) := by simpa using hp
 simp only [results, h]
 simp [asAddr, loadVar, hp', ha, hc]
section
variable (ε w : World) (R : List Asn)
theorem confFields_c (cb : Nat) (H : Own ε w R) :
  Calls Tryz.prog 99 #[.pointer (some ⟨cb, 0, none⟩)] w fun e w' => ∃ kb, e = .returned (.func (.func 136) #[] #[.pointer (some ⟨kb, 0, none⟩)]) ∧ Own ε w' (capCf kb cb :: R) := by
 have HH := Lib.hid H; clear H
 go_enter Tryz.func99, Tryz.ntmps99
 go_wp2_with (with_reducible refine stop_bx ?_)
 refine Stop.go ?_
 refine wpList_box_own HH.out [_] rfl ?_
 intro kb w1_ H9_
 replace HH := Lib.hid H9_
 clear H9_
 go_wp2_with fail
 go_ret
 exact ⟨_, rfl, HH.out⟩
set_option maxHeartbeats 3200000 in
theorem confRight_c (m : Nat) (c : Cnf) (hc : c.Ok) (H : Own ε w R) :
  Calls Tryz.prog 54 #[c.v] w fun e w' => e = .returned (.bool c.right) ∧ Own ε w' R := by
 have HH := Lib.hid H; clear H
 rw [← Cnf.all_right hc]
 unfold Cnf.v
 replace hc := Lib.hid hc
 obtain ⟨r, hr⟩ : ∃ r, c.all = r := ⟨_, rfl⟩
 rw [hr]
 replace hr := Lib.hid hr
 refine calls_of_wp_marks (m + 1) Tryz.func54 rfl ?_; simp only [Tryz.ntmps54, List.size_toArray, List.length_cons, List.length_nil, Nat.reduceAdd, Nat.reduceSub, Array.replicate_succ, Array.replicate_zero, List.push_toArray, List.append_toArray, List.nil_append, List.cons_append]
 go_wp2_with (with_reducible refine stop_bx ?_)
 refine Stop.go ?_
 refine wpList_box_own HH.out [_, _, _, _, _, _] rfl ?_
 intro cb w2_ H9_
 replace HH := Lib.hid H9_
 clear H9_
 go_wp2_with (with_reducible refine stop_al ?_)
 refine Stop.go ?_
 refine wpList_alloc_own HH.out [.bool false] (by kernel_rfl) ?_
 intro rb w3_ H9_
 replace HH := Lib.hid H9_
 clear H9_
 go_wp2_with fail
 refine (confFields_c ε _ _ cb HH.out).mono ?_
 rintro e w4_ ⟨kb, rfl, H9_⟩
 replace HH := Lib.hid H9_
 clear H9_
 go_wp2_with (with_reducible refine stop_rf ?_)
 refine Stop.go ?_
 refine (wpIn_wide (n := m + 1)).1 ?_
 refine wpIn_rangeFunc_sep (gf := 136) (lb := #[.pointer (some ⟨kb, 0, none⟩)]) rfl (enters_of Tryz.func136 (by kernel_rfl) rfl) HH.out ?_
 intro fn l D W H3
 clear HH
 generalize hrec : lrec fn _ _ _ _ D = rec at H3 ⊢
 refine callsIn_wide.2 ((confIter_c ε W m l kb cb c (pts rb (.cells #[.bool false] 4 (0, 0)) :: pts l (.loop (rec .ready none)) :: pts D (.deferred (some [])) :: R) (pts l (.loop (rec .done (some .ret))) :: pts D (.deferred (some [])) :: pts rb (.cells #[.bool false] 4 (0, 0)) :: R) ?hY H3.pn).mono ?hE)
 case hE =>
  clear H3
  rintro e W2 ⟨hv, hT, hF⟩
  rw [hr.out] at hT hF
  cases r with
  | true =>
   refine ⟨hv, .inl ⟨pts rb (.cells #[.bool false] 4 (0, 0)) :: R, (Own.pn ((hT rfl))), ?_⟩⟩
   clear hT hF hv
   intro W3 H5
   have HH := Lib.hid H5
   have hK := H5.blk
   clear H5
   go_wp2_with (with_reducible refine stop_st ?_)
   refine Stop.go ?_
   refine wpList_store1_own (v := .bool true) (k := 0) rfl rfl HH.out.r2 (by kernel_rfl) (by simp) (by first | rfl | assumption) ?_
   intro w5_ H9_
   replace HH := Lib.hid H9_
   clear H9_
   simp only [List.setIfInBounds_toArray, List.set_cons_zero] at HH
   go_wp2_with fail
   refine ⟨by simp, .inl ⟨_, _, rfl, run_takeDeferred (HH.out.r2.blk), ?_⟩⟩
   have H6 := HH.out.r2.putObj (.deferred none)
   exact ⟨_, results_cell1 rfl _ _ rb (.bool true) rfl Tryz.isAgg4 (H6.r2.cells.1 0), rfl, H6.tail.tail⟩
  | false =>
   refine ⟨hv, .inr ⟨.ret, pts rb (.cells #[.bool false] 4 (0, 0)) :: R, (Own.pn ((hF rfl))), ?_⟩⟩
   clear hT hF hv
   intro W3 H5
   have HH := Lib.hid H5
   have hK := H5.blk
   clear H5
   gi_wp2
   refine ⟨by simp, .inl ⟨_, _, rfl, run_takeDeferred hK, ?_⟩⟩
   have H6 := HH.out.putObj (.deferred none)
   exact ⟨_, results_cell1 rfl _ _ rb (.bool false) rfl Tryz.isAgg4 (H6.r2.cells.1 0), rfl, H6.tail.tail⟩
 case hY =>
  clear H3
  intro nm o lo hi x W1 hx' H4
  subst hrec
  have hcell : ∀ wx R', Own ε wx (cnfB cb c :: R') → wx.cell? ⟨cb, o, none⟩ = some (.int .u64 x) := fun wx R' Hx => by have h := Hx.cells.1 o; rw [h, ← hx', Cnf.cells]; rw [List.getElem?_toArray]
  replace hcell := Lib.hid hcell
  by_cases hlo : x < lo
  ·rw [show inB x lo hi = false from by unfold inB; simp; omega]
   refine yieldAt_own (A := capCf kb cb :: cnfB cb c :: pts rb (.cells #[.bool false] 4 (0, 0)) :: pts D (.deferred (some [])) :: R) rfl H4.pn ?_
   have HH := Lib.hid (H4.pn : Own ε W1 (pts rb _ :: cnfB cb c :: pts l _ :: pts D _ :: capCf kb cb :: R))
   clear H4
   (try (with_reducible refine in_back ?_)); gi_wp2_with (with_reducible refine stopI_al ?_)
   refine Stop.go ?_
   refine in_of_list rfl (fun _ h => nomatch h) ?_
   refine wpList_alloc_own HH.out [.pointer none, .int .u64 0, .int .u64 0] (by kernel_rfl) ?_
   intro pf w6_ H9_
   replace HH := Lib.hid H9_
   clear H9_
   (try (with_reducible refine in_back ?_)); gi_wp2_with (with_reducible refine stopI_st ?_)
   refine Stop.go ?_
   refine in_of_list rfl (fun _ h => nomatch h) ?_
   refine wpList_store_own _ #[_, _, _] rfl rfl HH.out (by kernel_rfl) rfl (by repeat (first | (refine List.forall_mem_cons.2 ⟨(by first | with_reducible assumption | rfl), ?_⟩) | exact fun _ h => absurd h List.not_mem_nil)) ?_
   intro w7_ H9_
   replace HH := Lib.hid H9_
   clear H9_
   with_reducible refine in_back ?_
   gi_wp2
   refine ⟨pts pf _ :: pts rb _ :: cnfB cb c :: pts D _ :: capCf kb cb :: R, HH.out.pn, ?_⟩
   clear HH
   intro W2 H5
   have HH := Lib.hid (H5.pn : Own ε W2 (pts pf _ :: pts rb _ :: cnfB cb c :: pts l _ :: pts D _ :: capCf kb cb :: R))
   clear H5
   gi_wp2
   refine wpIn_region_reg none HH.out (by kernel_rfl) (by kernel_rfl) (by first | exact (fun ⟨_, _, h⟩ => h) | (simp [LetsOut, Exit.inBlock, roundOut]; done) | simp [LetsOut, Exit.then, Exit.inBlock, roundOut]) ?_
   intro wm H9_
   replace HH := Lib.hid H9_
   clear H9_
   refine reg_s 0 HH.out ?_
   refine mixk_s 1 HH.out (fun _ hx => And.intro hx.cells (hcell.out _ _ hx.r3)) ?_
   refine reg_s 2 HH.out ?_
   refine mixk_s 3 HH.out (fun _ hx => And.intro hx.cells (hcell.out _ _ hx.r3)) ?_
   refine reg_s 4 HH.out ?_
   refine mixk_s 5 HH.out (fun _ hx => And.intro hx.cells (hcell.out _ _ hx.r3)) ?_
   refine reg_s 6 HH.out ?_
   refine reg_s 7 HH.out ?_
   refine reg_s 8 HH.out ?_
   refine mixk_s 9 HH.out (fun _ hx => And.intro hx.cells (hcell.out _ _ hx.r3)) ?_
   refine reg_s 10 HH.out ?_
   refine mixk_s 11 HH.out (fun _ hx => And.intro hx.cells (hcell.out _ _ hx.r3)) ?_
   refine reg_s 12 HH.out ?_
   refine mixk_s 13 HH.out (fun _ hx => And.intro hx.cells (hcell.out _ _ hx.r3)) ?_
   refine reg_s 14 HH.out ?_
   refine reg_s 15 HH.out ?_
   refine mixk_done (by kernel_rfl) (fun w8_ hk => ?_) _
   replace HH := Lib.hid (hk _ _ HH.out)
   clear hk
   (try (with_reducible refine in_back ?_)); gi_wp2_with (with_reducible refine stopI_st ?_)
   refine Stop.go ?_
   refine in_of_list rfl (fun _ h => nomatch h) ?_
   refine wpList_store1_own (v := .bool false) (k := 0) rfl rfl HH.out.r2 (by kernel_rfl) (by simp) (by first | rfl | assumption) ?_
   intro w9_ H9_
   replace HH := Lib.hid H9_
   clear H9_
   simp only [List.setIfInBounds_toArray, List.set_cons_zero] at HH
   with_reducible refine in_back ?_
   gi_wp2
   refine ⟨pts rb _ :: pts pf _ :: cnfB cb c :: pts D _ :: capCf kb cb :: R, HH.out.pn, ?_⟩
   clear HH
   intro W6 H6
   exact ⟨rfl, fun h => by simp at h, fun _ => H6.pn⟩
  ·by_cases hhi : hi < x
   ·rw [show inB x lo hi = false from by unfold inB; simp; omega]
    refine yieldAt_own (A := capCf kb cb :: cnfB cb c :: pts rb (.cells #[.bool false] 4 (0, 0)) :: pts D (.deferred (some [])) :: R) rfl H4.pn ?_
    have HH := Lib.hid (H4.pn : Own ε W1 (pts rb _ :: cnfB cb c :: pts l _ :: pts D _ :: capCf kb cb :: R))
    clear H4
    (try (with_reducible refine in_back ?_)); gi_wp2_with (with_reducible refine stopI_al ?_)
    refine Stop.go ?_
    refine in_of_list rfl (fun _ h => nomatch h) ?_
    refine wpList_alloc_own HH.out [.pointer none, .int .u64 0, .int .u64 0] (by kernel_rfl) ?_
    intro pf w10_ H9_
    replace HH := Lib.hid H9_
    clear H9_
    (try (with_reducible refine in_back ?_)); gi_wp2_with (with_reducible refine stopI_st ?_)
    refine Stop.go ?_
    refine in_of_list rfl (fun _ h => nomatch h) ?_
    refine wpList_store_own _ #[_, _, _] rfl rfl HH.out (by kernel_rfl) rfl (by repeat (first | (refine List.forall_mem_cons.2 ⟨(by first | with_reducible assumption | rfl), ?_⟩) | exact fun _ h => absurd h List.not_mem_nil)) ?_
    intro w11_ H9_
    replace HH := Lib.hid H9_
    clear H9_
    with_reducible refine in_back ?_
    gi_wp2
    refine ⟨pts pf _ :: pts rb _ :: cnfB cb c :: pts D _ :: capCf kb cb :: R, HH.out.pn, ?_⟩
    clear HH
    intro W2 H5
    have HH := Lib.hid (H5.pn : Own ε W2 (pts pf _ :: pts rb _ :: cnfB cb c :: pts l _ :: pts D _ :: capCf kb cb :: R))
    clear H5
    gi_wp2
    refine wpIn_region_reg none HH.out (by kernel_rfl) (by kernel_rfl) (by first | exact (fun ⟨_, _, h⟩ => h) | (simp [LetsOut, Exit.inBlock, roundOut]; done) | simp [LetsOut, Exit.then, Exit.inBlock, roundOut]) ?_
    intro wm H9_
    replace HH := Lib.hid H9_
    clear H9_
    refine reg_s 0 HH.out ?_
    refine mixk_s 1 HH.out (fun _ hx => And.intro hx.cells (hcell.out _ _ hx.r3)) ?_
    refine reg_s 2 HH.out ?_
    refine mixk_s 3 HH.out (fun _ hx => And.intro hx.cells (hcell.out _ _ hx.r3)) ?_
    refine reg_s 4 HH.out ?_
    refine mixk_s 5 HH.out (fun _ hx => And.intro hx.cells (hcell.out _ _ hx.r3)) ?_
    refine reg_s 6 HH.out ?_
    refine reg_s 7 HH.out ?_
    refine reg_s 8 HH.out ?_
    refine mixk_s 9 HH.out (fun _ hx => And.intro hx.cells (hcell.out _ _ hx.r3)) ?_
    refine reg_s 10 HH.out ?_
    refine mixk_s 11 HH.out (fun _ hx => And.intro hx.cells (hcell.out _ _ hx.r3)) ?_
    refine reg_s 12 HH.out ?_
    refine mixk_s 13 HH.out (fun _ hx => And.intro hx.cells (hcell.out _ _ hx.r3)) ?_
    refine reg_s 14 HH.out ?_
    refine reg_s 15 HH.out ?_
    refine mixk_done (by kernel_rfl) (fun w12_ hk => ?_) _
    replace HH := Lib.hid (hk _ _ HH.out)
    clear hk
    (try (with_reducible refine in_back ?_)); gi_wp2_with (with_reducible refine stopI_st ?_)
    refine Stop.go ?_
    refine in_of_list rfl (fun _ h => nomatch h) ?_
    refine wpList_store1_own (v := .bool false) (k := 0) rfl rfl HH.out.r2 (by kernel_rfl) (by simp) (by first | rfl | assumption) ?_
    intro w13_ H9_
    replace HH := Lib.hid H9_
    clear H9_
    simp only [List.setIfInBounds_toArray, List.set_cons_zero] at HH
    with_reducible refine in_back ?_
    gi_wp2
    refine ⟨pts rb _ :: pts pf _ :: cnfB cb c :: pts D _ :: capCf kb cb :: R, HH.out.pn, ?_⟩
    clear HH
    intro W6 H6
    exact ⟨rfl, fun h => by simp at h, fun _ => H6.pn⟩
   ·rw [show inB x lo hi = true from by unfold inB; simp; omega]
    refine yieldAt_own (A := capCf kb cb :: cnfB cb c :: pts rb (.cells #[.bool false] 4 (0, 0)) :: pts D (.deferred (some [])) :: R) rfl H4.pn ?_
    have HH := Lib.hid (H4.pn : Own ε W1 (pts rb _ :: cnfB cb c :: pts l _ :: pts D _ :: capCf kb cb :: R))
    clear H4
    (try (with_reducible refine in_back ?_)); gi_wp2_with (with_reducible refine stopI_al ?_)
    refine Stop.go ?_
    refine in_of_list rfl (fun _ h => nomatch h) ?_
    refine wpList_alloc_own HH.out [.pointer none, .int .u64 0, .int .u64 0] (by kernel_rfl) ?_
    intro pf w14_ H9_
    replace HH := Lib.hid H9_
    clear H9_
    (try (with_reducible refine in_back ?_)); gi_wp2_with (with_reducible refine stopI_st ?_)
    refine Stop.go ?_
    refine in_of_list rfl (fun _ h => nomatch h) ?_
    refine wpList_store_own _ #[_, _, _] rfl rfl HH.out (by kernel_rfl) rfl (by repeat (first | (refine List.forall_mem_cons.2 ⟨(by first | with_reducible assumption | rfl), ?_⟩) | exact fun _ h => absurd h List.not_mem_nil)) ?_
    intro w15_ H9_
    replace HH := Lib.hid H9_
    clear H9_
    with_reducible refine in_back ?_
    gi_wp2
    refine ⟨pts pf _ :: pts rb _ :: cnfB cb c :: pts D _ :: capCf kb cb :: R, HH.out.pn, ?_⟩
    clear HH
    intro W2 H5
    have HH := Lib.hid (H5.pn : Own ε W2 (pts pf _ :: pts rb _ :: cnfB cb c :: pts l _ :: pts D _ :: capCf kb cb :: R))
    clear H5
    gi_wp2
    refine wpIn_region_reg none HH.out (by kernel_rfl) (by kernel_rfl) (by first | exact (fun ⟨_, _, h⟩ => h) | (simp [LetsOut, Exit.inBlock, roundOut]; done) | simp [LetsOut, Exit.then, Exit.inBlock, roundOut]) ?_
    intro wm H9_
    replace HH := Lib.hid H9_
    clear H9_
    refine reg_s 0 HH.out ?_
    refine mixk_s 1 HH.out (fun _ hx => And.intro hx.cells (hcell.out _ _ hx.r3)) ?_
    refine reg_s 2 HH.out ?_
    refine mixk_s 3 HH.out (fun _ hx => And.intro hx.cells (hcell.out _ _ hx.r3)) ?_
    refine reg_s 4 HH.out ?_
    refine mixk_s 5 HH.out (fun _ hx => And.intro hx.cells (hcell.out _ _ hx.r3)) ?_
    refine reg_s 6 HH.out ?_
    refine reg_s 7 HH.out ?_
    refine reg_s 8 HH.out ?_
    refine mixk_s 9 HH.out (fun _ hx => And.intro hx.cells (hcell.out _ _ hx.r3)) ?_
    refine reg_s 10 HH.out ?_
    refine mixk_s 11 HH.out (fun _ hx => And.intro hx.cells (hcell.out _ _ hx.r3)) ?_
    refine reg_s 12 HH.out ?_
    refine mixk_s 13 HH.out (fun _ hx => And.intro hx.cells (hcell.out _ _ hx.r3)) ?_
    refine reg_s 14 HH.out ?_
    refine reg_s 15 HH.out ?_
    refine mixk_done (by kernel_rfl) (fun w16_ hk => ?_) _
    replace HH := Lib.hid (hk _ _ HH.out)
    clear hk
    gi_wp2
    refine ⟨pts pf _ :: pts rb _ :: cnfB cb c :: pts D _ :: capCf kb cb :: R, HH.out.pn, ?_⟩
    clear HH
    intro W6 H6
    exact ⟨rfl, fun _ => H6.pn, fun h => by simp at h⟩
end
end Go.Proofs.YtmkcpnlbicijoaaGreat
