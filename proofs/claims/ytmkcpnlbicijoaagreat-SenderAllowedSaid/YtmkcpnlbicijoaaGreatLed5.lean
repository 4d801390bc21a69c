/- ledger: what is asked of a packet: is it acknowledged, is it lost. -/
import Derived.Test.YtmkcpnlbicijoaaGreatItAt
import Derived.Test.YtmkcpnlbicijoaaGreatLen
import Derived.Test.YtmkcpnlbicijoaaGreatSeq9
namespace Go.Proofs.YtmkcpnlbicijoaaGreat
open Go.RowKit
def lostB (re top : Int) (sm : Bool) (now delay limit : Int) (p : Pk) : Bool :=
 decide (sadd p.sent limit ≤ now) || (sm && (decide (sadd p.n re ≤ top) || (decide (p.n < top) && decide (sadd p.sent delay ≤ now))))
def ackB (l : List Rg) (p : Pk) : Bool := gapL l p.n != p.n
def capA (gb sb : Nat) (l : List Rg) : Asn := sep (pts gb (.cells #[.pointer (some ⟨sb, 0, none⟩)] 92 (0, 0))) (sqs sb l)
def capX (lb nb gb db b : Nat) (now delay limit : Int) : Asn :=
 sep (pts lb (.cells #[.int .u64 limit] 22 (0, 0))) (sep (pts nb (.cells #[.int .u64 now] 22 (0, 0))) (sep (pts db (.cells #[.int .u64 delay] 22 (0, 0))) (pts gb (.cells #[.pointer (some ⟨b, 0, none⟩)] 60 (0, 0)))))
section
variable {ε w : World} {R : List Asn}
theorem Own.capX_open {lb nb gb db b : Nat} {now delay limit : Int} (H : Own ε w (capX lb nb gb db b now delay limit :: R)) :
  Own ε w (pts lb (.cells #[.int .u64 limit] 22 (0, 0)) :: pts nb (.cells #[.int .u64 now] 22 (0, 0)) :: pts db (.cells #[.int .u64 delay] 22 (0, 0)) :: pts gb (.cells #[.pointer (some ⟨b, 0, none⟩)] 60 (0, 0)) :: R) :=
 H.map fun _ q => sep_imp (sep_assoc2 (show sep (sep _ (sep _ (sep _ _))) _ _ from q)) (fun _ z => z) (fun _ z => sep_imp (sep_assoc2 z) (fun _ y => y) (fun _ y => sep_assoc2 y))
theorem Own.capX_mk {lb nb gb db b : Nat} {now delay limit : Int} (H : Own ε w (pts lb (.cells #[.int .u64 limit] 22 (0, 0)) :: pts nb (.cells #[.int .u64 now] 22 (0, 0)) :: pts db (.cells #[.int .u64 delay] 22 (0, 0)) :: pts gb (.cells #[.pointer (some ⟨b, 0, none⟩)] 60 (0, 0)) :: R)) :
  Own ε w (capX lb nb gb db b now delay limit :: R) :=
 H.map fun _ q => sep_assoc1 (sep_imp q (fun _ z => z) (fun _ z => sep_assoc1 (sep_imp z (fun _ y => y) (fun _ y => sep_assoc1 y))))
end
section
variable (ε w : World) (R : List Asn) (b rb : Nat) (s : Led)
set_option maxHeartbeats 1600000 in
theorem ack1_c (gb sb : Nat) (l : List Rg) (m : Nat) (hl : SqIn l m) (hm : m ≤ 999999) (p : Pk) (H : Own ε w (ledN b rb s :: capA gb sb l :: R)) :
  Calls Tryz.prog 94 #[.agg #[.int .u64 p.n, .int .u64 p.size, .int .u64 p.sent, .int .u64 p.first, .int .u64 p.deliv, .int .u64 p.at', .bool p.lim], .pointer (some ⟨gb, 0, none⟩)] w fun e w' => e = .returned (.bool (ackB l p)) ∧ Own ε w' (ledN b rb s :: capA gb sb l :: R) := by
 obtain ⟨pn, ps, p3, p4, p5, p6, p7⟩ := p
 unfold ackB
 have HH := Lib.hid (show Own ε w (pts gb _ :: sqs sb l :: ledN b rb s :: R) from (Own.l2 H).split.under fun _ q => q)
 clear H
 replace hl := Lib.hid hl
 go_enter Tryz.func94, Tryz.ntmps94
 go_wp2_with (with_reducible refine stop_bx ?_)
 refine Stop.go ?_
 refine wpList_box_own HH.out [_, _, _, _, _, _, _] rfl ?_
 intro pb w1_ H9_
 replace HH := Lib.hid H9_
 clear H9_
 (try clear cc1_); (try clear cc2_); (try clear cc5_); (try clear cc6_)
 have cc1_ := HH.out.cells
 have cc2_ := HH.out.r2.cells
 go_wp2_with fail
 refine (seqHas_c ε _ _ sb l m hl.out hm pn HH.out.r3).mono ?_
 rintro e w2_ ⟨rfl, H9_⟩
 replace HH := Lib.hid H9_
 clear H9_
 go_wp2_with fail
 go_ret
 refine ⟨rfl, ?_⟩
 have H9 : Own ε _ (pts gb _ :: sqs sb l :: ledN b rb s :: R) := HH.out.pn
 exact Own.l2 (Own.join H9)
set_option maxHeartbeats 1600000 in
theorem lost1_c (lb nb gb db : Nat) (now delay limit : Int) (h1 : U delay) (h2 : U limit) (h3 : U s.re) (p : Pk) (hp : p.Ok) (H : Own ε w (ledN b rb s :: capX lb nb gb db b now delay limit :: R)) :
  Calls Tryz.prog 105 #[.agg #[.int .u64 p.n, .int .u64 p.size, .int .u64 p.sent, .int .u64 p.first, .int .u64 p.deliv, .int .u64 p.at', .bool p.lim], .pointer (some ⟨lb, 0, none⟩), .pointer (some ⟨nb, 0, none⟩), .pointer (some ⟨gb, 0, none⟩), .pointer (some ⟨db, 0, none⟩)] w fun e w' => e = .returned (.bool (lostB s.re s.top s.some now delay limit p)) ∧ Own ε w' (ledN b rb s :: capX lb nb gb db b now delay limit :: R) := by
 obtain ⟨pn, ps, p3, p4, p5, p6, p7⟩ := p
 obtain ⟨u1, _, u3, _⟩ := hp
 simp only at u1 u3
 obtain ⟨re, next, top, sm, row⟩ := s
 simp only at h3 H ⊢
 unfold lostB
 simp only
 have HH := Lib.hid (Own.capX_open (Own.l2 H))
 clear H
 replace h1 := Lib.hid h1
 replace h2 := Lib.hid h2
 replace h3 := Lib.hid h3
 replace u1 := Lib.hid u1
 replace u3 := Lib.hid u3
 have hmk : ∀ W : World, Own ε W (pts lb (.cells #[.int .u64 limit] 22 (0, 0)) :: pts nb (.cells #[.int .u64 now] 22 (0, 0)) :: pts db (.cells #[.int .u64 delay] 22 (0, 0)) :: pts gb (.cells #[.pointer (some ⟨b, 0, none⟩)] 60 (0, 0)) :: ledN b rb ⟨re, next, top, sm, row⟩ :: R) → Own ε W (ledN b rb ⟨re, next, top, sm, row⟩ :: capX lb nb gb db b now delay limit :: R) := fun _ H => Own.l2 (Own.capX_mk H)
 replace hmk := Lib.hid hmk
 by_cases ha : sadd p3 limit ≤ now
 ·have da : decide (sadd p3 limit ≤ now) = true := decide_eq_true ha
  rw [da]
  clear ha
  go_enter Tryz.func105, Tryz.ntmps105
  go_wp2_with (with_reducible refine stop_bx ?_)
  refine Stop.go ?_
  refine wpList_box_own HH.out [_, _, _, _, _, _, _] rfl ?_
  intro pb w3_ H9_
  replace HH := Lib.hid H9_
  clear H9_
  go_wp2_with fail
  refine wp_region_reg none HH.out (by kernel_rfl) ?_
  intro wm H9_
  replace HH := Lib.hid H9_
  clear H9_
  refine reg_s 0 HH.out ?_
  refine reg_s 1 HH.out ?_
  refine mixk_s 2 HH.out (fun _ hx => And.intro hx.cells (And.intro hx.r2.cells hx.r3.cells)) ?_
  refine mixk_s 3 HH.out (fun _ hx => And.intro hx.cells (And.intro hx.r2.cells hx.r3.cells)) ?_
  refine mixk_s 6 HH.out (fun _ hx => And.intro hx.cells (And.intro hx.r2.cells hx.r3.cells)) ?_
  refine reg_l none (i := 4) rfl (by kernel_rfl) (fun wn hk K hK => ?_)
  replace HH := Lib.hid (hk _ _ HH.out)
  clear hk
  go_simp
  replace HH := Lib.hid (HH.out.alloc (.cells #[.int .u64 p3, .int .u64 limit] 22))
  generalize wn.alloc (.cells #[.int .u64 p3, .int .u64 limit] 22) = wm at *
  generalize wn.heap.size = sb at *
  refine hK _ _ _ HH.out (.inr ⟨rfl, fun _ h => h.tail⟩) ?_
  clear hK K
  refine reg_l none (i := 5) rfl (by kernel_rfl) (fun wn hk K hK => ?_)
  replace HH := Lib.hid (hk _ _ HH.out)
  clear hk
  go_simp
  refine (fixAdd2_c wn sb _ _ u3.out h2.out (HH.out.cells.1 0) (HH.out.cells.1 1)).mono ?_
  rintro e wm ⟨rfl, hbel⟩
  replace HH := Lib.hid ((by first | exact .same hbel | exact .drew hbel | exact .below hbel : Kp wn wm) _ _ HH.out)
  clear hbel
  refine hK _ _ _ HH.out (.inr ⟨rfl, fun _ h => h⟩) ?_
  clear hK K
  refine reg_s 7 HH.out ?_
  refine reg_s 8 HH.out ?_
  refine mixk_done (by kernel_rfl) (fun w4_ hk => ?_) _
  replace HH := Lib.hid (hk _ _ HH.out)
  clear hk
  go_wp2_with fail
  go_ret
  exact ⟨rfl, hmk.out _ HH.out.pn⟩
 ·have da : decide (sadd p3 limit ≤ now) = false := decide_eq_false ha
  rw [da]
  clear ha
  cases sm with
  | false =>
   go_enter Tryz.func105, Tryz.ntmps105
   go_wp2_with (with_reducible refine stop_bx ?_)
   refine Stop.go ?_
   refine wpList_box_own HH.out [_, _, _, _, _, _, _] rfl ?_
   intro pb w5_ H9_
   replace HH := Lib.hid H9_
   clear H9_
   go_wp2_with fail
   refine wp_region_reg none HH.out (by kernel_rfl) ?_
   intro wm H9_
   replace HH := Lib.hid H9_
   clear H9_
   refine reg_s 0 HH.out ?_
   refine reg_s 1 HH.out ?_
   refine mixk_s 2 HH.out (fun _ hx => And.intro hx.cells (And.intro hx.r2.cells hx.r3.cells)) ?_
   refine mixk_s 3 HH.out (fun _ hx => And.intro hx.cells (And.intro hx.r2.cells hx.r3.cells)) ?_
   refine mixk_s 6 HH.out (fun _ hx => And.intro hx.cells (And.intro hx.r2.cells hx.r3.cells)) ?_
   refine reg_l none (i := 4) rfl (by kernel_rfl) (fun wn hk K hK => ?_)
   replace HH := Lib.hid (hk _ _ HH.out)
   clear hk
   go_simp
   replace HH := Lib.hid (HH.out.alloc (.cells #[.int .u64 p3, .int .u64 limit] 22))
   generalize wn.alloc (.cells #[.int .u64 p3, .int .u64 limit] 22) = wm at *
   generalize wn.heap.size = sb at *
   refine hK _ _ _ HH.out (.inr ⟨rfl, fun _ h => h.tail⟩) ?_
   clear hK K
   refine reg_l none (i := 5) rfl (by kernel_rfl) (fun wn hk K hK => ?_)
   replace HH := Lib.hid (hk _ _ HH.out)
   clear hk
   go_simp
   refine (fixAdd2_c wn sb _ _ u3.out h2.out (HH.out.cells.1 0) (HH.out.cells.1 1)).mono ?_
   rintro e wm ⟨rfl, hbel⟩
   replace HH := Lib.hid ((by first | exact .same hbel | exact .drew hbel | exact .below hbel : Kp wn wm) _ _ HH.out)
   clear hbel
   refine hK _ _ _ HH.out (.inr ⟨rfl, fun _ h => h⟩) ?_
   clear hK K
   refine reg_s 7 HH.out ?_
   refine reg_s 8 HH.out ?_
   refine mixk_done (by kernel_rfl) (fun w6_ hk => ?_) _
   replace HH := Lib.hid (hk _ _ HH.out)
   clear hk
   replace HH := Lib.hid (HH.out.pn : Own _ _ (pts pb _ :: pts lb _ :: pts nb _ :: pts db _ :: pts gb _ :: ledN b rb _ :: R))
   (try clear cc1_); (try clear cc2_); (try clear cc5_); (try clear cc6_)
   have cc5_ := HH.out.r5.cells
   have cc6_ := HH.out.r6.cells
   go_wp2_with fail
   go_ret
   exact ⟨rfl, hmk.out _ HH.out.pn⟩
  | true =>
   by_cases hb : sadd pn re ≤ top
   ·have db' : decide (sadd pn re ≤ top) = true := decide_eq_true hb
    rw [db']
    clear hb
    go_enter Tryz.func105, Tryz.ntmps105
    go_wp2_with (with_reducible refine stop_bx ?_)
    refine Stop.go ?_
    refine wpList_box_own HH.out [_, _, _, _, _, _, _] rfl ?_
    intro pb w7_ H9_
    replace HH := Lib.hid H9_
    clear H9_
    go_wp2_with fail
    refine wp_region_reg none HH.out (by kernel_rfl) ?_
    intro wm H9_
    replace HH := Lib.hid H9_
    clear H9_
    refine reg_s 0 HH.out ?_
    refine reg_s 1 HH.out ?_
    refine mixk_s 2 HH.out (fun _ hx => And.intro hx.cells (And.intro hx.r2.cells hx.r3.cells)) ?_
    refine mixk_s 3 HH.out (fun _ hx => And.intro hx.cells (And.intro hx.r2.cells hx.r3.cells)) ?_
    refine mixk_s 6 HH.out (fun _ hx => And.intro hx.cells (And.intro hx.r2.cells hx.r3.cells)) ?_
    refine reg_l none (i := 4) rfl (by kernel_rfl) (fun wn hk K hK => ?_)
    replace HH := Lib.hid (hk _ _ HH.out)
    clear hk
    go_simp
    replace HH := Lib.hid (HH.out.alloc (.cells #[.int .u64 p3, .int .u64 limit] 22))
    generalize wn.alloc (.cells #[.int .u64 p3, .int .u64 limit] 22) = wm at *
    generalize wn.heap.size = sb at *
    refine hK _ _ _ HH.out (.inr ⟨rfl, fun _ h => h.tail⟩) ?_
    clear hK K
    refine reg_l none (i := 5) rfl (by kernel_rfl) (fun wn hk K hK => ?_)
    replace HH := Lib.hid (hk _ _ HH.out)
    clear hk
    go_simp
    refine (fixAdd2_c wn sb _ _ u3.out h2.out (HH.out.cells.1 0) (HH.out.cells.1 1)).mono ?_
    rintro e wm ⟨rfl, hbel⟩
    replace HH := Lib.hid ((by first | exact .same hbel | exact .drew hbel | exact .below hbel : Kp wn wm) _ _ HH.out)
    clear hbel
    refine hK _ _ _ HH.out (.inr ⟨rfl, fun _ h => h⟩) ?_
    clear hK K
    refine reg_s 7 HH.out ?_
    refine reg_s 8 HH.out ?_
    refine mixk_done (by kernel_rfl) (fun w8_ hk => ?_) _
    replace HH := Lib.hid (hk _ _ HH.out)
    clear hk
    replace HH := Lib.hid (HH.out.pn : Own _ _ (pts pb _ :: pts lb _ :: pts nb _ :: pts db _ :: pts gb _ :: ledN b rb _ :: R))
    (try clear cc1_); (try clear cc2_); (try clear cc5_); (try clear cc6_)
    have cc5_ := HH.out.r5.cells
    have cc6_ := HH.out.r6.cells
    go_wp2_with fail
    refine wp_region_reg none HH.out (by kernel_rfl) ?_
    intro wm H9_
    replace HH := Lib.hid H9_
    clear H9_
    refine reg_s 0 HH.out ?_
    refine mixk_s 1 HH.out (fun _ hx => And.intro hx.cells (And.intro hx.r2.cells (And.intro hx.r3.cells (And.intro hx.r4.cells (And.intro hx.r5.cells hx.r6.cells))))) ?_
    refine mixk_s 2 HH.out (fun _ hx => And.intro hx.cells (And.intro hx.r2.cells (And.intro hx.r3.cells (And.intro hx.r4.cells (And.intro hx.r5.cells hx.r6.cells))))) ?_
    refine reg_s 3 HH.out ?_
    refine reg_s 4 HH.out ?_
    refine mixk_s 5 HH.out (fun _ hx => And.intro hx.cells (And.intro hx.r2.cells (And.intro hx.r3.cells (And.intro hx.r4.cells (And.intro hx.r5.cells hx.r6.cells))))) ?_
    refine mixk_s 8 HH.out (fun _ hx => And.intro hx.cells (And.intro hx.r2.cells (And.intro hx.r3.cells (And.intro hx.r4.cells (And.intro hx.r5.cells hx.r6.cells))))) ?_
    refine reg_s 9 HH.out ?_
    refine reg_s 10 HH.out ?_
    refine mixk_s 11 HH.out (fun _ hx => And.intro hx.cells (And.intro hx.r2.cells (And.intro hx.r3.cells (And.intro hx.r4.cells (And.intro hx.r5.cells hx.r6.cells))))) ?_
    refine reg_l none (i := 6) rfl (by kernel_rfl) (fun wn hk K hK => ?_)
    replace HH := Lib.hid (hk _ _ HH.out)
    clear hk
    go_simp
    replace HH := Lib.hid (HH.out.alloc (.cells #[.int .u64 pn, .int .u64 re] 22))
    generalize wn.alloc (.cells #[.int .u64 pn, .int .u64 re] 22) = wm at *
    generalize wn.heap.size = sc at *
    refine hK _ _ _ HH.out (.inr ⟨rfl, fun _ h => h.tail⟩) ?_
    clear hK K
    refine reg_l none (i := 7) rfl (by kernel_rfl) (fun wn hk K hK => ?_)
    replace HH := Lib.hid (hk _ _ HH.out)
    clear hk
    go_simp
    refine (fixAdd2_c wn sc _ _ u1.out h3.out (HH.out.cells.1 0) (HH.out.cells.1 1)).mono ?_
    rintro e wm ⟨rfl, hbel⟩
    replace HH := Lib.hid ((by first | exact .same hbel | exact .drew hbel | exact .below hbel : Kp wn wm) _ _ HH.out)
    clear hbel
    refine hK _ _ _ HH.out (.inr ⟨rfl, fun _ h => h⟩) ?_
    clear hK K
    refine reg_s 12 HH.out ?_
    refine reg_s 13 HH.out ?_
    refine reg_s 14 HH.out ?_
    refine mixk_s 15 HH.out (fun _ hx => And.intro hx.r2.cells (And.intro hx.r3.cells (And.intro hx.r4.cells (And.intro hx.r5.cells (And.intro hx.r6.cells hx.r7.cells))))) ?_
    refine mixk_s 16 HH.out (fun _ hx => And.intro hx.r2.cells (And.intro hx.r3.cells (And.intro hx.r4.cells (And.intro hx.r5.cells (And.intro hx.r6.cells hx.r7.cells))))) ?_
    refine reg_s 17 HH.out ?_
    refine reg_s 18 HH.out ?_
    refine mixk_s 19 HH.out (fun _ hx => And.intro hx.r2.cells (And.intro hx.r3.cells (And.intro hx.r4.cells (And.intro hx.r5.cells (And.intro hx.r6.cells hx.r7.cells))))) ?_
    refine reg_s 20 HH.out ?_
    refine reg_s 21 HH.out ?_
    refine reg_s 22 HH.out ?_
    refine reg_s 23 HH.out ?_
    refine mixk_s 24 HH.out (fun _ hx => And.intro hx.r2.cells (And.intro hx.r3.cells (And.intro hx.r4.cells (And.intro hx.r5.cells (And.intro hx.r6.cells hx.r7.cells))))) ?_
    refine mixk_s 25 HH.out (fun _ hx => And.intro hx.r2.cells (And.intro hx.r3.cells (And.intro hx.r4.cells (And.intro hx.r5.cells (And.intro hx.r6.cells hx.r7.cells))))) ?_
    refine mixk_s 28 HH.out (fun _ hx => And.intro hx.r2.cells (And.intro hx.r3.cells (And.intro hx.r4.cells (And.intro hx.r5.cells (And.intro hx.r6.cells hx.r7.cells))))) ?_
    refine reg_l none (i := 26) rfl (by kernel_rfl) (fun wn hk K hK => ?_)
    replace HH := Lib.hid (hk _ _ HH.out)
    clear hk
    go_simp
    refine hK _ _ _ HH.out (.inr ⟨rfl, fun _ h => h⟩) ?_
    clear hK K
    refine reg_l none (i := 27) rfl (by kernel_rfl) (fun wn hk K hK => ?_)
    replace HH := Lib.hid (hk _ _ HH.out)
    clear hk
    go_simp
    refine hK _ _ _ HH.out (.inr ⟨rfl, fun _ h => h⟩) ?_
    clear hK K
    refine reg_s 29 HH.out ?_
    refine reg_s 30 HH.out ?_
    refine reg_s 31 HH.out ?_
    refine reg_s 32 HH.out ?_
    refine mixk_done (by kernel_rfl) (fun w9_ hk => ?_) _
    replace HH := Lib.hid (hk _ _ HH.out)
    clear hk
    go_wp2_with fail
    go_ret
    exact ⟨rfl, hmk.out _ HH.out.pn⟩
   ·have db' : decide (sadd pn re ≤ top) = false := decide_eq_false hb
    rw [db']
    clear hb
    by_cases hc : pn < top
    ·have dc : decide (pn < top) = true := decide_eq_true hc
     rw [dc]
     clear hc
     go_enter Tryz.func105, Tryz.ntmps105
     go_wp2_with (with_reducible refine stop_bx ?_)
     refine Stop.go ?_
     refine wpList_box_own HH.out [_, _, _, _, _, _, _] rfl ?_
     intro pb w10_ H9_
     replace HH := Lib.hid H9_
     clear H9_
     go_wp2_with fail
     refine wp_region_reg none HH.out (by kernel_rfl) ?_
     intro wm H9_
     replace HH := Lib.hid H9_
     clear H9_
     refine reg_s 0 HH.out ?_
     refine reg_s 1 HH.out ?_
     refine mixk_s 2 HH.out (fun _ hx => And.intro hx.cells (And.intro hx.r2.cells hx.r3.cells)) ?_
     refine mixk_s 3 HH.out (fun _ hx => And.intro hx.cells (And.intro hx.r2.cells hx.r3.cells)) ?_
     refine mixk_s 6 HH.out (fun _ hx => And.intro hx.cells (And.intro hx.r2.cells hx.r3.cells)) ?_
     refine reg_l none (i := 4) rfl (by kernel_rfl) (fun wn hk K hK => ?_)
     replace HH := Lib.hid (hk _ _ HH.out)
     clear hk
     go_simp
     replace HH := Lib.hid (HH.out.alloc (.cells #[.int .u64 p3, .int .u64 limit] 22))
     generalize wn.alloc (.cells #[.int .u64 p3, .int .u64 limit] 22) = wm at *
     generalize wn.heap.size = sb at *
     refine hK _ _ _ HH.out (.inr ⟨rfl, fun _ h => h.tail⟩) ?_
     clear hK K
     refine reg_l none (i := 5) rfl (by kernel_rfl) (fun wn hk K hK => ?_)
     replace HH := Lib.hid (hk _ _ HH.out)
     clear hk
     go_simp
     refine (fixAdd2_c wn sb _ _ u3.out h2.out (HH.out.cells.1 0) (HH.out.cells.1 1)).mono ?_
     rintro e wm ⟨rfl, hbel⟩
     replace HH := Lib.hid ((by first | exact .same hbel | exact .drew hbel | exact .below hbel : Kp wn wm) _ _ HH.out)
     clear hbel
     refine hK _ _ _ HH.out (.inr ⟨rfl, fun _ h => h⟩) ?_
     clear hK K
     refine reg_s 7 HH.out ?_
     refine reg_s 8 HH.out ?_
     refine mixk_done (by kernel_rfl) (fun w11_ hk => ?_) _
     replace HH := Lib.hid (hk _ _ HH.out)
     clear hk
     replace HH := Lib.hid (HH.out.pn : Own _ _ (pts pb _ :: pts lb _ :: pts nb _ :: pts db _ :: pts gb _ :: ledN b rb _ :: R))
     (try clear cc1_); (try clear cc2_); (try clear cc5_); (try clear cc6_)
     have cc5_ := HH.out.r5.cells
     have cc6_ := HH.out.r6.cells
     go_wp2_with fail
     refine wp_region_reg none HH.out (by kernel_rfl) ?_
     intro wm H9_
     replace HH := Lib.hid H9_
     clear H9_
     refine reg_s 0 HH.out ?_
     refine mixk_s 1 HH.out (fun _ hx => And.intro hx.cells (And.intro hx.r2.cells (And.intro hx.r3.cells (And.intro hx.r4.cells (And.intro hx.r5.cells hx.r6.cells))))) ?_
     refine mixk_s 2 HH.out (fun _ hx => And.intro hx.cells (And.intro hx.r2.cells (And.intro hx.r3.cells (And.intro hx.r4.cells (And.intro hx.r5.cells hx.r6.cells))))) ?_
     refine reg_s 3 HH.out ?_
     refine reg_s 4 HH.out ?_
     refine mixk_s 5 HH.out (fun _ hx => And.intro hx.cells (And.intro hx.r2.cells (And.intro hx.r3.cells (And.intro hx.r4.cells (And.intro hx.r5.cells hx.r6.cells))))) ?_
     refine mixk_s 8 HH.out (fun _ hx => And.intro hx.cells (And.intro hx.r2.cells (And.intro hx.r3.cells (And.intro hx.r4.cells (And.intro hx.r5.cells hx.r6.cells))))) ?_
     refine reg_s 9 HH.out ?_
     refine reg_s 10 HH.out ?_
     refine mixk_s 11 HH.out (fun _ hx => And.intro hx.cells (And.intro hx.r2.cells (And.intro hx.r3.cells (And.intro hx.r4.cells (And.intro hx.r5.cells hx.r6.cells))))) ?_
     refine reg_l none (i := 6) rfl (by kernel_rfl) (fun wn hk K hK => ?_)
     replace HH := Lib.hid (hk _ _ HH.out)
     clear hk
     go_simp
     replace HH := Lib.hid (HH.out.alloc (.cells #[.int .u64 pn, .int .u64 re] 22))
     generalize wn.alloc (.cells #[.int .u64 pn, .int .u64 re] 22) = wm at *
     generalize wn.heap.size = sc at *
     refine hK _ _ _ HH.out (.inr ⟨rfl, fun _ h => h.tail⟩) ?_
     clear hK K
     refine reg_l none (i := 7) rfl (by kernel_rfl) (fun wn hk K hK => ?_)
     replace HH := Lib.hid (hk _ _ HH.out)
     clear hk
     go_simp
     refine (fixAdd2_c wn sc _ _ u1.out h3.out (HH.out.cells.1 0) (HH.out.cells.1 1)).mono ?_
     rintro e wm ⟨rfl, hbel⟩
     replace HH := Lib.hid ((by first | exact .same hbel | exact .drew hbel | exact .below hbel : Kp wn wm) _ _ HH.out)
     clear hbel
     refine hK _ _ _ HH.out (.inr ⟨rfl, fun _ h => h⟩) ?_
     clear hK K
     refine reg_s 12 HH.out ?_
     refine reg_s 13 HH.out ?_
     refine reg_s 14 HH.out ?_
     refine mixk_s 15 HH.out (fun _ hx => And.intro hx.r2.cells (And.intro hx.r3.cells (And.intro hx.r4.cells (And.intro hx.r5.cells (And.intro hx.r6.cells hx.r7.cells))))) ?_
     refine mixk_s 16 HH.out (fun _ hx => And.intro hx.r2.cells (And.intro hx.r3.cells (And.intro hx.r4.cells (And.intro hx.r5.cells (And.intro hx.r6.cells hx.r7.cells))))) ?_
     refine reg_s 17 HH.out ?_
     refine reg_s 18 HH.out ?_
     refine mixk_s 19 HH.out (fun _ hx => And.intro hx.r2.cells (And.intro hx.r3.cells (And.intro hx.r4.cells (And.intro hx.r5.cells (And.intro hx.r6.cells hx.r7.cells))))) ?_
     refine reg_s 20 HH.out ?_
     refine reg_s 21 HH.out ?_
     refine reg_s 22 HH.out ?_
     refine reg_s 23 HH.out ?_
     refine mixk_s 24 HH.out (fun _ hx => And.intro hx.r2.cells (And.intro hx.r3.cells (And.intro hx.r4.cells (And.intro hx.r5.cells (And.intro hx.r6.cells hx.r7.cells))))) ?_
     refine mixk_s 25 HH.out (fun _ hx => And.intro hx.r2.cells (And.intro hx.r3.cells (And.intro hx.r4.cells (And.intro hx.r5.cells (And.intro hx.r6.cells hx.r7.cells))))) ?_
     refine mixk_s 28 HH.out (fun _ hx => And.intro hx.r2.cells (And.intro hx.r3.cells (And.intro hx.r4.cells (And.intro hx.r5.cells (And.intro hx.r6.cells hx.r7.cells))))) ?_
     refine reg_l none (i := 26) rfl (by kernel_rfl) (fun wn hk K hK => ?_)
     replace HH := Lib.hid (hk _ _ HH.out)
     clear hk
     go_simp
     replace HH := Lib.hid (HH.out.alloc (.cells #[.int .u64 p3, .int .u64 delay] 22))
     generalize wn.alloc (.cells #[.int .u64 p3, .int .u64 delay] 22) = wm at *
     generalize wn.heap.size = sd at *
     refine hK _ _ _ HH.out (.inr ⟨rfl, fun _ h => h.tail⟩) ?_
     clear hK K
     refine reg_l none (i := 27) rfl (by kernel_rfl) (fun wn hk K hK => ?_)
     replace HH := Lib.hid (hk _ _ HH.out)
     clear hk
     go_simp
     refine (fixAdd2_c wn sd _ _ u3.out h1.out (HH.out.cells.1 0) (HH.out.cells.1 1)).mono ?_
     rintro e wm ⟨rfl, hbel⟩
     replace HH := Lib.hid ((by first | exact .same hbel | exact .drew hbel | exact .below hbel : Kp wn wm) _ _ HH.out)
     clear hbel
     refine hK _ _ _ HH.out (.inr ⟨rfl, fun _ h => h⟩) ?_
     clear hK K
     refine reg_s 29 HH.out ?_
     refine reg_s 30 HH.out ?_
     refine reg_s 31 HH.out ?_
     refine reg_s 32 HH.out ?_
     refine mixk_done (by kernel_rfl) (fun w12_ hk => ?_) _
     replace HH := Lib.hid (hk _ _ HH.out)
     clear hk
     go_wp2_with fail
     go_ret
     exact ⟨by simp, hmk.out _ HH.out.pn⟩
    ·have dc : decide (pn < top) = false := decide_eq_false hc
     rw [dc]
     clear hc
     go_enter Tryz.func105, Tryz.ntmps105
     go_wp2_with (with_reducible refine stop_bx ?_)
     refine Stop.go ?_
     refine wpList_box_own HH.out [_, _, _, _, _, _, _] rfl ?_
     intro pb w13_ H9_
     replace HH := Lib.hid H9_
     clear H9_
     go_wp2_with fail
     refine wp_region_reg none HH.out (by kernel_rfl) ?_
     intro wm H9_
     replace HH := Lib.hid H9_
     clear H9_
     refine reg_s 0 HH.out ?_
     refine reg_s 1 HH.out ?_
     refine mixk_s 2 HH.out (fun _ hx => And.intro hx.cells (And.intro hx.r2.cells hx.r3.cells)) ?_
     refine mixk_s 3 HH.out (fun _ hx => And.intro hx.cells (And.intro hx.r2.cells hx.r3.cells)) ?_
     refine mixk_s 6 HH.out (fun _ hx => And.intro hx.cells (And.intro hx.r2.cells hx.r3.cells)) ?_
     refine reg_l none (i := 4) rfl (by kernel_rfl) (fun wn hk K hK => ?_)
     replace HH := Lib.hid (hk _ _ HH.out)
     clear hk
     go_simp
     replace HH := Lib.hid (HH.out.alloc (.cells #[.int .u64 p3, .int .u64 limit] 22))
     generalize wn.alloc (.cells #[.int .u64 p3, .int .u64 limit] 22) = wm at *
     generalize wn.heap.size = sb at *
     refine hK _ _ _ HH.out (.inr ⟨rfl, fun _ h => h.tail⟩) ?_
     clear hK K
     refine reg_l none (i := 5) rfl (by kernel_rfl) (fun wn hk K hK => ?_)
     replace HH := Lib.hid (hk _ _ HH.out)
     clear hk
     go_simp
     refine (fixAdd2_c wn sb _ _ u3.out h2.out (HH.out.cells.1 0) (HH.out.cells.1 1)).mono ?_
     rintro e wm ⟨rfl, hbel⟩
     replace HH := Lib.hid ((by first | exact .same hbel | exact .drew hbel | exact .below hbel : Kp wn wm) _ _ HH.out)
     clear hbel
     refine hK _ _ _ HH.out (.inr ⟨rfl, fun _ h => h⟩) ?_
     clear hK K
     refine reg_s 7 HH.out ?_
     refine reg_s 8 HH.out ?_
     refine mixk_done (by kernel_rfl) (fun w14_ hk => ?_) _
     replace HH := Lib.hid (hk _ _ HH.out)
     clear hk
     replace HH := Lib.hid (HH.out.pn : Own _ _ (pts pb _ :: pts lb _ :: pts nb _ :: pts db _ :: pts gb _ :: ledN b rb _ :: R))
     (try clear cc1_); (try clear cc2_); (try clear cc5_); (try clear cc6_)
     have cc5_ := HH.out.r5.cells
     have cc6_ := HH.out.r6.cells
     go_wp2_with fail
     refine wp_region_reg none HH.out (by kernel_rfl) ?_
     intro wm H9_
     replace HH := Lib.hid H9_
     clear H9_
     refine reg_s 0 HH.out ?_
     refine mixk_s 1 HH.out (fun _ hx => And.intro hx.cells (And.intro hx.r2.cells (And.intro hx.r3.cells (And.intro hx.r4.cells (And.intro hx.r5.cells hx.r6.cells))))) ?_
     refine mixk_s 2 HH.out (fun _ hx => And.intro hx.cells (And.intro hx.r2.cells (And.intro hx.r3.cells (And.intro hx.r4.cells (And.intro hx.r5.cells hx.r6.cells))))) ?_
     refine reg_s 3 HH.out ?_
     refine reg_s 4 HH.out ?_
     refine mixk_s 5 HH.out (fun _ hx => And.intro hx.cells (And.intro hx.r2.cells (And.intro hx.r3.cells (And.intro hx.r4.cells (And.intro hx.r5.cells hx.r6.cells))))) ?_
     refine mixk_s 8 HH.out (fun _ hx => And.intro hx.cells (And.intro hx.r2.cells (And.intro hx.r3.cells (And.intro hx.r4.cells (And.intro hx.r5.cells hx.r6.cells))))) ?_
     refine reg_s 9 HH.out ?_
     refine reg_s 10 HH.out ?_
     refine mixk_s 11 HH.out (fun _ hx => And.intro hx.cells (And.intro hx.r2.cells (And.intro hx.r3.cells (And.intro hx.r4.cells (And.intro hx.r5.cells hx.r6.cells))))) ?_
     refine reg_l none (i := 6) rfl (by kernel_rfl) (fun wn hk K hK => ?_)
     replace HH := Lib.hid (hk _ _ HH.out)
     clear hk
     go_simp
     replace HH := Lib.hid (HH.out.alloc (.cells #[.int .u64 pn, .int .u64 re] 22))
     generalize wn.alloc (.cells #[.int .u64 pn, .int .u64 re] 22) = wm at *
     generalize wn.heap.size = sc at *
     refine hK _ _ _ HH.out (.inr ⟨rfl, fun _ h => h.tail⟩) ?_
     clear hK K
     refine reg_l none (i := 7) rfl (by kernel_rfl) (fun wn hk K hK => ?_)
     replace HH := Lib.hid (hk _ _ HH.out)
     clear hk
     go_simp
     refine (fixAdd2_c wn sc _ _ u1.out h3.out (HH.out.cells.1 0) (HH.out.cells.1 1)).mono ?_
     rintro e wm ⟨rfl, hbel⟩
     replace HH := Lib.hid ((by first | exact .same hbel | exact .drew hbel | exact .below hbel : Kp wn wm) _ _ HH.out)
     clear hbel
     refine hK _ _ _ HH.out (.inr ⟨rfl, fun _ h => h⟩) ?_
     clear hK K
     refine reg_s 12 HH.out ?_
     refine reg_s 13 HH.out ?_
     refine reg_s 14 HH.out ?_
     refine mixk_s 15 HH.out (fun _ hx => And.intro hx.r2.cells (And.intro hx.r3.cells (And.intro hx.r4.cells (And.intro hx.r5.cells (And.intro hx.r6.cells hx.r7.cells))))) ?_
     refine mixk_s 16 HH.out (fun _ hx => And.intro hx.r2.cells (And.intro hx.r3.cells (And.intro hx.r4.cells (And.intro hx.r5.cells (And.intro hx.r6.cells hx.r7.cells))))) ?_
     refine reg_s 17 HH.out ?_
     refine reg_s 18 HH.out ?_
     refine mixk_s 19 HH.out (fun _ hx => And.intro hx.r2.cells (And.intro hx.r3.cells (And.intro hx.r4.cells (And.intro hx.r5.cells (And.intro hx.r6.cells hx.r7.cells))))) ?_
     refine reg_s 20 HH.out ?_
     refine reg_s 21 HH.out ?_
     refine reg_s 22 HH.out ?_
     refine reg_s 23 HH.out ?_
     refine mixk_s 24 HH.out (fun _ hx => And.intro hx.r2.cells (And.intro hx.r3.cells (And.intro hx.r4.cells (And.intro hx.r5.cells (And.intro hx.r6.cells hx.r7.cells))))) ?_
     refine mixk_s 25 HH.out (fun _ hx => And.intro hx.r2.cells (And.intro hx.r3.cells (And.intro hx.r4.cells (And.intro hx.r5.cells (And.intro hx.r6.cells hx.r7.cells))))) ?_
     refine mixk_s 28 HH.out (fun _ hx => And.intro hx.r2.cells (And.intro hx.r3.cells (And.intro hx.r4.cells (And.intro hx.r5.cells (And.intro hx.r6.cells hx.r7.cells))))) ?_
     refine reg_l none (i := 26) rfl (by kernel_rfl) (fun wn hk K hK => ?_)
     replace HH := Lib.hid (hk _ _ HH.out)
     clear hk
     go_simp
     refine hK _ _ _ HH.out (.inr ⟨rfl, fun _ h => h⟩) ?_
     clear hK K
     refine reg_l none (i := 27) rfl (by kernel_rfl) (fun wn hk K hK => ?_)
     replace HH := Lib.hid (hk _ _ HH.out)
     clear hk
     go_simp
     refine hK _ _ _ HH.out (.inr ⟨rfl, fun _ h => h⟩) ?_
     clear hK K
     refine reg_s 29 HH.out ?_
     refine reg_s 30 HH.out ?_
     refine reg_s 31 HH.out ?_
     refine reg_s 32 HH.out ?_
     refine mixk_done (by kernel_rfl) (fun w15_ hk => ?_) _
     replace HH := Lib.hid (hk _ _ HH.out)
     clear hk
     go_wp2_with fail
     go_ret
     exact ⟨rfl, hmk.out _ HH.out.pn⟩
end
end Go.Proofs.YtmkcpnlbicijoaaGreat
