/- rate: the sampler. -/
import Derived.Test.YtmkcpnlbicijoaaGreatRange
import Derived.Test.YtmkcpnlbicijoaaGreatLed3
import Derived.Test.YtmkcpnlbicijoaaGreatCalm
import Derived.Test.YtmkcpnlbicijoaaGreatRttD
import Derived.Test.YtmkcpnlbicijoaaGreatItAt
import Derived.Deep.Cut
namespace Go.Proofs.YtmkcpnlbicijoaaGreat
open Go.RowKit
def cmpI (x y : Int) : Int := if x < y then -1 else if y < x then 1 else 0
def orC (a b : Int) : Int := if a = 0 then b else a
def ordI (p q : Pk) : Int := orC (cmpI p.deliv q.deliv) (cmpI p.sent q.sent)
def Pk.st (p : Pk) : List Value := [.int .u64 p.sent, .int .u64 p.first, .int .u64 p.deliv, .int .u64 p.at', .bool p.lim]
def newestF (acc : Pk × Int) (p : Pk) : Pk × Int := (if 0 ≤ ordI p acc.1 then p else acc.1, sadd acc.2 p.size)
def newestL (p0 : Pk) (l : List Pk) : Pk × Int := l.foldl newestF (p0, 0)
theorem newestL_snoc (p0 : Pk) (l : List Pk) (p : Pk) : newestL p0 (l ++ [p]) = newestF (newestL p0 l) p := by simp [newestL]
theorem newestF_ok {acc : Pk × Int} (h1 : acc.1.Ok) (h2 : U acc.2) {p : Pk} (hp : p.Ok) : (newestF acc p).1.Ok ∧ U (newestF acc p).2 := by
 refine ⟨?_, U_sadd h2 hp.2.1⟩
 show (if _ then _ else _ : Pk).Ok
 split
 ·exact hp
 ·exact h1
theorem newestL_ok {p0 : Pk} (h0 : p0.Ok) {l : List Pk} (h : ∀ p ∈ l, p.Ok) : (newestL p0 l).1.Ok ∧ U (newestL p0 l).2 := by
 unfold newestL
 have key : ∀ (l : List Pk) (acc : Pk × Int), acc.1.Ok → U acc.2 → (∀ p ∈ l, p.Ok) → (l.foldl newestF acc).1.Ok ∧ U (l.foldl newestF acc).2 := by
  intro l
  induction l with
  | nil => intro acc a b _; exact ⟨a, b⟩
  | cons p l ih =>
   intro acc a b hl
   obtain ⟨c, d⟩ := newestF_ok a b (hl p (List.mem_cons_self ..))
   exact ih _ c d fun q hq => hl q (List.mem_cons_of_mem _ hq)
 exact key l _ h0 U_zero h
section
variable (ε w : World) (R : List Asn)
theorem isNaN_c (x : Int) : Calls Tryz.prog 165 #[.int .u64 x] w fun e w' => e = .returned (.bool false) ∧ w = w' := by
 go_enter Tryz.func165, Tryz.ntmps165
 go_wp2_with fail
 go_ret
 exact ⟨rfl, rfl⟩
theorem cmpCompare_c (x y : Int) : Calls Tryz.prog 159 #[.int .u64 x, .int .u64 y] w fun e w' => e = .returned (.int .i64 (cmpI x y)) ∧ w = w' := by
 unfold cmpI
 have h1 := isNaN_c w x
 have h2 := isNaN_c w y
 by_cases hlt : x < y
 ·rw [if_pos hlt]
  go_enter Tryz.func159, Tryz.ntmps159
  go_wp2_with fail
  refine (isNaN_c w x).mono ?_
  rintro e w' ⟨rfl, rfl⟩
  go_wp2_with fail
  refine (isNaN_c w y).mono ?_
  rintro e w' ⟨rfl, rfl⟩
  go_wp2_with fail
  go_ret
  exact ⟨rfl, rfl⟩
 ·rw [if_neg hlt]
  by_cases hgt : y < x
  ·rw [if_pos hgt]
   go_enter Tryz.func159, Tryz.ntmps159
   go_wp2_with fail
   refine (isNaN_c w x).mono ?_
   rintro e w' ⟨rfl, rfl⟩
   go_wp2_with fail
   refine (isNaN_c w y).mono ?_
   rintro e w' ⟨rfl, rfl⟩
   go_wp2_with fail
   go_ret
   exact ⟨rfl, rfl⟩
  ·rw [if_neg hgt]
   go_enter Tryz.func159, Tryz.ntmps159
   go_wp2_with fail
   refine (isNaN_c w x).mono ?_
   rintro e w' ⟨rfl, rfl⟩
   go_wp2_with fail
   refine (isNaN_c w y).mono ?_
   rintro e w' ⟨rfl, rfl⟩
   go_wp2_with fail
   go_ret
   exact ⟨rfl, rfl⟩
theorem cmpOr_c (b : Nat) (x y : Int) (h0 : w.cell? ⟨b, 0, none⟩ = some (.int .i64 x)) (h1 : w.cell? ⟨b, 1, none⟩ = some (.int .i64 y)) :
  Calls Tryz.prog 158 #[.slice (some ⟨b, 0, none⟩) 2 2] w fun e w' => e = .returned (.int .i64 (orC x y)) ∧ w = w' := by
 go_enter Tryz.func158, Tryz.ntmps158
 go_wp2_with fail
 go_loopw [8] (fun i wr => ∃ k : Nat, k ≤ 2 ∧ i = .int .i64 k ∧ wr = w ∧ (0 < k → x = 0) ∧ (1 < k → y = 0)) (fun i _ => 2 - (intOf i).toNat)
 case atStart => exact ⟨0, by decide, rfl, rfl, by omega, by omega⟩
 case round =>
  obtain ⟨k, hk, rfl, rfl, hx, hy⟩ := hrel
  rcases Nat.lt_or_ge k 2 with hk2 | hk2
  ·rcases Nat.eq_zero_or_pos k with rfl | hp
   ·by_cases hx0 : x = 0
    ·subst hx0
     go_wp2_with fail
     go_roundw
     case rel => refine ⟨1, by decide, ?_⟩; simp
     case measure => simp [intOf]
    ·go_wp2_with fail
     go_ret
     exact ⟨congrArg (fun z => Ending.returned (.int .i64 z)) (show x = orC x y by unfold orC; rw [if_neg hx0]), rfl⟩
   ·obtain rfl : k = 1 := by omega
    obtain rfl := hx (by omega)
    by_cases hy0 : y = 0
    ·subst hy0
     go_wp2_with fail
     go_roundw
     case rel => refine ⟨2, by decide, ?_⟩; simp
     case measure => simp [intOf]
    ·go_wp2_with fail
     go_ret
     exact ⟨congrArg (fun z => Ending.returned (.int .i64 z)) (show y = orC 0 y by unfold orC; rw [if_pos rfl]), rfl⟩
  ·obtain rfl : k = 2 := by omega
   obtain rfl := hx (by omega)
   obtain rfl := hy (by omega)
   go_wp2_with fail
   go_ret
   exact ⟨rfl, rfl⟩
set_option maxHeartbeats 1600000 in
theorem rateOrder_c (p q : Pk) (H : Own ε w R) :
  Calls Tryz.prog 133 #[.agg p.st.toArray, .agg q.st.toArray] w fun e w' => e = .returned (.int .i64 (ordI p q)) ∧ Own ε w' R := by
 have HH := Lib.hid H; clear H
 obtain ⟨pn, ps, p3, p4, p5, p6, p7⟩ := p
 obtain ⟨qn, qs, q3, q4, q5, q6, q7⟩ := q
 go_enter Tryz.func133, Tryz.ntmps133
 go_wp2_with (with_reducible refine stop_bx ?_)
 refine Stop.go ?_
 refine wpList_box_own HH.out [_, _, _, _, _] rfl ?_
 intro ba w1_ H9_
 replace HH := Lib.hid H9_
 clear H9_
 go_wp2_with (with_reducible refine stop_bx ?_)
 refine Stop.go ?_
 refine wpList_box_own HH.out [_, _, _, _, _] rfl ?_
 intro bb w2_ H9_
 replace HH := Lib.hid H9_
 clear H9_
 go_wp2_with fail
 refine wp_region_reg none HH.out (by kernel_rfl) ?_
 intro wm H9_
 replace HH := Lib.hid H9_
 clear H9_
 refine reg_s 0 HH.out ?_
 refine mixk_s 1 HH.out (fun _ hx => And.intro hx.cells hx.r2.cells) ?_
 refine reg_s 2 HH.out ?_
 refine mixk_s 3 HH.out (fun _ hx => And.intro hx.cells hx.r2.cells) ?_
 refine mixk_q (i := 4) rfl (by kernel_rfl) (fun _ _ _ _ h => h) HH.out (fun K hK => ?_)
 go_simp
 (first | refine hK _ ?_ | (apply Exists.intro; refine ⟨?_, hK _ ?_⟩; focus intro wx hx; first | (first | (go_at_call 159; (with_reducible refine (cmpCompare_c wx p5 q5).mono ?_); rintro e wy ⟨rfl, hbel⟩; exact ⟨rfl, (by first | exact .same hbel | exact .drew hbel | exact .below hbel : Kp wx wy)⟩) | (go_at_call 159; (with_reducible refine (cmpCompare_c wx p3 q3).mono ?_); rintro e wy ⟨rfl, hbel⟩; exact ⟨rfl, (by first | exact .same hbel | exact .drew hbel | exact .below hbel : Kp wx wy)⟩)) | (go_simp; first | rfl | exact ⟨rfl, rfl⟩) | rfl | exact ⟨rfl, rfl⟩)); clear hK K
 refine reg_s 5 HH.out ?_
 refine mixk_s 6 HH.out (fun _ hx => And.intro hx.cells hx.r2.cells) ?_
 refine reg_s 7 HH.out ?_
 refine mixk_s 8 HH.out (fun _ hx => And.intro hx.cells hx.r2.cells) ?_
 refine mixk_q (i := 9) rfl (by kernel_rfl) (fun _ _ _ _ h => h) HH.out (fun K hK => ?_)
 go_simp
 (first | refine hK _ ?_ | (apply Exists.intro; refine ⟨?_, hK _ ?_⟩; focus intro wx hx; first | (first | (go_at_call 159; (with_reducible refine (cmpCompare_c wx p5 q5).mono ?_); rintro e wy ⟨rfl, hbel⟩; exact ⟨rfl, (by first | exact .same hbel | exact .drew hbel | exact .below hbel : Kp wx wy)⟩) | (go_at_call 159; (with_reducible refine (cmpCompare_c wx p3 q3).mono ?_); rintro e wy ⟨rfl, hbel⟩; exact ⟨rfl, (by first | exact .same hbel | exact .drew hbel | exact .below hbel : Kp wx wy)⟩)) | (go_simp; first | rfl | exact ⟨rfl, rfl⟩) | rfl | exact ⟨rfl, rfl⟩)); clear hK K
 refine reg_l none (i := 10) rfl (by kernel_rfl) (fun wn hk K hK => ?_)
 replace HH := Lib.hid (hk _ _ HH.out)
 clear hk
 go_simp
 replace HH := Lib.hid (HH.out.alloc (.cells #[.int .i64 (cmpI p5 q5), .int .i64 (cmpI p3 q3)] 3))
 generalize wn.alloc (.cells #[.int .i64 (cmpI p5 q5), .int .i64 (cmpI p3 q3)] 3) = wm at *
 generalize wn.heap.size = sb at *
 refine hK _ _ _ HH.out (.inr ⟨rfl, fun _ h => h.tail⟩) ?_
 clear hK K
 refine reg_l none (i := 11) rfl (by kernel_rfl) (fun wn hk K hK => ?_)
 replace HH := Lib.hid (hk _ _ HH.out)
 clear hk
 go_simp
 refine (cmpOr_c wn sb (cmpI p5 q5) (cmpI p3 q3) (HH.out.cells.1 0) (HH.out.cells.1 1)).mono ?_
 rintro e wm ⟨rfl, hbel⟩
 replace HH := Lib.hid ((by first | exact .same hbel | exact .drew hbel | exact .below hbel : Kp wn wm) _ _ HH.out)
 clear hbel
 refine hK _ _ _ HH.out (.inr ⟨rfl, fun _ h => h⟩) ?_
 clear hK K
 refine reg_s 12 HH.out ?_
 refine mixk_done (by kernel_rfl) (fun w3_ hk => ?_) _
 replace HH := Lib.hid (hk _ _ HH.out)
 clear hk
 go_wp2_with fail
 go_ret
 exact ⟨rfl, HH.out.pn⟩
set_option maxHeartbeats 3200000 in
theorem rateNewest_c (A : Option Addr) (n cap : Nat) (l : List Pk) (hl : ∀ p ∈ l, p.Ok) (hA : ∀ wx, Own ε wx R → pkAt wx A n l) (hn : 0 < n) (hn2 : n ≤ 1000000) (H : Own ε w R) :
  Calls Tryz.prog 96 #[.slice A n cap] w fun e w' => ∃ p0, l[0]? = some p0 ∧ e = .returned (.tuple #[.agg (newestL p0 l).1.st.toArray, .int .u64 (newestL p0 l).2]) ∧ Own ε w' R := by
 obtain ⟨g, off, p0, rfl, hp0, _, _, k2, k3, k4, k5, k6⟩ := (hA w H).cells hn
 have hll := (hA w H).1
 have h0ok := hl p0 (List.mem_of_getElem? hp0)
 have HH := Lib.hid H; clear H
 replace hA := Lib.hid hA
 replace hl := Lib.hid hl
 replace h0ok := Lib.hid h0ok
 go_enter Tryz.func96, Tryz.ntmps96
 go_wp2_with (with_reducible refine stop_al ?_)
 refine Stop.go ?_
 refine wpList_alloc_own HH.out [.int .u64 0, .int .u64 0, .int .u64 0, .int .u64 0, .bool false] (by kernel_rfl) ?_
 intro rx w4_ H9_
 replace HH := Lib.hid H9_
 clear H9_
 clear k2 k3 k4 k5 k6
 obtain ⟨_, _, p1, e, hp1, _, _, k2, k3, k4, k5, k6⟩ := (hA.out _ HH.out.tail).cells hn
 cases e
 have e9 : p1 = p0 := by rw [hp0] at hp1; exact (Option.some.inj hp1).symm
 rw [e9] at k2 k3 k4 k5 k6
 clear e9
 simp only [Nat.zero_mul, Nat.add_zero] at k2 k3 k4 k5 k6
 clear hp1
 go_wp2_with (with_reducible refine stop_al ?_)
 refine Stop.go ?_
 refine wpList_alloc_own HH.out [.int .u64 0, .int .u64 0, .int .u64 0, .int .u64 0, .bool false] (by kernel_rfl) ?_
 intro sx w5_ H9_
 replace HH := Lib.hid H9_
 clear H9_
 go_wp2_with (with_reducible refine stop_st ?_)
 refine Stop.go ?_
 refine wpList_store_own _ #[_, _, _, _, _] rfl rfl HH.out (by kernel_rfl) rfl (by repeat (first | (refine List.forall_mem_cons.2 ⟨(by first | with_reducible assumption | rfl), ?_⟩) | exact fun _ h => absurd h List.not_mem_nil)) ?_
 intro w6_ H9_
 replace HH := Lib.hid H9_
 clear H9_
 clear k2 k3 k4 k5 k6
 replace hp0 := Lib.hid hp0
 replace hll := Lib.hid hll
 go_wp2_with fail
 go_loopw [5, 14] (fun v i wr => ∃ k : Nat, k ≤ n ∧ i = .int .i64 k ∧ v = .int .u64 (newestL p0 (l.take k)).2 ∧ Own ε wr (pts sx (.cells (newestL p0 (l.take k)).1.st.toArray 39 (0, 0)) :: pts rx (.cells #[.int .u64 0, .int .u64 0, .int .u64 0, .int .u64 0, .bool false] 39 (0, 0)) :: R)) (fun _ i _ => n - (intOf i).toNat)
 case atStart => exact ⟨0, Nat.zero_le _, rfl, rfl, HH.out⟩
 case round =>
  clear HH
  obtain ⟨k, hk, rfl, rfl, HR⟩ := hrel
  have hacc := newestL_ok h0ok.out (l := l.take k) fun p hp => hl.out p (List.mem_of_mem_take hp)
  by_cases hlt : k < n
  ·obtain ⟨g', off', p, e, hp, k0, k1, k2, k3, k4, k5, k6⟩ := (hA.out _ HR.tail.tail).cells hlt
   cases e
   have hpok := hl.out p (List.mem_of_getElem? hp)
   have e1 : newestL p0 (l.take (k + 1)) = newestF (newestL p0 (l.take k)) p := by rw [List.take_add_one, hp, ← newestL_snoc]; rfl
   have HH := Lib.hid HR
   clear HR hp
   generalize newestL p0 (l.take k) = acc at hacc e1 HH
   obtain ⟨x, s⟩ := acc
   simp only at hacc HH
   obtain ⟨hx, hs⟩ := hacc
   have hpU := hpok.2.1
   replace hs := Lib.hid hs
   replace hpU := Lib.hid hpU
   replace hx := Lib.hid hx
   replace hpok := Lib.hid hpok
   by_cases ho : 0 ≤ ordI p x
   case' neg => have e2 : newestL p0 (l.take (k + 1)) = (x, sadd s p.size) := by rw [e1]; unfold newestF; rw [if_neg ho]
   case' pos => have e2 : newestL p0 (l.take (k + 1)) = (p, sadd s p.size) := by rw [e1]; unfold newestF; rw [if_pos ho]
   all_goals
    clear e1
    replace e2 := Lib.hid e2
    obtain ⟨oi, hoi⟩ : ∃ o, ordI p x = o := ⟨_, rfl⟩
    rw [hoi] at ho
    replace hoi := Lib.hid hoi
    obtain ⟨pn, ps, p3, p4, p5, p6, p7⟩ := p
    obtain ⟨xn, xs, x3, x4, x5, x6, x7⟩ := x
    simp only [Pk.st] at HH
    go_wp2_with (with_reducible refine stop_al ?_)
    refine Stop.go ?_
    refine wpList_alloc_own HH.out [.int .u64 0, .int .u64 0, .int .u64 0, .int .u64 0, .int .u64 0, .int .u64 0, .bool false] (by kernel_rfl) ?_
    intro px w7_ H9_
    replace HH := Lib.hid H9_
    clear H9_
    go_wp2_with (with_reducible refine stop_st ?_)
    refine Stop.go ?_
    refine wpList_store_own _ #[_, _, _, _, _, _, _] rfl rfl HH.out (by kernel_rfl) rfl (by repeat (first | (refine List.forall_mem_cons.2 ⟨(by first | with_reducible assumption | rfl), ?_⟩) | exact fun _ h => absurd h List.not_mem_nil)) ?_
    intro w8_ H9_
    replace HH := Lib.hid H9_
    clear H9_
    clear k0 k1 k2 k3 k4 k5 k6
    (try clear cc1_); (try clear cc2_); (try clear cc3_)
    have cc1_ := HH.out.cells
    go_wp2_with (with_reducible refine stop_bs ?_)
    refine Stop.go ?_
    refine wpList_bsv_own HH.out [.int .u64 s, .int .u64 ps] 1 8 [.int .u64 0] Tryz.underlying141 (by kernel_rfl) (by kernel_rfl) (by decide) (by decide) (by kernel_rfl) ?_
    intro g2 w9_ H9_
    replace HH := Lib.hid H9_
    clear H9_
    go_wp2_with fail
    refine (fixAdd2_c _ g2 s ps hs.out hpU.out (HH.out.cells.1 0) (HH.out.cells.1 1)).mono ?_
    rintro e w10_ ⟨rfl, hbel⟩
    replace HH := Lib.hid ((by first | exact .same hbel | exact .drew hbel | exact .below hbel : Kp _ w10_) _ _ (by first | exact HH.out | exact HH.out.drewN _ | exact (HH.out.alloc _).tail | exact ((HH.out.alloc _).drewN _).tail | exact ((HH.out.alloc _).alloc _).tail.tail))
    clear hbel
    (try clear cc1_); (try clear cc2_); (try clear cc3_)
    have cc2_ := HH.out.r2.cells
    have cc3_ := HH.out.r3.cells
    go_wp2_with fail
    refine (rateOrder_c ε _ _ ⟨pn, ps, p3, p4, p5, p6, p7⟩ ⟨xn, xs, x3, x4, x5, x6, x7⟩ HH.out).mono ?_
    rw [hoi.out]
    rintro e w11_ ⟨rfl, H9_⟩
    replace HH := Lib.hid H9_
    clear H9_
    (try clear cc1_); (try clear cc2_); (try clear cc3_)
    have cc2_ := HH.out.r2.cells
    have cc3_ := HH.out.r3.cells
   ·replace HH := Lib.hid HH.out.r3
    go_wp2_with (with_reducible refine stop_st ?_)
    refine Stop.go ?_
    refine wpList_store_own _ #[_, _, _, _, _] rfl rfl HH.out (by kernel_rfl) rfl (by repeat (first | (refine List.forall_mem_cons.2 ⟨(by first | with_reducible assumption | rfl), ?_⟩) | exact fun _ h => absurd h List.not_mem_nil)) ?_
    intro w12_ H9_
    replace HH := Lib.hid H9_
    clear H9_
    (try clear cc1_); (try clear cc2_); (try clear cc3_)
    go_wp2_with fail
    go_roundw
    case rel =>
     refine ⟨k + 1, by omega, by go_num, ?_⟩
     rw [e2.out]
     have H10 := (HH.out.pn : Own ε _ (pts sx _ :: pts rx _ :: R))
     exact ⟨rfl, H10⟩
    case measure => simp [intOf]; omega
   ·have ho2 : oi < 0 := by omega
    go_wp2_with fail
    go_roundw
    case rel =>
     refine ⟨k + 1, by omega, by go_num, ?_⟩
     rw [e2.out]
     have H10 := (HH.out.pn : Own ε _ (pts sx _ :: pts rx _ :: R))
     exact ⟨rfl, H10⟩
    case measure => simp [intOf]; omega
  ·have hkn : k = n := by omega
   have HH := Lib.hid HR
   clear HR hacc
   have e1 : l.take k = l := List.take_of_length_le (by rw [hkn, hll.out]; exact Nat.le_refl _)
   rw [e1] at HH ⊢
   clear e1
   obtain ⟨acc, hacc⟩ : ∃ q, newestL p0 l = q := ⟨_, rfl⟩
   rw [hacc] at HH ⊢
   obtain ⟨⟨xn, xs, x3, x4, x5, x6, x7⟩, s⟩ := acc
   replace hacc := Lib.hid hacc
   simp only [Pk.st] at HH
   (try clear cc1_); (try clear cc2_); (try clear cc3_)
   have cc1_ := HH.out.cells
   go_wp2_with (with_reducible refine stop_st ?_)
   replace HH := Lib.hid HH.out.r2
   go_wp2_with (with_reducible refine stop_st ?_)
   refine Stop.go ?_
   refine wpList_store_own _ #[_, _, _, _, _] rfl rfl HH.out (by kernel_rfl) rfl (by repeat (first | (refine List.forall_mem_cons.2 ⟨(by first | with_reducible assumption | rfl), ?_⟩) | exact fun _ h => absurd h List.not_mem_nil)) ?_
   intro w13_ H9_
   replace HH := Lib.hid H9_
   clear H9_
   go_wp2_with fail
   refine bodyPost_cell rfl rfl rfl rfl Tryz.underlying39 rfl (by kernel_rfl) (HH.out) ?_
   refine ⟨p0, hp0.out, ?_⟩
   rw [hacc.out]
   exact ⟨rfl, HH.out.tail.tail⟩
end
end Go.Proofs.YtmkcpnlbicijoaaGreat
namespace Go.Proofs.YtmkcpnlbicijoaaGreat
open Go.RowKit
structure Smp where
 d : Int
 at' : Int
 first : Int
 mark : Int
def Smp.zero : Smp := ⟨0, 0, 0, 0⟩
structure Smp.Ok (s : Smp) : Prop where
 d : U s.d
 at' : U s.at'
 first : U s.first
 mark : U s.mark
abbrev smp (b : Nat) (s : Smp) : Asn := pts b (.cells #[.int .u64 s.d, .int .u64 s.at', .int .u64 s.first, .int .u64 s.mark] 122 (0, 0))
def Smp.stamp (s : Smp) (now n : Int) : Smp := if n = 0 then { s with at' := now, first := now } else s
def Smp.limit (s : Smp) (n : Int) : Smp := { s with mark := max (sadd s.d n) 1 }
def Smp.ack (s : Smp) (now : Int) (x : Pk) (n : Int) : Smp := ⟨sadd s.d n, now, x.sent, if s.mark < sadd s.d n then 0 else s.mark⟩
structure Spl where
 d : Int
 iv : Int
 rate : Int
 rtt : Int
 lim : Bool
def Spl.cells (x : Spl) : List Value := [.int .u64 x.d, .int .u64 x.iv, .int .u64 x.rate, .int .u64 x.rtt, .bool x.lim]
def Spl.of (d now : Int) (x : Pk) : Spl :=
 ⟨ssub d x.deliv, max (ssub x.sent x.first) (ssub now x.at'), if 0 < max (ssub x.sent x.first) (ssub now x.at') then sshare (ssub d x.deliv) 1000000 (max (ssub x.sent x.first) (ssub now x.at')) else 0, ssub now x.sent, x.lim⟩
theorem Smp.ok_stamp {s : Smp} (h : s.Ok) {now n : Int} (h1 : U now) : (s.stamp now n).Ok := by
 unfold Smp.stamp; split
 ·exact ⟨h.d, h1, h1, h.mark⟩
 ·exact h
theorem Smp.ok_limit {s : Smp} (h : s.Ok) {n : Int} (h1 : U n) : (s.limit n).Ok := ⟨h.d, h.at', h.first, by have := U_sadd h.d h1; show U (max _ _); unfold U at *; omega⟩
theorem Smp.ok_ack {s : Smp} (h : s.Ok) {now : Int} {x : Pk} {n : Int} (h1 : U now) (hx : x.Ok) (hn : U n) : (s.ack now x n).Ok := ⟨U_sadd h.d hn, h1, hx.2.2.1, by show U (if _ then _ else _); split; exact U_zero; exact h.mark⟩
section
variable (ε w : World) (R : List Asn) (b : Nat)
theorem rateNew_c (H : Own ε w R) : Calls Tryz.prog 29 #[] w fun e w' => ∃ b, e = .returned (.pointer (some ⟨b, 0, none⟩)) ∧ Own ε w' (smp b Smp.zero :: R) := by
 have HH := Lib.hid H; clear H
 go_enter Tryz.func29, Tryz.ntmps29
 go_wp2_with (with_reducible refine stop_bx ?_)
 refine Stop.go ?_
 refine wpList_box_own HH.out [_, _, _, _] rfl ?_
 intro b w1_ H9_
 replace HH := Lib.hid H9_
 clear H9_
 go_wp2_with fail
 go_ret
 exact ⟨_, rfl, HH.out⟩
theorem rateDelivered_c (s : Smp) (H : Own ε w (smp b s :: R)) : Calls Tryz.prog 39 #[.pointer (some ⟨b, 0, none⟩)] w fun e w' => e = .returned (.int .u64 s.d) ∧ w = w' := by
 have k1 := H.cells
 clear H
 go_enter Tryz.func39, Tryz.ntmps39
 go_wp2_with fail
 go_ret
 exact ⟨rfl, rfl⟩
set_option maxRecDepth 100000 in
theorem rateStamp_c (s : Smp) (now n : Int) (H : Own ε w (smp b s :: R)) :
  Calls Tryz.prog 84 #[.pointer (some ⟨b, 0, none⟩), .int .u64 now, .int .u64 n] w fun e w' => e = .returned (.agg #[.int .u64 now, .int .u64 (s.stamp now n).first, .int .u64 s.d, .int .u64 (s.stamp now n).at', .bool (decide (0 < s.mark))]) ∧ Own ε w' (smp b (s.stamp now n) :: R) := by
 have HH := Lib.hid H; clear H
 obtain ⟨d, a, f, mk⟩ := s
 by_cases h0 : n = 0
 ·rw [show (⟨d, a, f, mk⟩ : Smp).stamp now n = ⟨d, now, now, mk⟩ from if_pos h0]
  go_enter Tryz.func84, Tryz.ntmps84
  go_wp2_with (with_reducible refine stop_al ?_)
  refine Stop.go ?_
  refine wpList_alloc_own HH.out [.int .u64 0, .int .u64 0, .int .u64 0, .int .u64 0, .bool false] (by kernel_rfl) ?_
  intro rx w2_ H9_
  replace HH := Lib.hid H9_
  clear H9_
  go_wp2_with (with_reducible refine stop_st ?_)
  refine Stop.go ?_
  refine wpList_store1_own (v := .int .u64 now) (k := 1) rfl rfl HH.out.r2 (by kernel_rfl) (by simp) (by first | rfl | assumption) ?_
  intro w3_ H9_
  replace HH := Lib.hid H9_
  clear H9_
  simp only [List.setIfInBounds_toArray, List.set_cons_succ, List.set_cons_zero] at HH
  go_wp2_with (with_reducible refine stop_st ?_)
  refine Stop.go ?_
  refine wpList_store1_own (v := .int .u64 now) (k := 2) rfl rfl HH.out (by kernel_rfl) (by simp) (by first | rfl | assumption) ?_
  intro w4_ H9_
  replace HH := Lib.hid H9_
  clear H9_
  simp only [List.setIfInBounds_toArray, List.set_cons_succ, List.set_cons_zero] at HH
  go_wp2_with fail
  refine wp_region_reg (some 19) HH.out (by kernel_rfl) ?_
  intro wm H9_
  replace HH := Lib.hid H9_
  clear H9_
  refine reg_s 0 HH.out ?_
  refine reg_s 1 HH.out ?_
  refine reg_s 2 HH.out ?_
  refine reg_s 3 HH.out ?_
  refine mixk_s 4 HH.out (fun _ hx => hx.cells) ?_
  refine reg_s 5 HH.out ?_
  refine reg_s 6 HH.out ?_
  refine reg_s 7 HH.out ?_
  refine mixk_s 8 HH.out (fun _ hx => hx.cells) ?_
  refine reg_s 9 HH.out ?_
  refine reg_s 10 HH.out ?_
  refine reg_s 11 HH.out ?_
  refine mixk_s 12 HH.out (fun _ hx => hx.cells) ?_
  refine reg_s 13 HH.out ?_
  refine reg_s 14 HH.out ?_
  refine reg_s 15 HH.out ?_
  refine mixk_s 16 HH.out (fun _ hx => hx.cells) ?_
  refine reg_s 17 HH.out ?_
  refine reg_s 18 HH.out ?_
  refine reg_l none (i := 19) rfl (by kernel_rfl) (fun wn hk K hK => ?_)
  replace HH := Lib.hid (hk _ _ HH.out)
  clear hk
  refine want rfl (wp_store_own _ #[_, _, _, _, _] rfl rfl rfl HH.out.r2 (by kernel_rfl) rfl (by repeat (first | (refine List.forall_mem_cons.2 ⟨(by first | with_reducible assumption | rfl), ?_⟩) | exact fun _ h => absurd h List.not_mem_nil)) ?_)
  intro wm H9_
  replace HH := Lib.hid H9_
  clear H9_
  refine hK _ _ _ HH.out (.inl (by kernel_rfl)) ?_
  clear hK K
  refine mixk_done (by kernel_rfl) (fun w5_ hk => ?_) _
  replace HH := Lib.hid (hk _ _ HH.out)
  clear hk
  go_wp2_with fail
  refine bodyPost_ret (results_cell_row rfl _ _ _ _ _ _ _ rfl HH.out.blk Tryz.underlying39 rfl (by kernel_rfl)) rfl (⟨rfl, HH.out.tail⟩)
 ·rw [show (⟨d, a, f, mk⟩ : Smp).stamp now n = ⟨d, a, f, mk⟩ from if_neg h0]
  go_enter Tryz.func84, Tryz.ntmps84
  go_wp2_with (with_reducible refine stop_al ?_)
  refine Stop.go ?_
  refine wpList_alloc_own HH.out [.int .u64 0, .int .u64 0, .int .u64 0, .int .u64 0, .bool false] (by kernel_rfl) ?_
  intro rx w6_ H9_
  replace HH := Lib.hid H9_
  clear H9_
  replace HH := Lib.hid HH.out.r2
  go_wp2_with fail
  refine wp_region_reg (some 19) HH.out (by kernel_rfl) ?_
  intro wm H9_
  replace HH := Lib.hid H9_
  clear H9_
  refine reg_s 0 HH.out ?_
  refine reg_s 1 HH.out ?_
  refine reg_s 2 HH.out ?_
  refine reg_s 3 HH.out ?_
  refine mixk_s 4 HH.out (fun _ hx => hx.cells) ?_
  refine reg_s 5 HH.out ?_
  refine reg_s 6 HH.out ?_
  refine reg_s 7 HH.out ?_
  refine mixk_s 8 HH.out (fun _ hx => hx.cells) ?_
  refine reg_s 9 HH.out ?_
  refine reg_s 10 HH.out ?_
  refine reg_s 11 HH.out ?_
  refine mixk_s 12 HH.out (fun _ hx => hx.cells) ?_
  refine reg_s 13 HH.out ?_
  refine reg_s 14 HH.out ?_
  refine reg_s 15 HH.out ?_
  refine mixk_s 16 HH.out (fun _ hx => hx.cells) ?_
  refine reg_s 17 HH.out ?_
  refine reg_s 18 HH.out ?_
  refine reg_l none (i := 19) rfl (by kernel_rfl) (fun wn hk K hK => ?_)
  replace HH := Lib.hid (hk _ _ HH.out)
  clear hk
  refine want rfl (wp_store_own _ #[_, _, _, _, _] rfl rfl rfl HH.out.r2 (by kernel_rfl) rfl (by repeat (first | (refine List.forall_mem_cons.2 ⟨(by first | with_reducible assumption | rfl), ?_⟩) | exact fun _ h => absurd h List.not_mem_nil)) ?_)
  intro wm H9_
  replace HH := Lib.hid H9_
  clear H9_
  refine hK _ _ _ HH.out (.inl (by kernel_rfl)) ?_
  clear hK K
  refine mixk_done (by kernel_rfl) (fun w7_ hk => ?_) _
  replace HH := Lib.hid (hk _ _ HH.out)
  clear hk
  go_wp2_with fail
  refine bodyPost_ret (results_cell_row rfl _ _ _ _ _ _ _ rfl HH.out.blk Tryz.underlying39 rfl (by kernel_rfl)) rfl (⟨rfl, HH.out.tail⟩)
theorem rateLimit_c (s : Smp) (hs : s.Ok) (n : Int) (hn : U n) (H : Own ε w (smp b s :: R)) :
  Calls Tryz.prog 86 #[.pointer (some ⟨b, 0, none⟩), .int .u64 n] w fun e w' => e = .returned (.tuple #[]) ∧ Own ε w' (smp b (s.limit n) :: R) := by
 have HH := Lib.hid H; clear H
 obtain ⟨d, a, f, mk⟩ := s
 have hd := Lib.hid hs.d
 replace hn := Lib.hid hn
 have ix := max_ite'
 clear hs
 go_enter Tryz.func86, Tryz.ntmps86
 (try clear cc1_); (try clear cc2_); (try clear cc3_)
 have cc1_ := HH.out.cells
 go_wp2_with (with_reducible refine stop_bs ?_)
 refine Stop.go ?_
 refine wpList_bsv_own HH.out [.int .u64 d, .int .u64 n] 1 8 [.int .u64 0] Tryz.underlying141 (by kernel_rfl) (by kernel_rfl) (by decide) (by decide) (by kernel_rfl) ?_
 intro g w10_ H9_
 replace HH := Lib.hid H9_
 clear H9_
 (try clear cc1_); (try clear cc2_); (try clear cc3_)
 have cc2_ := HH.out.r2.cells
 go_wp2_with fail
 refine (fixAdd2_c _ g d n hd.out hn.out (HH.out.cells.1 0) (HH.out.cells.1 1)).mono ?_
 rintro e w11_ ⟨rfl, hbel⟩
 replace HH := Lib.hid ((by first | exact .same hbel | exact .drew hbel | exact .below hbel : Kp _ w11_) _ _ (by first | exact HH.out | exact HH.out.drewN _ | exact (HH.out.alloc _).tail | exact ((HH.out.alloc _).drewN _).tail | exact ((HH.out.alloc _).alloc _).tail.tail))
 clear hbel
 (try clear cc1_); (try clear cc2_); (try clear cc3_)
 go_wp2_with (with_reducible refine stop_st ?_)
 refine Stop.go ?_
 refine wpList_store1_own (v := .int .u64 (max (sadd d n) 1)) (k := 3) rfl rfl HH.out.r2 (by kernel_rfl) (by simp) (by first | rfl | assumption) ?_
 intro w12_ H9_
 replace HH := Lib.hid H9_
 clear H9_
 simp only [List.setIfInBounds_toArray, List.set_cons_succ, List.set_cons_zero] at HH
 go_wp2_with fail
 first | go_end0 | ((try simp only [Exit.inBlock, Exit.then]); refine bodyPost_ret (results_none rfl _ _ _) rfl ?_)
 have H10 := (HH.out.pn : Own ε _ (pts b _ :: R))
 exact ⟨rfl, H10⟩
end
end Go.Proofs.YtmkcpnlbicijoaaGreat
