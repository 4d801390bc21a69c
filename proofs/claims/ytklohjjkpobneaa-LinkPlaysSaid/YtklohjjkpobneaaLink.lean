/- link: what its functions do. -/
import Derived.Test.YtklohjjkpobneaaLinkD
import Derived.Test.YtklohjjkpobneaaJitter2
import Derived.Test.YtklohjjkpobneaaJitter5
import Derived.Test.YtklohjjkpobneaaItAt
import Derived.Deep.LoopGhost
namespace Go.Proofs.Ytklohjjkpobneaa
open Go.RowKit
/-- A link that is owned. -/
def lnk (b : Nat) (s : Lnk) : Asn := exA fun r : Nat × Nat × Nat => sep (pts b (.cells #[.int .u64 s.rate, .int .u64 s.delay, .int .u64 s.jit, .int .u64 s.buf, .int .u64 s.now, .pointer (some ⟨r.1, 0, none⟩), .pointer (some ⟨r.2.1, 0, none⟩), .pointer (some ⟨r.2.2, 0, none⟩), .int .u64 s.came, .int .u64 0, .int .u64 0, .int .u64 s.served, .int .u64 0, .int .u64 s.deliv] 179 (0, 0)))
  (sep (bkt r.1 s.b) (sep (que r.2.1 s.q) (box r.2.2 s.x)))
/-- Numbers, as they stand. -/
def nsAt (w : World) (A : Option Addr) (n : Nat) (l : List Int) : Prop := itAt (fun x : Int => [.int .u64 x]) 1 w A n l
theorem nsAt.zero (w : World) (A : Option Addr) : nsAt w A 0 [] := ⟨rfl, fun _ h => absurd h (Nat.not_lt_zero _)⟩
theorem nsAt.head {w : World} {A : Option Addr} {n : Nat} {c : Int} {l : List Int} (h : nsAt w A n (c :: l)) : ∃ g off, A = some ⟨g, off, none⟩ ∧ n = l.length + 1 ∧ w.cell? ⟨g, off, none⟩ = some (.int .u64 c) ∧ nsAt w (some ⟨g, off + 1, none⟩) l.length l := by
  obtain ⟨hl, hx⟩ := h
  obtain ⟨g, off, e, hc⟩ := hx 0 (Nat.zero_lt_succ _)
  refine ⟨g, off, e, hl.symm, by have := hc 0 _ rfl; simpa using this, rfl, fun i hi => ?_⟩
  obtain ⟨g', off', e', hc'⟩ := hx (i + 1) (Nat.succ_lt_succ hi)
  rw [e] at e'
  cases e'
  refine ⟨g, off + 1, rfl, fun j u hj => ?_⟩
  have := hc' j u hj
  rw [← this]
  congr 2; omega
/-- May a path be? -/
def rightB (rate delay jit buf : Int) : Bool := decide (1 ≤ rate) && decide (rate ≤ 1099511627776) && decide (max delay jit ≤ 4398046511104) && decide (1 ≤ buf) && decide (buf ≤ 72057594037927936)
section
variable (ε w : World) (R : List Asn) (b : Nat)
theorem Own.lnk_open {s : Lnk} (H : Own ε w (lnk b s :: R)) : ∃ bb qb xb, Own ε w (pts b (.cells #[.int .u64 s.rate, .int .u64 s.delay, .int .u64 s.jit, .int .u64 s.buf, .int .u64 s.now, .pointer (some ⟨bb, 0, none⟩), .pointer (some ⟨qb, 0, none⟩), .pointer (some ⟨xb, 0, none⟩), .int .u64 s.came, .int .u64 0, .int .u64 0, .int .u64 s.served, .int .u64 0, .int .u64 s.deliv] 179 (0, 0)) :: bkt bb s.b :: que qb s.q :: box xb s.x :: R) := by
  obtain ⟨⟨bb, qb, xb⟩, H⟩ := H.ex
  exact ⟨bb, qb, xb, (Own.pm (H.split.r2.split.r2.split) (by repeat (first | with_reducible exact Pm.refl _ | with_reducible exact Pm.nil _ | with_reducible refine Pm.here ?_ | with_reducible refine Pm.at2 ?_ | with_reducible refine Pm.at3 ?_ | with_reducible refine Pm.at4 ?_ | with_reducible refine Pm.at5 ?_ | with_reducible refine Pm.at6 ?_ | with_reducible refine Pm.at7 ?_ | with_reducible refine Pm.at8 ?_ | with_reducible refine Pm.skip ?_)))⟩
theorem Own.lnk_mk {s : Lnk} {bb qb xb : Nat} (H : Own ε w (pts b (.cells #[.int .u64 s.rate, .int .u64 s.delay, .int .u64 s.jit, .int .u64 s.buf, .int .u64 s.now, .pointer (some ⟨bb, 0, none⟩), .pointer (some ⟨qb, 0, none⟩), .pointer (some ⟨xb, 0, none⟩), .int .u64 s.came, .int .u64 0, .int .u64 0, .int .u64 s.served, .int .u64 0, .int .u64 s.deliv] 179 (0, 0)) :: bkt bb s.b :: que qb s.q :: box xb s.x :: R)) : Own ε w (lnk b s :: R) := by
  refine Own.ex_mk (bb, qb, xb) ?_
  have H1 := ((Own.pm (H) (by repeat (first | with_reducible exact Pm.refl _ | with_reducible exact Pm.nil _ | with_reducible refine Pm.here ?_ | with_reducible refine Pm.at2 ?_ | with_reducible refine Pm.at3 ?_ | with_reducible refine Pm.at4 ?_ | with_reducible refine Pm.at5 ?_ | with_reducible refine Pm.at6 ?_ | with_reducible refine Pm.at7 ?_ | with_reducible refine Pm.at8 ?_ | with_reducible refine Pm.skip ?_))) : Own ε w (que qb s.q :: box xb s.x :: bkt bb s.b :: pts b _ :: R)).join
  have H2 := ((Own.pm (H1) (by repeat (first | with_reducible exact Pm.refl _ | with_reducible exact Pm.nil _ | with_reducible refine Pm.here ?_ | with_reducible refine Pm.at2 ?_ | with_reducible refine Pm.at3 ?_ | with_reducible refine Pm.at4 ?_ | with_reducible refine Pm.at5 ?_ | with_reducible refine Pm.at6 ?_ | with_reducible refine Pm.at7 ?_ | with_reducible refine Pm.at8 ?_ | with_reducible refine Pm.skip ?_))) : Own ε w (bkt bb s.b :: sep (que qb s.q) (box xb s.x) :: pts b _ :: R)).join
  exact ((Own.pm (H2) (by repeat (first | with_reducible exact Pm.refl _ | with_reducible exact Pm.nil _ | with_reducible refine Pm.here ?_ | with_reducible refine Pm.at2 ?_ | with_reducible refine Pm.at3 ?_ | with_reducible refine Pm.at4 ?_ | with_reducible refine Pm.at5 ?_ | with_reducible refine Pm.at6 ?_ | with_reducible refine Pm.at7 ?_ | with_reducible refine Pm.at8 ?_ | with_reducible refine Pm.skip ?_))) : Own ε w (pts b _ :: sep (bkt bb s.b) (sep (que qb s.q) (box xb s.x)) :: R)).join
set_option maxHeartbeats 3200000 in
theorem linkRight_c (p1 p2 p3 p4 : Int) (H : Own ε w R) :
    Calls Try.prog 53 #[.agg #[.int .u64 p1, .int .u64 p2, .int .u64 p3, .int .u64 p4]] w fun e w' => e = .returned (.bool (rightB p1 p2 p3 p4)) ∧ Own ε w' R := by
  have HH := Lib.hid H; clear H
  have im := ite_max
  unfold rightB
  by_cases h1 : 1 ≤ p1
  case' pos =>
    by_cases h2 : p1 ≤ 1099511627776
    case' pos =>
      by_cases h3 : max p2 p3 ≤ 4398046511104
      case' pos =>
        by_cases h4 : 1 ≤ p4
        case' pos =>
          by_cases h5 : p4 ≤ 72057594037927936
  all_goals
    go_enter Try.func53, Try.ntmps53
    go_wp2_with (with_reducible refine stop_bx ?_)
    refine Stop.go ?_
    refine wpList_box_own HH.out [_, _, _, _] rfl ?_
    intro g w1_ H9_
    replace HH := Lib.hid H9_
    clear H9_
    (try clear cc1_); (try clear cc2_); (try clear cc3_); (try clear cc4_); (try clear cc5_); (try clear cc6_); (try clear cc7_)
    have cc1_ := HH.out.cells
    go_wp2_with fail
    go_ret
    refine ⟨?_, HH.out.tail⟩
    simp [*] <;> (intros; omega)
set_option maxHeartbeats 3200000 in
theorem linkNew_c (p1 p2 p3 p4 : Int) (hr : rightB p1 p2 p3 p4 = true) (H : Own ε w R) :
    Calls Try.prog 45 #[.agg #[.int .u64 p1, .int .u64 p2, .int .u64 p3, .int .u64 p4]] w fun e w' => ∃ b, e = .returned (.tuple #[.pointer (some ⟨b, 0, none⟩), .int .i64 0]) ∧ Own ε w' (lnk b (Lnk.new p1 p2 p3 p4) :: R) := by
  have HH := Lib.hid H; clear H
  go_enter Try.func45, Try.ntmps45
  go_wp2_with (with_reducible refine stop_bx ?_)
  refine Stop.go ?_
  refine wpList_box_own HH.out [_, _, _, _] rfl ?_
  intro g w2_ H9_
  replace HH := Lib.hid H9_
  clear H9_
  (try clear cc1_); (try clear cc2_); (try clear cc3_); (try clear cc4_); (try clear cc5_); (try clear cc6_); (try clear cc7_)
  have cc1_ := HH.out.cells
  go_wp2_with fail
  refine (linkRight_c ε _ _ p1 p2 p3 p4 HH.out).mono ?_
  rw [hr]
  rintro e w3_ ⟨rfl, H9_⟩
  replace HH := Lib.hid H9_
  clear H9_
  clear hr
  (try clear cc1_); (try clear cc2_); (try clear cc3_); (try clear cc4_); (try clear cc5_); (try clear cc6_); (try clear cc7_)
  have cc1_ := HH.out.cells
  go_wp2_with fail
  (try clear cc1_); (try clear cc2_); (try clear cc3_); (try clear cc4_); (try clear cc5_); (try clear cc6_); (try clear cc7_)
  go_wp2_with fail
  refine wp_region_regK none [pts g (.cells #[.int .u64 p1, .int .u64 p2, .int .u64 p3, .int .u64 p4] 78 (0, 0))] HH.out (by kernel_rfl) ?_
  intro wm H9_
  replace HH := Lib.hid H9_
  clear H9_
  have HS : Own _ wm [pts g (.cells #[.int .u64 p1, .int .u64 p2, .int .u64 p3, .int .u64 p4] 78 (0, 0))] := (Own.pm (HH.out) (by repeat (first | with_reducible exact Pm.refl _ | with_reducible exact Pm.nil _ | with_reducible refine Pm.here ?_ | with_reducible refine Pm.at2 ?_ | with_reducible refine Pm.at3 ?_ | with_reducible refine Pm.at4 ?_ | with_reducible refine Pm.at5 ?_ | with_reducible refine Pm.at6 ?_ | with_reducible refine Pm.at7 ?_ | with_reducible refine Pm.at8 ?_ | with_reducible refine Pm.skip ?_)))
  refine mixk_q (i := 0) rfl (by kernel_rfl) (fun _ _ _ _ h => h) HS (fun K hK => ?_)
  go_simp
  first | (refine hK _ ?_; clear hK K) | (apply Exists.intro; refine ⟨?_, hK _ ?_⟩; (focus (intro wx hx; have x1_ := hx.cells; first | (go_simp; first | rfl | exact ⟨rfl, rfl⟩) | rfl | exact ⟨rfl, rfl⟩)); clear hK K)
  refine reg_p (i := 1) rfl (by kernel_rfl) (fun _ _ _ _ h => h) HS (fun K hK => ?_)
  go_simp
  first | (refine hK _ ?_; clear hK K) | (apply Exists.intro; refine ⟨?_, hK _ ?_⟩; (focus (intro wx; first | (go_simp; first | rfl) | rfl)); clear hK K)
  refine mixk_q (i := 2) rfl (by kernel_rfl) (fun _ _ _ _ h => h) HS (fun K hK => ?_)
  go_simp
  first | (refine hK _ ?_; clear hK K) | (apply Exists.intro; refine ⟨?_, hK _ ?_⟩; (focus (intro wx hx; have x1_ := hx.cells; first | (go_simp; first | rfl | exact ⟨rfl, rfl⟩) | rfl | exact ⟨rfl, rfl⟩)); clear hK K)
  refine reg_p (i := 4) rfl (by kernel_rfl) (fun _ _ _ _ h => h) HS (fun K hK => ?_)
  go_simp
  first | (refine hK _ ?_; clear hK K) | (apply Exists.intro; refine ⟨?_, hK _ ?_⟩; (focus (intro wx; first | (go_simp; first | rfl) | rfl)); clear hK K)
  refine mixk_q (i := 5) rfl (by kernel_rfl) (fun _ _ _ _ h => h) HS (fun K hK => ?_)
  go_simp
  first | (refine hK _ ?_; clear hK K) | (apply Exists.intro; refine ⟨?_, hK _ ?_⟩; (focus (intro wx hx; have x1_ := hx.cells; first | (go_simp; first | rfl | exact ⟨rfl, rfl⟩) | rfl | exact ⟨rfl, rfl⟩)); clear hK K)
  refine reg_p (i := 7) rfl (by kernel_rfl) (fun _ _ _ _ h => h) HS (fun K hK => ?_)
  go_simp
  first | (refine hK _ ?_; clear hK K) | (apply Exists.intro; refine ⟨?_, hK _ ?_⟩; (focus (intro wx; first | (go_simp; first | rfl) | rfl)); clear hK K)
  refine mixk_q (i := 8) rfl (by kernel_rfl) (fun _ _ _ _ h => h) HS (fun K hK => ?_)
  go_simp
  first | (refine hK _ ?_; clear hK K) | (apply Exists.intro; refine ⟨?_, hK _ ?_⟩; (focus (intro wx hx; have x1_ := hx.cells; first | (go_simp; first | rfl | exact ⟨rfl, rfl⟩) | rfl | exact ⟨rfl, rfl⟩)); clear hK K)
  refine reg_p (i := 9) rfl (by kernel_rfl) (fun _ _ _ _ h => h) HS (fun K hK => ?_)
  go_simp
  first | (refine hK _ ?_; clear hK K) | (apply Exists.intro; refine ⟨?_, hK _ ?_⟩; (focus (intro wx; first | (go_simp; first | rfl) | rfl)); clear hK K)
  refine mixk_q (i := 10) rfl (by kernel_rfl) (fun _ _ _ _ h => h) HS (fun K hK => ?_)
  go_simp
  first | (refine hK _ ?_; clear hK K) | (apply Exists.intro; refine ⟨?_, hK _ ?_⟩; (focus (intro wx hx; have x1_ := hx.cells; first | (go_simp; first | rfl | exact ⟨rfl, rfl⟩) | rfl | exact ⟨rfl, rfl⟩)); clear hK K)
  refine reg_l none (i := 3) rfl (by kernel_rfl) (fun wn hk K hK => ?_)
  replace HH := Lib.hid (hk _ _ HH.out)
  clear hk HS
  go_simp
  refine (bktNew_c ε wn p1 HH.out).mono ?_
  rintro e wm ⟨bb, rfl, H9_⟩
  replace HH := Lib.hid H9_
  clear H9_
  have HS : Own _ wm [pts g (.cells #[.int .u64 p1, .int .u64 p2, .int .u64 p3, .int .u64 p4] 78 (0, 0))] := (Own.pm (HH.out) (by repeat (first | with_reducible exact Pm.refl _ | with_reducible exact Pm.nil _ | with_reducible refine Pm.here ?_ | with_reducible refine Pm.at2 ?_ | with_reducible refine Pm.at3 ?_ | with_reducible refine Pm.at4 ?_ | with_reducible refine Pm.at5 ?_ | with_reducible refine Pm.at6 ?_ | with_reducible refine Pm.at7 ?_ | with_reducible refine Pm.at8 ?_ | with_reducible refine Pm.skip ?_)))
  refine hK _ _ [pts g (.cells #[.int .u64 p1, .int .u64 p2, .int .u64 p3, .int .u64 p4] 78 (0, 0))] HS (.inr ⟨rfl, fun _ h => h⟩) ?_
  clear hK K
  refine reg_l none (i := 6) rfl (by kernel_rfl) (fun wn hk K hK => ?_)
  replace HH := Lib.hid (hk _ _ HH.out)
  clear hk HS
  go_simp
  refine (queNew_c ε wn _ p4 HH.out).mono ?_
  rintro e wm ⟨qb, rfl, H9_⟩
  replace HH := Lib.hid H9_
  clear H9_
  have HS : Own _ wm [pts g (.cells #[.int .u64 p1, .int .u64 p2, .int .u64 p3, .int .u64 p4] 78 (0, 0))] := (Own.pm (HH.out) (by repeat (first | with_reducible exact Pm.refl _ | with_reducible exact Pm.nil _ | with_reducible refine Pm.here ?_ | with_reducible refine Pm.at2 ?_ | with_reducible refine Pm.at3 ?_ | with_reducible refine Pm.at4 ?_ | with_reducible refine Pm.at5 ?_ | with_reducible refine Pm.at6 ?_ | with_reducible refine Pm.at7 ?_ | with_reducible refine Pm.at8 ?_ | with_reducible refine Pm.skip ?_)))
  refine hK _ _ [pts g (.cells #[.int .u64 p1, .int .u64 p2, .int .u64 p3, .int .u64 p4] 78 (0, 0))] HS (.inr ⟨rfl, fun _ h => h⟩) ?_
  clear hK K
  refine reg_l none (i := 11) rfl (by kernel_rfl) (fun wn hk K hK => ?_)
  replace HH := Lib.hid (hk _ _ HH.out)
  clear hk HS
  go_simp
  refine (boxNew_c ε wn _ p2 p3 HH.out).mono ?_
  rintro e wm ⟨xb, rfl, H9_⟩
  replace HH := Lib.hid H9_
  clear H9_
  have HS : Own _ wm [pts g (.cells #[.int .u64 p1, .int .u64 p2, .int .u64 p3, .int .u64 p4] 78 (0, 0))] := (Own.pm (HH.out) (by repeat (first | with_reducible exact Pm.refl _ | with_reducible exact Pm.nil _ | with_reducible refine Pm.here ?_ | with_reducible refine Pm.at2 ?_ | with_reducible refine Pm.at3 ?_ | with_reducible refine Pm.at4 ?_ | with_reducible refine Pm.at5 ?_ | with_reducible refine Pm.at6 ?_ | with_reducible refine Pm.at7 ?_ | with_reducible refine Pm.at8 ?_ | with_reducible refine Pm.skip ?_)))
  refine hK _ _ [pts g (.cells #[.int .u64 p1, .int .u64 p2, .int .u64 p3, .int .u64 p4] 78 (0, 0))] HS (.inr ⟨rfl, fun _ h => h⟩) ?_
  clear hK K
  refine reg_p (i := 12) rfl (by kernel_rfl) (fun _ _ _ _ h => h) HS (fun K hK => ?_)
  go_simp
  first | (refine hK _ ?_; clear hK K) | (apply Exists.intro; refine ⟨?_, hK _ ?_⟩; (focus (intro wx; first | (go_simp; first | rfl) | rfl)); clear hK K)
  refine reg_l none (i := 13) rfl (by kernel_rfl) (fun wn hk K hK => ?_)
  replace HH := Lib.hid (hk _ _ HH.out)
  clear hk HS
  go_simp
  replace HH := Lib.hid (HH.out.alloc (.cells #[.int .u64 p1, .int .u64 p2, .int .u64 p3, .int .u64 p4, .int .u64 0, .pointer (some ⟨bb, 0, none⟩), .pointer (some ⟨qb, 0, none⟩), .pointer (some ⟨xb, 0, none⟩), .int .u64 0, .int .u64 0, .int .u64 0, .int .u64 0, .int .u64 0, .int .u64 0] 179))
  generalize wn.alloc (.cells #[.int .u64 p1, .int .u64 p2, .int .u64 p3, .int .u64 p4, .int .u64 0, .pointer (some ⟨bb, 0, none⟩), .pointer (some ⟨qb, 0, none⟩), .pointer (some ⟨xb, 0, none⟩), .int .u64 0, .int .u64 0, .int .u64 0, .int .u64 0, .int .u64 0, .int .u64 0] 179) = wm at *
  generalize wn.heap.size = lb at *
  have HS : Own _ wm [pts g (.cells #[.int .u64 p1, .int .u64 p2, .int .u64 p3, .int .u64 p4] 78 (0, 0))] := (Own.pm (HH.out) (by repeat (first | with_reducible exact Pm.refl _ | with_reducible exact Pm.nil _ | with_reducible refine Pm.here ?_ | with_reducible refine Pm.at2 ?_ | with_reducible refine Pm.at3 ?_ | with_reducible refine Pm.at4 ?_ | with_reducible refine Pm.at5 ?_ | with_reducible refine Pm.at6 ?_ | with_reducible refine Pm.at7 ?_ | with_reducible refine Pm.at8 ?_ | with_reducible refine Pm.skip ?_)))
  refine hK _ _ [pts g (.cells #[.int .u64 p1, .int .u64 p2, .int .u64 p3, .int .u64 p4] 78 (0, 0))] HS (.inr ⟨rfl, fun _ h => h⟩) ?_
  clear hK K
  refine reg_p (i := 14) rfl (by kernel_rfl) (fun _ _ _ _ h => h) HS (fun K hK => ?_)
  go_simp
  first | (refine hK _ ?_; clear hK K) | (apply Exists.intro; refine ⟨?_, hK _ ?_⟩; (focus (intro wx; first | (go_simp; first | rfl) | rfl)); clear hK K)
  refine reg_p (i := 15) rfl (by kernel_rfl) (fun _ _ _ _ h => h) HS (fun K hK => ?_)
  go_simp
  first | (refine hK _ ?_; clear hK K) | (apply Exists.intro; refine ⟨?_, hK _ ?_⟩; (focus (intro wx; first | (go_simp; first | rfl) | rfl)); clear hK K)
  refine mixk_done (by kernel_rfl) (fun w4_ hk => ?_) _
  replace HH := Lib.hid (hk _ _ HH.out)
  clear hk
  go_wp2_with fail
  go_ret2
  have H9 := ((Own.pm (HH.out) (by repeat (first | with_reducible exact Pm.refl _ | with_reducible exact Pm.nil _ | with_reducible refine Pm.here ?_ | with_reducible refine Pm.at2 ?_ | with_reducible refine Pm.at3 ?_ | with_reducible refine Pm.at4 ?_ | with_reducible refine Pm.at5 ?_ | with_reducible refine Pm.at6 ?_ | with_reducible refine Pm.at7 ?_ | with_reducible refine Pm.at8 ?_ | with_reducible refine Pm.skip ?_))) : Own ε _ (pts lb _ :: bkt bb (Bkt.new p1) :: que qb (Que.new p4) :: box xb (Bo.new p2 p3) :: R))
  exact ⟨_, rfl, Own.lnk_mk ε _ R lb (s := Lnk.new p1 p2 p3 p4) H9⟩
set_option maxHeartbeats 800000 in
theorem linkNew_no (p1 p2 p3 p4 : Int) (hr : rightB p1 p2 p3 p4 = false) (H : Own ε w R) :
    Calls Try.prog 45 #[.agg #[.int .u64 p1, .int .u64 p2, .int .u64 p3, .int .u64 p4]] w fun e w' => e = .returned (.tuple #[.pointer none, .int .i64 1]) ∧ Own ε w' R := by
  have HH := Lib.hid H; clear H
  go_enter Try.func45, Try.ntmps45
  go_wp2_with (with_reducible refine stop_bx ?_)
  refine Stop.go ?_
  refine wpList_box_own HH.out [_, _, _, _] rfl ?_
  intro g w5_ H9_
  replace HH := Lib.hid H9_
  clear H9_
  (try clear cc1_); (try clear cc2_); (try clear cc3_); (try clear cc4_); (try clear cc5_); (try clear cc6_); (try clear cc7_)
  have cc1_ := HH.out.cells
  go_wp2_with fail
  refine (linkRight_c ε _ _ p1 p2 p3 p4 HH.out).mono ?_
  rw [hr]
  rintro e w6_ ⟨rfl, H9_⟩
  replace HH := Lib.hid H9_
  clear H9_
  go_wp2_with fail
  go_ret2
  exact ⟨rfl, HH.out.tail⟩
theorem linkTime_c (s : Lnk) (H : Own ε w (lnk b s :: R)) :
    Calls Try.prog 47 #[.pointer (some ⟨b, 0, none⟩)] w fun e w' => e = .returned (.int .u64 s.now) ∧ w = w' := by
  obtain ⟨bb, qb, xb, H⟩ := H.lnk_open
  obtain ⟨c0, _⟩ := H.cells
  clear H
  go_enter Try.func47, Try.ntmps47
  go_wp2_with fail
  go_ret
  exact ⟨rfl, rfl⟩
theorem linkTokens_c (s : Lnk) (H : Own ε w (lnk b s :: R)) :
    Calls Try.prog 59 #[.pointer (some ⟨b, 0, none⟩)] w fun e w' => e = .returned (.tuple #[.int .u64 s.b.tok, .int .u64 s.b.was]) ∧ Own ε w' (lnk b s :: R) := by
  obtain ⟨bb, qb, xb, H⟩ := H.lnk_open
  have HH := Lib.hid H; clear H
  go_enter Try.func59, Try.ntmps59
  (try clear cc1_); (try clear cc2_); (try clear cc3_); (try clear cc4_); (try clear cc5_); (try clear cc6_); (try clear cc7_)
  have cc1_ := HH.out.cells
  go_wp2_with fail
  (try clear cc1_); (try clear cc2_); (try clear cc3_); (try clear cc4_); (try clear cc5_); (try clear cc6_); (try clear cc7_)
  go_wp2_with fail
  refine wp_region_reg none HH.out (by kernel_rfl) ?_
  intro wm H9_
  replace HH := Lib.hid H9_
  clear H9_
  refine reg_p (i := 0) rfl (by kernel_rfl) (fun _ _ _ _ h => h) HH.out (fun K hK => ?_)
  go_simp
  first | (refine hK _ ?_; clear hK K) | (apply Exists.intro; refine ⟨?_, hK _ ?_⟩; (focus (intro wx; first | (go_simp; first | rfl) | rfl)); clear hK K)
  refine reg_p (i := 1) rfl (by kernel_rfl) (fun _ _ _ _ h => h) HH.out (fun K hK => ?_)
  go_simp
  first | (refine hK _ ?_; clear hK K) | (apply Exists.intro; refine ⟨?_, hK _ ?_⟩; (focus (intro wx; first | (go_simp; first | rfl) | rfl)); clear hK K)
  refine reg_p (i := 2) rfl (by kernel_rfl) (fun _ _ _ _ h => h) HH.out (fun K hK => ?_)
  go_simp
  first | (refine hK _ ?_; clear hK K) | (apply Exists.intro; refine ⟨?_, hK _ ?_⟩; (focus (intro wx; first | (go_simp; first | rfl) | rfl)); clear hK K)
  refine mixk_q (i := 3) rfl (by kernel_rfl) (fun _ _ _ _ h => h) HH.out (fun K hK => ?_)
  go_simp
  first | (refine hK _ ?_; clear hK K) | (apply Exists.intro; refine ⟨?_, hK _ ?_⟩; (focus (intro wx hx; have x1_ := hx.cells; first | (first | (go_at_call 116; refine (bktTokens_c ε wx _ bb s.b hx.r2).mono ?_; rintro e wy ⟨rfl, hbel⟩; exact ⟨rfl, (by first | exact Kp.same hbel | exact Kp.drew hbel | exact Kp.below hbel : Kp wx wy)⟩) | (go_at_call 117; refine (bktWasted_c ε wx _ bb s.b hx.r2).mono ?_; rintro e wy ⟨rfl, hbel⟩; exact ⟨rfl, (by first | exact Kp.same hbel | exact Kp.drew hbel | exact Kp.below hbel : Kp wx wy)⟩)) | (go_simp; first | rfl | exact ⟨rfl, rfl⟩) | rfl | exact ⟨rfl, rfl⟩)); clear hK K)
  refine mixk_q (i := 4) rfl (by kernel_rfl) (fun _ _ _ _ h => h) HH.out (fun K hK => ?_)
  go_simp
  first | (refine hK _ ?_; clear hK K) | (apply Exists.intro; refine ⟨?_, hK _ ?_⟩; (focus (intro wx hx; have x1_ := hx.cells; first | (first | (go_at_call 116; refine (bktTokens_c ε wx _ bb s.b hx.r2).mono ?_; rintro e wy ⟨rfl, hbel⟩; exact ⟨rfl, (by first | exact Kp.same hbel | exact Kp.drew hbel | exact Kp.below hbel : Kp wx wy)⟩) | (go_at_call 117; refine (bktWasted_c ε wx _ bb s.b hx.r2).mono ?_; rintro e wy ⟨rfl, hbel⟩; exact ⟨rfl, (by first | exact Kp.same hbel | exact Kp.drew hbel | exact Kp.below hbel : Kp wx wy)⟩)) | (go_simp; first | rfl | exact ⟨rfl, rfl⟩) | rfl | exact ⟨rfl, rfl⟩)); clear hK K)
  refine reg_p (i := 5) rfl (by kernel_rfl) (fun _ _ _ _ h => h) HH.out (fun K hK => ?_)
  go_simp
  first | (refine hK _ ?_; clear hK K) | (apply Exists.intro; refine ⟨?_, hK _ ?_⟩; (focus (intro wx; first | (go_simp; first | rfl) | rfl)); clear hK K)
  refine reg_p (i := 6) rfl (by kernel_rfl) (fun _ _ _ _ h => h) HH.out (fun K hK => ?_)
  go_simp
  first | (refine hK _ ?_; clear hK K) | (apply Exists.intro; refine ⟨?_, hK _ ?_⟩; (focus (intro wx; first | (go_simp; first | rfl) | rfl)); clear hK K)
  refine reg_p (i := 7) rfl (by kernel_rfl) (fun _ _ _ _ h => h) HH.out (fun K hK => ?_)
  go_simp
  first | (refine hK _ ?_; clear hK K) | (apply Exists.intro; refine ⟨?_, hK _ ?_⟩; (focus (intro wx; first | (go_simp; first | rfl) | rfl)); clear hK K)
  refine mixk_q (i := 8) rfl (by kernel_rfl) (fun _ _ _ _ h => h) HH.out (fun K hK => ?_)
  go_simp
  first | (refine hK _ ?_; clear hK K) | (apply Exists.intro; refine ⟨?_, hK _ ?_⟩; (focus (intro wx hx; have x1_ := hx.cells; first | (first | (go_at_call 116; refine (bktTokens_c ε wx _ bb s.b hx.r2).mono ?_; rintro e wy ⟨rfl, hbel⟩; exact ⟨rfl, (by first | exact Kp.same hbel | exact Kp.drew hbel | exact Kp.below hbel : Kp wx wy)⟩) | (go_at_call 117; refine (bktWasted_c ε wx _ bb s.b hx.r2).mono ?_; rintro e wy ⟨rfl, hbel⟩; exact ⟨rfl, (by first | exact Kp.same hbel | exact Kp.drew hbel | exact Kp.below hbel : Kp wx wy)⟩)) | (go_simp; first | rfl | exact ⟨rfl, rfl⟩) | rfl | exact ⟨rfl, rfl⟩)); clear hK K)
  refine mixk_q (i := 9) rfl (by kernel_rfl) (fun _ _ _ _ h => h) HH.out (fun K hK => ?_)
  go_simp
  first | (refine hK _ ?_; clear hK K) | (apply Exists.intro; refine ⟨?_, hK _ ?_⟩; (focus (intro wx hx; have x1_ := hx.cells; first | (first | (go_at_call 116; refine (bktTokens_c ε wx _ bb s.b hx.r2).mono ?_; rintro e wy ⟨rfl, hbel⟩; exact ⟨rfl, (by first | exact Kp.same hbel | exact Kp.drew hbel | exact Kp.below hbel : Kp wx wy)⟩) | (go_at_call 117; refine (bktWasted_c ε wx _ bb s.b hx.r2).mono ?_; rintro e wy ⟨rfl, hbel⟩; exact ⟨rfl, (by first | exact Kp.same hbel | exact Kp.drew hbel | exact Kp.below hbel : Kp wx wy)⟩)) | (go_simp; first | rfl | exact ⟨rfl, rfl⟩) | rfl | exact ⟨rfl, rfl⟩)); clear hK K)
  refine reg_p (i := 10) rfl (by kernel_rfl) (fun _ _ _ _ h => h) HH.out (fun K hK => ?_)
  go_simp
  first | (refine hK _ ?_; clear hK K) | (apply Exists.intro; refine ⟨?_, hK _ ?_⟩; (focus (intro wx; first | (go_simp; first | rfl) | rfl)); clear hK K)
  refine reg_p (i := 11) rfl (by kernel_rfl) (fun _ _ _ _ h => h) HH.out (fun K hK => ?_)
  go_simp
  first | (refine hK _ ?_; clear hK K) | (apply Exists.intro; refine ⟨?_, hK _ ?_⟩; (focus (intro wx; first | (go_simp; first | rfl) | rfl)); clear hK K)
  refine mixk_done (by kernel_rfl) (fun w7_ hk => ?_) _
  replace HH := Lib.hid (hk _ _ HH.out)
  clear hk
  go_wp2_with fail
  go_ret2
  exact ⟨rfl, Own.lnk_mk ε _ R b HH.out⟩
theorem linkNext_c (s : Lnk) (H : Own ε w (lnk b s :: R)) :
    Calls Try.prog 60 #[.pointer (some ⟨b, 0, none⟩)] w fun e w' => e = .returned (.tuple #[.int .u64 (headD s.x.l).1.t, .bool (headD s.x.l).2]) ∧ Own ε w' (lnk b s :: R) := by
  obtain ⟨bb, qb, xb, H⟩ := H.lnk_open
  have HH := Lib.hid H; clear H
  go_enter Try.func60, Try.ntmps60
  (try clear cc1_); (try clear cc2_); (try clear cc3_); (try clear cc4_); (try clear cc5_); (try clear cc6_); (try clear cc7_)
  have cc1_ := HH.out.cells
  go_wp2_with fail
  refine (boxNext_c ε _ _ xb s.x HH.out.r4).mono ?_
  rintro e w8_ ⟨rfl, H9_⟩
  replace HH := Lib.hid H9_
  clear H9_
  go_wp2_with fail
  go_ret2
  exact ⟨rfl, Own.lnk_mk ε _ R b ((Own.pm (HH.out) (by repeat (first | with_reducible exact Pm.refl _ | with_reducible exact Pm.nil _ | with_reducible refine Pm.here ?_ | with_reducible refine Pm.at2 ?_ | with_reducible refine Pm.at3 ?_ | with_reducible refine Pm.at4 ?_ | with_reducible refine Pm.at5 ?_ | with_reducible refine Pm.at6 ?_ | with_reducible refine Pm.at7 ?_ | with_reducible refine Pm.at8 ?_ | with_reducible refine Pm.skip ?_))) : Own ε _ (pts b _ :: bkt bb s.b :: que qb s.q :: box xb s.x :: R))⟩
set_option maxHeartbeats 3200000 in
theorem linkSend_c (s : Lnk) (hs : s.Ok) (A : Option Addr) (n cap : Nat) (ps : List Pk) (hps : ∀ p ∈ ps, p.Ok) (hA : ∀ wx, Own ε wx R → pkAt wx A n ps) (hl : s.len + n ≤ 1000000) (H : Own ε w (lnk b s :: R)) :
    Calls Try.prog 49 #[.pointer (some ⟨b, 0, none⟩), .slice A n cap] w fun e w' => e = .returned (.int .i64 ((s.send ps).2 : Nat)) ∧ Own ε w' (lnk b (s.send ps).1 :: R) := by
  have hn := (hA w H.tail).1
  have HH := Lib.hid H; clear H
  replace hA := Lib.hid hA
  replace hps := Lib.hid hps
  replace hs := Lib.hid hs
  have hn2 : n ≤ 1000000 := by omega
  replace hl := Lib.hid hl
  go_enter Try.func49, Try.ntmps49
  go_wp2_with fail
  go_loopw [5, 13] (fun nv i wr => ∃ k : Nat, k ≤ n ∧ i = .int .i64 k ∧ nv = .int .i64 ((s.send (ps.take k)).2 : Nat) ∧ Own ε wr (lnk b (s.send (ps.take k)).1 :: R)) (fun _ i _ => n - (intOf i).toNat)
  case atStart => exact ⟨0, Nat.zero_le _, rfl, rfl, HH.out⟩
  case round =>
    clear HH
    obtain ⟨k, hk, rfl, rfl, HR⟩ := hrel
    have HH := Lib.hid HR
    clear HR
    by_cases hlt : k < n
    · obtain ⟨g, off, p, rfl, hpk, c0, c1, c2, c3, c4, c5, c6⟩ := (hA.out _ HH.out.tail).cells hlt
      have hst := send_step (s := s) hpk
      have hok : (s.send (ps.take k)).1.Ok := Lnk.ok_send hs.out fun p hp => hps.out p (List.mem_of_mem_take hp)
      have hlen : (s.send (ps.take k)).1.len ≤ 1000000 := by
        have h1 := sendF_len (s, 0) (ps.take k)
        have h2 : (ps.take k).length ≤ k := by rw [List.length_take]; omega
        have h3 := hl.out
        unfold Lnk.send
        simp only at h1
        omega
      have hcnt : (s.send (ps.take k)).2 ≤ k := by
        have h1 := sendF_cnt (s, 0) (ps.take k)
        have h2 : (ps.take k).length ≤ k := by rw [List.length_take]; omega
        unfold Lnk.send
        simp only at h1
        omega
      have hpo := hps.out p (List.mem_of_getElem? hpk)
      clear hpk
      generalize s.send (ps.take k) = a at hst hok hlen hcnt HH ⊢
      obtain ⟨st, m⟩ := a
      simp only at hok hlen hcnt HH ⊢
      obtain ⟨bb, qb, xb, H2⟩ := HH.out.lnk_open
      replace HH := Lib.hid H2
      clear H2
      obtain ⟨⟨okp, q2⟩, hpu⟩ : ∃ r, st.q.put p = r := ⟨_, rfl⟩
      have hst2 : s.send (ps.take (k + 1)) = ({ st with came := sadd st.came p.size, q := q2 }, if okp then m + 1 else m) := by rw [hst]; unfold sendF Lnk.send1; rw [hpu]
      have hql : st.q.l.length ≤ 1000000 := by unfold Lnk.len at hlen; omega
      clear hst hlen
      replace hst2 := Lib.hid hst2
      replace hpu := Lib.hid hpu
      replace hql := Lib.hid hql
      have hqo := Lib.hid hok.q
      have hca := Lib.hid hok.came
      have hsz := Lib.hid hpo.2.1
      replace hpo := Lib.hid hpo
      clear hok
      obtain ⟨pn, ps', p3, p4, p5, p6, p7⟩ := p
      simp only at c0 c1 c2 c3 c4 c5 c6 hsz hst2
      go_wp2_with (with_reducible refine stop_al ?_)
      refine Stop.go ?_
      refine wpList_alloc_own HH.out [.int .u64 0, .int .u64 0, .int .u64 0, .int .u64 0, .int .u64 0, .int .u64 0, .bool false] (by kernel_rfl) ?_
      intro px w9_ H9_
      replace HH := Lib.hid H9_
      clear H9_
      go_wp2_with (with_reducible refine stop_st ?_)
      refine Stop.go ?_
      refine wpList_store_own _ #[_, _, _, _, _, _, _] rfl rfl HH.out (by kernel_rfl) rfl (by repeat (first | (refine List.forall_mem_cons.2 ⟨(by first | with_reducible assumption | rfl), ?_⟩) | exact fun _ h => absurd h List.not_mem_nil)) ?_
      intro w10_ H9_
      replace HH := Lib.hid H9_
      clear H9_
      clear c0 c1 c2 c3 c4 c5 c6
      go_wp2_with fail
      refine wp_region_reg (some 13) HH.out (by kernel_rfl) ?_
      intro wm H9_
      replace HH := Lib.hid H9_
      clear H9_
      refine reg_p (i := 0) rfl (by kernel_rfl) (fun _ _ _ _ h => h) HH.out (fun K hK => ?_)
      go_simp
      first | (refine hK _ ?_; clear hK K) | (apply Exists.intro; refine ⟨?_, hK _ ?_⟩; (focus (intro wx; first | (go_simp; first | rfl) | rfl)); clear hK K)
      refine reg_p (i := 1) rfl (by kernel_rfl) (fun _ _ _ _ h => h) HH.out (fun K hK => ?_)
      go_simp
      first | (refine hK _ ?_; clear hK K) | (apply Exists.intro; refine ⟨?_, hK _ ?_⟩; (focus (intro wx; first | (go_simp; first | rfl) | rfl)); clear hK K)
      refine reg_p (i := 2) rfl (by kernel_rfl) (fun _ _ _ _ h => h) HH.out (fun K hK => ?_)
      go_simp
      first | (refine hK _ ?_; clear hK K) | (apply Exists.intro; refine ⟨?_, hK _ ?_⟩; (focus (intro wx; first | (go_simp; first | rfl) | rfl)); clear hK K)
      refine reg_p (i := 3) rfl (by kernel_rfl) (fun _ _ _ _ h => h) HH.out (fun K hK => ?_)
      go_simp
      first | (refine hK _ ?_; clear hK K) | (apply Exists.intro; refine ⟨?_, hK _ ?_⟩; (focus (intro wx; first | (go_simp; first | rfl) | rfl)); clear hK K)
      refine reg_p (i := 4) rfl (by kernel_rfl) (fun _ _ _ _ h => h) HH.out (fun K hK => ?_)
      go_simp
      first | (refine hK _ ?_; clear hK K) | (apply Exists.intro; refine ⟨?_, hK _ ?_⟩; (focus (intro wx; first | (go_simp; first | rfl) | rfl)); clear hK K)
      refine mixk_q (i := 5) rfl (by kernel_rfl) (fun _ _ _ _ h => h) HH.out (fun K hK => ?_)
      go_simp
      first | (refine hK _ ?_; clear hK K) | (apply Exists.intro; refine ⟨?_, hK _ ?_⟩; (focus (intro wx hx; have x1_ := hx.cells; have x2_ := hx.r2.cells; first | (go_simp; first | rfl | exact ⟨rfl, rfl⟩) | rfl | exact ⟨rfl, rfl⟩)); clear hK K)
      refine reg_p (i := 6) rfl (by kernel_rfl) (fun _ _ _ _ h => h) HH.out (fun K hK => ?_)
      go_simp
      first | (refine hK _ ?_; clear hK K) | (apply Exists.intro; refine ⟨?_, hK _ ?_⟩; (focus (intro wx; first | (go_simp; first | rfl) | rfl)); clear hK K)
      refine mixk_q (i := 7) rfl (by kernel_rfl) (fun _ _ _ _ h => h) HH.out (fun K hK => ?_)
      go_simp
      first | (refine hK _ ?_; clear hK K) | (apply Exists.intro; refine ⟨?_, hK _ ?_⟩; (focus (intro wx hx; have x1_ := hx.cells; have x2_ := hx.r2.cells; first | (go_simp; first | rfl | exact ⟨rfl, rfl⟩) | rfl | exact ⟨rfl, rfl⟩)); clear hK K)
      refine reg_l (some 13) (i := 8) rfl (by kernel_rfl) (fun wn hk K hK => ?_)
      replace HH := Lib.hid (hk _ _ HH.out)
      clear hk
      go_simp
      replace HH := Lib.hid (HH.out.alloc (.cells #[.int .u64 st.came, .int .u64 ps'] 27))
      generalize wn.alloc (.cells #[.int .u64 st.came, .int .u64 ps'] 27) = wm at *
      generalize wn.heap.size = sb at *
      refine hK _ _ _ HH.out (.inr ⟨rfl, fun _ h => h.tail⟩) ?_
      clear hK K
      refine reg_l (some 13) (i := 9) rfl (by kernel_rfl) (fun wn hk K hK => ?_)
      replace HH := Lib.hid (hk _ _ HH.out)
      clear hk
      go_simp
      refine (fixAdd2_c wn sb st.came ps' hca.out hsz.out (HH.out.cells.1 0) (HH.out.cells.1 1)).mono ?_
      rintro e wm ⟨rfl, hbel⟩
      replace HH := Lib.hid ((by first | exact Kp.same hbel | exact Kp.drew hbel | exact Kp.below hbel : Kp wn wm) _ _ HH.out)
      clear hbel
      refine hK _ _ _ HH.out (.inr ⟨rfl, fun _ h => h⟩) ?_
      clear hK K
      refine reg_p (i := 10) rfl (by kernel_rfl) (fun _ _ _ _ h => h) HH.out (fun K hK => ?_)
      go_simp
      first | (refine hK _ ?_; clear hK K) | (apply Exists.intro; refine ⟨?_, hK _ ?_⟩; (focus (intro wx; first | (go_simp; first | rfl) | rfl)); clear hK K)
      refine reg_p (i := 11) rfl (by kernel_rfl) (fun _ _ _ _ h => h) HH.out (fun K hK => ?_)
      go_simp
      first | (refine hK _ ?_; clear hK K) | (apply Exists.intro; refine ⟨?_, hK _ ?_⟩; (focus (intro wx; first | (go_simp; first | rfl) | rfl)); clear hK K)
      refine reg_p (i := 12) rfl (by kernel_rfl) (fun _ _ _ _ h => h) HH.out (fun K hK => ?_)
      go_simp
      first | (refine hK _ ?_; clear hK K) | (apply Exists.intro; refine ⟨?_, hK _ ?_⟩; (focus (intro wx; first | (go_simp; first | rfl) | rfl)); clear hK K)
      refine reg_l none (i := 13) rfl (by kernel_rfl) (fun wn hk K hK => ?_)
      replace HH := Lib.hid (hk _ _ HH.out)
      clear hk
      have hx := HH.out
      have x1_ := hx.r2.cells
      have x2_ := hx.r3.cells
      go_simp
      replace HH := Lib.hid (HH.out.r3.set 8 (.int .u64 (sadd st.came ps')))
      simp only [List.setIfInBounds_toArray, List.set_cons_succ, List.set_cons_zero] at HH
      generalize wn.setCell ⟨b, 8, none⟩ (.int .u64 (sadd st.came ps')) = wm at *
      clear hx x1_ x2_
      refine hK _ _ _ HH.out (.inl (by kernel_rfl)) ?_
      clear hK K
      refine mixk_done (by kernel_rfl) (fun w11_ hk => ?_) _
      replace HH := Lib.hid (hk _ _ HH.out)
      clear hk
      replace HH := Lib.hid ((Own.pm (HH.out) (by repeat (first | with_reducible exact Pm.refl _ | with_reducible exact Pm.nil _ | with_reducible refine Pm.here ?_ | with_reducible refine Pm.at2 ?_ | with_reducible refine Pm.at3 ?_ | with_reducible refine Pm.at4 ?_ | with_reducible refine Pm.at5 ?_ | with_reducible refine Pm.at6 ?_ | with_reducible refine Pm.at7 ?_ | with_reducible refine Pm.at8 ?_ | with_reducible refine Pm.skip ?_))) : Own _ _ (pts px _ :: pts b _ :: bkt bb st.b :: que qb st.q :: box xb st.x :: R))
      go_wp2_with fail
      go_wp2_with fail
      refine wp_region_reg (some 5) HH.out (by kernel_rfl) ?_
      intro wm H9_
      replace HH := Lib.hid H9_
      clear H9_
      refine reg_p (i := 0) rfl (by kernel_rfl) (fun _ _ _ _ h => h) HH.out (fun K hK => ?_)
      go_simp
      first | (refine hK _ ?_; clear hK K) | (apply Exists.intro; refine ⟨?_, hK _ ?_⟩; (focus (intro wx; first | (go_simp; first | rfl) | rfl)); clear hK K)
      refine reg_p (i := 1) rfl (by kernel_rfl) (fun _ _ _ _ h => h) HH.out (fun K hK => ?_)
      go_simp
      first | (refine hK _ ?_; clear hK K) | (apply Exists.intro; refine ⟨?_, hK _ ?_⟩; (focus (intro wx; first | (go_simp; first | rfl) | rfl)); clear hK K)
      refine reg_p (i := 2) rfl (by kernel_rfl) (fun _ _ _ _ h => h) HH.out (fun K hK => ?_)
      go_simp
      first | (refine hK _ ?_; clear hK K) | (apply Exists.intro; refine ⟨?_, hK _ ?_⟩; (focus (intro wx; first | (go_simp; first | rfl) | rfl)); clear hK K)
      refine mixk_q (i := 3) rfl (by kernel_rfl) (fun _ _ _ _ h => h) HH.out (fun K hK => ?_)
      go_simp
      first | (refine hK _ ?_; clear hK K) | (apply Exists.intro; refine ⟨?_, hK _ ?_⟩; (focus (intro wx hx; have x1_ := hx.cells; have x2_ := hx.r2.cells; first | (go_simp; first | rfl | exact ⟨rfl, rfl⟩) | rfl | exact ⟨rfl, rfl⟩)); clear hK K)
      refine mixk_q (i := 4) rfl (by kernel_rfl) (fun _ _ _ _ h => h) HH.out (fun K hK => ?_)
      go_simp
      first | (refine hK _ ?_; clear hK K) | (apply Exists.intro; refine ⟨?_, hK _ ?_⟩; (focus (intro wx hx; have x1_ := hx.cells; have x2_ := hx.r2.cells; first | (go_simp; first | rfl | exact ⟨rfl, rfl⟩) | rfl | exact ⟨rfl, rfl⟩)); clear hK K)
      refine reg_l none (i := 5) rfl (by kernel_rfl) (fun wn hk K hK => ?_)
      replace HH := Lib.hid (hk _ _ HH.out)
      clear hk
      go_simp
      refine (quePut_c ε wn _ qb st.q ⟨pn, ps', p3, p4, p5, p6, p7⟩ hqo.out hpo.out hql.out HH.out.r4).mono ?_
      rw [hpu.out]
      rintro e wm ⟨rfl, H9_⟩
      replace HH := Lib.hid H9_
      clear H9_
      refine hK _ _ _ HH.out (.inl (by kernel_rfl)) ?_
      clear hK K
      refine mixk_done (by kernel_rfl) (fun w12_ hk => ?_) _
      replace HH := Lib.hid (hk _ _ HH.out)
      clear hk
      replace HH := Lib.hid ((Own.pm (HH.out) (by repeat (first | with_reducible exact Pm.refl _ | with_reducible exact Pm.nil _ | with_reducible refine Pm.here ?_ | with_reducible refine Pm.at2 ?_ | with_reducible refine Pm.at3 ?_ | with_reducible refine Pm.at4 ?_ | with_reducible refine Pm.at5 ?_ | with_reducible refine Pm.at6 ?_ | with_reducible refine Pm.at7 ?_ | with_reducible refine Pm.at8 ?_ | with_reducible refine Pm.skip ?_))) : Own _ _ (pts b _ :: bkt bb st.b :: que qb q2 :: box xb st.x :: R))
      cases okp
      all_goals
        go_wp2_with fail
        go_roundw
        case rel =>
          refine ⟨k + 1, by omega, by go_num, by rw [hst2.out]; first | rfl | go_num, ?_⟩
          rw [hst2.out]
          exact Own.lnk_mk ε _ R b HH.out
        case measure => simp [intOf]; omega
    · have hkn : k = n := by omega
      subst hkn
      rw [List.take_of_length_le (show ps.length ≤ k by omega)] at HH ⊢
      go_wp2_with fail
      go_ret
      exact ⟨rfl, HH.out⟩
end
end Go.Proofs.Ytklohjjkpobneaa
