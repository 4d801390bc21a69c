/- rate: how fast bytes are delivered. -/
import Derived.Test.YtklohjjkpobneaaPk
import Derived.Test.YtklohjjkpobneaaReg2
import Derived.Test.YtklohjjkpobneaaFix01
import Derived.Test.YtklohjjkpobneaaFixP
import Derived.Test.YtklohjjkpobneaaItAt
namespace Go.Proofs.Ytklohjjkpobneaa
open Go.RowKit
def cmpI (x y : Int) : Int := if x < y then -1 else if y < x then 1 else 0
def orI (a b : Int) : Int := if a = 0 then b else a
/-- The order of stamps. -/
def ordI (p q : Pk) : Int := orI (cmpI p.deliv q.deliv) (cmpI p.sent q.sent)
/-- A packet's stamp. -/
def Pk.st (p : Pk) : List Value := [.int .u64 p.sent, .int .u64 p.first, .int .u64 p.deliv, .int .u64 p.at', .bool p.lim]
def newestF (acc : Pk × Int) (p : Pk) : Pk × Int := (if 0 ≤ ordI p acc.1 then p else acc.1, sadd acc.2 p.size)
def newestL (p0 : Pk) (l : List Pk) : Pk × Int := l.foldl newestF (p0, 0)
theorem newestL_snoc (p0 : Pk) (l : List Pk) (p : Pk) : newestL p0 (l ++ [p]) = newestF (newestL p0 l) p := by simp [newestL]
theorem newestF_ok {acc : Pk × Int} (h1 : acc.1.Ok) (h2 : U acc.2) {p : Pk} (hp : p.Ok) : (newestF acc p).1.Ok ∧ U (newestF acc p).2 := by
  refine ⟨?_, U_sadd h2 hp.2.1⟩
  show (if _ then _ else _ : Pk).Ok
  split
  · exact hp
  · exact h1
theorem newestL_ok {p0 : Pk} (h0 : p0.Ok) {l : List Pk} (h : ∀ p ∈ l, p.Ok) : (newestL p0 l).1.Ok ∧ U (newestL p0 l).2 := by
  unfold newestL
  have key : ∀ (l : List Pk) (acc : Pk × Int), acc.1.Ok → U acc.2 → (∀ p ∈ l, p.Ok) → (l.foldl newestF acc).1.Ok ∧ U (l.foldl newestF acc).2 := by
    intro l
    induction l with
    | nil => intro acc a b _; exact ⟨a, b⟩
    | cons p l ih =>
      intro acc a b hl
      obtain ⟨c, d⟩ := newestF_ok a b (hl p (List.mem_cons_self ..))
      exact ih _ c d fun q hq => hl q (List.mem_cons_of_mem _ hq)
  exact key l _ h0 U_zero h
section
variable (ε w : World) (R : List Asn)
theorem isNaN_c (x : Int) : Calls Try.prog 233 #[.int .u64 x] w fun e w' => e = .returned (.bool false) ∧ w = w' := by
  go_enter Try.func233, Try.ntmps233
  go_wp2_with fail
  go_ret
  exact ⟨rfl, rfl⟩
theorem cmpCompare_c (x y : Int) : Calls Try.prog 201 #[.int .u64 x, .int .u64 y] w fun e w' => e = .returned (.int .i64 (cmpI x y)) ∧ w = w' := by
  unfold cmpI
  have h1 := isNaN_c w x
  have h2 := isNaN_c w y
  by_cases hlt : x < y
  · rw [if_pos hlt]
    go_enter Try.func201, Try.ntmps201
    go_wp2_with fail
    refine (isNaN_c w x).mono ?_
    rintro e w' ⟨rfl, rfl⟩
    go_wp2_with fail
    refine (isNaN_c w y).mono ?_
    rintro e w' ⟨rfl, rfl⟩
    go_wp2_with fail
    go_ret
    exact ⟨rfl, rfl⟩
  · rw [if_neg hlt]
    by_cases hgt : y < x
    · rw [if_pos hgt]
      go_enter Try.func201, Try.ntmps201
      go_wp2_with fail
      refine (isNaN_c w x).mono ?_
      rintro e w' ⟨rfl, rfl⟩
      go_wp2_with fail
      refine (isNaN_c w y).mono ?_
      rintro e w' ⟨rfl, rfl⟩
      go_wp2_with fail
      go_ret
      exact ⟨rfl, rfl⟩
    · rw [if_neg hgt]
      go_enter Try.func201, Try.ntmps201
      go_wp2_with fail
      refine (isNaN_c w x).mono ?_
      rintro e w' ⟨rfl, rfl⟩
      go_wp2_with fail
      refine (isNaN_c w y).mono ?_
      rintro e w' ⟨rfl, rfl⟩
      go_wp2_with fail
      go_ret
      exact ⟨rfl, rfl⟩
theorem cmpOr_c (b : Nat) (x y : Int) (h0 : w.cell? ⟨b, 0, none⟩ = some (.int .i64 x)) (h1 : w.cell? ⟨b, 1, none⟩ = some (.int .i64 y)) :
    Calls Try.prog 200 #[.slice (some ⟨b, 0, none⟩) 2 2] w fun e w' => e = .returned (.int .i64 (orI x y)) ∧ w = w' := by
  go_enter Try.func200, Try.ntmps200
  go_wp2_with fail
  go_loopw [8] (fun i wr => ∃ k : Nat, k ≤ 2 ∧ i = .int .i64 k ∧ wr = w ∧ (0 < k → x = 0) ∧ (1 < k → y = 0)) (fun i _ => 2 - (intOf i).toNat)
  case atStart => exact ⟨0, by decide, rfl, rfl, by omega, by omega⟩
  case round =>
    obtain ⟨k, hk, rfl, rfl, hx, hy⟩ := hrel
    rcases Nat.lt_or_ge k 2 with hk2 | hk2
    · rcases Nat.eq_zero_or_pos k with rfl | hp
      · by_cases hx0 : x = 0
        · subst hx0
          go_wp2_with fail
          go_roundw
          case rel => refine ⟨1, by decide, ?_⟩; simp
          case measure => simp [intOf]
        · go_wp2_with fail
          go_ret
          exact ⟨congrArg (fun z => Ending.returned (.int .i64 z)) (show x = orI x y by unfold orI; rw [if_neg hx0]), rfl⟩
      · obtain rfl : k = 1 := by omega
        obtain rfl := hx (by omega)
        by_cases hy0 : y = 0
        · subst hy0
          go_wp2_with fail
          go_roundw
          case rel => refine ⟨2, by decide, ?_⟩; simp
          case measure => simp [intOf]
        · go_wp2_with fail
          go_ret
          exact ⟨congrArg (fun z => Ending.returned (.int .i64 z)) (show y = orI 0 y by unfold orI; rw [if_pos rfl]), rfl⟩
    · obtain rfl : k = 2 := by omega
      obtain rfl := hx (by omega)
      obtain rfl := hy (by omega)
      go_wp2_with fail
      go_ret
      exact ⟨rfl, rfl⟩
set_option maxHeartbeats 1600000 in
theorem rateOrder_c (p q : Pk) (H : Own ε w R) :
    Calls Try.prog 144 #[.agg p.st.toArray, .agg q.st.toArray] w fun e w' => e = .returned (.int .i64 (ordI p q)) ∧ Own ε w' R := by
  have HH := Lib.hid H; clear H
  obtain ⟨pn, ps, p3, p4, p5, p6, p7⟩ := p
  obtain ⟨qn, qs, q3, q4, q5, q6, q7⟩ := q
  go_enter Try.func144, Try.ntmps144
  go_wp2_with (with_reducible refine stop_bx ?_)
  refine Stop.go ?_
  refine wpList_box_own HH.out [_, _, _, _, _] rfl ?_
  intro ba w1_ H9_
  replace HH := Lib.hid H9_
  clear H9_
  go_wp2_with (with_reducible refine stop_bx ?_)
  refine Stop.go ?_
  refine wpList_box_own HH.out [_, _, _, _, _] rfl ?_
  intro bb w2_ H9_
  replace HH := Lib.hid H9_
  clear H9_
  go_wp2_with fail
  refine wp_region_reg none HH.out (by kernel_rfl) ?_
  intro wm H9_
  replace HH := Lib.hid H9_
  clear H9_
  refine reg_p (i := 0) rfl (by kernel_rfl) (fun _ _ _ _ h => h) HH.out (fun K hK => ?_)
  go_simp
  first | (refine hK _ ?_; clear hK K) | (apply Exists.intro; refine ⟨?_, hK _ ?_⟩; (focus (intro wx; first | (go_simp; first | rfl) | rfl)); clear hK K)
  refine mixk_q (i := 1) rfl (by kernel_rfl) (fun _ _ _ _ h => h) HH.out (fun K hK => ?_)
  go_simp
  first | (refine hK _ ?_; clear hK K) | (apply Exists.intro; refine ⟨?_, hK _ ?_⟩; (focus (intro wx hx; have x1_ := hx.cells; have x2_ := hx.r2.cells; first | (first | (go_at_call 201; (with_reducible refine (cmpCompare_c wx p5 q5).mono ?_); rintro e wy ⟨rfl, hbel⟩; exact ⟨rfl, (by first | exact Kp.same hbel | exact Kp.drew hbel | exact Kp.below hbel : Kp wx wy)⟩) | (go_at_call 201; (with_reducible refine (cmpCompare_c wx p3 q3).mono ?_); rintro e wy ⟨rfl, hbel⟩; exact ⟨rfl, (by first | exact Kp.same hbel | exact Kp.drew hbel | exact Kp.below hbel : Kp wx wy)⟩)) | (go_simp; first | rfl | exact ⟨rfl, rfl⟩) | rfl | exact ⟨rfl, rfl⟩)); clear hK K)
  refine reg_p (i := 2) rfl (by kernel_rfl) (fun _ _ _ _ h => h) HH.out (fun K hK => ?_)
  go_simp
  first | (refine hK _ ?_; clear hK K) | (apply Exists.intro; refine ⟨?_, hK _ ?_⟩; (focus (intro wx; first | (go_simp; first | rfl) | rfl)); clear hK K)
  refine mixk_q (i := 3) rfl (by kernel_rfl) (fun _ _ _ _ h => h) HH.out (fun K hK => ?_)
  go_simp
  first | (refine hK _ ?_; clear hK K) | (apply Exists.intro; refine ⟨?_, hK _ ?_⟩; (focus (intro wx hx; have x1_ := hx.cells; have x2_ := hx.r2.cells; first | (first | (go_at_call 201; (with_reducible refine (cmpCompare_c wx p5 q5).mono ?_); rintro e wy ⟨rfl, hbel⟩; exact ⟨rfl, (by first | exact Kp.same hbel | exact Kp.drew hbel | exact Kp.below hbel : Kp wx wy)⟩) | (go_at_call 201; (with_reducible refine (cmpCompare_c wx p3 q3).mono ?_); rintro e wy ⟨rfl, hbel⟩; exact ⟨rfl, (by first | exact Kp.same hbel | exact Kp.drew hbel | exact Kp.below hbel : Kp wx wy)⟩)) | (go_simp; first | rfl | exact ⟨rfl, rfl⟩) | rfl | exact ⟨rfl, rfl⟩)); clear hK K)
  refine mixk_q (i := 4) rfl (by kernel_rfl) (fun _ _ _ _ h => h) HH.out (fun K hK => ?_)
  go_simp
  first | (refine hK _ ?_; clear hK K) | (apply Exists.intro; refine ⟨?_, hK _ ?_⟩; (focus (intro wx hx; have x1_ := hx.cells; have x2_ := hx.r2.cells; first | (first | (go_at_call 201; (with_reducible refine (cmpCompare_c wx p5 q5).mono ?_); rintro e wy ⟨rfl, hbel⟩; exact ⟨rfl, (by first | exact Kp.same hbel | exact Kp.drew hbel | exact Kp.below hbel : Kp wx wy)⟩) | (go_at_call 201; (with_reducible refine (cmpCompare_c wx p3 q3).mono ?_); rintro e wy ⟨rfl, hbel⟩; exact ⟨rfl, (by first | exact Kp.same hbel | exact Kp.drew hbel | exact Kp.below hbel : Kp wx wy)⟩)) | (go_simp; first | rfl | exact ⟨rfl, rfl⟩) | rfl | exact ⟨rfl, rfl⟩)); clear hK K)
  refine reg_p (i := 5) rfl (by kernel_rfl) (fun _ _ _ _ h => h) HH.out (fun K hK => ?_)
  go_simp
  first | (refine hK _ ?_; clear hK K) | (apply Exists.intro; refine ⟨?_, hK _ ?_⟩; (focus (intro wx; first | (go_simp; first | rfl) | rfl)); clear hK K)
  refine mixk_q (i := 6) rfl (by kernel_rfl) (fun _ _ _ _ h => h) HH.out (fun K hK => ?_)
  go_simp
  first | (refine hK _ ?_; clear hK K) | (apply Exists.intro; refine ⟨?_, hK _ ?_⟩; (focus (intro wx hx; have x1_ := hx.cells; have x2_ := hx.r2.cells; first | (first | (go_at_call 201; (with_reducible refine (cmpCompare_c wx p5 q5).mono ?_); rintro e wy ⟨rfl, hbel⟩; exact ⟨rfl, (by first | exact Kp.same hbel | exact Kp.drew hbel | exact Kp.below hbel : Kp wx wy)⟩) | (go_at_call 201; (with_reducible refine (cmpCompare_c wx p3 q3).mono ?_); rintro e wy ⟨rfl, hbel⟩; exact ⟨rfl, (by first | exact Kp.same hbel | exact Kp.drew hbel | exact Kp.below hbel : Kp wx wy)⟩)) | (go_simp; first | rfl | exact ⟨rfl, rfl⟩) | rfl | exact ⟨rfl, rfl⟩)); clear hK K)
  refine reg_p (i := 7) rfl (by kernel_rfl) (fun _ _ _ _ h => h) HH.out (fun K hK => ?_)
  go_simp
  first | (refine hK _ ?_; clear hK K) | (apply Exists.intro; refine ⟨?_, hK _ ?_⟩; (focus (intro wx; first | (go_simp; first | rfl) | rfl)); clear hK K)
  refine mixk_q (i := 8) rfl (by kernel_rfl) (fun _ _ _ _ h => h) HH.out (fun K hK => ?_)
  go_simp
  first | (refine hK _ ?_; clear hK K) | (apply Exists.intro; refine ⟨?_, hK _ ?_⟩; (focus (intro wx hx; have x1_ := hx.cells; have x2_ := hx.r2.cells; first | (first | (go_at_call 201; (with_reducible refine (cmpCompare_c wx p5 q5).mono ?_); rintro e wy ⟨rfl, hbel⟩; exact ⟨rfl, (by first | exact Kp.same hbel | exact Kp.drew hbel | exact Kp.below hbel : Kp wx wy)⟩) | (go_at_call 201; (with_reducible refine (cmpCompare_c wx p3 q3).mono ?_); rintro e wy ⟨rfl, hbel⟩; exact ⟨rfl, (by first | exact Kp.same hbel | exact Kp.drew hbel | exact Kp.below hbel : Kp wx wy)⟩)) | (go_simp; first | rfl | exact ⟨rfl, rfl⟩) | rfl | exact ⟨rfl, rfl⟩)); clear hK K)
  refine mixk_q (i := 9) rfl (by kernel_rfl) (fun _ _ _ _ h => h) HH.out (fun K hK => ?_)
  go_simp
  first | (refine hK _ ?_; clear hK K) | (apply Exists.intro; refine ⟨?_, hK _ ?_⟩; (focus (intro wx hx; have x1_ := hx.cells; have x2_ := hx.r2.cells; first | (first | (go_at_call 201; (with_reducible refine (cmpCompare_c wx p5 q5).mono ?_); rintro e wy ⟨rfl, hbel⟩; exact ⟨rfl, (by first | exact Kp.same hbel | exact Kp.drew hbel | exact Kp.below hbel : Kp wx wy)⟩) | (go_at_call 201; (with_reducible refine (cmpCompare_c wx p3 q3).mono ?_); rintro e wy ⟨rfl, hbel⟩; exact ⟨rfl, (by first | exact Kp.same hbel | exact Kp.drew hbel | exact Kp.below hbel : Kp wx wy)⟩)) | (go_simp; first | rfl | exact ⟨rfl, rfl⟩) | rfl | exact ⟨rfl, rfl⟩)); clear hK K)
  refine reg_l none (i := 10) rfl (by kernel_rfl) (fun wn hk K hK => ?_)
  replace HH := Lib.hid (hk _ _ HH.out)
  clear hk
  go_simp
  replace HH := Lib.hid (HH.out.alloc (.cells #[.int .i64 (cmpI p5 q5), .int .i64 (cmpI p3 q3)] 3))
  generalize wn.alloc (.cells #[.int .i64 (cmpI p5 q5), .int .i64 (cmpI p3 q3)] 3) = wm at *
  generalize wn.heap.size = sb at *
  refine hK _ _ _ HH.out (.inr ⟨rfl, fun _ h => h.tail⟩) ?_
  clear hK K
  refine reg_l none (i := 11) rfl (by kernel_rfl) (fun wn hk K hK => ?_)
  replace HH := Lib.hid (hk _ _ HH.out)
  clear hk
  go_simp
  refine (cmpOr_c wn sb (cmpI p5 q5) (cmpI p3 q3) (HH.out.cells.1 0) (HH.out.cells.1 1)).mono ?_
  rintro e wm ⟨rfl, hbel⟩
  replace HH := Lib.hid ((by first | exact Kp.same hbel | exact Kp.drew hbel | exact Kp.below hbel : Kp wn wm) _ _ HH.out)
  clear hbel
  refine hK _ _ _ HH.out (.inr ⟨rfl, fun _ h => h⟩) ?_
  clear hK K
  refine reg_p (i := 12) rfl (by kernel_rfl) (fun _ _ _ _ h => h) HH.out (fun K hK => ?_)
  go_simp
  first | (refine hK _ ?_; clear hK K) | (apply Exists.intro; refine ⟨?_, hK _ ?_⟩; (focus (intro wx; first | (go_simp; first | rfl) | rfl)); clear hK K)
  refine mixk_done (by kernel_rfl) (fun w3_ hk => ?_) _
  replace HH := Lib.hid (hk _ _ HH.out)
  clear hk
  go_wp2_with fail
  go_ret
  exact ⟨rfl, (Own.pm (HH.out) (by repeat (first | with_reducible exact Pm.refl _ | with_reducible exact Pm.nil _ | with_reducible refine Pm.here ?_ | with_reducible refine Pm.at2 ?_ | with_reducible refine Pm.at3 ?_ | with_reducible refine Pm.at4 ?_ | with_reducible refine Pm.at5 ?_ | with_reducible refine Pm.at6 ?_ | with_reducible refine Pm.at7 ?_ | with_reducible refine Pm.at8 ?_ | with_reducible refine Pm.skip ?_)))⟩
set_option maxHeartbeats 3200000 in
theorem rateNewest_c (A : Option Addr) (n cap : Nat) (l : List Pk) (hl : ∀ p ∈ l, p.Ok) (hA : ∀ wx, Own ε wx R → pkAt wx A n l) (hn : 0 < n) (hn2 : n ≤ 1000000) (H : Own ε w R) :
    Calls Try.prog 73 #[.slice A n cap] w fun e w' => ∃ p0, l[0]? = some p0 ∧ e = .returned (.tuple #[.agg (newestL p0 l).1.st.toArray, .int .u64 (newestL p0 l).2]) ∧ Own ε w' R := by
  obtain ⟨g, off, p0, rfl, hp0, _, _, k2, k3, k4, k5, k6⟩ := (hA w H).cells hn
  have hll := (hA w H).1
  have h0ok := hl p0 (List.mem_of_getElem? hp0)
  have HH := Lib.hid H; clear H
  replace hA := Lib.hid hA
  replace hl := Lib.hid hl
  replace h0ok := Lib.hid h0ok
  go_enter Try.func73, Try.ntmps73
  go_wp2_with (with_reducible refine stop_al ?_)
  refine Stop.go ?_
  refine wpList_alloc_own HH.out [.int .u64 0, .int .u64 0, .int .u64 0, .int .u64 0, .bool false] (by kernel_rfl) ?_
  intro rx w4_ H9_
  replace HH := Lib.hid H9_
  clear H9_
  clear k2 k3 k4 k5 k6
  obtain ⟨_, _, p1, e, hp1, _, _, k2, k3, k4, k5, k6⟩ := (hA.out _ HH.out.tail).cells hn
  cases e
  have e9 : p1 = p0 := by rw [hp0] at hp1; exact (Option.some.inj hp1).symm
  rw [e9] at k2 k3 k4 k5 k6
  clear e9
  simp only [Nat.zero_mul, Nat.add_zero] at k2 k3 k4 k5 k6
  clear hp1
  go_wp2_with (with_reducible refine stop_al ?_)
  refine Stop.go ?_
  refine wpList_alloc_own HH.out [.int .u64 0, .int .u64 0, .int .u64 0, .int .u64 0, .bool false] (by kernel_rfl) ?_
  intro sx w5_ H9_
  replace HH := Lib.hid H9_
  clear H9_
  go_wp2_with (with_reducible refine stop_st ?_)
  refine Stop.go ?_
  refine wpList_store_own _ #[_, _, _, _, _] rfl rfl HH.out (by kernel_rfl) rfl (by repeat (first | (refine List.forall_mem_cons.2 ⟨(by first | with_reducible assumption | rfl), ?_⟩) | exact fun _ h => absurd h List.not_mem_nil)) ?_
  intro w6_ H9_
  replace HH := Lib.hid H9_
  clear H9_
  clear k2 k3 k4 k5 k6
  replace hp0 := Lib.hid hp0
  replace hll := Lib.hid hll
  go_wp2_with fail
  go_loopw [5, 14] (fun v i wr => ∃ k : Nat, k ≤ n ∧ i = .int .i64 k ∧ v = .int .u64 (newestL p0 (l.take k)).2 ∧ Own ε wr (pts sx (.cells (newestL p0 (l.take k)).1.st.toArray 32 (0, 0)) :: pts rx (.cells #[.int .u64 0, .int .u64 0, .int .u64 0, .int .u64 0, .bool false] 32 (0, 0)) :: R)) (fun _ i _ => n - (intOf i).toNat)
  case atStart => exact ⟨0, Nat.zero_le _, rfl, rfl, HH.out⟩
  case round =>
    clear HH
    obtain ⟨k, hk, rfl, rfl, HR⟩ := hrel
    have hacc := newestL_ok h0ok.out (l := l.take k) fun p hp => hl.out p (List.mem_of_mem_take hp)
    by_cases hlt : k < n
    · obtain ⟨g', off', p, e, hp, k0, k1, k2, k3, k4, k5, k6⟩ := (hA.out _ HR.tail.tail).cells hlt
      cases e
      have hpok := hl.out p (List.mem_of_getElem? hp)
      have e1 : newestL p0 (l.take (k + 1)) = newestF (newestL p0 (l.take k)) p := by rw [List.take_add_one, hp, ← newestL_snoc]; rfl
      have HH := Lib.hid HR
      clear HR hp
      generalize newestL p0 (l.take k) = acc at hacc e1 HH
      obtain ⟨x, s⟩ := acc
      simp only at hacc HH
      obtain ⟨hx, hs⟩ := hacc
      have hpU := hpok.2.1
      replace hs := Lib.hid hs
      replace hpU := Lib.hid hpU
      replace hx := Lib.hid hx
      replace hpok := Lib.hid hpok
      by_cases ho : 0 ≤ ordI p x
      case' neg => have e2 : newestL p0 (l.take (k + 1)) = (x, sadd s p.size) := by rw [e1]; unfold newestF; rw [if_neg ho]
      case' pos => have e2 : newestL p0 (l.take (k + 1)) = (p, sadd s p.size) := by rw [e1]; unfold newestF; rw [if_pos ho]
      all_goals
        clear e1
        replace e2 := Lib.hid e2
        obtain ⟨oi, hoi⟩ : ∃ o, ordI p x = o := ⟨_, rfl⟩
        rw [hoi] at ho
        replace hoi := Lib.hid hoi
        obtain ⟨pn, ps, p3, p4, p5, p6, p7⟩ := p
        obtain ⟨xn, xs, x3, x4, x5, x6, x7⟩ := x
        simp only [Pk.st] at HH
        go_wp2_with (with_reducible refine stop_al ?_)
        refine Stop.go ?_
        refine wpList_alloc_own HH.out [.int .u64 0, .int .u64 0, .int .u64 0, .int .u64 0, .int .u64 0, .int .u64 0, .bool false] (by kernel_rfl) ?_
        intro px w7_ H9_
        replace HH := Lib.hid H9_
        clear H9_
        go_wp2_with (with_reducible refine stop_st ?_)
        refine Stop.go ?_
        refine wpList_store_own _ #[_, _, _, _, _, _, _] rfl rfl HH.out (by kernel_rfl) rfl (by repeat (first | (refine List.forall_mem_cons.2 ⟨(by first | with_reducible assumption | rfl), ?_⟩) | exact fun _ h => absurd h List.not_mem_nil)) ?_
        intro w8_ H9_
        replace HH := Lib.hid H9_
        clear H9_
        clear k0 k1 k2 k3 k4 k5 k6
        (try clear cc1_); (try clear cc2_); (try clear cc3_); (try clear cc4_); (try clear cc5_); (try clear cc6_); (try clear cc7_)
        have cc1_ := HH.out.cells
        go_wp2_with (with_reducible refine stop_bs ?_)
        refine Stop.go ?_
        refine wpList_bsv_own HH.out [.int .u64 s, .int .u64 ps] 1 8 [.int .u64 0] Try.underlying80 (by kernel_rfl) (by kernel_rfl) (by decide) (by decide) (by kernel_rfl) ?_
        intro g2 w9_ H9_
        replace HH := Lib.hid H9_
        clear H9_
        go_wp2_with fail
        refine (fixAdd2_c _ g2 s ps hs.out hpU.out (HH.out.cells.1 0) (HH.out.cells.1 1)).mono ?_
        rintro e w10_ ⟨rfl, hbel⟩
        replace HH := Lib.hid ((by first | exact Kp.same hbel | exact Kp.drew hbel | exact Kp.below hbel : Kp _ w10_) _ _ (by first | exact HH.out | exact HH.out.drewN _ | exact (HH.out.alloc _).tail | exact ((HH.out.alloc _).drewN _).tail | exact ((HH.out.alloc _).alloc _).tail.tail))
        clear hbel
        (try clear cc1_); (try clear cc2_); (try clear cc3_); (try clear cc4_); (try clear cc5_); (try clear cc6_); (try clear cc7_)
        have cc2_ := HH.out.r2.cells
        have cc3_ := HH.out.r3.cells
        go_wp2_with fail
        refine (rateOrder_c ε _ _ ⟨pn, ps, p3, p4, p5, p6, p7⟩ ⟨xn, xs, x3, x4, x5, x6, x7⟩ HH.out).mono ?_
        rw [hoi.out]
        rintro e w11_ ⟨rfl, H9_⟩
        replace HH := Lib.hid H9_
        clear H9_
        (try clear cc1_); (try clear cc2_); (try clear cc3_); (try clear cc4_); (try clear cc5_); (try clear cc6_); (try clear cc7_)
        have cc2_ := HH.out.r2.cells
        have cc3_ := HH.out.r3.cells
      · replace HH := Lib.hid HH.out.r3
        go_wp2_with (with_reducible refine stop_st ?_)
        refine Stop.go ?_
        refine wpList_store_own _ #[_, _, _, _, _] rfl rfl HH.out (by kernel_rfl) rfl (by repeat (first | (refine List.forall_mem_cons.2 ⟨(by first | with_reducible assumption | rfl), ?_⟩) | exact fun _ h => absurd h List.not_mem_nil)) ?_
        intro w12_ H9_
        replace HH := Lib.hid H9_
        clear H9_
        (try clear cc1_); (try clear cc2_); (try clear cc3_); (try clear cc4_); (try clear cc5_); (try clear cc6_); (try clear cc7_)
        go_wp2_with fail
        go_roundw
        case rel =>
          refine ⟨k + 1, by omega, by go_num, ?_⟩
          rw [e2.out]
          have H10 := ((Own.pm (HH.out) (by repeat (first | with_reducible exact Pm.refl _ | with_reducible exact Pm.nil _ | with_reducible refine Pm.here ?_ | with_reducible refine Pm.at2 ?_ | with_reducible refine Pm.at3 ?_ | with_reducible refine Pm.at4 ?_ | with_reducible refine Pm.at5 ?_ | with_reducible refine Pm.at6 ?_ | with_reducible refine Pm.at7 ?_ | with_reducible refine Pm.at8 ?_ | with_reducible refine Pm.skip ?_))) : Own ε _ (pts sx _ :: pts rx _ :: R))
          exact ⟨rfl, H10⟩
        case measure => simp [intOf]; omega
      · have ho2 : oi < 0 := by omega
        go_wp2_with fail
        go_roundw
        case rel =>
          refine ⟨k + 1, by omega, by go_num, ?_⟩
          rw [e2.out]
          have H10 := ((Own.pm (HH.out) (by repeat (first | with_reducible exact Pm.refl _ | with_reducible exact Pm.nil _ | with_reducible refine Pm.here ?_ | with_reducible refine Pm.at2 ?_ | with_reducible refine Pm.at3 ?_ | with_reducible refine Pm.at4 ?_ | with_reducible refine Pm.at5 ?_ | with_reducible refine Pm.at6 ?_ | with_reducible refine Pm.at7 ?_ | with_reducible refine Pm.at8 ?_ | with_reducible refine Pm.skip ?_))) : Own ε _ (pts sx _ :: pts rx _ :: R))
          exact ⟨rfl, H10⟩
        case measure => simp [intOf]; omega
    · have hkn : k = n := by omega
      have HH := Lib.hid HR
      clear HR hacc
      have e1 : l.take k = l := List.take_of_length_le (by rw [hkn, hll.out]; exact Nat.le_refl _)
      rw [e1] at HH ⊢
      clear e1
      obtain ⟨acc, hacc⟩ : ∃ q, newestL p0 l = q := ⟨_, rfl⟩
      rw [hacc] at HH ⊢
      obtain ⟨⟨xn, xs, x3, x4, x5, x6, x7⟩, s⟩ := acc
      replace hacc := Lib.hid hacc
      simp only [Pk.st] at HH
      (try clear cc1_); (try clear cc2_); (try clear cc3_); (try clear cc4_); (try clear cc5_); (try clear cc6_); (try clear cc7_)
      have cc1_ := HH.out.cells
      go_wp2_with (with_reducible refine stop_st ?_)
      replace HH := Lib.hid HH.out.r2
      go_wp2_with (with_reducible refine stop_st ?_)
      refine Stop.go ?_
      refine wpList_store_own _ #[_, _, _, _, _] rfl rfl HH.out (by kernel_rfl) rfl (by repeat (first | (refine List.forall_mem_cons.2 ⟨(by first | with_reducible assumption | rfl), ?_⟩) | exact fun _ h => absurd h List.not_mem_nil)) ?_
      intro w13_ H9_
      replace HH := Lib.hid H9_
      clear H9_
      go_wp2_with fail
      refine bodyPost_cell rfl rfl rfl rfl Try.underlying32 rfl (by kernel_rfl) (HH.out) ?_
      refine ⟨p0, hp0.out, ?_⟩
      rw [hacc.out]
      exact ⟨rfl, HH.out.tail.tail⟩
end
end Go.Proofs.Ytklohjjkpobneaa
