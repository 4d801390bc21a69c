/- queue: the reference. -/
import Derived.Test.YtoimbdbajpjmjaaQueue
import Derived.Test.YtoimbdbajpjmjaaFixP
namespace Go.Proofs.Ytoimbdbajpjmjaa
open Go.RowKit
def rque (b : Nat) (q : Que) : Asn := exA fun v : Value => sep (pts b (.cells #[.int .u64 q.room, v, .int .u64 q.dropped, .int .u64 q.gone] 71 (0, 0))) (slcP v q.l)
section
variable {ε w : World} {R : List Asn} {b : Nat} {q : Que}
theorem Own.rque_open (H : Own ε w (rque b q :: R)) : ∃ v, Own ε w (pts b (.cells #[.int .u64 q.room, v, .int .u64 q.dropped, .int .u64 q.gone] 71 (0, 0)) :: slcP v q.l :: R) := by
  obtain ⟨v, H⟩ := H.ex
  exact ⟨v, H.split⟩
theorem Own.rque_mk {v : Value} (H : Own ε w (pts b (.cells #[.int .u64 q.room, v, .int .u64 q.dropped, .int .u64 q.gone] 71 (0, 0)) :: slcP v q.l :: R)) : Own ε w (rque b q :: R) := Own.ex_mk v H.join
end
theorem psum_take_le {l : List Pk} (h : ∀ p ∈ l, p.Ok) (k : Nat) : psum (l.take k) ≤ psum l := by
  have h2 : psum (l.take k) + psum (l.drop k) = psum l := by rw [← psum_append, List.take_append_drop]
  have h3 := psum_nonneg (fun p hp => h p (List.mem_of_mem_drop hp) : ∀ p ∈ l.drop k, p.Ok)
  omega
section
variable (ε w : World) (R : List Asn) (b : Nat)
set_option maxHeartbeats 1600000 in
theorem rqueBytes_c (q : Que) (hq : q.Ok) (H : Own ε w (rque b q :: R)) :
    Calls Try.prog 40 #[.pointer (some ⟨b, 0, none⟩)] w fun e w' => e = .returned (.int .u64 q.bytes) ∧ w = w' := by
  obtain ⟨v, H⟩ := H.rque_open
  obtain ⟨A, n, cap, rfl, _, hcap, hA⟩ := H.r2.slcP_val
  have k1 := H.cells
  have hub := hq.ub
  have hsum := hq.sum
  have hall := Lib.hid hq.all
  clear H hq
  obtain ⟨room, bytes, dr, gone, l⟩ := q
  simp only at hub hsum hall hA k1
  have hl := hA.1
  replace hA := Lib.hid hA
  subst hsum
  replace hub := Lib.hid hub
  unfold maxLen at hcap
  go_enter Try.func40, Try.ntmps40
  go_wp2_with fail
  go_loopw [3, 4] (fun s i wr => ∃ k : Nat, k ≤ n ∧ i = .int .i64 k ∧ s = .int .u64 (psum (l.take k)) ∧ wr = w) (fun _ i _ => n - (intOf i).toNat)
  case atStart => exact ⟨0, Nat.zero_le _, rfl, rfl, rfl⟩
  case round =>
    obtain ⟨k, hk, rfl, rfl, rfl⟩ := hrel
    by_cases hlt : k < n
    · obtain ⟨g, off, p, rfl, hp, k2, k3, _⟩ := hA.out.cells hlt
      have hmem : p ∈ l := List.mem_of_getElem? hp
      have e1 : psum (l.take (k + 1)) = psum (l.take k) + p.size := by rw [List.take_add_one, hp, psum_append]; simp [psum_one]
      have h1 := psum_take_le hall.out (k + 1)
      have h2 := psum_nonneg (fun p hp => hall.out p (List.mem_of_mem_take hp) : ∀ p ∈ l.take k, p.Ok)
      have h3 := (hall.out p hmem).2.1
      have hb := hub.out
      have hu : U (psum (l.take k)) := by unfold U at *; omega
      have e2 : sadd (psum (l.take k)) p.size = psum (l.take k) + p.size := by unfold sadd; unfold U at *; rw [if_neg (by omega)]
      replace e1 := Lib.hid e1
      replace e2 := Lib.hid e2
      replace h3 := Lib.hid h3
      replace hu := Lib.hid hu
      replace hp := Lib.hid hp
      clear h1 h2 hb k2
      go_wp2_with fail
      refine (refAdd_c _ _ _ hu.out h3.out).mono ?_
      rintro e w' ⟨rfl, rfl⟩
      clear k3
      go_wp2_with fail
      go_roundw
      case rel => exact ⟨k + 1, by omega, by go_num, by rw [e2.out, e1.out], by first | rfl | trivial⟩
      case measure => simp [intOf]; omega
    · have hkn : k = n := by omega
      subst hkn
      go_wp2_with fail
      go_ret
      exact ⟨congrArg (fun x => Ending.returned (Value.int .u64 (psum x))) (List.take_of_length_le (by omega)), rfl⟩
set_option maxHeartbeats 3200000 in
theorem rquePut_c (q : Que) (p : Pk) (hq : q.Ok) (hp : p.Ok) (hl : q.l.length ≤ 1000000) (H : Own ε w (rque b q :: R)) :
    Calls Try.prog 35 #[.pointer (some ⟨b, 0, none⟩), .agg p.cells.toArray] w fun e w' => e = .returned (.bool (q.put p).1) ∧ Own ε w' (rque b (q.put p).2 :: R) := by
  obtain ⟨v, H⟩ := H.rque_open
  have HH := Lib.hid H; clear H
  have hub := hq.ub
  have hr := hq.room
  have hfit := hq.fits
  have hd := Lib.hid hq.dropped
  have hg := Lib.hid hq.gone
  have hps := hp.2.1
  replace hq := Lib.hid hq
  clear hp
  obtain ⟨room, bytes, dr, gone, l⟩ := q
  obtain ⟨pn, ps, p3, p4, p5, p6, p7⟩ := p
  simp only at hub hr hfit hd hg hps hl
  have hw1 : IntKind.u64.wrap (room - bytes) = room - bytes := by unfold U at *; rw [IntKind.wrap_u64]; omega
  by_cases hf : room - bytes < ps
  · rw [show (⟨room, bytes, dr, gone, l⟩ : Que).put ⟨pn, ps, p3, p4, p5, p6, p7⟩ = (false, ⟨room, bytes, sadd dr 1, sadd gone ps, l⟩) from if_neg (by simp only; omega)]
    clear hub hr hfit
    replace hps := Lib.hid hps
    go_enter Try.func35, Try.ntmps35
    go_wp2_with (with_reducible refine stop_bx ?_)
    refine Stop.go ?_
    refine wpList_box_own HH.out [_, _, _, _, _, _, _] rfl ?_
    intro sp w1_ H9_
    replace HH := Lib.hid H9_
    clear H9_
    replace HH := Lib.hid ((Own.pm (HH.out) (by repeat (first | with_reducible exact Pm.refl _ | with_reducible exact Pm.nil _ | with_reducible refine Pm.here ?_ | with_reducible refine Pm.at2 ?_ | with_reducible refine Pm.at3 ?_ | with_reducible refine Pm.at4 ?_ | with_reducible refine Pm.at5 ?_ | with_reducible refine Pm.at6 ?_ | with_reducible refine Pm.at7 ?_ | with_reducible refine Pm.at8 ?_ | with_reducible refine Pm.skip ?_))) : Own ε _ (pts b _ :: slcP v l :: pts sp _ :: R))
    go_wp2_with fail
    refine wp_region_reg none HH.out (by kernel_rfl) ?_
    intro wm H9_
    replace HH := Lib.hid H9_
    clear H9_
    refine reg_p (i := 0) rfl (by kernel_rfl) (fun _ _ _ _ h => h) HH.out (fun K hK => ?_)
    go_simp
    first | (refine hK _ ?_; clear hK K) | (apply Exists.intro; refine ⟨?_, hK _ ?_⟩; (focus (intro wx; first | (go_simp; first | rfl) | rfl)); clear hK K)
    refine mixk_q (i := 1) rfl (by kernel_rfl) (fun _ _ _ _ h => h) HH.out (fun K hK => ?_)
    go_simp
    first | (refine hK _ ?_; clear hK K) | (apply Exists.intro; refine ⟨?_, hK _ ?_⟩; (focus (intro wx hx; have x1_ := hx.cells; have x3_ := hx.r3.cells; first | (first | (go_at_call 40; refine (rqueBytes_c ε wx _ b ⟨room, bytes, dr, gone, l⟩ hq.out (Own.rque_mk hx)).mono ?_; rintro e wy ⟨rfl, hbel⟩; exact ⟨rfl, (by first | exact Kp.same hbel | exact Kp.drew hbel | exact Kp.below hbel : Kp wx wy)⟩)) | (go_simp; first | rfl | exact ⟨rfl, rfl⟩) | rfl | exact ⟨rfl, rfl⟩)); clear hK K)
    refine reg_p (i := 2) rfl (by kernel_rfl) (fun _ _ _ _ h => h) HH.out (fun K hK => ?_)
    go_simp
    first | (refine hK _ ?_; clear hK K) | (apply Exists.intro; refine ⟨?_, hK _ ?_⟩; (focus (intro wx; first | (go_simp; first | rfl) | rfl)); clear hK K)
    refine reg_p (i := 3) rfl (by kernel_rfl) (fun _ _ _ _ h => h) HH.out (fun K hK => ?_)
    go_simp
    first | (refine hK _ ?_; clear hK K) | (apply Exists.intro; refine ⟨?_, hK _ ?_⟩; (focus (intro wx; first | (go_simp; first | rfl) | rfl)); clear hK K)
    refine reg_p (i := 4) rfl (by kernel_rfl) (fun _ _ _ _ h => h) HH.out (fun K hK => ?_)
    go_simp
    first | (refine hK _ ?_; clear hK K) | (apply Exists.intro; refine ⟨?_, hK _ ?_⟩; (focus (intro wx; first | (go_simp; first | rfl) | rfl)); clear hK K)
    refine mixk_q (i := 5) rfl (by kernel_rfl) (fun _ _ _ _ h => h) HH.out (fun K hK => ?_)
    go_simp
    first | (refine hK _ ?_; clear hK K) | (apply Exists.intro; refine ⟨?_, hK _ ?_⟩; (focus (intro wx hx; have x1_ := hx.cells; have x3_ := hx.r3.cells; first | (first | (go_at_call 40; refine (rqueBytes_c ε wx _ b ⟨room, bytes, dr, gone, l⟩ hq.out (Own.rque_mk hx)).mono ?_; rintro e wy ⟨rfl, hbel⟩; exact ⟨rfl, (by first | exact Kp.same hbel | exact Kp.drew hbel | exact Kp.below hbel : Kp wx wy)⟩)) | (go_simp; first | rfl | exact ⟨rfl, rfl⟩) | rfl | exact ⟨rfl, rfl⟩)); clear hK K)
    refine reg_p (i := 6) rfl (by kernel_rfl) (fun _ _ _ _ h => h) HH.out (fun K hK => ?_)
    go_simp
    first | (refine hK _ ?_; clear hK K) | (apply Exists.intro; refine ⟨?_, hK _ ?_⟩; (focus (intro wx; first | (go_simp; first | rfl) | rfl)); clear hK K)
    refine mixk_q (i := 7) rfl (by kernel_rfl) (fun _ _ _ _ h => h) HH.out (fun K hK => ?_)
    go_simp
    first | (refine hK _ ?_; clear hK K) | (apply Exists.intro; refine ⟨?_, hK _ ?_⟩; (focus (intro wx hx; have x1_ := hx.cells; have x3_ := hx.r3.cells; first | (first | (go_at_call 40; refine (rqueBytes_c ε wx _ b ⟨room, bytes, dr, gone, l⟩ hq.out (Own.rque_mk hx)).mono ?_; rintro e wy ⟨rfl, hbel⟩; exact ⟨rfl, (by first | exact Kp.same hbel | exact Kp.drew hbel | exact Kp.below hbel : Kp wx wy)⟩)) | (go_simp; first | rfl | exact ⟨rfl, rfl⟩) | rfl | exact ⟨rfl, rfl⟩)); clear hK K)
    refine reg_p (i := 8) rfl (by kernel_rfl) (fun _ _ _ _ h => h) HH.out (fun K hK => ?_)
    go_simp
    first | (refine hK _ ?_; clear hK K) | (apply Exists.intro; refine ⟨?_, hK _ ?_⟩; (focus (intro wx; first | (go_simp; first | rfl) | rfl)); clear hK K)
    refine reg_p (i := 9) rfl (by kernel_rfl) (fun _ _ _ _ h => h) HH.out (fun K hK => ?_)
    go_simp
    first | (refine hK _ ?_; clear hK K) | (apply Exists.intro; refine ⟨?_, hK _ ?_⟩; (focus (intro wx; first | (go_simp; first | rfl) | rfl)); clear hK K)
    refine mixk_done (by kernel_rfl) (fun w2_ hk => ?_) _
    replace HH := Lib.hid (hk _ _ HH.out)
    clear hk
    clear hw1
    have k1 := HH.out.cells
    go_wp2_with fail
    refine (refAdd_c _ dr 1 hd.out (by decide)).mono ?_
    rintro e w' ⟨rfl, rfl⟩
    clear k1
    go_wp2_with (with_reducible refine stop_st ?_)
    refine Stop.go ?_
    refine wpList_store1_own (v := .int .u64 (sadd dr 1)) (k := 2) rfl rfl HH.out (by kernel_rfl) (by simp) (by first | rfl | assumption) ?_
    intro w3_ H9_
    replace HH := Lib.hid H9_
    clear H9_
    simp only [List.setIfInBounds_toArray, List.set_cons_succ, List.set_cons_zero] at HH
    go_wp2_with fail
    refine wp_region_reg (some 10) HH.out (by kernel_rfl) ?_
    intro wm H9_
    replace HH := Lib.hid H9_
    clear H9_
    refine reg_p (i := 0) rfl (by kernel_rfl) (fun _ _ _ _ h => h) HH.out (fun K hK => ?_)
    go_simp
    first | (refine hK _ ?_; clear hK K) | (apply Exists.intro; refine ⟨?_, hK _ ?_⟩; (focus (intro wx; first | (go_simp; first | rfl) | rfl)); clear hK K)
    refine reg_p (i := 1) rfl (by kernel_rfl) (fun _ _ _ _ h => h) HH.out (fun K hK => ?_)
    go_simp
    first | (refine hK _ ?_; clear hK K) | (apply Exists.intro; refine ⟨?_, hK _ ?_⟩; (focus (intro wx; first | (go_simp; first | rfl) | rfl)); clear hK K)
    refine reg_p (i := 2) rfl (by kernel_rfl) (fun _ _ _ _ h => h) HH.out (fun K hK => ?_)
    go_simp
    first | (refine hK _ ?_; clear hK K) | (apply Exists.intro; refine ⟨?_, hK _ ?_⟩; (focus (intro wx; first | (go_simp; first | rfl) | rfl)); clear hK K)
    refine reg_p (i := 3) rfl (by kernel_rfl) (fun _ _ _ _ h => h) HH.out (fun K hK => ?_)
    go_simp
    first | (refine hK _ ?_; clear hK K) | (apply Exists.intro; refine ⟨?_, hK _ ?_⟩; (focus (intro wx; first | (go_simp; first | rfl) | rfl)); clear hK K)
    refine mixk_q (i := 4) rfl (by kernel_rfl) (fun _ _ _ _ h => h) HH.out (fun K hK => ?_)
    go_simp
    first | (refine hK _ ?_; clear hK K) | (apply Exists.intro; refine ⟨?_, hK _ ?_⟩; (focus (intro wx hx; have x1_ := hx.cells; have x3_ := hx.r3.cells; first | (first | (go_at_call 72; refine (refAdd_c wx gone ps hg.out hps.out).mono ?_; rintro e wy ⟨rfl, hbel⟩; exact ⟨rfl, (by first | exact Kp.same hbel | exact Kp.drew hbel | exact Kp.below hbel : Kp wx wy)⟩)) | (go_simp; first | rfl | exact ⟨rfl, rfl⟩) | rfl | exact ⟨rfl, rfl⟩)); clear hK K)
    refine reg_p (i := 5) rfl (by kernel_rfl) (fun _ _ _ _ h => h) HH.out (fun K hK => ?_)
    go_simp
    first | (refine hK _ ?_; clear hK K) | (apply Exists.intro; refine ⟨?_, hK _ ?_⟩; (focus (intro wx; first | (go_simp; first | rfl) | rfl)); clear hK K)
    refine mixk_q (i := 6) rfl (by kernel_rfl) (fun _ _ _ _ h => h) HH.out (fun K hK => ?_)
    go_simp
    first | (refine hK _ ?_; clear hK K) | (apply Exists.intro; refine ⟨?_, hK _ ?_⟩; (focus (intro wx hx; have x1_ := hx.cells; have x3_ := hx.r3.cells; first | (first | (go_at_call 72; refine (refAdd_c wx gone ps hg.out hps.out).mono ?_; rintro e wy ⟨rfl, hbel⟩; exact ⟨rfl, (by first | exact Kp.same hbel | exact Kp.drew hbel | exact Kp.below hbel : Kp wx wy)⟩)) | (go_simp; first | rfl | exact ⟨rfl, rfl⟩) | rfl | exact ⟨rfl, rfl⟩)); clear hK K)
    refine mixk_q (i := 7) rfl (by kernel_rfl) (fun _ _ _ _ h => h) HH.out (fun K hK => ?_)
    go_simp
    first | (refine hK _ ?_; clear hK K) | (apply Exists.intro; refine ⟨?_, hK _ ?_⟩; (focus (intro wx hx; have x1_ := hx.cells; have x3_ := hx.r3.cells; first | (first | (go_at_call 72; refine (refAdd_c wx gone ps hg.out hps.out).mono ?_; rintro e wy ⟨rfl, hbel⟩; exact ⟨rfl, (by first | exact Kp.same hbel | exact Kp.drew hbel | exact Kp.below hbel : Kp wx wy)⟩)) | (go_simp; first | rfl | exact ⟨rfl, rfl⟩) | rfl | exact ⟨rfl, rfl⟩)); clear hK K)
    refine reg_p (i := 8) rfl (by kernel_rfl) (fun _ _ _ _ h => h) HH.out (fun K hK => ?_)
    go_simp
    first | (refine hK _ ?_; clear hK K) | (apply Exists.intro; refine ⟨?_, hK _ ?_⟩; (focus (intro wx; first | (go_simp; first | rfl) | rfl)); clear hK K)
    refine reg_p (i := 9) rfl (by kernel_rfl) (fun _ _ _ _ h => h) HH.out (fun K hK => ?_)
    go_simp
    first | (refine hK _ ?_; clear hK K) | (apply Exists.intro; refine ⟨?_, hK _ ?_⟩; (focus (intro wx; first | (go_simp; first | rfl) | rfl)); clear hK K)
    refine reg_l none (i := 10) rfl (by kernel_rfl) (fun wn hk K hK => ?_)
    replace HH := Lib.hid (hk _ _ HH.out)
    clear hk
    have hx := HH.out
    have x1_ := hx.cells
    have x3_ := hx.r3.cells
    go_simp
    replace HH := Lib.hid (HH.out.set 3 (.int .u64 (sadd gone ps)))
    simp only [List.setIfInBounds_toArray, List.set_cons_succ, List.set_cons_zero] at HH
    generalize wn.setCell ⟨b, 3, none⟩ (.int .u64 (sadd gone ps)) = wm at *
    clear hx x1_ x3_
    refine hK _ _ _ HH.out (.inl (by kernel_rfl)) ?_
    clear hK K
    refine mixk_done (by kernel_rfl) (fun w4_ hk => ?_) _
    replace HH := Lib.hid (hk _ _ HH.out)
    clear hk
    go_wp2_with fail
    go_ret
    exact ⟨rfl, Own.rque_mk (Own.pm (HH.out) (by repeat (first | with_reducible exact Pm.refl _ | with_reducible exact Pm.nil _ | with_reducible refine Pm.here ?_ | with_reducible refine Pm.at2 ?_ | with_reducible refine Pm.at3 ?_ | with_reducible refine Pm.at4 ?_ | with_reducible refine Pm.at5 ?_ | with_reducible refine Pm.at6 ?_ | with_reducible refine Pm.at7 ?_ | with_reducible refine Pm.at8 ?_ | with_reducible refine Pm.skip ?_)))⟩
  · rw [show (⟨room, bytes, dr, gone, l⟩ : Que).put ⟨pn, ps, p3, p4, p5, p6, p7⟩ = (true, ⟨room, bytes + ps, dr, gone, l ++ [⟨pn, ps, p3, p4, p5, p6, p7⟩]⟩) from if_pos (by simp only; omega)]
    clear hub hr hfit hps hd hg
    go_enter Try.func35, Try.ntmps35
    go_wp2_with (with_reducible refine stop_bx ?_)
    refine Stop.go ?_
    refine wpList_box_own HH.out [_, _, _, _, _, _, _] rfl ?_
    intro sp w5_ H9_
    replace HH := Lib.hid H9_
    clear H9_
    replace HH := Lib.hid ((Own.pm (HH.out) (by repeat (first | with_reducible exact Pm.refl _ | with_reducible exact Pm.nil _ | with_reducible refine Pm.here ?_ | with_reducible refine Pm.at2 ?_ | with_reducible refine Pm.at3 ?_ | with_reducible refine Pm.at4 ?_ | with_reducible refine Pm.at5 ?_ | with_reducible refine Pm.at6 ?_ | with_reducible refine Pm.at7 ?_ | with_reducible refine Pm.at8 ?_ | with_reducible refine Pm.skip ?_))) : Own ε _ (pts b _ :: slcP v l :: pts sp _ :: R))
    go_wp2_with fail
    refine wp_region_reg none HH.out (by kernel_rfl) ?_
    intro wm H9_
    replace HH := Lib.hid H9_
    clear H9_
    refine reg_p (i := 0) rfl (by kernel_rfl) (fun _ _ _ _ h => h) HH.out (fun K hK => ?_)
    go_simp
    first | (refine hK _ ?_; clear hK K) | (apply Exists.intro; refine ⟨?_, hK _ ?_⟩; (focus (intro wx; first | (go_simp; first | rfl) | rfl)); clear hK K)
    refine mixk_q (i := 1) rfl (by kernel_rfl) (fun _ _ _ _ h => h) HH.out (fun K hK => ?_)
    go_simp
    first | (refine hK _ ?_; clear hK K) | (apply Exists.intro; refine ⟨?_, hK _ ?_⟩; (focus (intro wx hx; have x1_ := hx.cells; have x3_ := hx.r3.cells; first | (first | (go_at_call 40; refine (rqueBytes_c ε wx _ b ⟨room, bytes, dr, gone, l⟩ hq.out (Own.rque_mk hx)).mono ?_; rintro e wy ⟨rfl, hbel⟩; exact ⟨rfl, (by first | exact Kp.same hbel | exact Kp.drew hbel | exact Kp.below hbel : Kp wx wy)⟩)) | (go_simp; first | rfl | exact ⟨rfl, rfl⟩) | rfl | exact ⟨rfl, rfl⟩)); clear hK K)
    refine reg_p (i := 2) rfl (by kernel_rfl) (fun _ _ _ _ h => h) HH.out (fun K hK => ?_)
    go_simp
    first | (refine hK _ ?_; clear hK K) | (apply Exists.intro; refine ⟨?_, hK _ ?_⟩; (focus (intro wx; first | (go_simp; first | rfl) | rfl)); clear hK K)
    refine reg_p (i := 3) rfl (by kernel_rfl) (fun _ _ _ _ h => h) HH.out (fun K hK => ?_)
    go_simp
    first | (refine hK _ ?_; clear hK K) | (apply Exists.intro; refine ⟨?_, hK _ ?_⟩; (focus (intro wx; first | (go_simp; first | rfl) | rfl)); clear hK K)
    refine reg_p (i := 4) rfl (by kernel_rfl) (fun _ _ _ _ h => h) HH.out (fun K hK => ?_)
    go_simp
    first | (refine hK _ ?_; clear hK K) | (apply Exists.intro; refine ⟨?_, hK _ ?_⟩; (focus (intro wx; first | (go_simp; first | rfl) | rfl)); clear hK K)
    refine mixk_q (i := 5) rfl (by kernel_rfl) (fun _ _ _ _ h => h) HH.out (fun K hK => ?_)
    go_simp
    first | (refine hK _ ?_; clear hK K) | (apply Exists.intro; refine ⟨?_, hK _ ?_⟩; (focus (intro wx hx; have x1_ := hx.cells; have x3_ := hx.r3.cells; first | (first | (go_at_call 40; refine (rqueBytes_c ε wx _ b ⟨room, bytes, dr, gone, l⟩ hq.out (Own.rque_mk hx)).mono ?_; rintro e wy ⟨rfl, hbel⟩; exact ⟨rfl, (by first | exact Kp.same hbel | exact Kp.drew hbel | exact Kp.below hbel : Kp wx wy)⟩)) | (go_simp; first | rfl | exact ⟨rfl, rfl⟩) | rfl | exact ⟨rfl, rfl⟩)); clear hK K)
    refine reg_p (i := 6) rfl (by kernel_rfl) (fun _ _ _ _ h => h) HH.out (fun K hK => ?_)
    go_simp
    first | (refine hK _ ?_; clear hK K) | (apply Exists.intro; refine ⟨?_, hK _ ?_⟩; (focus (intro wx; first | (go_simp; first | rfl) | rfl)); clear hK K)
    refine mixk_q (i := 7) rfl (by kernel_rfl) (fun _ _ _ _ h => h) HH.out (fun K hK => ?_)
    go_simp
    first | (refine hK _ ?_; clear hK K) | (apply Exists.intro; refine ⟨?_, hK _ ?_⟩; (focus (intro wx hx; have x1_ := hx.cells; have x3_ := hx.r3.cells; first | (first | (go_at_call 40; refine (rqueBytes_c ε wx _ b ⟨room, bytes, dr, gone, l⟩ hq.out (Own.rque_mk hx)).mono ?_; rintro e wy ⟨rfl, hbel⟩; exact ⟨rfl, (by first | exact Kp.same hbel | exact Kp.drew hbel | exact Kp.below hbel : Kp wx wy)⟩)) | (go_simp; first | rfl | exact ⟨rfl, rfl⟩) | rfl | exact ⟨rfl, rfl⟩)); clear hK K)
    refine reg_p (i := 8) rfl (by kernel_rfl) (fun _ _ _ _ h => h) HH.out (fun K hK => ?_)
    go_simp
    first | (refine hK _ ?_; clear hK K) | (apply Exists.intro; refine ⟨?_, hK _ ?_⟩; (focus (intro wx; first | (go_simp; first | rfl) | rfl)); clear hK K)
    refine reg_p (i := 9) rfl (by kernel_rfl) (fun _ _ _ _ h => h) HH.out (fun K hK => ?_)
    go_simp
    first | (refine hK _ ?_; clear hK K) | (apply Exists.intro; refine ⟨?_, hK _ ?_⟩; (focus (intro wx; first | (go_simp; first | rfl) | rfl)); clear hK K)
    refine mixk_done (by kernel_rfl) (fun w6_ hk => ?_) _
    replace HH := Lib.hid (hk _ _ HH.out)
    clear hk
    clear hw1
    have hfl := flat_pks_len l
    go_wp2_with fail
    refine wp_region_reg (some 7) HH.out (by kernel_rfl) ?_
    intro wm H9_
    replace HH := Lib.hid H9_
    clear H9_
    refine reg_p (i := 0) rfl (by kernel_rfl) (fun _ _ _ _ h => h) HH.out (fun K hK => ?_)
    go_simp
    first | (refine hK _ ?_; clear hK K) | (apply Exists.intro; refine ⟨?_, hK _ ?_⟩; (focus (intro wx; first | (go_simp; first | rfl) | rfl)); clear hK K)
    refine reg_p (i := 1) rfl (by kernel_rfl) (fun _ _ _ _ h => h) HH.out (fun K hK => ?_)
    go_simp
    first | (refine hK _ ?_; clear hK K) | (apply Exists.intro; refine ⟨?_, hK _ ?_⟩; (focus (intro wx; first | (go_simp; first | rfl) | rfl)); clear hK K)
    refine reg_p (i := 2) rfl (by kernel_rfl) (fun _ _ _ _ h => h) HH.out (fun K hK => ?_)
    go_simp
    first | (refine hK _ ?_; clear hK K) | (apply Exists.intro; refine ⟨?_, hK _ ?_⟩; (focus (intro wx; first | (go_simp; first | rfl) | rfl)); clear hK K)
    refine reg_p (i := 3) rfl (by kernel_rfl) (fun _ _ _ _ h => h) HH.out (fun K hK => ?_)
    go_simp
    first | (refine hK _ ?_; clear hK K) | (apply Exists.intro; refine ⟨?_, hK _ ?_⟩; (focus (intro wx; first | (go_simp; first | rfl) | rfl)); clear hK K)
    refine mixk_q (i := 4) rfl (by kernel_rfl) (fun _ _ _ _ h => h) HH.out (fun K hK => ?_)
    go_simp
    first | (refine hK _ ?_; clear hK K) | (apply Exists.intro; refine ⟨?_, hK _ ?_⟩; (focus (intro wx hx; have x1_ := hx.cells; have x3_ := hx.r3.cells; first | (go_simp; first | rfl | exact ⟨rfl, rfl⟩) | rfl | exact ⟨rfl, rfl⟩)); clear hK K)
    refine mixk_q (i := 5) rfl (by kernel_rfl) (fun _ _ _ _ h => h) HH.out (fun K hK => ?_)
    go_simp
    first | (refine hK _ ?_; clear hK K) | (apply Exists.intro; refine ⟨?_, hK _ ?_⟩; (focus (intro wx hx; have x1_ := hx.cells; have x3_ := hx.r3.cells; first | (go_simp; first | rfl | exact ⟨rfl, rfl⟩) | rfl | exact ⟨rfl, rfl⟩)); clear hK K)
    refine reg_l (some 7) (i := 6) rfl (by kernel_rfl) (fun wn hk K hK => ?_)
    replace HH := Lib.hid (hk _ _ HH.out)
    clear hk
    go_simp
    replace HH := Lib.hid (HH.out.alloc (.cells #[.int .u64 pn, .int .u64 ps, .int .u64 p3, .int .u64 p4, .int .u64 p5, .int .u64 p6, .bool p7] 62))
    generalize wn.alloc (.cells #[.int .u64 pn, .int .u64 ps, .int .u64 p3, .int .u64 p4, .int .u64 p5, .int .u64 p6, .bool p7] 62) = wm at *
    generalize wn.heap.size = sb at *
    refine hK _ _ _ HH.out (.inr ⟨rfl, fun _ h => h.tail⟩) ?_
    clear hK K
    refine reg_l (some 10) (i := 7) rfl (by kernel_rfl) (fun wn hk K hK => ?_)
    replace HH := Lib.hid (hk _ _ HH.out)
    clear hk
    refine want rfl (wp_append_slc _ _ 69 rfl 62 7 56 Try.underlying69 (by kernel_rfl) (by decide) rfl (HH.out.r3) rfl (hfl) ((show srcAt wn (some ⟨sb, 0, none⟩) 1 7 [.int .u64 pn, .int .u64 ps, .int .u64 p3, .int .u64 p4, .int .u64 p5, .int .u64 p6, .bool p7] from ⟨rfl, .inr ⟨sb, 0, rfl, fun j u hj => by rw [Nat.zero_add, HH.out.cells.1 j]; simpa using hj⟩⟩)) ((by repeat (first | (refine List.forall_mem_cons.2 ⟨(by first | with_reducible assumption | rfl), ?_⟩) | exact fun _ h => absurd h List.not_mem_nil))) (by simp only [maxLen]; omega) (by omega) ?_)
    intro v1 wm H9_
    obtain ⟨A_v1, n_v1, c_v1, rfl⟩ := H9_.slc_isv
    replace HH := Lib.hid H9_
    clear H9_
    refine hK _ _ _ HH.out (.inl (by kernel_rfl)) ?_
    clear hK K
    refine reg_p (i := 8) rfl (by kernel_rfl) (fun _ _ _ _ h => h) HH.out (fun K hK => ?_)
    go_simp
    first | (refine hK _ ?_; clear hK K) | (apply Exists.intro; refine ⟨?_, hK _ ?_⟩; (focus (intro wx; first | (go_simp; first | rfl) | rfl)); clear hK K)
    refine reg_p (i := 9) rfl (by kernel_rfl) (fun _ _ _ _ h => h) HH.out (fun K hK => ?_)
    go_simp
    first | (refine hK _ ?_; clear hK K) | (apply Exists.intro; refine ⟨?_, hK _ ?_⟩; (focus (intro wx; first | (go_simp; first | rfl) | rfl)); clear hK K)
    refine reg_l none (i := 10) rfl (by kernel_rfl) (fun wn hk K hK => ?_)
    replace HH := Lib.hid (hk _ _ HH.out)
    clear hk
    have hx := HH.out
    have x1_ := hx.r3.cells
    have x3_ := hx.r4.cells
    go_simp
    replace HH := Lib.hid (HH.out.r3.set 1 (.slice A_v1 n_v1 c_v1))
    simp only [List.setIfInBounds_toArray, List.set_cons_succ, List.set_cons_zero] at HH
    generalize wn.setCell ⟨b, 1, none⟩ (.slice A_v1 n_v1 c_v1) = wm at *
    clear hx x1_ x3_
    refine hK _ _ _ HH.out (.inl (by kernel_rfl)) ?_
    clear hK K
    refine mixk_done (by kernel_rfl) (fun w7_ hk => ?_) _
    replace HH := Lib.hid (hk _ _ HH.out)
    clear hk
    go_wp2_with fail
    go_ret
    refine ⟨rfl, Own.rque_mk (v := .slice A_v1 n_v1 c_v1) ?_⟩
    unfold slcP
    rw [flat_pks_snoc]
    exact ((Own.pm (HH.out) (by repeat (first | with_reducible exact Pm.refl _ | with_reducible exact Pm.nil _ | with_reducible refine Pm.here ?_ | with_reducible refine Pm.at2 ?_ | with_reducible refine Pm.at3 ?_ | with_reducible refine Pm.at4 ?_ | with_reducible refine Pm.at5 ?_ | with_reducible refine Pm.at6 ?_ | with_reducible refine Pm.at7 ?_ | with_reducible refine Pm.at8 ?_ | with_reducible refine Pm.skip ?_))) : Own ε _ (pts b _ :: slc _ 7 _ _ :: R))
set_option maxHeartbeats 3200000 in
theorem rqueShift_c (q : Que) (hl : q.l.length ≤ 1000000) (H : Own ε w (rque b q :: R)) :
    Calls Try.prog 33 #[.pointer (some ⟨b, 0, none⟩)] w fun e w' => e = .returned (.tuple #[.agg q.shift.1.1.cells.toArray, .bool q.shift.1.2]) ∧ Own ε w' (rque b q.shift.2 :: R) := by
  obtain ⟨v, H⟩ := H.rque_open
  have HH := Lib.hid H; clear H
  obtain ⟨room, bytes, dr, gone, l⟩ := q
  obtain ⟨A, n, cap, rfl, hnc, hcap, hA⟩ := HH.out.r2.slcP_val
  simp only at hA hl
  unfold Que.shift
  simp only
  have hl1 := hA.1
  cases l with
  | nil =>
    obtain rfl : n = 0 := by simpa using hl1.symm
    show Calls _ _ _ _ fun e w' => e = .returned (.tuple #[.agg Pk.zero.cells.toArray, .bool false]) ∧ Own ε w' (rque b ⟨room, bytes - 0, dr, gone, []⟩ :: R)
    clear hA hl1
    go_enter Try.func33, Try.ntmps33
    go_wp2_with (with_reducible refine stop_al ?_)
    refine Stop.go ?_
    refine wpList_alloc_own HH.out [.int .u64 0, .int .u64 0, .int .u64 0, .int .u64 0, .int .u64 0, .int .u64 0, .bool false] (by kernel_rfl) ?_
    intro sb w8_ H9_
    replace HH := Lib.hid H9_
    clear H9_
    have k1 := HH.out.r2.cells
    go_wp2_with (with_reducible refine stop_st ?_)
    refine Stop.go ?_
    refine wpList_store_own _ #[_, _, _, _, _, _, _] rfl rfl HH.out (by kernel_rfl) rfl (by repeat (first | (refine List.forall_mem_cons.2 ⟨(by first | with_reducible assumption | rfl), ?_⟩) | exact fun _ h => absurd h List.not_mem_nil)) ?_
    intro w9_ H9_
    replace HH := Lib.hid H9_
    clear H9_
    go_wp2_with fail
    refine bodyPost_cell rfl rfl rfl rfl Try.underlying62 rfl (by kernel_rfl) (HH.out) ?_
    exact ⟨rfl, Own.rque_mk HH.out.tail⟩
  | cons p l =>
    show Calls _ _ _ _ fun e w' => e = .returned (.tuple #[.agg p.cells.toArray, .bool true]) ∧ Own ε w' (rque b ⟨room, bytes - p.size, dr, gone, l⟩ :: R)
    simp only [List.length_cons] at hl1 hl
    clear hA
    obtain rfl : n = l.length + 1 := hl1.symm
    clear hl1
    obtain ⟨pn, ps, p3, p4, p5, p6, p7⟩ := p
    have hcs : ∀ wx R', Own ε wx (slcP (.slice A (l.length + 1) cap) ((⟨pn, ps, p3, p4, p5, p6, p7⟩ : Pk) :: l) :: R') → ∃ g, A = some ⟨g, 0, none⟩ ∧ (∀ j u, (⟨pn, ps, p3, p4, p5, p6, p7⟩ : Pk).cells[j]? = some u → wx.cell? ⟨g, j, none⟩ = some u) ∧ srcAt wx (some ⟨g, 7, none⟩) l.length 7 (pks l).flatten := by
      intro wx R' Hx
      rcases Hx.slc_val with ⟨e, _⟩ | ⟨g', n', cap', e, h1, _, _, h4, _⟩
      · cases e
      · cases e
        refine ⟨g', rfl, fun j u hj => h4 j u ?_, flat_pks_len l, .inr ⟨_, 7, rfl, fun j u hj => ?_⟩⟩
        · rw [flat_pks_cons]
          have hj7 : j < 7 := by
            rcases Nat.lt_or_ge j 7 with h | h
            · exact h
            · rw [List.getElem?_eq_none (by simpa [Pk.cells] using h)] at hj; cases hj
          rw [List.getElem?_append_left (by simpa [Pk.cells] using hj7)]
          exact hj
        · refine h4 (7 + j) u ?_
          rw [flat_pks_cons, List.getElem?_append_right (by simp [Pk.cells])]
          simpa [Pk.cells] using hj
    obtain ⟨g, rfl, _, _⟩ := hcs _ _ HH.out.r2
    replace hcs := Lib.hid hcs
    have hfl := flat_pks_one l
    replace hfl := Lib.hid hfl
    by_cases hcap1 : cap = 1
    · subst hcap1
      obtain rfl : l = [] := List.eq_nil_of_length_eq_zero (by omega)
      go_enter Try.func33, Try.ntmps33
      go_wp2_with (with_reducible refine stop_al ?_)
      refine Stop.go ?_
      refine wpList_alloc_own HH.out [.int .u64 0, .int .u64 0, .int .u64 0, .int .u64 0, .int .u64 0, .int .u64 0, .bool false] (by kernel_rfl) ?_
      intro sb w10_ H9_
      replace HH := Lib.hid H9_
      clear H9_
      obtain ⟨_, e, hc, _⟩ := hcs.out _ _ HH.out.r3
      cases e
      have k0 := hc 0 _ rfl
      have k1 := hc 1 _ rfl
      have k2 := hc 2 _ rfl
      have k3 := hc 3 _ rfl
      have k4 := hc 4 _ rfl
      have k5 := hc 5 _ rfl
      have k6 := hc 6 _ rfl
      clear hc
      have m1 := HH.out.r2.cells
      go_wp2_with (with_reducible refine stop_al ?_)
      refine Stop.go ?_
      refine wpList_alloc_own HH.out [.int .u64 0, .int .u64 0, .int .u64 0, .int .u64 0, .int .u64 0, .int .u64 0, .bool false] (by kernel_rfl) ?_
      intro sp w11_ H9_
      replace HH := Lib.hid H9_
      clear H9_
      go_wp2_with (with_reducible refine stop_st ?_)
      refine Stop.go ?_
      refine wpList_store_own _ #[_, _, _, _, _, _, _] rfl rfl HH.out (by kernel_rfl) rfl (by repeat (first | (refine List.forall_mem_cons.2 ⟨(by first | with_reducible assumption | rfl), ?_⟩) | exact fun _ h => absurd h List.not_mem_nil)) ?_
      intro w12_ H9_
      replace HH := Lib.hid H9_
      clear H9_
      clear k0 k1 k2 k3 k4 k5 k6 m1
      have m1 := HH.out.r3.cells
      go_wp2_with (with_reducible refine stop_bs ?_)
      refine Stop.go ?_
      refine wpList_bs0_own HH.out 7 56 Try.underlying69 (by kernel_rfl) ?_
      intro g0 w13_ H9_
      replace HH := Lib.hid H9_
      clear H9_
      clear m1
      have m1 := HH.out.r4.cells
      go_wp2_with (with_reducible refine stop_app ?_)
      refine Stop.go ?_
      refine wpList_append_slc rfl _ _ 69 rfl 62 7 56 Try.underlying69 (by kernel_rfl) (by decide) rfl (HH.out) rfl ((show ([] : List Value).length = 0 * 7 from rfl)) ((show srcAt _ _ 0 7 [] from ⟨rfl, .inl rfl⟩)) ((by intro u hu; cases hu)) (by simp only [maxLen]; omega) (by omega) ?_
      intro v1 w14_ H9_
      obtain ⟨A_v1, n_v1, c_v1, rfl⟩ := H9_.slc_isv
      replace HH := Lib.hid H9_
      clear H9_
      clear m1
      have m1 := HH.out.r4.cells
      go_wp2_with (with_reducible refine stop_st ?_)
      refine Stop.go ?_
      refine wpList_store1_own (v := .slice A_v1 n_v1 c_v1) (k := 1) rfl rfl HH.out.r4 (by kernel_rfl) (by simp) (by first | rfl | assumption) ?_
      intro w15_ H9_
      replace HH := Lib.hid H9_
      clear H9_
      simp only [List.setIfInBounds_toArray, List.set_cons_succ, List.set_cons_zero] at HH
      clear m1
      replace HH := Lib.hid ((Own.pm (HH.out) (by repeat (first | with_reducible exact Pm.refl _ | with_reducible exact Pm.nil _ | with_reducible refine Pm.here ?_ | with_reducible refine Pm.at2 ?_ | with_reducible refine Pm.at3 ?_ | with_reducible refine Pm.at4 ?_ | with_reducible refine Pm.at5 ?_ | with_reducible refine Pm.at6 ?_ | with_reducible refine Pm.at7 ?_ | with_reducible refine Pm.at8 ?_ | with_reducible refine Pm.skip ?_))) : Own ε _ (pts sb _ :: pts sp _ :: pts b _ :: slc _ 7 (.slice A_v1 n_v1 c_v1) _ :: R))
      have m1 := HH.out.r2.cells
      go_wp2_with (with_reducible refine stop_st ?_)
      refine Stop.go ?_
      refine wpList_store_own _ #[_, _, _, _, _, _, _] rfl rfl HH.out (by kernel_rfl) rfl (by repeat (first | (refine List.forall_mem_cons.2 ⟨(by first | with_reducible assumption | rfl), ?_⟩) | exact fun _ h => absurd h List.not_mem_nil)) ?_
      intro w16_ H9_
      replace HH := Lib.hid H9_
      clear H9_
      go_wp2_with fail
      refine bodyPost_cell rfl rfl rfl rfl Try.underlying62 rfl (by kernel_rfl) (HH.out) ?_
      exact ⟨rfl, Own.rque_mk HH.out.tail.tail⟩
    · go_enter Try.func33, Try.ntmps33
      go_wp2_with (with_reducible refine stop_al ?_)
      refine Stop.go ?_
      refine wpList_alloc_own HH.out [.int .u64 0, .int .u64 0, .int .u64 0, .int .u64 0, .int .u64 0, .int .u64 0, .bool false] (by kernel_rfl) ?_
      intro sb w17_ H9_
      replace HH := Lib.hid H9_
      clear H9_
      obtain ⟨_, e, hc, _⟩ := hcs.out _ _ HH.out.r3
      cases e
      have k0 := hc 0 _ rfl
      have k1 := hc 1 _ rfl
      have k2 := hc 2 _ rfl
      have k3 := hc 3 _ rfl
      have k4 := hc 4 _ rfl
      have k5 := hc 5 _ rfl
      have k6 := hc 6 _ rfl
      clear hc
      have m1 := HH.out.r2.cells
      go_wp2_with (with_reducible refine stop_al ?_)
      refine Stop.go ?_
      refine wpList_alloc_own HH.out [.int .u64 0, .int .u64 0, .int .u64 0, .int .u64 0, .int .u64 0, .int .u64 0, .bool false] (by kernel_rfl) ?_
      intro sp w18_ H9_
      replace HH := Lib.hid H9_
      clear H9_
      go_wp2_with (with_reducible refine stop_st ?_)
      refine Stop.go ?_
      refine wpList_store_own _ #[_, _, _, _, _, _, _] rfl rfl HH.out (by kernel_rfl) rfl (by repeat (first | (refine List.forall_mem_cons.2 ⟨(by first | with_reducible assumption | rfl), ?_⟩) | exact fun _ h => absurd h List.not_mem_nil)) ?_
      intro w19_ H9_
      replace HH := Lib.hid H9_
      clear H9_
      clear k0 k1 k2 k3 k4 k5 k6 m1
      have m1 := HH.out.r3.cells
      go_wp2_with (with_reducible refine stop_bs ?_)
      refine Stop.go ?_
      refine wpList_bs0_own HH.out 7 56 Try.underlying69 (by kernel_rfl) ?_
      intro g0 w20_ H9_
      replace HH := Lib.hid H9_
      clear H9_
      clear m1
      have m1 := HH.out.r4.cells
      obtain ⟨_, e, _, hs⟩ := hcs.out _ _ HH.out.r5
      cases e
      replace hs := Lib.hid hs
      go_wp2_with (with_reducible refine stop_app ?_)
      refine Stop.go ?_
      refine wpList_append_slc rfl _ _ 69 rfl 62 7 56 Try.underlying69 (by kernel_rfl) (by decide) rfl (HH.out) rfl ((show ([] : List Value).length = 0 * 7 from rfl)) (hs.out) (hfl.out) (by simp only [maxLen]; omega) (by omega) ?_
      intro v1 w21_ H9_
      obtain ⟨A_v1, n_v1, c_v1, rfl⟩ := H9_.slc_isv
      replace HH := Lib.hid H9_
      clear H9_
      clear m1 hs
      have m1 := HH.out.r4.cells
      go_wp2_with (with_reducible refine stop_st ?_)
      refine Stop.go ?_
      refine wpList_store1_own (v := .slice A_v1 n_v1 c_v1) (k := 1) rfl rfl HH.out.r4 (by kernel_rfl) (by simp) (by first | rfl | assumption) ?_
      intro w22_ H9_
      replace HH := Lib.hid H9_
      clear H9_
      simp only [List.setIfInBounds_toArray, List.set_cons_succ, List.set_cons_zero] at HH
      clear m1
      replace HH := Lib.hid ((Own.pm (HH.out) (by repeat (first | with_reducible exact Pm.refl _ | with_reducible exact Pm.nil _ | with_reducible refine Pm.here ?_ | with_reducible refine Pm.at2 ?_ | with_reducible refine Pm.at3 ?_ | with_reducible refine Pm.at4 ?_ | with_reducible refine Pm.at5 ?_ | with_reducible refine Pm.at6 ?_ | with_reducible refine Pm.at7 ?_ | with_reducible refine Pm.at8 ?_ | with_reducible refine Pm.skip ?_))) : Own ε _ (pts sb _ :: pts sp _ :: pts b _ :: slc _ 7 (.slice A_v1 n_v1 c_v1) _ :: R))
      have m1 := HH.out.r2.cells
      go_wp2_with (with_reducible refine stop_st ?_)
      refine Stop.go ?_
      refine wpList_store_own _ #[_, _, _, _, _, _, _] rfl rfl HH.out (by kernel_rfl) rfl (by repeat (first | (refine List.forall_mem_cons.2 ⟨(by first | with_reducible assumption | rfl), ?_⟩) | exact fun _ h => absurd h List.not_mem_nil)) ?_
      intro w23_ H9_
      replace HH := Lib.hid H9_
      clear H9_
      go_wp2_with fail
      refine bodyPost_cell rfl rfl rfl rfl Try.underlying62 rfl (by kernel_rfl) (HH.out) ?_
      exact ⟨rfl, Own.rque_mk HH.out.tail.tail⟩
end
end Go.Proofs.Ytoimbdbajpjmjaa
