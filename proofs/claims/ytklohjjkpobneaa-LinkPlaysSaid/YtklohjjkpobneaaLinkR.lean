/- goitref18: a bucket, a queue, a box within a link: written by mklinkr.py. -/
import Derived.Test.YtklohjjkpobneaaBucket
import Derived.Test.YtklohjjkpobneaaQueue
import Derived.Test.YtklohjjkpobneaaJitter5
import Derived.Test.YtklohjjkpobneaaFixP
namespace Go.Proofs.Ytklohjjkpobneaa
open Go.RowKit
def rbktL (X : Nat → Value) (b : Nat) (s : Bkt) : Asn := pts b (.cells #[.int .u64 s.rate, .int .u64 s.now, .int .u64 s.tok, .int .u64 s.was, X 4, X 5, X 6, X 7, X 8, X 9, X 10, X 11] 108 (0, 0))
section
variable (X : Nat → Value) (ε w : World) (R : List Asn) (b : Nat)
set_option maxHeartbeats 400000 in
theorem rbktLTo_c (s : Bkt) (t : Int) (hs : s.Ok) (ht : U t) (H : Own ε w (rbktL X b s :: R)) :
    Calls Try.prog 170 #[.pointer (some ⟨b, 0, none⟩), .int .u64 t] w fun e w' => e = .returned (.tuple #[]) ∧ Own ε w' (rbktL X b (s.to t) :: R) := by
  obtain ⟨r, now, tok, was⟩ := s
  obtain ⟨h1, h2, h3, h4⟩ := hs
  simp only at h1 h2 h3 h4
  obtain ⟨c0, f0⟩ := H.cells
  have HH := Lib.hid H; clear H
  by_cases h : t ≤ now
  · rw [show (⟨r, now, tok, was⟩ : Bkt).to t = ⟨r, now, tok, was⟩ by simp [Bkt.to, h]]
    go_enter Try.func170, Try.ntmps170
    go_wp2_with fail
    first | go_end0 | ((try simp only [Exit.inBlock, Exit.then]); refine bodyPost_ret (results_none rfl _ _ _) rfl ?_)
    exact ⟨rfl, HH.out⟩
  · rw [show (⟨r, now, tok, was⟩ : Bkt).to t = ⟨r, t, sadd tok (smul r (t - now)), was⟩ by simp [Bkt.to, h]]
    have hd := U_diff ht h2 (by omega)
    have hm := U_smul h1 hd
    have hd1 := hd.1
    have hd2 := hd.2
    have ht1 := ht.1
    have ht2 := ht.2
    have hn1 := h2.1
    have hw : IntKind.u64.wrap (t - now) = t - now := by rw [IntKind.wrap_u64]; unfold U at hd; omega
    have km := fun w => refMul_c w r (t - now) h1 hd
    have ka := fun w => refAdd_c w tok _ h3 hm
    go_enter Try.func170, Try.ntmps170
    go_wp2_with fail
    clear c0 f0
    refine wp_region_mix (fun w' => w'.cell? ⟨b, 0, none⟩ = some (.int .u64 r) ∧ w'.cell? ⟨b, 1, none⟩ = some (.int .u64 now) ∧ w'.cell? ⟨b, 2, none⟩ = some (.int .u64 tok)) (some 19) (by kernel_rfl) ?_
    change wpMix _ _ _ _ _ _ _ _ _ w.drew
    replace HH := Lib.hid HH.out.drew
    generalize w.drew = w2 at *
    obtain ⟨c0, f0⟩ := HH.out.cells
    have HS : (fun w' : World => w'.cell? ⟨b, 0, none⟩ = some (.int .u64 r) ∧ w'.cell? ⟨b, 1, none⟩ = some (.int .u64 now) ∧ w'.cell? ⟨b, 2, none⟩ = some (.int .u64 tok)) w2 := ⟨c0 0, c0 1, c0 2⟩
    refine mix_q (i := 0) rfl (by kernel_rfl) (fun _ _ _ _ h => h) HS (fun K hK => ?_)
    go_simp
    first | (refine hK _ ?_; clear hK K) | (apply Exists.intro; refine ⟨?_, hK _ ?_⟩; (focus (intros; first | rfl | exact ⟨rfl, rfl⟩ | (go_simp; first | rfl | exact ⟨rfl, rfl⟩))); clear hK K)
    refine mix_q (i := 1) rfl (by kernel_rfl) (fun _ _ _ _ h => h) HS (fun K hK => ?_)
    go_simp
    first | (refine hK _ ?_; clear hK K) | (apply Exists.intro; refine ⟨?_, hK _ ?_⟩; (focus (intros; first | rfl | exact ⟨rfl, rfl⟩ | (go_simp; first | rfl | exact ⟨rfl, rfl⟩))); clear hK K)
    refine mix_q (i := 2) rfl (by kernel_rfl) (fun _ _ _ _ h => h) HS (fun K hK => ?_)
    go_simp
    first | (refine hK _ ?_; clear hK K) | (apply Exists.intro; refine ⟨?_, hK _ ?_⟩; (focus (intros; first | rfl | exact ⟨rfl, rfl⟩ | (go_simp; first | rfl | exact ⟨rfl, rfl⟩))); clear hK K)
    refine mix_q (i := 3) rfl (by kernel_rfl) (fun _ _ _ _ h => h) HS (fun K hK => ?_)
    go_simp
    first | (refine hK _ ?_; clear hK K) | (apply Exists.intro; refine ⟨?_, hK _ ?_⟩; (focus (intros; first | rfl | exact ⟨rfl, rfl⟩ | (go_simp; first | rfl | exact ⟨rfl, rfl⟩))); clear hK K)
    refine mix_q (i := 4) rfl (by kernel_rfl) (fun _ _ _ _ h => h) HS (fun K hK => ?_)
    go_simp
    first | (refine hK _ ?_; clear hK K) | (apply Exists.intro; refine ⟨?_, hK _ ?_⟩; (focus (intros; first | rfl | exact ⟨rfl, rfl⟩ | (go_simp; first | rfl | exact ⟨rfl, rfl⟩))); clear hK K)
    refine mix_q (i := 5) rfl (by kernel_rfl) (fun _ _ _ _ h => h) HS (fun K hK => ?_)
    go_simp
    first | (refine hK _ ?_; clear hK K) | (apply Exists.intro; refine ⟨?_, hK _ ?_⟩; (focus (intros; first | rfl | exact ⟨rfl, rfl⟩ | (go_simp; first | rfl | exact ⟨rfl, rfl⟩))); clear hK K)
    refine mix_q (i := 6) rfl (by kernel_rfl) (fun _ _ _ _ h => h) HS (fun K hK => ?_)
    go_simp
    first | (refine hK _ ?_; clear hK K) | (apply Exists.intro; refine ⟨?_, hK _ ?_⟩; (focus (intros; first | rfl | exact ⟨rfl, rfl⟩ | (go_simp; first | rfl | exact ⟨rfl, rfl⟩))); clear hK K)
    refine mix_q (i := 7) rfl (by kernel_rfl) (fun _ _ _ _ h => h) HS (fun K hK => ?_)
    go_simp
    first | (refine hK _ ?_; clear hK K) | (apply Exists.intro; refine ⟨?_, hK _ ?_⟩; (focus (intros; first | rfl | exact ⟨rfl, rfl⟩ | (go_simp; first | rfl | exact ⟨rfl, rfl⟩))); clear hK K)
    refine mix_q (i := 8) rfl (by kernel_rfl) (fun _ _ _ _ h => h) HS (fun K hK => ?_)
    go_simp
    first | (refine hK _ ?_; clear hK K) | (apply Exists.intro; refine ⟨?_, hK _ ?_⟩; (focus (intros; first | rfl | exact ⟨rfl, rfl⟩ | (go_simp; first | rfl | exact ⟨rfl, rfl⟩))); clear hK K)
    refine mix_q (i := 9) rfl (by kernel_rfl) (fun _ _ _ _ h => h) HS (fun K hK => ?_)
    go_simp
    first | (refine hK _ ?_; clear hK K) | (apply Exists.intro; refine ⟨?_, hK _ ?_⟩; (focus (intros; first | rfl | exact ⟨rfl, rfl⟩ | (go_simp; first | rfl | exact ⟨rfl, rfl⟩))); clear hK K)
    refine mix_q (i := 10) rfl (by kernel_rfl) (fun _ _ _ _ h => h) HS (fun K hK => ?_)
    go_simp
    first | (refine hK _ ?_; clear hK K) | (apply Exists.intro; refine ⟨?_, hK _ ?_⟩; (focus (intros; first | rfl | exact ⟨rfl, rfl⟩ | (go_simp; first | rfl | exact ⟨rfl, rfl⟩))); clear hK K)
    refine mix_q (i := 11) rfl (by kernel_rfl) (fun _ _ _ _ h => h) HS (fun K hK => ?_)
    go_simp
    first | (refine hK _ ?_; clear hK K) | (apply Exists.intro; refine ⟨?_, hK _ ?_⟩; (focus (intros; first | rfl | exact ⟨rfl, rfl⟩ | (go_simp; first | rfl | exact ⟨rfl, rfl⟩))); clear hK K)
    refine mix_q (i := 12) rfl (by kernel_rfl) (fun _ _ _ _ h => h) HS (fun K hK => ?_)
    go_simp
    first | (refine hK _ ?_; clear hK K) | (apply Exists.intro; refine ⟨?_, hK _ ?_⟩; (focus (intros; first | rfl | exact ⟨rfl, rfl⟩ | (go_simp; first | rfl | exact ⟨rfl, rfl⟩))); clear hK K)
    refine mix_q (i := 13) rfl (by kernel_rfl) (fun _ _ _ _ h => h) HS (fun K hK => ?_)
    go_simp
    first | (refine hK _ ?_; clear hK K) | (apply Exists.intro; refine ⟨?_, hK _ ?_⟩; (focus (intros; first | rfl | exact ⟨rfl, rfl⟩ | (go_simp; first | rfl | exact ⟨rfl, rfl⟩))); clear hK K)
    refine mix_q (i := 14) rfl (by kernel_rfl) (fun _ _ _ _ h => h) HS (fun K hK => ?_)
    go_simp
    first | (refine hK _ ?_; clear hK K) | (apply Exists.intro; refine ⟨?_, hK _ ?_⟩; (focus (intros; first | rfl | exact ⟨rfl, rfl⟩ | (go_simp; first | rfl | exact ⟨rfl, rfl⟩))); clear hK K)
    refine mix_q (i := 15) rfl (by kernel_rfl) (fun _ _ _ _ h => h) HS (fun K hK => ?_)
    go_simp
    apply Exists.intro
    refine ⟨?_, hK _ ?_⟩
    · (intro wx; intros; exact km wx)
    clear hK K
    refine mix_q (i := 16) rfl (by kernel_rfl) (fun _ _ _ _ h => h) HS (fun K hK => ?_)
    go_simp
    apply Exists.intro
    refine ⟨?_, hK _ ?_⟩
    · (intro wx; intros; exact ka wx)
    clear hK K
    refine mix_q (i := 17) rfl (by kernel_rfl) (fun _ _ _ _ h => h) HS (fun K hK => ?_)
    go_simp
    first | (refine hK _ ?_; clear hK K) | (apply Exists.intro; refine ⟨?_, hK _ ?_⟩; (focus (intros; first | rfl | exact ⟨rfl, rfl⟩ | (go_simp; first | rfl | exact ⟨rfl, rfl⟩))); clear hK K)
    refine mix_q (i := 18) rfl (by kernel_rfl) (fun _ _ _ _ h => h) HS (fun K hK => ?_)
    go_simp
    first | (refine hK _ ?_; clear hK K) | (apply Exists.intro; refine ⟨?_, hK _ ?_⟩; (focus (intros; first | rfl | exact ⟨rfl, rfl⟩ | (go_simp; first | rfl | exact ⟨rfl, rfl⟩))); clear hK K)
    refine mix_e (last := 19) rfl (by kernel_rfl) (fun K hK => ?_)
    go_simp
    refine hK _ _ ?_
    clear hK K HS
    refine mix_done (by kernel_rfl) ?_ _
    go_wp2_with fail
    first | go_end0 | ((try simp only [Exit.inBlock, Exit.then]); refine bodyPost_ret (results_none rfl _ _ _) rfl ?_)
    exact ⟨rfl, (HH.out.set 2 (.int .u64 (sadd tok (smul r (t - now))))).set 1 (.int .u64 t)⟩
set_option maxHeartbeats 400000 in
theorem rbktLTake_c (s : Bkt) (n : Int) (hs : s.Ok) (hn : U n) (H : Own ε w (rbktL X b s :: R)) :
    Calls Try.prog 171 #[.pointer (some ⟨b, 0, none⟩), .int .u64 n] w fun e w' => e = .returned (.bool (s.take n).1) ∧ Own ε w' (rbktL X b (s.take n).2 :: R) := by
  obtain ⟨r, now, tok, was⟩ := s
  obtain ⟨h1, h2, h3, h4⟩ := hs
  simp only at h1 h2 h3 h4
  obtain ⟨c0, f0⟩ := H.cells
  have HH := Lib.hid H; clear H
  have hm := U_smul hn (U_lit (n := 1000000) (by decide) (by decide))
  have k := fun w => refMul_c w n 1000000 hn (U_lit (by decide) (by decide))
  by_cases h : tok < smul n 1000000
  · rw [show (⟨r, now, tok, was⟩ : Bkt).take n = (false, ⟨r, now, tok, was⟩) by simp [Bkt.take, h]]
    generalize smul n 1000000 = m at *
    go_enter Try.func171, Try.ntmps171
    go_wp2_with fail
    refine (k w).mono ?_
    rintro e w' ⟨rfl, rfl⟩
    go_wp2_with fail
    go_ret
    exact ⟨rfl, HH.out⟩
  · rw [show (⟨r, now, tok, was⟩ : Bkt).take n = (true, ⟨r, now, tok - smul n 1000000, was⟩) by simp [Bkt.take, h]]
    generalize smul n 1000000 = m at *
    have hm1 := hm.1
    have hm2 := hm.2
    have hk1 := h3.1
    have hk2 := h3.2
    go_enter Try.func171, Try.ntmps171
    go_wp2_with fail
    refine (k w).mono ?_
    rintro e w' ⟨rfl, rfl⟩
    go_wp2_with fail
    go_ret
    exact ⟨rfl, HH.out.set 2 (.int .u64 (tok - m))⟩
set_option maxHeartbeats 400000 in
theorem rbktLWaste_c (s : Bkt) (n : Int) (hs : s.Ok) (hn : U n) (H : Own ε w (rbktL X b s :: R)) :
    Calls Try.prog 174 #[.pointer (some ⟨b, 0, none⟩), .int .u64 n] w fun e w' => e = .returned (.int .u64 (s.waste n).1) ∧ Own ε w' (rbktL X b (s.waste n).2 :: R) := by
  obtain ⟨r, now, tok, was⟩ := s
  obtain ⟨h1, h2, h3, h4⟩ := hs
  simp only at h1 h2 h3 h4
  obtain ⟨c0, f0⟩ := H.cells
  have HH := Lib.hid H; clear H
  have hn1 := hn.1
  have hn2 := hn.2
  have hk1 := h3.1
  have hk2 := h3.2
  by_cases h : n ≤ tok
  · rw [show (⟨r, now, tok, was⟩ : Bkt).waste n = (n, ⟨r, now, tok - n, sadd was n⟩) by simp [Bkt.waste, h]]
    go_enter Try.func174, Try.ntmps174
    go_wp2_with fail
    refine (refAdd_c _ was n h4 hn).mono ?_
    rintro e w' ⟨rfl, rfl⟩
    go_wp2_with fail
    go_ret
    exact ⟨rfl, (HH.out.set 2 (.int .u64 (tok - n))).set 3 (.int .u64 (sadd was n))⟩
  · rw [show (⟨r, now, tok, was⟩ : Bkt).waste n = (tok, ⟨r, now, 0, sadd was tok⟩) by simp [Bkt.waste, h]]
    go_enter Try.func174, Try.ntmps174
    go_wp2_with fail
    refine (refAdd_c _ was tok h4 h3).mono ?_
    rintro e w' ⟨rfl, rfl⟩
    go_wp2_with fail
    go_ret
    exact ⟨rfl, (HH.out.set 2 (.int .u64 0)).set 3 (.int .u64 (sadd was tok))⟩
end
def rqueL (X : Nat → Value) (b : Nat) (q : Que) : Asn := exA fun v : Value => sep (pts b (.cells #[X 0, X 1, X 2, X 3, .int .u64 q.room, v, .int .u64 q.dropped, .int .u64 q.gone, X 8, X 9, X 10, X 11] 108 (0, 0))) (slcP v q.l)
section
variable {X : Nat → Value} {ε w : World} {R : List Asn} {b : Nat} {q : Que}
theorem Own.rqueL_open (H : Own ε w (rqueL X b q :: R)) : ∃ v, Own ε w (pts b (.cells #[X 0, X 1, X 2, X 3, .int .u64 q.room, v, .int .u64 q.dropped, .int .u64 q.gone, X 8, X 9, X 10, X 11] 108 (0, 0)) :: slcP v q.l :: R) := by
  obtain ⟨v, H⟩ := H.ex
  exact ⟨v, H.split⟩
theorem Own.rqueL_mk {v : Value} (H : Own ε w (pts b (.cells #[X 0, X 1, X 2, X 3, .int .u64 q.room, v, .int .u64 q.dropped, .int .u64 q.gone, X 8, X 9, X 10, X 11] 108 (0, 0)) :: slcP v q.l :: R)) : Own ε w (rqueL X b q :: R) := Own.ex_mk v H.join
end
theorem psum_take_leL {l : List Pk} (h : ∀ p ∈ l, p.Ok) (k : Nat) : psum (l.take k) ≤ psum l := by
  have h2 : psum (l.take k) + psum (l.drop k) = psum l := by rw [← psum_append, List.take_append_drop]
  have h3 := psum_nonneg (fun p hp => h p (List.mem_of_mem_drop hp) : ∀ p ∈ l.drop k, p.Ok)
  omega
section
variable (X : Nat → Value) (ε w : World) (R : List Asn) (b : Nat)
set_option maxHeartbeats 1600000 in
theorem rqueLBytes_c (q : Que) (hq : q.Ok) (H : Own ε w (rqueL X b q :: R)) :
    Calls Try.prog 114 #[.pointer (some ⟨b, 4, none⟩)] w fun e w' => e = .returned (.int .u64 q.bytes) ∧ w = w' := by
  obtain ⟨v, H⟩ := H.rqueL_open
  obtain ⟨A, n, cap, rfl, _, hcap, hA⟩ := H.r2.slcP_val
  have k1 := H.cells
  have hub := hq.ub
  have hsum := hq.sum
  have hall := Lib.hid hq.all
  clear H hq
  obtain ⟨room, bytes, dr, gone, l⟩ := q
  simp only at hub hsum hall hA k1
  have hl := hA.1
  replace hA := Lib.hid hA
  subst hsum
  replace hub := Lib.hid hub
  unfold maxLen at hcap
  go_enter Try.func114, Try.ntmps114
  go_wp2_with fail
  go_loopw [3, 4] (fun s i wr => ∃ k : Nat, k ≤ n ∧ i = .int .i64 k ∧ s = .int .u64 (psum (l.take k)) ∧ wr = w) (fun _ i _ => n - (intOf i).toNat)
  case atStart => exact ⟨0, Nat.zero_le _, rfl, rfl, rfl⟩
  case round =>
    obtain ⟨k, hk, rfl, rfl, rfl⟩ := hrel
    by_cases hlt : k < n
    · obtain ⟨g, off, p, rfl, hp, k2, k3, _⟩ := hA.out.cells hlt
      have hmem : p ∈ l := List.mem_of_getElem? hp
      have e1 : psum (l.take (k + 1)) = psum (l.take k) + p.size := by rw [List.take_add_one, hp, psum_append]; simp [psum_one]
      have h1 := psum_take_leL hall.out (k + 1)
      have h2 := psum_nonneg (fun p hp => hall.out p (List.mem_of_mem_take hp) : ∀ p ∈ l.take k, p.Ok)
      have h3 := (hall.out p hmem).2.1
      have hb := hub.out
      have hu : U (psum (l.take k)) := by unfold U at *; omega
      have e2 : sadd (psum (l.take k)) p.size = psum (l.take k) + p.size := by unfold sadd; unfold U at *; rw [if_neg (by omega)]
      replace e1 := Lib.hid e1
      replace e2 := Lib.hid e2
      replace h3 := Lib.hid h3
      replace hu := Lib.hid hu
      replace hp := Lib.hid hp
      clear h1 h2 hb k2
      go_wp2_with fail
      refine (refAdd_c _ _ _ hu.out h3.out).mono ?_
      rintro e w' ⟨rfl, rfl⟩
      clear k3
      go_wp2_with fail
      go_roundw
      case rel => exact ⟨k + 1, by omega, by go_num, by rw [e2.out, e1.out], by first | rfl | trivial⟩
      case measure => simp [intOf]; omega
    · have hkn : k = n := by omega
      subst hkn
      go_wp2_with fail
      go_ret
      exact ⟨congrArg (fun x => Ending.returned (Value.int .u64 (psum x))) (List.take_of_length_le (by omega)), rfl⟩
set_option maxHeartbeats 3200000 in
theorem rqueLPut_c (q : Que) (p : Pk) (hq : q.Ok) (hp : p.Ok) (hl : q.l.length ≤ 1000000) (H : Own ε w (rqueL X b q :: R)) :
    Calls Try.prog 113 #[.pointer (some ⟨b, 4, none⟩), .agg p.cells.toArray] w fun e w' => e = .returned (.bool (q.put p).1) ∧ Own ε w' (rqueL X b (q.put p).2 :: R) := by
  obtain ⟨v, H⟩ := H.rqueL_open
  have HH := Lib.hid H; clear H
  have hub := hq.ub
  have hr := hq.room
  have hfit := hq.fits
  have hd := Lib.hid hq.dropped
  have hg := Lib.hid hq.gone
  have hps := hp.2.1
  replace hq := Lib.hid hq
  clear hp
  obtain ⟨room, bytes, dr, gone, l⟩ := q
  obtain ⟨pn, ps, p3, p4, p5, p6, p7⟩ := p
  simp only at hub hr hfit hd hg hps hl
  have hw1 : IntKind.u64.wrap (room - bytes) = room - bytes := by unfold U at *; rw [IntKind.wrap_u64]; omega
  by_cases hf : room - bytes < ps
  · rw [show (⟨room, bytes, dr, gone, l⟩ : Que).put ⟨pn, ps, p3, p4, p5, p6, p7⟩ = (false, ⟨room, bytes, sadd dr 1, sadd gone ps, l⟩) from if_neg (by simp only; omega)]
    clear hub hr hfit
    replace hps := Lib.hid hps
    go_enter Try.func113, Try.ntmps113
    go_wp2_with (with_reducible refine stop_bx ?_)
    refine Stop.go ?_
    refine wpList_box_own HH.out [_, _, _, _, _, _, _] rfl ?_
    intro sp w1_ H9_
    replace HH := Lib.hid H9_
    clear H9_
    replace HH := Lib.hid ((Own.pm (HH.out) (by repeat (first | with_reducible exact Pm.refl _ | with_reducible exact Pm.nil _ | with_reducible refine Pm.here ?_ | with_reducible refine Pm.at2 ?_ | with_reducible refine Pm.at3 ?_ | with_reducible refine Pm.at4 ?_ | with_reducible refine Pm.at5 ?_ | with_reducible refine Pm.at6 ?_ | with_reducible refine Pm.at7 ?_ | with_reducible refine Pm.at8 ?_ | with_reducible refine Pm.skip ?_))) : Own ε _ (pts b _ :: slcP v l :: pts sp _ :: R))
    go_wp2_with fail
    refine wp_region_reg none HH.out (by kernel_rfl) ?_
    intro wm H9_
    replace HH := Lib.hid H9_
    clear H9_
    refine reg_p (i := 0) rfl (by kernel_rfl) (fun _ _ _ _ h => h) HH.out (fun K hK => ?_)
    go_simp
    first | (refine hK _ ?_; clear hK K) | (apply Exists.intro; refine ⟨?_, hK _ ?_⟩; (focus (intro wx; first | (go_simp; first | rfl) | rfl)); clear hK K)
    refine mixk_q (i := 1) rfl (by kernel_rfl) (fun _ _ _ _ h => h) HH.out (fun K hK => ?_)
    go_simp
    first | (refine hK _ ?_; clear hK K) | (apply Exists.intro; refine ⟨?_, hK _ ?_⟩; (focus (intro wx hx; have x1_ := hx.cells; have x3_ := hx.r3.cells; first | (first | (go_at_call 114; refine (rqueLBytes_c X ε wx _ b ⟨room, bytes, dr, gone, l⟩ hq.out (Own.rqueL_mk hx)).mono ?_; rintro e wy ⟨rfl, hbel⟩; exact ⟨rfl, (by first | exact Kp.same hbel | exact Kp.drew hbel | exact Kp.below hbel : Kp wx wy)⟩)) | (go_simp; first | rfl | exact ⟨rfl, rfl⟩) | rfl | exact ⟨rfl, rfl⟩)); clear hK K)
    refine reg_p (i := 2) rfl (by kernel_rfl) (fun _ _ _ _ h => h) HH.out (fun K hK => ?_)
    go_simp
    first | (refine hK _ ?_; clear hK K) | (apply Exists.intro; refine ⟨?_, hK _ ?_⟩; (focus (intro wx; first | (go_simp; first | rfl) | rfl)); clear hK K)
    refine reg_p (i := 3) rfl (by kernel_rfl) (fun _ _ _ _ h => h) HH.out (fun K hK => ?_)
    go_simp
    first | (refine hK _ ?_; clear hK K) | (apply Exists.intro; refine ⟨?_, hK _ ?_⟩; (focus (intro wx; first | (go_simp; first | rfl) | rfl)); clear hK K)
    refine reg_p (i := 4) rfl (by kernel_rfl) (fun _ _ _ _ h => h) HH.out (fun K hK => ?_)
    go_simp
    first | (refine hK _ ?_; clear hK K) | (apply Exists.intro; refine ⟨?_, hK _ ?_⟩; (focus (intro wx; first | (go_simp; first | rfl) | rfl)); clear hK K)
    refine mixk_q (i := 5) rfl (by kernel_rfl) (fun _ _ _ _ h => h) HH.out (fun K hK => ?_)
    go_simp
    first | (refine hK _ ?_; clear hK K) | (apply Exists.intro; refine ⟨?_, hK _ ?_⟩; (focus (intro wx hx; have x1_ := hx.cells; have x3_ := hx.r3.cells; first | (first | (go_at_call 114; refine (rqueLBytes_c X ε wx _ b ⟨room, bytes, dr, gone, l⟩ hq.out (Own.rqueL_mk hx)).mono ?_; rintro e wy ⟨rfl, hbel⟩; exact ⟨rfl, (by first | exact Kp.same hbel | exact Kp.drew hbel | exact Kp.below hbel : Kp wx wy)⟩)) | (go_simp; first | rfl | exact ⟨rfl, rfl⟩) | rfl | exact ⟨rfl, rfl⟩)); clear hK K)
    refine reg_p (i := 6) rfl (by kernel_rfl) (fun _ _ _ _ h => h) HH.out (fun K hK => ?_)
    go_simp
    first | (refine hK _ ?_; clear hK K) | (apply Exists.intro; refine ⟨?_, hK _ ?_⟩; (focus (intro wx; first | (go_simp; first | rfl) | rfl)); clear hK K)
    refine mixk_q (i := 7) rfl (by kernel_rfl) (fun _ _ _ _ h => h) HH.out (fun K hK => ?_)
    go_simp
    first | (refine hK _ ?_; clear hK K) | (apply Exists.intro; refine ⟨?_, hK _ ?_⟩; (focus (intro wx hx; have x1_ := hx.cells; have x3_ := hx.r3.cells; first | (first | (go_at_call 114; refine (rqueLBytes_c X ε wx _ b ⟨room, bytes, dr, gone, l⟩ hq.out (Own.rqueL_mk hx)).mono ?_; rintro e wy ⟨rfl, hbel⟩; exact ⟨rfl, (by first | exact Kp.same hbel | exact Kp.drew hbel | exact Kp.below hbel : Kp wx wy)⟩)) | (go_simp; first | rfl | exact ⟨rfl, rfl⟩) | rfl | exact ⟨rfl, rfl⟩)); clear hK K)
    refine reg_p (i := 8) rfl (by kernel_rfl) (fun _ _ _ _ h => h) HH.out (fun K hK => ?_)
    go_simp
    first | (refine hK _ ?_; clear hK K) | (apply Exists.intro; refine ⟨?_, hK _ ?_⟩; (focus (intro wx; first | (go_simp; first | rfl) | rfl)); clear hK K)
    refine reg_p (i := 9) rfl (by kernel_rfl) (fun _ _ _ _ h => h) HH.out (fun K hK => ?_)
    go_simp
    first | (refine hK _ ?_; clear hK K) | (apply Exists.intro; refine ⟨?_, hK _ ?_⟩; (focus (intro wx; first | (go_simp; first | rfl) | rfl)); clear hK K)
    refine mixk_done (by kernel_rfl) (fun w2_ hk => ?_) _
    replace HH := Lib.hid (hk _ _ HH.out)
    clear hk
    clear hw1
    have k1 := HH.out.cells
    go_wp2_with fail
    refine (refAdd_c _ dr 1 hd.out (by decide)).mono ?_
    rintro e w' ⟨rfl, rfl⟩
    clear k1
    go_wp2_with (with_reducible refine stop_st ?_)
    refine Stop.go ?_
    refine wpList_store1_own (v := .int .u64 (sadd dr 1)) (k := 6) rfl rfl HH.out (by kernel_rfl) (by simp) (by first | rfl | assumption) ?_
    intro w3_ H9_
    replace HH := Lib.hid H9_
    clear H9_
    simp only [List.setIfInBounds_toArray, List.set_cons_succ, List.set_cons_zero] at HH
    go_wp2_with fail
    refine wp_region_reg (some 10) HH.out (by kernel_rfl) ?_
    intro wm H9_
    replace HH := Lib.hid H9_
    clear H9_
    refine reg_p (i := 0) rfl (by kernel_rfl) (fun _ _ _ _ h => h) HH.out (fun K hK => ?_)
    go_simp
    first | (refine hK _ ?_; clear hK K) | (apply Exists.intro; refine ⟨?_, hK _ ?_⟩; (focus (intro wx; first | (go_simp; first | rfl) | rfl)); clear hK K)
    refine reg_p (i := 1) rfl (by kernel_rfl) (fun _ _ _ _ h => h) HH.out (fun K hK => ?_)
    go_simp
    first | (refine hK _ ?_; clear hK K) | (apply Exists.intro; refine ⟨?_, hK _ ?_⟩; (focus (intro wx; first | (go_simp; first | rfl) | rfl)); clear hK K)
    refine reg_p (i := 2) rfl (by kernel_rfl) (fun _ _ _ _ h => h) HH.out (fun K hK => ?_)
    go_simp
    first | (refine hK _ ?_; clear hK K) | (apply Exists.intro; refine ⟨?_, hK _ ?_⟩; (focus (intro wx; first | (go_simp; first | rfl) | rfl)); clear hK K)
    refine reg_p (i := 3) rfl (by kernel_rfl) (fun _ _ _ _ h => h) HH.out (fun K hK => ?_)
    go_simp
    first | (refine hK _ ?_; clear hK K) | (apply Exists.intro; refine ⟨?_, hK _ ?_⟩; (focus (intro wx; first | (go_simp; first | rfl) | rfl)); clear hK K)
    refine mixk_q (i := 4) rfl (by kernel_rfl) (fun _ _ _ _ h => h) HH.out (fun K hK => ?_)
    go_simp
    first | (refine hK _ ?_; clear hK K) | (apply Exists.intro; refine ⟨?_, hK _ ?_⟩; (focus (intro wx hx; have x1_ := hx.cells; have x3_ := hx.r3.cells; first | (first | (go_at_call 54; refine (refAdd_c wx gone ps hg.out hps.out).mono ?_; rintro e wy ⟨rfl, hbel⟩; exact ⟨rfl, (by first | exact Kp.same hbel | exact Kp.drew hbel | exact Kp.below hbel : Kp wx wy)⟩)) | (go_simp; first | rfl | exact ⟨rfl, rfl⟩) | rfl | exact ⟨rfl, rfl⟩)); clear hK K)
    refine reg_p (i := 5) rfl (by kernel_rfl) (fun _ _ _ _ h => h) HH.out (fun K hK => ?_)
    go_simp
    first | (refine hK _ ?_; clear hK K) | (apply Exists.intro; refine ⟨?_, hK _ ?_⟩; (focus (intro wx; first | (go_simp; first | rfl) | rfl)); clear hK K)
    refine mixk_q (i := 6) rfl (by kernel_rfl) (fun _ _ _ _ h => h) HH.out (fun K hK => ?_)
    go_simp
    first | (refine hK _ ?_; clear hK K) | (apply Exists.intro; refine ⟨?_, hK _ ?_⟩; (focus (intro wx hx; have x1_ := hx.cells; have x3_ := hx.r3.cells; first | (first | (go_at_call 54; refine (refAdd_c wx gone ps hg.out hps.out).mono ?_; rintro e wy ⟨rfl, hbel⟩; exact ⟨rfl, (by first | exact Kp.same hbel | exact Kp.drew hbel | exact Kp.below hbel : Kp wx wy)⟩)) | (go_simp; first | rfl | exact ⟨rfl, rfl⟩) | rfl | exact ⟨rfl, rfl⟩)); clear hK K)
    refine mixk_q (i := 7) rfl (by kernel_rfl) (fun _ _ _ _ h => h) HH.out (fun K hK => ?_)
    go_simp
    first | (refine hK _ ?_; clear hK K) | (apply Exists.intro; refine ⟨?_, hK _ ?_⟩; (focus (intro wx hx; have x1_ := hx.cells; have x3_ := hx.r3.cells; first | (first | (go_at_call 54; refine (refAdd_c wx gone ps hg.out hps.out).mono ?_; rintro e wy ⟨rfl, hbel⟩; exact ⟨rfl, (by first | exact Kp.same hbel | exact Kp.drew hbel | exact Kp.below hbel : Kp wx wy)⟩)) | (go_simp; first | rfl | exact ⟨rfl, rfl⟩) | rfl | exact ⟨rfl, rfl⟩)); clear hK K)
    refine reg_p (i := 8) rfl (by kernel_rfl) (fun _ _ _ _ h => h) HH.out (fun K hK => ?_)
    go_simp
    first | (refine hK _ ?_; clear hK K) | (apply Exists.intro; refine ⟨?_, hK _ ?_⟩; (focus (intro wx; first | (go_simp; first | rfl) | rfl)); clear hK K)
    refine reg_p (i := 9) rfl (by kernel_rfl) (fun _ _ _ _ h => h) HH.out (fun K hK => ?_)
    go_simp
    first | (refine hK _ ?_; clear hK K) | (apply Exists.intro; refine ⟨?_, hK _ ?_⟩; (focus (intro wx; first | (go_simp; first | rfl) | rfl)); clear hK K)
    refine reg_l none (i := 10) rfl (by kernel_rfl) (fun wn hk K hK => ?_)
    replace HH := Lib.hid (hk _ _ HH.out)
    clear hk
    have hx := HH.out
    have x1_ := hx.cells
    have x3_ := hx.r3.cells
    go_simp
    replace HH := Lib.hid (HH.out.set 7 (.int .u64 (sadd gone ps)))
    simp only [List.setIfInBounds_toArray, List.set_cons_succ, List.set_cons_zero] at HH
    generalize wn.setCell ⟨b, 7, none⟩ (.int .u64 (sadd gone ps)) = wm at *
    clear hx x1_ x3_
    refine hK _ _ _ HH.out (.inl (by kernel_rfl)) ?_
    clear hK K
    refine mixk_done (by kernel_rfl) (fun w4_ hk => ?_) _
    replace HH := Lib.hid (hk _ _ HH.out)
    clear hk
    go_wp2_with fail
    go_ret
    exact ⟨rfl, Own.rqueL_mk (Own.pm (HH.out) (by repeat (first | with_reducible exact Pm.refl _ | with_reducible exact Pm.nil _ | with_reducible refine Pm.here ?_ | with_reducible refine Pm.at2 ?_ | with_reducible refine Pm.at3 ?_ | with_reducible refine Pm.at4 ?_ | with_reducible refine Pm.at5 ?_ | with_reducible refine Pm.at6 ?_ | with_reducible refine Pm.at7 ?_ | with_reducible refine Pm.at8 ?_ | with_reducible refine Pm.skip ?_)))⟩
  · rw [show (⟨room, bytes, dr, gone, l⟩ : Que).put ⟨pn, ps, p3, p4, p5, p6, p7⟩ = (true, ⟨room, bytes + ps, dr, gone, l ++ [⟨pn, ps, p3, p4, p5, p6, p7⟩]⟩) from if_pos (by simp only; omega)]
    clear hub hr hfit hps hd hg
    go_enter Try.func113, Try.ntmps113
    go_wp2_with (with_reducible refine stop_bx ?_)
    refine Stop.go ?_
    refine wpList_box_own HH.out [_, _, _, _, _, _, _] rfl ?_
    intro sp w5_ H9_
    replace HH := Lib.hid H9_
    clear H9_
    replace HH := Lib.hid ((Own.pm (HH.out) (by repeat (first | with_reducible exact Pm.refl _ | with_reducible exact Pm.nil _ | with_reducible refine Pm.here ?_ | with_reducible refine Pm.at2 ?_ | with_reducible refine Pm.at3 ?_ | with_reducible refine Pm.at4 ?_ | with_reducible refine Pm.at5 ?_ | with_reducible refine Pm.at6 ?_ | with_reducible refine Pm.at7 ?_ | with_reducible refine Pm.at8 ?_ | with_reducible refine Pm.skip ?_))) : Own ε _ (pts b _ :: slcP v l :: pts sp _ :: R))
    go_wp2_with fail
    refine wp_region_reg none HH.out (by kernel_rfl) ?_
    intro wm H9_
    replace HH := Lib.hid H9_
    clear H9_
    refine reg_p (i := 0) rfl (by kernel_rfl) (fun _ _ _ _ h => h) HH.out (fun K hK => ?_)
    go_simp
    first | (refine hK _ ?_; clear hK K) | (apply Exists.intro; refine ⟨?_, hK _ ?_⟩; (focus (intro wx; first | (go_simp; first | rfl) | rfl)); clear hK K)
    refine mixk_q (i := 1) rfl (by kernel_rfl) (fun _ _ _ _ h => h) HH.out (fun K hK => ?_)
    go_simp
    first | (refine hK _ ?_; clear hK K) | (apply Exists.intro; refine ⟨?_, hK _ ?_⟩; (focus (intro wx hx; have x1_ := hx.cells; have x3_ := hx.r3.cells; first | (first | (go_at_call 114; refine (rqueLBytes_c X ε wx _ b ⟨room, bytes, dr, gone, l⟩ hq.out (Own.rqueL_mk hx)).mono ?_; rintro e wy ⟨rfl, hbel⟩; exact ⟨rfl, (by first | exact Kp.same hbel | exact Kp.drew hbel | exact Kp.below hbel : Kp wx wy)⟩)) | (go_simp; first | rfl | exact ⟨rfl, rfl⟩) | rfl | exact ⟨rfl, rfl⟩)); clear hK K)
    refine reg_p (i := 2) rfl (by kernel_rfl) (fun _ _ _ _ h => h) HH.out (fun K hK => ?_)
    go_simp
    first | (refine hK _ ?_; clear hK K) | (apply Exists.intro; refine ⟨?_, hK _ ?_⟩; (focus (intro wx; first | (go_simp; first | rfl) | rfl)); clear hK K)
    refine reg_p (i := 3) rfl (by kernel_rfl) (fun _ _ _ _ h => h) HH.out (fun K hK => ?_)
    go_simp
    first | (refine hK _ ?_; clear hK K) | (apply Exists.intro; refine ⟨?_, hK _ ?_⟩; (focus (intro wx; first | (go_simp; first | rfl) | rfl)); clear hK K)
    refine reg_p (i := 4) rfl (by kernel_rfl) (fun _ _ _ _ h => h) HH.out (fun K hK => ?_)
    go_simp
    first | (refine hK _ ?_; clear hK K) | (apply Exists.intro; refine ⟨?_, hK _ ?_⟩; (focus (intro wx; first | (go_simp; first | rfl) | rfl)); clear hK K)
    refine mixk_q (i := 5) rfl (by kernel_rfl) (fun _ _ _ _ h => h) HH.out (fun K hK => ?_)
    go_simp
    first | (refine hK _ ?_; clear hK K) | (apply Exists.intro; refine ⟨?_, hK _ ?_⟩; (focus (intro wx hx; have x1_ := hx.cells; have x3_ := hx.r3.cells; first | (first | (go_at_call 114; refine (rqueLBytes_c X ε wx _ b ⟨room, bytes, dr, gone, l⟩ hq.out (Own.rqueL_mk hx)).mono ?_; rintro e wy ⟨rfl, hbel⟩; exact ⟨rfl, (by first | exact Kp.same hbel | exact Kp.drew hbel | exact Kp.below hbel : Kp wx wy)⟩)) | (go_simp; first | rfl | exact ⟨rfl, rfl⟩) | rfl | exact ⟨rfl, rfl⟩)); clear hK K)
    refine reg_p (i := 6) rfl (by kernel_rfl) (fun _ _ _ _ h => h) HH.out (fun K hK => ?_)
    go_simp
    first | (refine hK _ ?_; clear hK K) | (apply Exists.intro; refine ⟨?_, hK _ ?_⟩; (focus (intro wx; first | (go_simp; first | rfl) | rfl)); clear hK K)
    refine mixk_q (i := 7) rfl (by kernel_rfl) (fun _ _ _ _ h => h) HH.out (fun K hK => ?_)
    go_simp
    first | (refine hK _ ?_; clear hK K) | (apply Exists.intro; refine ⟨?_, hK _ ?_⟩; (focus (intro wx hx; have x1_ := hx.cells; have x3_ := hx.r3.cells; first | (first | (go_at_call 114; refine (rqueLBytes_c X ε wx _ b ⟨room, bytes, dr, gone, l⟩ hq.out (Own.rqueL_mk hx)).mono ?_; rintro e wy ⟨rfl, hbel⟩; exact ⟨rfl, (by first | exact Kp.same hbel | exact Kp.drew hbel | exact Kp.below hbel : Kp wx wy)⟩)) | (go_simp; first | rfl | exact ⟨rfl, rfl⟩) | rfl | exact ⟨rfl, rfl⟩)); clear hK K)
    refine reg_p (i := 8) rfl (by kernel_rfl) (fun _ _ _ _ h => h) HH.out (fun K hK => ?_)
    go_simp
    first | (refine hK _ ?_; clear hK K) | (apply Exists.intro; refine ⟨?_, hK _ ?_⟩; (focus (intro wx; first | (go_simp; first | rfl) | rfl)); clear hK K)
    refine reg_p (i := 9) rfl (by kernel_rfl) (fun _ _ _ _ h => h) HH.out (fun K hK => ?_)
    go_simp
    first | (refine hK _ ?_; clear hK K) | (apply Exists.intro; refine ⟨?_, hK _ ?_⟩; (focus (intro wx; first | (go_simp; first | rfl) | rfl)); clear hK K)
    refine mixk_done (by kernel_rfl) (fun w6_ hk => ?_) _
    replace HH := Lib.hid (hk _ _ HH.out)
    clear hk
    clear hw1
    have hfl := flat_pks_len l
    go_wp2_with fail
    refine wp_region_reg (some 7) HH.out (by kernel_rfl) ?_
    intro wm H9_
    replace HH := Lib.hid H9_
    clear H9_
    refine reg_p (i := 0) rfl (by kernel_rfl) (fun _ _ _ _ h => h) HH.out (fun K hK => ?_)
    go_simp
    first | (refine hK _ ?_; clear hK K) | (apply Exists.intro; refine ⟨?_, hK _ ?_⟩; (focus (intro wx; first | (go_simp; first | rfl) | rfl)); clear hK K)
    refine reg_p (i := 1) rfl (by kernel_rfl) (fun _ _ _ _ h => h) HH.out (fun K hK => ?_)
    go_simp
    first | (refine hK _ ?_; clear hK K) | (apply Exists.intro; refine ⟨?_, hK _ ?_⟩; (focus (intro wx; first | (go_simp; first | rfl) | rfl)); clear hK K)
    refine reg_p (i := 2) rfl (by kernel_rfl) (fun _ _ _ _ h => h) HH.out (fun K hK => ?_)
    go_simp
    first | (refine hK _ ?_; clear hK K) | (apply Exists.intro; refine ⟨?_, hK _ ?_⟩; (focus (intro wx; first | (go_simp; first | rfl) | rfl)); clear hK K)
    refine reg_p (i := 3) rfl (by kernel_rfl) (fun _ _ _ _ h => h) HH.out (fun K hK => ?_)
    go_simp
    first | (refine hK _ ?_; clear hK K) | (apply Exists.intro; refine ⟨?_, hK _ ?_⟩; (focus (intro wx; first | (go_simp; first | rfl) | rfl)); clear hK K)
    refine mixk_q (i := 4) rfl (by kernel_rfl) (fun _ _ _ _ h => h) HH.out (fun K hK => ?_)
    go_simp
    first | (refine hK _ ?_; clear hK K) | (apply Exists.intro; refine ⟨?_, hK _ ?_⟩; (focus (intro wx hx; have x1_ := hx.cells; have x3_ := hx.r3.cells; first | (go_simp; first | rfl | exact ⟨rfl, rfl⟩) | rfl | exact ⟨rfl, rfl⟩)); clear hK K)
    refine mixk_q (i := 5) rfl (by kernel_rfl) (fun _ _ _ _ h => h) HH.out (fun K hK => ?_)
    go_simp
    first | (refine hK _ ?_; clear hK K) | (apply Exists.intro; refine ⟨?_, hK _ ?_⟩; (focus (intro wx hx; have x1_ := hx.cells; have x3_ := hx.r3.cells; first | (go_simp; first | rfl | exact ⟨rfl, rfl⟩) | rfl | exact ⟨rfl, rfl⟩)); clear hK K)
    refine reg_l (some 7) (i := 6) rfl (by kernel_rfl) (fun wn hk K hK => ?_)
    replace HH := Lib.hid (hk _ _ HH.out)
    clear hk
    go_simp
    replace HH := Lib.hid (HH.out.alloc (.cells #[.int .u64 pn, .int .u64 ps, .int .u64 p3, .int .u64 p4, .int .u64 p5, .int .u64 p6, .bool p7] 42))
    generalize wn.alloc (.cells #[.int .u64 pn, .int .u64 ps, .int .u64 p3, .int .u64 p4, .int .u64 p5, .int .u64 p6, .bool p7] 42) = wm at *
    generalize wn.heap.size = sb at *
    refine hK _ _ _ HH.out (.inr ⟨rfl, fun _ h => h.tail⟩) ?_
    clear hK K
    refine reg_l (some 10) (i := 7) rfl (by kernel_rfl) (fun wn hk K hK => ?_)
    replace HH := Lib.hid (hk _ _ HH.out)
    clear hk
    refine want rfl (wp_append_slc _ _ 28 rfl 42 7 56 Try.underlying28 (by kernel_rfl) (by decide) rfl (HH.out.r3) rfl (hfl) ((show srcAt wn (some ⟨sb, 0, none⟩) 1 7 [.int .u64 pn, .int .u64 ps, .int .u64 p3, .int .u64 p4, .int .u64 p5, .int .u64 p6, .bool p7] from ⟨rfl, .inr ⟨sb, 0, rfl, fun j u hj => by rw [Nat.zero_add, HH.out.cells.1 j]; simpa using hj⟩⟩)) ((by repeat (first | (refine List.forall_mem_cons.2 ⟨(by first | with_reducible assumption | rfl), ?_⟩) | exact fun _ h => absurd h List.not_mem_nil))) (by simp only [maxLen]; omega) (by omega) ?_)
    intro v1 wm H9_
    obtain ⟨A_v1, n_v1, c_v1, rfl⟩ := H9_.slc_isv
    replace HH := Lib.hid H9_
    clear H9_
    refine hK _ _ _ HH.out (.inl (by kernel_rfl)) ?_
    clear hK K
    refine reg_p (i := 8) rfl (by kernel_rfl) (fun _ _ _ _ h => h) HH.out (fun K hK => ?_)
    go_simp
    first | (refine hK _ ?_; clear hK K) | (apply Exists.intro; refine ⟨?_, hK _ ?_⟩; (focus (intro wx; first | (go_simp; first | rfl) | rfl)); clear hK K)
    refine reg_p (i := 9) rfl (by kernel_rfl) (fun _ _ _ _ h => h) HH.out (fun K hK => ?_)
    go_simp
    first | (refine hK _ ?_; clear hK K) | (apply Exists.intro; refine ⟨?_, hK _ ?_⟩; (focus (intro wx; first | (go_simp; first | rfl) | rfl)); clear hK K)
    refine reg_l none (i := 10) rfl (by kernel_rfl) (fun wn hk K hK => ?_)
    replace HH := Lib.hid (hk _ _ HH.out)
    clear hk
    have hx := HH.out
    have x1_ := hx.r3.cells
    have x3_ := hx.r4.cells
    go_simp
    replace HH := Lib.hid (HH.out.r3.set 5 (.slice A_v1 n_v1 c_v1))
    simp only [List.setIfInBounds_toArray, List.set_cons_succ, List.set_cons_zero] at HH
    generalize wn.setCell ⟨b, 5, none⟩ (.slice A_v1 n_v1 c_v1) = wm at *
    clear hx x1_ x3_
    refine hK _ _ _ HH.out (.inl (by kernel_rfl)) ?_
    clear hK K
    refine mixk_done (by kernel_rfl) (fun w7_ hk => ?_) _
    replace HH := Lib.hid (hk _ _ HH.out)
    clear hk
    go_wp2_with fail
    go_ret
    refine ⟨rfl, Own.rqueL_mk (v := .slice A_v1 n_v1 c_v1) ?_⟩
    unfold slcP
    rw [flat_pks_snoc]
    exact ((Own.pm (HH.out) (by repeat (first | with_reducible exact Pm.refl _ | with_reducible exact Pm.nil _ | with_reducible refine Pm.here ?_ | with_reducible refine Pm.at2 ?_ | with_reducible refine Pm.at3 ?_ | with_reducible refine Pm.at4 ?_ | with_reducible refine Pm.at5 ?_ | with_reducible refine Pm.at6 ?_ | with_reducible refine Pm.at7 ?_ | with_reducible refine Pm.at8 ?_ | with_reducible refine Pm.skip ?_))) : Own ε _ (pts b _ :: slc _ 7 _ _ :: R))
set_option maxHeartbeats 3200000 in
theorem rqueLShift_c (q : Que) (hl : q.l.length ≤ 1000000) (H : Own ε w (rqueL X b q :: R)) :
    Calls Try.prog 172 #[.pointer (some ⟨b, 4, none⟩)] w fun e w' => e = .returned (.tuple #[.agg q.shift.1.1.cells.toArray, .bool q.shift.1.2]) ∧ Own ε w' (rqueL X b q.shift.2 :: R) := by
  obtain ⟨v, H⟩ := H.rqueL_open
  have HH := Lib.hid H; clear H
  obtain ⟨room, bytes, dr, gone, l⟩ := q
  obtain ⟨A, n, cap, rfl, hnc, hcap, hA⟩ := HH.out.r2.slcP_val
  simp only at hA hl
  unfold Que.shift
  simp only
  have hl1 := hA.1
  cases l with
  | nil =>
    obtain rfl : n = 0 := by simpa using hl1.symm
    show Calls _ _ _ _ fun e w' => e = .returned (.tuple #[.agg Pk.zero.cells.toArray, .bool false]) ∧ Own ε w' (rqueL X b ⟨room, bytes - 0, dr, gone, []⟩ :: R)
    clear hA hl1
    go_enter Try.func172, Try.ntmps172
    go_wp2_with (with_reducible refine stop_al ?_)
    refine Stop.go ?_
    refine wpList_alloc_own HH.out [.int .u64 0, .int .u64 0, .int .u64 0, .int .u64 0, .int .u64 0, .int .u64 0, .bool false] (by kernel_rfl) ?_
    intro sb w8_ H9_
    replace HH := Lib.hid H9_
    clear H9_
    have k1 := HH.out.r2.cells
    go_wp2_with (with_reducible refine stop_st ?_)
    refine Stop.go ?_
    refine wpList_store_own _ #[_, _, _, _, _, _, _] rfl rfl HH.out (by kernel_rfl) rfl (by repeat (first | (refine List.forall_mem_cons.2 ⟨(by first | with_reducible assumption | rfl), ?_⟩) | exact fun _ h => absurd h List.not_mem_nil)) ?_
    intro w9_ H9_
    replace HH := Lib.hid H9_
    clear H9_
    go_wp2_with fail
    refine bodyPost_cell rfl rfl rfl rfl Try.underlying42 rfl (by kernel_rfl) (HH.out) ?_
    exact ⟨rfl, Own.rqueL_mk HH.out.tail⟩
  | cons p l =>
    show Calls _ _ _ _ fun e w' => e = .returned (.tuple #[.agg p.cells.toArray, .bool true]) ∧ Own ε w' (rqueL X b ⟨room, bytes - p.size, dr, gone, l⟩ :: R)
    simp only [List.length_cons] at hl1 hl
    clear hA
    obtain rfl : n = l.length + 1 := hl1.symm
    clear hl1
    obtain ⟨pn, ps, p3, p4, p5, p6, p7⟩ := p
    have hcs : ∀ wx R', Own ε wx (slcP (.slice A (l.length + 1) cap) ((⟨pn, ps, p3, p4, p5, p6, p7⟩ : Pk) :: l) :: R') → ∃ g, A = some ⟨g, 0, none⟩ ∧ (∀ j u, (⟨pn, ps, p3, p4, p5, p6, p7⟩ : Pk).cells[j]? = some u → wx.cell? ⟨g, j, none⟩ = some u) ∧ srcAt wx (some ⟨g, 7, none⟩) l.length 7 (pks l).flatten := by
      intro wx R' Hx
      rcases Hx.slc_val with ⟨e, _⟩ | ⟨g', n', cap', e, h1, _, _, h4, _⟩
      · cases e
      · cases e
        refine ⟨g', rfl, fun j u hj => h4 j u ?_, flat_pks_len l, .inr ⟨_, 7, rfl, fun j u hj => ?_⟩⟩
        · rw [flat_pks_cons]
          have hj7 : j < 7 := by
            rcases Nat.lt_or_ge j 7 with h | h
            · exact h
            · rw [List.getElem?_eq_none (by simpa [Pk.cells] using h)] at hj; cases hj
          rw [List.getElem?_append_left (by simpa [Pk.cells] using hj7)]
          exact hj
        · refine h4 (7 + j) u ?_
          rw [flat_pks_cons, List.getElem?_append_right (by simp [Pk.cells])]
          simpa [Pk.cells] using hj
    obtain ⟨g, rfl, _, _⟩ := hcs _ _ HH.out.r2
    replace hcs := Lib.hid hcs
    have hfl := flat_pks_one l
    replace hfl := Lib.hid hfl
    by_cases hcap1 : cap = 1
    · subst hcap1
      obtain rfl : l = [] := List.eq_nil_of_length_eq_zero (by omega)
      go_enter Try.func172, Try.ntmps172
      go_wp2_with (with_reducible refine stop_al ?_)
      refine Stop.go ?_
      refine wpList_alloc_own HH.out [.int .u64 0, .int .u64 0, .int .u64 0, .int .u64 0, .int .u64 0, .int .u64 0, .bool false] (by kernel_rfl) ?_
      intro sb w10_ H9_
      replace HH := Lib.hid H9_
      clear H9_
      obtain ⟨_, e, hc, _⟩ := hcs.out _ _ HH.out.r3
      cases e
      have k0 := hc 0 _ rfl
      have k1 := hc 1 _ rfl
      have k2 := hc 2 _ rfl
      have k3 := hc 3 _ rfl
      have k4 := hc 4 _ rfl
      have k5 := hc 5 _ rfl
      have k6 := hc 6 _ rfl
      clear hc
      have m1 := HH.out.r2.cells
      go_wp2_with (with_reducible refine stop_al ?_)
      refine Stop.go ?_
      refine wpList_alloc_own HH.out [.int .u64 0, .int .u64 0, .int .u64 0, .int .u64 0, .int .u64 0, .int .u64 0, .bool false] (by kernel_rfl) ?_
      intro sp w11_ H9_
      replace HH := Lib.hid H9_
      clear H9_
      go_wp2_with (with_reducible refine stop_st ?_)
      refine Stop.go ?_
      refine wpList_store_own _ #[_, _, _, _, _, _, _] rfl rfl HH.out (by kernel_rfl) rfl (by repeat (first | (refine List.forall_mem_cons.2 ⟨(by first | with_reducible assumption | rfl), ?_⟩) | exact fun _ h => absurd h List.not_mem_nil)) ?_
      intro w12_ H9_
      replace HH := Lib.hid H9_
      clear H9_
      clear k0 k1 k2 k3 k4 k5 k6 m1
      have m1 := HH.out.r3.cells
      go_wp2_with (with_reducible refine stop_bs ?_)
      refine Stop.go ?_
      refine wpList_bs0_own HH.out 7 56 Try.underlying28 (by kernel_rfl) ?_
      intro g0 w13_ H9_
      replace HH := Lib.hid H9_
      clear H9_
      clear m1
      have m1 := HH.out.r4.cells
      go_wp2_with (with_reducible refine stop_app ?_)
      refine Stop.go ?_
      refine wpList_append_slc rfl _ _ 28 rfl 42 7 56 Try.underlying28 (by kernel_rfl) (by decide) rfl (HH.out) rfl ((show ([] : List Value).length = 0 * 7 from rfl)) ((show srcAt _ _ 0 7 [] from ⟨rfl, .inl rfl⟩)) ((by intro u hu; cases hu)) (by simp only [maxLen]; omega) (by omega) ?_
      intro v1 w14_ H9_
      obtain ⟨A_v1, n_v1, c_v1, rfl⟩ := H9_.slc_isv
      replace HH := Lib.hid H9_
      clear H9_
      clear m1
      have m1 := HH.out.r4.cells
      go_wp2_with (with_reducible refine stop_st ?_)
      refine Stop.go ?_
      refine wpList_store1_own (v := .slice A_v1 n_v1 c_v1) (k := 5) rfl rfl HH.out.r4 (by kernel_rfl) (by simp) (by first | rfl | assumption) ?_
      intro w15_ H9_
      replace HH := Lib.hid H9_
      clear H9_
      simp only [List.setIfInBounds_toArray, List.set_cons_succ, List.set_cons_zero] at HH
      clear m1
      replace HH := Lib.hid ((Own.pm (HH.out) (by repeat (first | with_reducible exact Pm.refl _ | with_reducible exact Pm.nil _ | with_reducible refine Pm.here ?_ | with_reducible refine Pm.at2 ?_ | with_reducible refine Pm.at3 ?_ | with_reducible refine Pm.at4 ?_ | with_reducible refine Pm.at5 ?_ | with_reducible refine Pm.at6 ?_ | with_reducible refine Pm.at7 ?_ | with_reducible refine Pm.at8 ?_ | with_reducible refine Pm.skip ?_))) : Own ε _ (pts sb _ :: pts sp _ :: pts b _ :: slc _ 7 (.slice A_v1 n_v1 c_v1) _ :: R))
      have m1 := HH.out.r2.cells
      go_wp2_with (with_reducible refine stop_st ?_)
      refine Stop.go ?_
      refine wpList_store_own _ #[_, _, _, _, _, _, _] rfl rfl HH.out (by kernel_rfl) rfl (by repeat (first | (refine List.forall_mem_cons.2 ⟨(by first | with_reducible assumption | rfl), ?_⟩) | exact fun _ h => absurd h List.not_mem_nil)) ?_
      intro w16_ H9_
      replace HH := Lib.hid H9_
      clear H9_
      go_wp2_with fail
      refine bodyPost_cell rfl rfl rfl rfl Try.underlying42 rfl (by kernel_rfl) (HH.out) ?_
      exact ⟨rfl, Own.rqueL_mk HH.out.tail.tail⟩
    · go_enter Try.func172, Try.ntmps172
      go_wp2_with (with_reducible refine stop_al ?_)
      refine Stop.go ?_
      refine wpList_alloc_own HH.out [.int .u64 0, .int .u64 0, .int .u64 0, .int .u64 0, .int .u64 0, .int .u64 0, .bool false] (by kernel_rfl) ?_
      intro sb w17_ H9_
      replace HH := Lib.hid H9_
      clear H9_
      obtain ⟨_, e, hc, _⟩ := hcs.out _ _ HH.out.r3
      cases e
      have k0 := hc 0 _ rfl
      have k1 := hc 1 _ rfl
      have k2 := hc 2 _ rfl
      have k3 := hc 3 _ rfl
      have k4 := hc 4 _ rfl
      have k5 := hc 5 _ rfl
      have k6 := hc 6 _ rfl
      clear hc
      have m1 := HH.out.r2.cells
      go_wp2_with (with_reducible refine stop_al ?_)
      refine Stop.go ?_
      refine wpList_alloc_own HH.out [.int .u64 0, .int .u64 0, .int .u64 0, .int .u64 0, .int .u64 0, .int .u64 0, .bool false] (by kernel_rfl) ?_
      intro sp w18_ H9_
      replace HH := Lib.hid H9_
      clear H9_
      go_wp2_with (with_reducible refine stop_st ?_)
      refine Stop.go ?_
      refine wpList_store_own _ #[_, _, _, _, _, _, _] rfl rfl HH.out (by kernel_rfl) rfl (by repeat (first | (refine List.forall_mem_cons.2 ⟨(by first | with_reducible assumption | rfl), ?_⟩) | exact fun _ h => absurd h List.not_mem_nil)) ?_
      intro w19_ H9_
      replace HH := Lib.hid H9_
      clear H9_
      clear k0 k1 k2 k3 k4 k5 k6 m1
      have m1 := HH.out.r3.cells
      go_wp2_with (with_reducible refine stop_bs ?_)
      refine Stop.go ?_
      refine wpList_bs0_own HH.out 7 56 Try.underlying28 (by kernel_rfl) ?_
      intro g0 w20_ H9_
      replace HH := Lib.hid H9_
      clear H9_
      clear m1
      have m1 := HH.out.r4.cells
      obtain ⟨_, e, _, hs⟩ := hcs.out _ _ HH.out.r5
      cases e
      replace hs := Lib.hid hs
      go_wp2_with (with_reducible refine stop_app ?_)
      refine Stop.go ?_
      refine wpList_append_slc rfl _ _ 28 rfl 42 7 56 Try.underlying28 (by kernel_rfl) (by decide) rfl (HH.out) rfl ((show ([] : List Value).length = 0 * 7 from rfl)) (hs.out) (hfl.out) (by simp only [maxLen]; omega) (by omega) ?_
      intro v1 w21_ H9_
      obtain ⟨A_v1, n_v1, c_v1, rfl⟩ := H9_.slc_isv
      replace HH := Lib.hid H9_
      clear H9_
      clear m1 hs
      have m1 := HH.out.r4.cells
      go_wp2_with (with_reducible refine stop_st ?_)
      refine Stop.go ?_
      refine wpList_store1_own (v := .slice A_v1 n_v1 c_v1) (k := 5) rfl rfl HH.out.r4 (by kernel_rfl) (by simp) (by first | rfl | assumption) ?_
      intro w22_ H9_
      replace HH := Lib.hid H9_
      clear H9_
      simp only [List.setIfInBounds_toArray, List.set_cons_succ, List.set_cons_zero] at HH
      clear m1
      replace HH := Lib.hid ((Own.pm (HH.out) (by repeat (first | with_reducible exact Pm.refl _ | with_reducible exact Pm.nil _ | with_reducible refine Pm.here ?_ | with_reducible refine Pm.at2 ?_ | with_reducible refine Pm.at3 ?_ | with_reducible refine Pm.at4 ?_ | with_reducible refine Pm.at5 ?_ | with_reducible refine Pm.at6 ?_ | with_reducible refine Pm.at7 ?_ | with_reducible refine Pm.at8 ?_ | with_reducible refine Pm.skip ?_))) : Own ε _ (pts sb _ :: pts sp _ :: pts b _ :: slc _ 7 (.slice A_v1 n_v1 c_v1) _ :: R))
      have m1 := HH.out.r2.cells
      go_wp2_with (with_reducible refine stop_st ?_)
      refine Stop.go ?_
      refine wpList_store_own _ #[_, _, _, _, _, _, _] rfl rfl HH.out (by kernel_rfl) rfl (by repeat (first | (refine List.forall_mem_cons.2 ⟨(by first | with_reducible assumption | rfl), ?_⟩) | exact fun _ h => absurd h List.not_mem_nil)) ?_
      intro w23_ H9_
      replace HH := Lib.hid H9_
      clear H9_
      go_wp2_with fail
      refine bodyPost_cell rfl rfl rfl rfl Try.underlying42 rfl (by kernel_rfl) (HH.out) ?_
      exact ⟨rfl, Own.rqueL_mk HH.out.tail.tail⟩
end
def rboxL (X : Nat → Value) (b : Nat) (s : Bo) : Asn := exA fun v : Value => sep (pts b (.cells #[X 0, X 1, X 2, X 3, X 4, X 5, X 6, X 7, .int .u64 s.delay, .int .u64 s.jit, v, .int .u64 s.last] 108 (0, 0))) (slcE v s.l)
section
variable {X : Nat → Value} {ε w : World} {R : List Asn} {b : Nat} {s : Bo}
theorem Own.rboxL_open (H : Own ε w (rboxL X b s :: R)) : ∃ v, Own ε w (pts b (.cells #[X 0, X 1, X 2, X 3, X 4, X 5, X 6, X 7, .int .u64 s.delay, .int .u64 s.jit, v, .int .u64 s.last] 108 (0, 0)) :: slcE v s.l :: R) := by
  obtain ⟨v, H⟩ := H.ex
  exact ⟨v, H.split⟩
theorem Own.rboxL_mk {v : Value} (H : Own ε w (pts b (.cells #[X 0, X 1, X 2, X 3, X 4, X 5, X 6, X 7, .int .u64 s.delay, .int .u64 s.jit, v, .int .u64 s.last] 108 (0, 0)) :: slcE v s.l :: R)) : Own ε w (rboxL X b s :: R) := Own.ex_mk v H.join
end
section
variable (X : Nat → Value) (ε w : World) (R : List Asn) (b : Nat)
set_option maxHeartbeats 3200000 in
theorem rboxLPut_c (s : Bo) (p : Pk) (now c : Int) (hs : s.Ok) (h1 : U now) (h2 : U c) (hl : s.l.length ≤ 1000000) (H : Own ε w (rboxL X b s :: R)) :
    Calls Try.prog 173 #[.pointer (some ⟨b, 8, none⟩), .agg p.cells.toArray, .int .u64 now, .int .u64 c] w fun e w' => e = .returned (.int .u64 (s.due now c)) ∧ Own ε w' (rboxL X b (s.put p now c) :: R) := by
  obtain ⟨v, H⟩ := H.rboxL_open
  have HH := Lib.hid H; clear H
  obtain ⟨A, n, cap, rfl, hnc, hcap, hA⟩ := HH.out.r2.slc_it Du.len (by decide)
  have hm : U (min c s.jit) := by have := hs.jit; unfold U at *; omega
  have hdl := hs.delay
  have hsa := U_sadd h1 hdl
  have hput : s.put p now c = ⟨s.delay, s.jit, s.due now c, s.l ++ [⟨p, s.due now c⟩]⟩ := rfl
  rw [hput]
  have hdue : max (sadd (sadd now s.delay) (min c s.jit)) s.last = s.due now c := by unfold Bo.due; omega
  generalize s.due now c = dt at hdue ⊢
  have hn := hA.1
  have hfl : (encs Du.cells s.l).length = n * 8 := by rw [encs_len Du.len, hn]
  clear hput hs h2 hA hnc hcap
  obtain ⟨dl, jt, la, l⟩ := s
  obtain ⟨pn, ps, p3, p4, p5, p6, p7⟩ := p
  simp only at hdue hm hdl hl hsa hn hfl
  have hn1 : n ≤ 1000000 := by omega
  clear hn hl
  have im := min_ite'
  have ix := max_ite'
  replace hm := Lib.hid hm
  replace hdl := Lib.hid hdl
  replace hsa := Lib.hid hsa
  replace h1 := Lib.hid h1
  go_enter Try.func173, Try.ntmps173
  go_wp2_with (with_reducible refine stop_bx ?_)
  refine Stop.go ?_
  refine wpList_box_own HH.out [_, _, _, _, _, _, _] rfl ?_
  intro sp w24_ H9_
  replace HH := Lib.hid H9_
  clear H9_
  go_wp2_with fail
  refine wp_region_reg none HH.out (by kernel_rfl) ?_
  intro wm H9_
  replace HH := Lib.hid H9_
  clear H9_
  refine reg_p (i := 0) rfl (by kernel_rfl) (fun _ _ _ _ h => h) HH.out (fun K hK => ?_)
  go_simp
  first | (refine hK _ ?_; clear hK K) | (apply Exists.intro; refine ⟨?_, hK _ ?_⟩; (focus (intro wx; first | (go_simp; first | rfl) | rfl)); clear hK K)
  refine reg_p (i := 1) rfl (by kernel_rfl) (fun _ _ _ _ h => h) HH.out (fun K hK => ?_)
  go_simp
  first | (refine hK _ ?_; clear hK K) | (apply Exists.intro; refine ⟨?_, hK _ ?_⟩; (focus (intro wx; first | (go_simp; first | rfl) | rfl)); clear hK K)
  refine reg_p (i := 2) rfl (by kernel_rfl) (fun _ _ _ _ h => h) HH.out (fun K hK => ?_)
  go_simp
  first | (refine hK _ ?_; clear hK K) | (apply Exists.intro; refine ⟨?_, hK _ ?_⟩; (focus (intro wx; first | (go_simp; first | rfl) | rfl)); clear hK K)
  refine reg_p (i := 3) rfl (by kernel_rfl) (fun _ _ _ _ h => h) HH.out (fun K hK => ?_)
  go_simp
  first | (refine hK _ ?_; clear hK K) | (apply Exists.intro; refine ⟨?_, hK _ ?_⟩; (focus (intro wx; first | (go_simp; first | rfl) | rfl)); clear hK K)
  refine mixk_q (i := 4) rfl (by kernel_rfl) (fun _ _ _ _ h => h) HH.out (fun K hK => ?_)
  go_simp
  first | (refine hK _ ?_; clear hK K) | (apply Exists.intro; refine ⟨?_, hK _ ?_⟩; (focus (intro wx hx; have x2_ := hx.r2.cells; first | (first | (go_at_call 54; (with_reducible refine (refAdd_c wx now dl h1.out hdl.out).mono ?_); rintro e wy ⟨rfl, hbel⟩; exact ⟨rfl, (by first | exact Kp.same hbel | exact Kp.drew hbel | exact Kp.below hbel : Kp wx wy)⟩) | (go_at_call 54; (with_reducible refine (refAdd_c wx (sadd now dl) (min c jt) hsa.out hm.out).mono ?_); rintro e wy ⟨rfl, hbel⟩; exact ⟨rfl, (by first | exact Kp.same hbel | exact Kp.drew hbel | exact Kp.below hbel : Kp wx wy)⟩)) | (go_simp; first | rfl | exact ⟨rfl, rfl⟩) | rfl | exact ⟨rfl, rfl⟩)); clear hK K)
  refine mixk_q (i := 5) rfl (by kernel_rfl) (fun _ _ _ _ h => h) HH.out (fun K hK => ?_)
  go_simp
  first | (refine hK _ ?_; clear hK K) | (apply Exists.intro; refine ⟨?_, hK _ ?_⟩; (focus (intro wx hx; have x2_ := hx.r2.cells; first | (first | (go_at_call 54; (with_reducible refine (refAdd_c wx now dl h1.out hdl.out).mono ?_); rintro e wy ⟨rfl, hbel⟩; exact ⟨rfl, (by first | exact Kp.same hbel | exact Kp.drew hbel | exact Kp.below hbel : Kp wx wy)⟩) | (go_at_call 54; (with_reducible refine (refAdd_c wx (sadd now dl) (min c jt) hsa.out hm.out).mono ?_); rintro e wy ⟨rfl, hbel⟩; exact ⟨rfl, (by first | exact Kp.same hbel | exact Kp.drew hbel | exact Kp.below hbel : Kp wx wy)⟩)) | (go_simp; first | rfl | exact ⟨rfl, rfl⟩) | rfl | exact ⟨rfl, rfl⟩)); clear hK K)
  refine reg_p (i := 6) rfl (by kernel_rfl) (fun _ _ _ _ h => h) HH.out (fun K hK => ?_)
  go_simp
  first | (refine hK _ ?_; clear hK K) | (apply Exists.intro; refine ⟨?_, hK _ ?_⟩; (focus (intro wx; first | (go_simp; first | rfl) | rfl)); clear hK K)
  refine reg_p (i := 7) rfl (by kernel_rfl) (fun _ _ _ _ h => h) HH.out (fun K hK => ?_)
  go_simp
  first | (refine hK _ ?_; clear hK K) | (apply Exists.intro; refine ⟨?_, hK _ ?_⟩; (focus (intro wx; first | (go_simp; first | rfl) | rfl)); clear hK K)
  refine reg_p (i := 8) rfl (by kernel_rfl) (fun _ _ _ _ h => h) HH.out (fun K hK => ?_)
  go_simp
  first | (refine hK _ ?_; clear hK K) | (apply Exists.intro; refine ⟨?_, hK _ ?_⟩; (focus (intro wx; first | (go_simp; first | rfl) | rfl)); clear hK K)
  refine reg_p (i := 9) rfl (by kernel_rfl) (fun _ _ _ _ h => h) HH.out (fun K hK => ?_)
  go_simp
  first | (refine hK _ ?_; clear hK K) | (apply Exists.intro; refine ⟨?_, hK _ ?_⟩; (focus (intro wx; first | (go_simp; first | rfl) | rfl)); clear hK K)
  refine mixk_q (i := 10) rfl (by kernel_rfl) (fun _ _ _ _ h => h) HH.out (fun K hK => ?_)
  go_simp
  first | (refine hK _ ?_; clear hK K) | (apply Exists.intro; refine ⟨?_, hK _ ?_⟩; (focus (intro wx hx; have x2_ := hx.r2.cells; first | (first | (go_at_call 54; (with_reducible refine (refAdd_c wx now dl h1.out hdl.out).mono ?_); rintro e wy ⟨rfl, hbel⟩; exact ⟨rfl, (by first | exact Kp.same hbel | exact Kp.drew hbel | exact Kp.below hbel : Kp wx wy)⟩) | (go_at_call 54; (with_reducible refine (refAdd_c wx (sadd now dl) (min c jt) hsa.out hm.out).mono ?_); rintro e wy ⟨rfl, hbel⟩; exact ⟨rfl, (by first | exact Kp.same hbel | exact Kp.drew hbel | exact Kp.below hbel : Kp wx wy)⟩)) | (go_simp; first | rfl | exact ⟨rfl, rfl⟩) | rfl | exact ⟨rfl, rfl⟩)); clear hK K)
  refine reg_p (i := 11) rfl (by kernel_rfl) (fun _ _ _ _ h => h) HH.out (fun K hK => ?_)
  go_simp
  first | (refine hK _ ?_; clear hK K) | (apply Exists.intro; refine ⟨?_, hK _ ?_⟩; (focus (intro wx; first | (go_simp; first | rfl) | rfl)); clear hK K)
  refine mixk_q (i := 12) rfl (by kernel_rfl) (fun _ _ _ _ h => h) HH.out (fun K hK => ?_)
  go_simp
  first | (refine hK _ ?_; clear hK K) | (apply Exists.intro; refine ⟨?_, hK _ ?_⟩; (focus (intro wx hx; have x2_ := hx.r2.cells; first | (first | (go_at_call 54; (with_reducible refine (refAdd_c wx now dl h1.out hdl.out).mono ?_); rintro e wy ⟨rfl, hbel⟩; exact ⟨rfl, (by first | exact Kp.same hbel | exact Kp.drew hbel | exact Kp.below hbel : Kp wx wy)⟩) | (go_at_call 54; (with_reducible refine (refAdd_c wx (sadd now dl) (min c jt) hsa.out hm.out).mono ?_); rintro e wy ⟨rfl, hbel⟩; exact ⟨rfl, (by first | exact Kp.same hbel | exact Kp.drew hbel | exact Kp.below hbel : Kp wx wy)⟩)) | (go_simp; first | rfl | exact ⟨rfl, rfl⟩) | rfl | exact ⟨rfl, rfl⟩)); clear hK K)
  refine reg_p (i := 13) rfl (by kernel_rfl) (fun _ _ _ _ h => h) HH.out (fun K hK => ?_)
  go_simp
  first | (refine hK _ ?_; clear hK K) | (apply Exists.intro; refine ⟨?_, hK _ ?_⟩; (focus (intro wx; first | (go_simp; first | rfl) | rfl)); clear hK K)
  refine mixk_done (by kernel_rfl) (fun w25_ hk => ?_) _
  replace HH := Lib.hid (hk _ _ HH.out)
  clear hk
  (try clear cc1_); (try clear cc2_); (try clear cc3_); (try clear cc4_); (try clear cc5_); (try clear cc6_); (try clear cc7_)
  have cc2_ := HH.out.r2.cells
  go_wp2_with (with_reducible refine stop_st ?_)
  refine Stop.go ?_
  refine wpList_store1_own (v := .int .u64 dt) (k := 11) rfl rfl HH.out.r2 (by kernel_rfl) (by simp) (by first | rfl | assumption) ?_
  intro w26_ H9_
  replace HH := Lib.hid H9_
  clear H9_
  simp only [List.setIfInBounds_toArray, List.set_cons_succ, List.set_cons_zero] at HH
  clear hdue
  (try clear cc1_); (try clear cc2_); (try clear cc3_); (try clear cc4_); (try clear cc5_); (try clear cc6_); (try clear cc7_)
  replace HH := Lib.hid ((Own.pm (HH.out) (by repeat (first | with_reducible exact Pm.refl _ | with_reducible exact Pm.nil _ | with_reducible refine Pm.here ?_ | with_reducible refine Pm.at2 ?_ | with_reducible refine Pm.at3 ?_ | with_reducible refine Pm.at4 ?_ | with_reducible refine Pm.at5 ?_ | with_reducible refine Pm.at6 ?_ | with_reducible refine Pm.at7 ?_ | with_reducible refine Pm.at8 ?_ | with_reducible refine Pm.skip ?_))) : Own ε _ (slcE _ l :: pts b _ :: pts sp _ :: R))
  go_wp2_with fail
  refine wp_region_reg (some 9) HH.out (by kernel_rfl) ?_
  intro wm H9_
  replace HH := Lib.hid H9_
  clear H9_
  refine reg_p (i := 0) rfl (by kernel_rfl) (fun _ _ _ _ h => h) HH.out (fun K hK => ?_)
  go_simp
  first | (refine hK _ ?_; clear hK K) | (apply Exists.intro; refine ⟨?_, hK _ ?_⟩; (focus (intro wx; first | (go_simp; first | rfl) | rfl)); clear hK K)
  refine reg_p (i := 1) rfl (by kernel_rfl) (fun _ _ _ _ h => h) HH.out (fun K hK => ?_)
  go_simp
  first | (refine hK _ ?_; clear hK K) | (apply Exists.intro; refine ⟨?_, hK _ ?_⟩; (focus (intro wx; first | (go_simp; first | rfl) | rfl)); clear hK K)
  refine reg_p (i := 2) rfl (by kernel_rfl) (fun _ _ _ _ h => h) HH.out (fun K hK => ?_)
  go_simp
  first | (refine hK _ ?_; clear hK K) | (apply Exists.intro; refine ⟨?_, hK _ ?_⟩; (focus (intro wx; first | (go_simp; first | rfl) | rfl)); clear hK K)
  refine reg_p (i := 3) rfl (by kernel_rfl) (fun _ _ _ _ h => h) HH.out (fun K hK => ?_)
  go_simp
  first | (refine hK _ ?_; clear hK K) | (apply Exists.intro; refine ⟨?_, hK _ ?_⟩; (focus (intro wx; first | (go_simp; first | rfl) | rfl)); clear hK K)
  refine mixk_q (i := 4) rfl (by kernel_rfl) (fun _ _ _ _ h => h) HH.out (fun K hK => ?_)
  go_simp
  first | (refine hK _ ?_; clear hK K) | (apply Exists.intro; refine ⟨?_, hK _ ?_⟩; (focus (intro wx hx; have x2_ := hx.r2.cells; have x3_ := hx.r3.cells; first | (go_simp; first | rfl | exact ⟨rfl, rfl⟩) | rfl | exact ⟨rfl, rfl⟩)); clear hK K)
  refine mixk_q (i := 5) rfl (by kernel_rfl) (fun _ _ _ _ h => h) HH.out (fun K hK => ?_)
  go_simp
  first | (refine hK _ ?_; clear hK K) | (apply Exists.intro; refine ⟨?_, hK _ ?_⟩; (focus (intro wx hx; have x2_ := hx.r2.cells; have x3_ := hx.r3.cells; first | (go_simp; first | rfl | exact ⟨rfl, rfl⟩) | rfl | exact ⟨rfl, rfl⟩)); clear hK K)
  refine reg_p (i := 6) rfl (by kernel_rfl) (fun _ _ _ _ h => h) HH.out (fun K hK => ?_)
  go_simp
  first | (refine hK _ ?_; clear hK K) | (apply Exists.intro; refine ⟨?_, hK _ ?_⟩; (focus (intro wx; first | (go_simp; first | rfl) | rfl)); clear hK K)
  refine reg_p (i := 7) rfl (by kernel_rfl) (fun _ _ _ _ h => h) HH.out (fun K hK => ?_)
  go_simp
  first | (refine hK _ ?_; clear hK K) | (apply Exists.intro; refine ⟨?_, hK _ ?_⟩; (focus (intro wx; first | (go_simp; first | rfl) | rfl)); clear hK K)
  refine reg_l (some 9) (i := 8) rfl (by kernel_rfl) (fun wn hk K hK => ?_)
  replace HH := Lib.hid (hk _ _ HH.out)
  clear hk
  go_simp
  replace HH := Lib.hid (HH.out.alloc (.cells #[.int .u64 pn, .int .u64 ps, .int .u64 p3, .int .u64 p4, .int .u64 p5, .int .u64 p6, .bool p7, .int .u64 dt] 189))
  generalize wn.alloc (.cells #[.int .u64 pn, .int .u64 ps, .int .u64 p3, .int .u64 p4, .int .u64 p5, .int .u64 p6, .bool p7, .int .u64 dt] 189) = wm at *
  generalize wn.heap.size = sb at *
  refine hK _ _ _ HH.out (.inr ⟨rfl, fun _ h => h.tail⟩) ?_
  clear hK K
  refine reg_l (some 12) (i := 9) rfl (by kernel_rfl) (fun wn hk K hK => ?_)
  replace HH := Lib.hid (hk _ _ HH.out)
  clear hk
  refine want rfl (wp_append_slc _ _ 104 rfl 189 8 64 Try.underlying104 (by kernel_rfl) (by decide) rfl (HH.out.r2) rfl (hfl) ((show srcAt wn (some ⟨sb, 0, none⟩) 1 8 [.int .u64 pn, .int .u64 ps, .int .u64 p3, .int .u64 p4, .int .u64 p5, .int .u64 p6, .bool p7, .int .u64 dt] from ⟨rfl, .inr ⟨sb, 0, rfl, fun j u hj => by rw [Nat.zero_add, HH.out.cells.1 j]; simpa using hj⟩⟩)) ((by repeat (first | (refine List.forall_mem_cons.2 ⟨(by first | with_reducible assumption | rfl), ?_⟩) | exact fun _ h => absurd h List.not_mem_nil))) (by simp only [maxLen]; omega) (by omega) ?_)
  intro v1 wm H9_
  obtain ⟨A_v1, n_v1, c_v1, rfl⟩ := H9_.slc_isv
  replace HH := Lib.hid H9_
  clear H9_
  refine hK _ _ _ HH.out (.inl (by kernel_rfl)) ?_
  clear hK K
  refine reg_p (i := 10) rfl (by kernel_rfl) (fun _ _ _ _ h => h) HH.out (fun K hK => ?_)
  go_simp
  first | (refine hK _ ?_; clear hK K) | (apply Exists.intro; refine ⟨?_, hK _ ?_⟩; (focus (intro wx; first | (go_simp; first | rfl) | rfl)); clear hK K)
  refine reg_p (i := 11) rfl (by kernel_rfl) (fun _ _ _ _ h => h) HH.out (fun K hK => ?_)
  go_simp
  first | (refine hK _ ?_; clear hK K) | (apply Exists.intro; refine ⟨?_, hK _ ?_⟩; (focus (intro wx; first | (go_simp; first | rfl) | rfl)); clear hK K)
  refine reg_l none (i := 12) rfl (by kernel_rfl) (fun wn hk K hK => ?_)
  replace HH := Lib.hid (hk _ _ HH.out)
  clear hk
  have hx := HH.out
  have x2_ := hx.r3.cells
  have x3_ := hx.r4.cells
  go_simp
  replace HH := Lib.hid (HH.out.r3.set 10 (.slice A_v1 n_v1 c_v1))
  simp only [List.setIfInBounds_toArray, List.set_cons_succ, List.set_cons_zero] at HH
  generalize wn.setCell ⟨b, 10, none⟩ (.slice A_v1 n_v1 c_v1) = wm at *
  clear hx x2_ x3_
  refine hK _ _ _ HH.out (.inl (by kernel_rfl)) ?_
  clear hK K
  refine mixk_done (by kernel_rfl) (fun w27_ hk => ?_) _
  replace HH := Lib.hid (hk _ _ HH.out)
  clear hk
  go_wp2_with fail
  go_ret
  refine ⟨rfl, Own.rboxL_mk (v := .slice A_v1 n_v1 c_v1) ?_⟩
  unfold slcE
  rw [encs_snoc]
  exact ((Own.pm (HH.out) (by repeat (first | with_reducible exact Pm.refl _ | with_reducible exact Pm.nil _ | with_reducible refine Pm.here ?_ | with_reducible refine Pm.at2 ?_ | with_reducible refine Pm.at3 ?_ | with_reducible refine Pm.at4 ?_ | with_reducible refine Pm.at5 ?_ | with_reducible refine Pm.at6 ?_ | with_reducible refine Pm.at7 ?_ | with_reducible refine Pm.at8 ?_ | with_reducible refine Pm.skip ?_))) : Own ε _ (pts b _ :: slc _ 8 _ _ :: R))
set_option maxHeartbeats 6400000 in
theorem rboxLOut_c (s : Bo) (now : Int) (hl : s.l.length ≤ 1000000) (H : Own ε w (rboxL X b s :: R)) :
    Calls Try.prog 175 #[.pointer (some ⟨b, 8, none⟩), .int .u64 now] w fun e w' => ∃ v, e = .returned v ∧ Own ε w' (slcP v (s.out now).1 :: rboxL X b (s.out now).2 :: R) := by
  have HH := Lib.hid (H.slc_none (T := 42) (sz := 7)); clear H
  replace hl := Lib.hid hl
  go_enter Try.func175, Try.ntmps175
  go_wp2_with fail
  go_loopg [5] s.l.length (fun k v wr => ∃ (l' : List Du) (pre : List Pk), l'.length = k ∧ pre.length + l'.length ≤ s.l.length ∧ Bo.outL now s.l = pre ++ Bo.outL now l' ∧ Bo.restL now s.l = Bo.restL now l' ∧ Own ε wr (slcP v pre :: rboxL X b { s with l := l' } :: R))
  case atStart => exact ⟨s.l, [], rfl, by simp, rfl, rfl, HH.out⟩
  case round =>
    clear HH
    obtain ⟨l', pre, hk, hlen, ho, hr, HR⟩ := hrel
    obtain ⟨v, HR⟩ := HR.r2.rboxL_open
    obtain ⟨A, n, cap, rfl, hnc, hcap, hA⟩ := HR.r2.slc_it Du.len (by decide)
    have HH := Lib.hid HR
    clear HR
    replace ho := Lib.hid ho
    replace hr := Lib.hid hr
    replace hk := Lib.hid hk
    have hn := hA.1
    simp only at hn
    cases l' with
    | nil =>
      obtain rfl : n = 0 := hn.symm
      clear hA hnc hcap
      (try clear cc1_); (try clear cc2_); (try clear cc3_); (try clear cc4_); (try clear cc5_); (try clear cc6_); (try clear cc7_)
      have cc1_ := HH.out.cells
      go_wp2_with fail
      go_ret
      have e1 := ho.out
      have e2 := hr.out
      rw [(Bo.out_nil now).1, List.append_nil] at e1
      rw [(Bo.out_nil now).2] at e2
      refine ⟨_, rfl, ?_⟩
      rw [show (s.out now) = (pre, { s with l := [] }) by unfold Bo.out; rw [e1, e2]]
      exact (Own.rboxL_mk (s := { s with l := [] }) HH.out).r2
    | cons d l =>
      obtain ⟨⟨pn, ps, p3, p4, p5, p6, p7⟩, dt⟩ := d
      simp only [List.length_cons] at hn hlen
      obtain rfl : n = l.length + 1 := hn.symm
      clear hn
      have hdr : ∀ wx R', Own ε wx (slcE (.slice A (l.length + 1) cap) ((⟨⟨pn, ps, p3, p4, p5, p6, p7⟩, dt⟩ : Du) :: l) :: R') → ∃ g, A = some ⟨g, 0, none⟩ ∧ (∀ j u, (⟨⟨pn, ps, p3, p4, p5, p6, p7⟩, dt⟩ : Du).cells[j]? = some u → wx.cell? ⟨g, j, none⟩ = some u) ∧ srcAt wx (some ⟨g, 8, none⟩) l.length 8 (encs Du.cells l) := by
        intro wx R' Hx
        rcases Hx.slc_val with ⟨e, _⟩ | ⟨g', n', cap', e, h1, _, _, h4, _⟩
        · cases e
        · cases e
          refine ⟨g', rfl, fun j u hj => h4 j u ?_, encs_len Du.len l, .inr ⟨_, 8, rfl, fun j u hj => ?_⟩⟩
          · rw [encs_cons]
            have hj8 : j < 8 := by
              rcases Nat.lt_or_ge j 8 with h | h
              · exact h
              · rw [List.getElem?_eq_none (by simpa [Du.cells] using h)] at hj; cases hj
            rw [List.getElem?_append_left (by simpa [Du.cells] using hj8)]
            exact hj
          · refine h4 (8 + j) u ?_
            rw [encs_cons, List.getElem?_append_right (by simp [Du.cells])]
            simpa [Du.cells] using hj
      obtain ⟨g, rfl, _, _⟩ := hdr _ _ HH.out.r2
      obtain ⟨_, e0, hc, _⟩ := hdr _ _ HH.out.r2
      cases e0
      have c7 := hc 7 _ rfl
      replace hdr := Lib.hid hdr
      clear hA
      (try clear cc1_); (try clear cc2_); (try clear cc3_); (try clear cc4_); (try clear cc5_); (try clear cc6_); (try clear cc7_)
      have cc1_ := HH.out.cells
      by_cases hd : dt ≤ now
      · have c0 := hc 0 _ rfl
        have c1 := hc 1 _ rfl
        have c2 := hc 2 _ rfl
        have c3 := hc 3 _ rfl
        have c4 := hc 4 _ rfl
        have c5 := hc 5 _ rfl
        have c6 := hc 6 _ rfl
        clear hc
        have hp1 : pre.length ≤ 1000000 := by have := hl.out; omega
        have hl1 : l.length ≤ 1000000 := by have := hl.out; omega
        replace HH := Lib.hid HH.out.r3
        go_wp2_with (with_reducible refine stop_bs ?_)
        refine Stop.go ?_
        refine wpList_bs1_own HH.out #[_, _, _, _, _, _, _] 7 56 Try.underlying28 (by kernel_rfl) (by decide) (by decide) rfl rfl ?_
        intro g_ w28_ H9_
        replace HH := Lib.hid H9_
        clear H9_
        go_wp2_with (with_reducible refine stop_app ?_)
        refine Stop.go ?_
        refine wpList_app1_own rfl _ _ 28 rfl 42 7 56 Try.underlying28 (by kernel_rfl) (by decide) (pre.length) rfl rfl HH.out (flat_pks_len pre) rfl (by repeat (first | (refine List.forall_mem_cons.2 ⟨(by first | with_reducible assumption | rfl), ?_⟩) | exact fun _ h => absurd h List.not_mem_nil)) (by simp only [maxLen]; omega) (by omega) ?_
        intro v5 w29_ H9_
        obtain ⟨A_v5, n_v5, c_v5, rfl⟩ := H9_.slc_isv
        replace HH := Lib.hid H9_
        clear H9_
        clear c0 c1 c2 c3 c4 c5 c6 c7
        (try clear cc1_); (try clear cc2_); (try clear cc3_); (try clear cc4_); (try clear cc5_); (try clear cc6_); (try clear cc7_)
        have cc2_ := HH.out.r2.cells
        have hone := encs_one Du.one l
        replace hone := Lib.hid hone
        by_cases hcap1 : cap = 1
        · subst hcap1
          obtain rfl : l = [] := List.eq_nil_of_length_eq_zero (by omega)
          go_wp2_with (with_reducible refine stop_bs ?_)
          refine Stop.go ?_
          refine wpList_bs0_own HH.out 8 64 Try.underlying104 (by kernel_rfl) ?_
          intro g0 w30_ H9_
          replace HH := Lib.hid H9_
          clear H9_
          (try clear cc1_); (try clear cc2_); (try clear cc3_); (try clear cc4_); (try clear cc5_); (try clear cc6_); (try clear cc7_)
          have cc3_ := HH.out.r3.cells
          go_wp2_with (with_reducible refine stop_app ?_)
          refine Stop.go ?_
          refine wpList_append_slc rfl _ _ 104 rfl 189 8 64 Try.underlying104 (by kernel_rfl) (by decide) rfl (HH.out) rfl ((show ([] : List Value).length = 0 * 8 from rfl)) ((show srcAt _ _ 0 8 [] from ⟨rfl, .inl rfl⟩)) ((by intro u hu; cases hu)) (by simp only [maxLen]; omega) (by omega) ?_
          intro v6 w31_ H9_
          obtain ⟨A_v6, n_v6, c_v6, rfl⟩ := H9_.slc_isv
          replace HH := Lib.hid H9_
          clear H9_
          (try clear cc1_); (try clear cc2_); (try clear cc3_); (try clear cc4_); (try clear cc5_); (try clear cc6_); (try clear cc7_)
          have cc3_ := HH.out.r3.cells
          go_wp2_with (with_reducible refine stop_st ?_)
          refine Stop.go ?_
          refine wpList_store1_own (v := .slice A_v6 n_v6 c_v6) (k := 10) rfl rfl HH.out.r3 (by kernel_rfl) (by simp) (by first | rfl | assumption) ?_
          intro w32_ H9_
          replace HH := Lib.hid H9_
          clear H9_
          simp only [List.setIfInBounds_toArray, List.set_cons_succ, List.set_cons_zero] at HH
          go_wp2_with fail
          go_roundg 0
          case measure => have := hk.out; simp at this; omega
          case rel =>
            refine ⟨[], pre ++ [⟨pn, ps, p3, p4, p5, p6, p7⟩], rfl, by simp; omega, by rw [ho.out, ((Bo.out_cons now ⟨⟨pn, ps, p3, p4, p5, p6, p7⟩, dt⟩ []).1 (show dt ≤ now by omega)).1]; simp, by rw [hr.out, ((Bo.out_cons now ⟨⟨pn, ps, p3, p4, p5, p6, p7⟩, dt⟩ []).1 (show dt ≤ now by omega)).2], ?_⟩
            have H9 := HH.out
            rw [show (pks pre).flatten ++ [.int .u64 pn, .int .u64 ps, .int .u64 p3, .int .u64 p4, .int .u64 p5, .int .u64 p6, .bool p7] = (pks (pre ++ [⟨pn, ps, p3, p4, p5, p6, p7⟩])).flatten from (flat_pks_snoc _ (⟨pn, ps, p3, p4, p5, p6, p7⟩ : Pk)).symm] at H9
            have H10 := ((Own.pm (H9) (by repeat (first | with_reducible exact Pm.refl _ | with_reducible exact Pm.nil _ | with_reducible refine Pm.here ?_ | with_reducible refine Pm.at2 ?_ | with_reducible refine Pm.at3 ?_ | with_reducible refine Pm.at4 ?_ | with_reducible refine Pm.at5 ?_ | with_reducible refine Pm.at6 ?_ | with_reducible refine Pm.at7 ?_ | with_reducible refine Pm.at8 ?_ | with_reducible refine Pm.skip ?_))) : Own ε _ (pts b _ :: slc 189 8 _ _ :: slc 42 7 _ _ :: R))
            exact (Own.rboxL_mk (s := { s with l := [] }) H10).r2
        · go_wp2_with (with_reducible refine stop_bs ?_)
          refine Stop.go ?_
          refine wpList_bs0_own HH.out 8 64 Try.underlying104 (by kernel_rfl) ?_
          intro g0 w33_ H9_
          replace HH := Lib.hid H9_
          clear H9_
          (try clear cc1_); (try clear cc2_); (try clear cc3_); (try clear cc4_); (try clear cc5_); (try clear cc6_); (try clear cc7_)
          have cc3_ := HH.out.r3.cells
          obtain ⟨_, e, _, hs⟩ := hdr.out _ _ ((Own.pm (HH.out) (by repeat (first | with_reducible exact Pm.refl _ | with_reducible exact Pm.nil _ | with_reducible refine Pm.here ?_ | with_reducible refine Pm.at2 ?_ | with_reducible refine Pm.at3 ?_ | with_reducible refine Pm.at4 ?_ | with_reducible refine Pm.at5 ?_ | with_reducible refine Pm.at6 ?_ | with_reducible refine Pm.at7 ?_ | with_reducible refine Pm.at8 ?_ | with_reducible refine Pm.skip ?_))) : Own ε _ (slcE (.slice _ (l.length + 1) cap) _ :: R))
          cases e
          replace hs := Lib.hid hs
          go_wp2_with (with_reducible refine stop_app ?_)
          refine Stop.go ?_
          refine wpList_append_slc rfl _ _ 104 rfl 189 8 64 Try.underlying104 (by kernel_rfl) (by decide) rfl (HH.out) rfl ((show ([] : List Value).length = 0 * 8 from rfl)) (hs.out) (hone.out) (by simp only [maxLen]; omega) (by omega) ?_
          intro v6 w34_ H9_
          obtain ⟨A_v6, n_v6, c_v6, rfl⟩ := H9_.slc_isv
          replace HH := Lib.hid H9_
          clear H9_
          clear hs
          (try clear cc1_); (try clear cc2_); (try clear cc3_); (try clear cc4_); (try clear cc5_); (try clear cc6_); (try clear cc7_)
          have cc3_ := HH.out.r3.cells
          go_wp2_with (with_reducible refine stop_st ?_)
          refine Stop.go ?_
          refine wpList_store1_own (v := .slice A_v6 n_v6 c_v6) (k := 10) rfl rfl HH.out.r3 (by kernel_rfl) (by simp) (by first | rfl | assumption) ?_
          intro w35_ H9_
          replace HH := Lib.hid H9_
          clear H9_
          simp only [List.setIfInBounds_toArray, List.set_cons_succ, List.set_cons_zero] at HH
          go_wp2_with fail
          go_roundg l.length
          case measure => have := hk.out; simp at this; omega
          case rel =>
            refine ⟨l, pre ++ [⟨pn, ps, p3, p4, p5, p6, p7⟩], rfl, by simp; omega, by rw [ho.out, ((Bo.out_cons now ⟨⟨pn, ps, p3, p4, p5, p6, p7⟩, dt⟩ l).1 (show dt ≤ now by omega)).1]; simp, by rw [hr.out, ((Bo.out_cons now ⟨⟨pn, ps, p3, p4, p5, p6, p7⟩, dt⟩ l).1 (show dt ≤ now by omega)).2], ?_⟩
            have H9 := HH.out
            rw [show (pks pre).flatten ++ [.int .u64 pn, .int .u64 ps, .int .u64 p3, .int .u64 p4, .int .u64 p5, .int .u64 p6, .bool p7] = (pks (pre ++ [⟨pn, ps, p3, p4, p5, p6, p7⟩])).flatten from (flat_pks_snoc _ (⟨pn, ps, p3, p4, p5, p6, p7⟩ : Pk)).symm] at H9
            have H10 := ((Own.pm (H9) (by repeat (first | with_reducible exact Pm.refl _ | with_reducible exact Pm.nil _ | with_reducible refine Pm.here ?_ | with_reducible refine Pm.at2 ?_ | with_reducible refine Pm.at3 ?_ | with_reducible refine Pm.at4 ?_ | with_reducible refine Pm.at5 ?_ | with_reducible refine Pm.at6 ?_ | with_reducible refine Pm.at7 ?_ | with_reducible refine Pm.at8 ?_ | with_reducible refine Pm.skip ?_))) : Own ε _ (pts b _ :: slc 189 8 _ _ :: slc 42 7 _ _ :: R))
            exact (Own.rboxL_mk (s := { s with l := l }) H10).r2
      · clear hc
        go_wp2_with fail
        go_ret
        have e1 := ho.out
        have e2 := hr.out
        rw [((Bo.out_cons now ⟨⟨pn, ps, p3, p4, p5, p6, p7⟩, dt⟩ l).2 (show ¬ dt ≤ now by omega)).1, List.append_nil] at e1
        rw [((Bo.out_cons now ⟨⟨pn, ps, p3, p4, p5, p6, p7⟩, dt⟩ l).2 (show ¬ dt ≤ now by omega)).2] at e2
        refine ⟨_, rfl, ?_⟩
        rw [show (s.out now) = (pre, { s with l := ⟨⟨pn, ps, p3, p4, p5, p6, p7⟩, dt⟩ :: l }) by unfold Bo.out; rw [e1, e2]]
        exact (Own.rboxL_mk (s := { s with l := ⟨⟨pn, ps, p3, p4, p5, p6, p7⟩, dt⟩ :: l }) HH.out).r2
end
end Go.Proofs.Ytklohjjkpobneaa
