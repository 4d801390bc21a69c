/- bucket, and its reference: tokens of a link. -/
import Derived.Test.YtklohjjkpobneaaFix
import Derived.Test.YtklohjjkpobneaaMix
namespace Go.Proofs.Ytklohjjkpobneaa
open Go.RowKit
structure Bkt where
  rate : Int
  now : Int
  tok : Int
  was : Int
def Bkt.new (rate : Int) : Bkt := ⟨rate, 0, 0, 0⟩
def Bkt.to (s : Bkt) (t : Int) : Bkt := if t ≤ s.now then s else ⟨s.rate, t, sadd s.tok (smul s.rate (t - s.now)), s.was⟩
def Bkt.take (s : Bkt) (n : Int) : Bool × Bkt := if s.tok < smul n 1000000 then (false, s) else (true, ⟨s.rate, s.now, s.tok - smul n 1000000, s.was⟩)
def Bkt.waste (s : Bkt) (n : Int) : Int × Bkt := if n ≤ s.tok then (n, ⟨s.rate, s.now, s.tok - n, sadd s.was n⟩) else (s.tok, ⟨s.rate, s.now, 0, sadd s.was s.tok⟩)
def Bkt.Ok (s : Bkt) : Prop := U s.rate ∧ U s.now ∧ U s.tok ∧ U s.was
theorem U_lit {n : Int} (h0 : 0 ≤ n) (h1 : n ≤ 1099511627776) : U n := ⟨h0, by omega⟩
theorem U_diff {a b : Int} (ha : U a) (hb : U b) (h : b ≤ a) : U (a - b) := by unfold U at *; omega
theorem Bkt.ok_new {r : Int} (h : U r) : (Bkt.new r).Ok := ⟨h, U_zero, U_zero, U_zero⟩
theorem Bkt.ok_to {s : Bkt} {t : Int} (ht : U t) (h : s.Ok) : (s.to t).Ok := by
  obtain ⟨h1, h2, h3, h4⟩ := h
  unfold Bkt.to; split
  · exact ⟨h1, h2, h3, h4⟩
  · exact ⟨h1, ht, U_sadd h3 (U_smul h1 (U_diff ht h2 (by omega))), h4⟩
theorem Bkt.ok_take {s : Bkt} {n : Int} (hn : U n) (h : s.Ok) : (s.take n).2.Ok := by
  obtain ⟨h1, h2, h3, h4⟩ := h
  have := U_smul hn (U_lit (n := 1000000) (by decide) (by decide))
  unfold Bkt.take; split
  · exact ⟨h1, h2, h3, h4⟩
  · exact ⟨h1, h2, U_diff h3 this (by omega), h4⟩
theorem Bkt.ok_waste {s : Bkt} {n : Int} (hn : U n) (h : s.Ok) : (s.waste n).2.Ok := by
  obtain ⟨h1, h2, h3, h4⟩ := h
  unfold Bkt.waste; split
  · exact ⟨h1, h2, U_diff h3 hn (by omega), U_sadd h4 hn⟩
  · exact ⟨h1, h2, U_zero, U_sadd h4 h3⟩
theorem Bkt.U_waste {s : Bkt} {n : Int} (hn : U n) (h : s.Ok) : U (s.waste n).1 := by
  unfold Bkt.waste; split
  · exact hn
  · exact h.2.2.1
def bkt (b : Nat) (s : Bkt) : Asn := pts b (.cells #[.int .u64 s.tok, .int .u64 s.was, .int .u64 s.rate, .int .u64 s.now] 233 (0, 0))
def rbkt (b : Nat) (s : Bkt) : Asn := pts b (.cells #[.int .u64 s.rate, .int .u64 s.now, .int .u64 s.tok, .int .u64 s.was] 101 (0, 0))
section
variable (ε w : World) (R : List Asn) (b : Nat)
theorem bktNew_c (r : Int) {L : List Asn} (H : Own ε w L) :
    Calls Try.prog 97 #[.int .u64 r] w fun e w' => ∃ b, e = .returned (.pointer (some ⟨b, 0, none⟩)) ∧ Own ε w' (bkt b (Bkt.new r) :: L) := by
  have HH := Lib.hid H; clear H
  go_enter Try.func97, Try.ntmps97
  go_wp2_with fail
  go_ret
  exact ⟨_, rfl, HH.out.alloc _⟩
set_option maxHeartbeats 400000 in
theorem bktTo_c (s : Bkt) (t : Int) (hs : s.Ok) (ht : U t) (H : Own ε w (bkt b s :: R)) :
    Calls Try.prog 100 #[.pointer (some ⟨b, 0, none⟩), .int .u64 t] w fun e w' => e = .returned (.tuple #[]) ∧ Own ε w' (bkt b (s.to t) :: R) := by
  obtain ⟨r, now, tok, was⟩ := s
  obtain ⟨h1, h2, h3, h4⟩ := hs
  simp only at h1 h2 h3 h4
  obtain ⟨c0, f0⟩ := H.cells
  have hlt := H.lt
  have HH := Lib.hid H; clear H
  by_cases h : t ≤ now
  · rw [show (⟨r, now, tok, was⟩ : Bkt).to t = ⟨r, now, tok, was⟩ by simp [Bkt.to, h]]
    go_enter Try.func100, Try.ntmps100
    go_wp2_with fail
    first | go_end0 | ((try simp only [Exit.inBlock, Exit.then]); refine bodyPost_ret (results_none rfl _ _ _) rfl ?_)
    exact ⟨rfl, HH.out⟩
  · rw [show (⟨r, now, tok, was⟩ : Bkt).to t = ⟨r, t, sadd tok (smul r (t - now)), was⟩ by simp [Bkt.to, h]]
    have hd := U_diff ht h2 (by omega)
    have hm := U_smul h1 hd
    have hw : IntKind.u64.wrap (t - now) = t - now := by rw [IntKind.wrap_u64]; unfold U at hd; omega
    have hd1 := hd.1
    have hd2 := hd.2
    have ht1 := ht.1
    have ht2 := ht.2
    have hn1 := h2.1
    go_enter Try.func100, Try.ntmps100
    go_wp2_with fail
    clear c0 f0 hlt
    refine wp_region_mix (fun w' => w'.cell? ⟨b, 0, none⟩ = some (.int .u64 tok) ∧ w'.cell? ⟨b, 2, none⟩ = some (.int .u64 r) ∧ w'.cell? ⟨b, 3, none⟩ = some (.int .u64 now)) (some 22) (by kernel_rfl) ?_
    change wpMix _ _ _ _ _ _ _ _ _ w.drew
    replace HH := Lib.hid HH.out.drew
    generalize w.drew = w2 at *
    obtain ⟨c0, f0⟩ := HH.out.cells
    have hlt := HH.out.lt
    have HS : (fun w' : World => w'.cell? ⟨b, 0, none⟩ = some (.int .u64 tok) ∧ w'.cell? ⟨b, 2, none⟩ = some (.int .u64 r) ∧ w'.cell? ⟨b, 3, none⟩ = some (.int .u64 now)) w2 := ⟨c0 0, c0 2, c0 3⟩
    refine mix_q (i := 0) rfl (by kernel_rfl) (fun _ _ _ _ h => h) HS (fun K hK => ?_)
    go_simp
    first | (refine hK _ ?_; clear hK K) | (apply Exists.intro; refine ⟨?_, hK _ ?_⟩; (focus (intros; first | rfl | exact ⟨rfl, rfl⟩ | (go_simp; first | rfl | exact ⟨rfl, rfl⟩))); clear hK K)
    refine mix_q (i := 1) rfl (by kernel_rfl) (fun _ _ _ _ h => h) HS (fun K hK => ?_)
    go_simp
    first | (refine hK _ ?_; clear hK K) | (apply Exists.intro; refine ⟨?_, hK _ ?_⟩; (focus (intros; first | rfl | exact ⟨rfl, rfl⟩ | (go_simp; first | rfl | exact ⟨rfl, rfl⟩))); clear hK K)
    refine mix_q (i := 2) rfl (by kernel_rfl) (fun _ _ _ _ h => h) HS (fun K hK => ?_)
    go_simp
    first | (refine hK _ ?_; clear hK K) | (apply Exists.intro; refine ⟨?_, hK _ ?_⟩; (focus (intros; first | rfl | exact ⟨rfl, rfl⟩ | (go_simp; first | rfl | exact ⟨rfl, rfl⟩))); clear hK K)
    refine mix_q (i := 3) rfl (by kernel_rfl) (fun _ _ _ _ h => h) HS (fun K hK => ?_)
    go_simp
    first | (refine hK _ ?_; clear hK K) | (apply Exists.intro; refine ⟨?_, hK _ ?_⟩; (focus (intros; first | rfl | exact ⟨rfl, rfl⟩ | (go_simp; first | rfl | exact ⟨rfl, rfl⟩))); clear hK K)
    refine mix_q (i := 4) rfl (by kernel_rfl) (fun _ _ _ _ h => h) HS (fun K hK => ?_)
    go_simp
    first | (refine hK _ ?_; clear hK K) | (apply Exists.intro; refine ⟨?_, hK _ ?_⟩; (focus (intros; first | rfl | exact ⟨rfl, rfl⟩ | (go_simp; first | rfl | exact ⟨rfl, rfl⟩))); clear hK K)
    refine mix_q (i := 5) rfl (by kernel_rfl) (fun _ _ _ _ h => h) HS (fun K hK => ?_)
    go_simp
    first | (refine hK _ ?_; clear hK K) | (apply Exists.intro; refine ⟨?_, hK _ ?_⟩; (focus (intros; first | rfl | exact ⟨rfl, rfl⟩ | (go_simp; first | rfl | exact ⟨rfl, rfl⟩))); clear hK K)
    refine mix_q (i := 6) rfl (by kernel_rfl) (fun _ _ _ _ h => h) HS (fun K hK => ?_)
    go_simp
    first | (refine hK _ ?_; clear hK K) | (apply Exists.intro; refine ⟨?_, hK _ ?_⟩; (focus (intros; first | rfl | exact ⟨rfl, rfl⟩ | (go_simp; first | rfl | exact ⟨rfl, rfl⟩))); clear hK K)
    refine mix_q (i := 7) rfl (by kernel_rfl) (fun _ _ _ _ h => h) HS (fun K hK => ?_)
    go_simp
    first | (refine hK _ ?_; clear hK K) | (apply Exists.intro; refine ⟨?_, hK _ ?_⟩; (focus (intros; first | rfl | exact ⟨rfl, rfl⟩ | (go_simp; first | rfl | exact ⟨rfl, rfl⟩))); clear hK K)
    refine mix_q (i := 8) rfl (by kernel_rfl) (fun _ _ _ _ h => h) HS (fun K hK => ?_)
    go_simp
    first | (refine hK _ ?_; clear hK K) | (apply Exists.intro; refine ⟨?_, hK _ ?_⟩; (focus (intros; first | rfl | exact ⟨rfl, rfl⟩ | (go_simp; first | rfl | exact ⟨rfl, rfl⟩))); clear hK K)
    refine mix_q (i := 9) rfl (by kernel_rfl) (fun _ _ _ _ h => h) HS (fun K hK => ?_)
    go_simp
    first | (refine hK _ ?_; clear hK K) | (apply Exists.intro; refine ⟨?_, hK _ ?_⟩; (focus (intros; first | rfl | exact ⟨rfl, rfl⟩ | (go_simp; first | rfl | exact ⟨rfl, rfl⟩))); clear hK K)
    refine mix_q (i := 10) rfl (by kernel_rfl) (fun _ _ _ _ h => h) HS (fun K hK => ?_)
    go_simp
    first | (refine hK _ ?_; clear hK K) | (apply Exists.intro; refine ⟨?_, hK _ ?_⟩; (focus (intros; first | rfl | exact ⟨rfl, rfl⟩ | (go_simp; first | rfl | exact ⟨rfl, rfl⟩))); clear hK K)
    refine mix_q (i := 11) rfl (by kernel_rfl) (fun _ _ _ _ h => h) HS (fun K hK => ?_)
    go_simp
    first | (refine hK _ ?_; clear hK K) | (apply Exists.intro; refine ⟨?_, hK _ ?_⟩; (focus (intros; first | rfl | exact ⟨rfl, rfl⟩ | (go_simp; first | rfl | exact ⟨rfl, rfl⟩))); clear hK K)
    refine mix_q (i := 12) rfl (by kernel_rfl) (fun _ _ _ _ h => h) HS (fun K hK => ?_)
    go_simp
    first | (refine hK _ ?_; clear hK K) | (apply Exists.intro; refine ⟨?_, hK _ ?_⟩; (focus (intros; first | rfl | exact ⟨rfl, rfl⟩ | (go_simp; first | rfl | exact ⟨rfl, rfl⟩))); clear hK K)
    refine mix_q (i := 13) rfl (by kernel_rfl) (fun _ _ _ _ h => h) HS (fun K hK => ?_)
    go_simp
    first | (refine hK _ ?_; clear hK K) | (apply Exists.intro; refine ⟨?_, hK _ ?_⟩; (focus (intros; first | rfl | exact ⟨rfl, rfl⟩ | (go_simp; first | rfl | exact ⟨rfl, rfl⟩))); clear hK K)
    refine mix_q (i := 14) rfl (by kernel_rfl) (fun _ _ _ _ h => h) HS (fun K hK => ?_)
    go_simp
    first | (refine hK _ ?_; clear hK K) | (apply Exists.intro; refine ⟨?_, hK _ ?_⟩; (focus (intros; first | rfl | exact ⟨rfl, rfl⟩ | (go_simp; first | rfl | exact ⟨rfl, rfl⟩))); clear hK K)
    refine mix_q (i := 15) rfl (by kernel_rfl) (fun _ _ _ _ h => h) HS (fun K hK => ?_)
    go_simp
    first | (refine hK _ ?_; clear hK K) | (apply Exists.intro; refine ⟨?_, hK _ ?_⟩; (focus (intros; first | rfl | exact ⟨rfl, rfl⟩ | (go_simp; first | rfl | exact ⟨rfl, rfl⟩))); clear hK K)
    refine mix_q (i := 16) rfl (by kernel_rfl) (fun _ _ _ _ h => h) HS (fun K hK => ?_)
    go_simp
    apply Exists.intro
    refine ⟨?_, hK _ ?_⟩
    · (intro wx; intros; exact fixMul_c wx r (t - now) h1 hd)
    clear hK K
    refine mix_l (i := 17) rfl (by kernel_rfl) (fun K hK => ?_)
    go_simp
    have H3 := Lib.hid (HH.out.alloc (.cells #[.int .u64 tok, .int .u64 (smul r (t - now))] 27))
    generalize w2.alloc (.cells #[.int .u64 tok, .int .u64 (smul r (t - now))] 27) = w3 at *
    generalize w2.heap.size = sb at *
    clear HS
    have HS : (fun w' : World => w'.cell? ⟨b, 0, none⟩ = some (.int .u64 tok) ∧ w'.cell? ⟨b, 2, none⟩ = some (.int .u64 r) ∧ w'.cell? ⟨b, 3, none⟩ = some (.int .u64 now)) w3 := (let q := (H3.out.r2).cells.1; ⟨q 0, q 2, q 3⟩)
    refine hK _ _ HS ?_
    clear hK K
    obtain ⟨c1, _⟩ := H3.out.cells
    refine mix_l (i := 18) rfl (by kernel_rfl) (fun K hK => ?_)
    go_simp
    refine (fixAdd2_c _ _ tok (smul r (t - now)) h3 hm (c1 0) (c1 1)).mono ?_
    rintro e w' ⟨rfl, rfl⟩
    refine hK _ _ HS ?_
    clear hK K
    refine mix_q (i := 19) rfl (by kernel_rfl) (fun _ _ _ _ h => h) HS (fun K hK => ?_)
    go_simp
    first | (refine hK _ ?_; clear hK K) | (apply Exists.intro; refine ⟨?_, hK _ ?_⟩; (focus (intros; first | rfl | exact ⟨rfl, rfl⟩ | (go_simp; first | rfl | exact ⟨rfl, rfl⟩))); clear hK K)
    refine mix_q (i := 20) rfl (by kernel_rfl) (fun _ _ _ _ h => h) HS (fun K hK => ?_)
    go_simp
    first | (refine hK _ ?_; clear hK K) | (apply Exists.intro; refine ⟨?_, hK _ ?_⟩; (focus (intros; first | rfl | exact ⟨rfl, rfl⟩ | (go_simp; first | rfl | exact ⟨rfl, rfl⟩))); clear hK K)
    refine mix_q (i := 21) rfl (by kernel_rfl) (fun _ _ _ _ h => h) HS (fun K hK => ?_)
    go_simp
    first | (refine hK _ ?_; clear hK K) | (apply Exists.intro; refine ⟨?_, hK _ ?_⟩; (focus (intros; first | rfl | exact ⟨rfl, rfl⟩ | (go_simp; first | rfl | exact ⟨rfl, rfl⟩))); clear hK K)
    clear c0 f0 c1 hlt
    obtain ⟨c0, f0⟩ := H3.out.r2.cells
    refine mix_e (last := 22) rfl (by kernel_rfl) (fun K hK => ?_)
    go_simp
    refine hK _ _ ?_
    clear hK K HS
    refine mix_done (by kernel_rfl) ?_ _
    go_wp2_with fail
    first | go_end0 | ((try simp only [Exit.inBlock, Exit.then]); refine bodyPost_ret (results_none rfl _ _ _) rfl ?_)
    exact ⟨rfl, ((H3.out.r2.set 0 (.int .u64 (sadd tok (smul r (t - now))))).set 3 (.int .u64 t)).r2.tail⟩
theorem bktTo_nil (t : Int) : Calls Try.prog 100 #[.pointer none, .int .u64 t] w fun e w' => e = .returned (.tuple #[]) ∧ w = w' := by
  go_enter Try.func100, Try.ntmps100
  go_wp2_with fail
  first | go_end0 | ((try simp only [Exit.inBlock, Exit.then]); refine bodyPost_ret (results_none rfl _ _ _) rfl ?_)
  exact ⟨rfl, rfl⟩
set_option maxHeartbeats 400000 in
theorem bktTake_c (s : Bkt) (n : Int) (hs : s.Ok) (hn : U n) (H : Own ε w (bkt b s :: R)) :
    Calls Try.prog 163 #[.pointer (some ⟨b, 0, none⟩), .int .u64 n] w fun e w' => e = .returned (.bool (s.take n).1) ∧ Own ε w' (bkt b (s.take n).2 :: R) := by
  obtain ⟨r, now, tok, was⟩ := s
  obtain ⟨h1, h2, h3, h4⟩ := hs
  simp only at h1 h2 h3 h4
  obtain ⟨c0, f0⟩ := H.cells
  have HH := Lib.hid H; clear H
  have hm := U_smul hn (U_lit (n := 1000000) (by decide) (by decide))
  have k := fun w => fixMul_c w n 1000000 hn (U_lit (by decide) (by decide))
  by_cases h : tok < smul n 1000000
  · rw [show (⟨r, now, tok, was⟩ : Bkt).take n = (false, ⟨r, now, tok, was⟩) by simp [Bkt.take, h]]
    generalize smul n 1000000 = m at *
    go_enter Try.func163, Try.ntmps163
    go_wp2_with fail
    refine (k w).mono ?_
    rintro e w' ⟨rfl, rfl⟩
    go_wp2_with fail
    go_ret
    exact ⟨rfl, HH.out⟩
  · rw [show (⟨r, now, tok, was⟩ : Bkt).take n = (true, ⟨r, now, tok - smul n 1000000, was⟩) by simp [Bkt.take, h]]
    generalize smul n 1000000 = m at *
    have hm1 := hm.1
    have hm2 := hm.2
    have hk1 := h3.1
    have hk2 := h3.2
    go_enter Try.func163, Try.ntmps163
    go_wp2_with fail
    refine (k w).mono ?_
    rintro e w' ⟨rfl, rfl⟩
    go_wp2_with fail
    go_ret
    exact ⟨rfl, HH.out.set 0 (.int .u64 (tok - m))⟩
theorem bktTake_nil (n : Int) (hn : U n) : Calls Try.prog 163 #[.pointer none, .int .u64 n] w fun e w' => e = .returned (.bool false) ∧ w = w' := by
  have k := fun w => fixMul_c w n 1000000 hn (U_lit (by decide) (by decide))
  go_enter Try.func163, Try.ntmps163
  go_wp2_with fail
  refine (k w).mono ?_
  rintro e w' ⟨rfl, rfl⟩
  go_wp2_with fail
  go_ret
  exact ⟨rfl, rfl⟩
set_option maxHeartbeats 400000 in
theorem bktWaste_c (s : Bkt) (n : Int) (hs : s.Ok) (hn : U n) (H : Own ε w (bkt b s :: R)) :
    Calls Try.prog 103 #[.pointer (some ⟨b, 0, none⟩), .int .u64 n] w fun e w' => e = .returned (.int .u64 (s.waste n).1) ∧ Own ε w' (bkt b (s.waste n).2 :: R) := by
  obtain ⟨r, now, tok, was⟩ := s
  obtain ⟨h1, h2, h3, h4⟩ := hs
  simp only at h1 h2 h3 h4
  obtain ⟨c0, f0⟩ := H.cells
  have hlt := H.lt
  have HH := Lib.hid H; clear H
  have hn1 := hn.1
  have hn2 := hn.2
  have hk1 := h3.1
  have hk2 := h3.2
  by_cases h : n ≤ tok
  · rw [show (⟨r, now, tok, was⟩ : Bkt).waste n = (n, ⟨r, now, tok - n, sadd was n⟩) by simp [Bkt.waste, h]]
    go_enter Try.func103, Try.ntmps103
    go_wp2_with fail
    have H3 := Lib.hid ((HH.out.set 0 (.int .u64 (tok - n))).alloc_at (.cells #[.int .u64 was, .int .u64 n] 27) (size_setCell _ _ _))
    generalize (w.setCell _ _).alloc _ = w3 at *
    generalize w.heap.size = sb at *
    obtain ⟨c1, _⟩ := H3.out.cells
    refine (fixAdd2_c w3 sb was n h4 hn (c1 0) (c1 1)).mono ?_
    rintro e w' ⟨rfl, rfl⟩
    clear c0 f0 c1 hlt
    obtain ⟨c0, f0⟩ := H3.out.r2.cells
    go_wp2_with fail
    go_ret
    exact ⟨rfl, (H3.out.r2.set 1 (.int .u64 (sadd was n))).r2.tail⟩
  · rw [show (⟨r, now, tok, was⟩ : Bkt).waste n = (tok, ⟨r, now, 0, sadd was tok⟩) by simp [Bkt.waste, h]]
    go_enter Try.func103, Try.ntmps103
    go_wp2_with fail
    have H3 := Lib.hid ((HH.out.set 0 (.int .u64 0)).alloc_at (.cells #[.int .u64 was, .int .u64 tok] 27) (size_setCell _ _ _))
    generalize (w.setCell _ _).alloc _ = w3 at *
    generalize w.heap.size = sb at *
    obtain ⟨c1, _⟩ := H3.out.cells
    refine (fixAdd2_c w3 sb was tok h4 h3 (c1 0) (c1 1)).mono ?_
    rintro e w' ⟨rfl, rfl⟩
    clear c0 f0 c1 hlt
    obtain ⟨c0, f0⟩ := H3.out.r2.cells
    go_wp2_with fail
    go_ret
    exact ⟨rfl, (H3.out.r2.set 1 (.int .u64 (sadd was tok))).r2.tail⟩
theorem bktWaste_nil (n : Int) : Calls Try.prog 103 #[.pointer none, .int .u64 n] w fun e w' => e = .returned (.int .u64 0) ∧ w = w' := by
  go_enter Try.func103, Try.ntmps103
  go_wp2_with fail
  go_ret
  exact ⟨rfl, rfl⟩
theorem bktTokens_c (s : Bkt) (H : Own ε w (bkt b s :: R)) :
    Calls Try.prog 116 #[.pointer (some ⟨b, 0, none⟩)] w fun e w' => e = .returned (.int .u64 s.tok) ∧ w = w' := by
  obtain ⟨r, now, tok, was⟩ := s
  obtain ⟨c0, f0⟩ := H.cells
  clear H
  go_enter Try.func116, Try.ntmps116
  go_wp2_with fail
  go_ret
  exact ⟨rfl, rfl⟩
theorem bktTokens_nil : Calls Try.prog 116 #[.pointer none] w fun e w' => e = .returned (.int .u64 0) ∧ w = w' := by
  go_enter Try.func116, Try.ntmps116
  go_wp2_with fail
  go_ret
  exact ⟨rfl, rfl⟩
theorem bktWasted_c (s : Bkt) (H : Own ε w (bkt b s :: R)) :
    Calls Try.prog 117 #[.pointer (some ⟨b, 0, none⟩)] w fun e w' => e = .returned (.int .u64 s.was) ∧ w = w' := by
  obtain ⟨r, now, tok, was⟩ := s
  obtain ⟨c0, f0⟩ := H.cells
  clear H
  go_enter Try.func117, Try.ntmps117
  go_wp2_with fail
  go_ret
  exact ⟨rfl, rfl⟩
theorem bktWasted_nil : Calls Try.prog 117 #[.pointer none] w fun e w' => e = .returned (.int .u64 0) ∧ w = w' := by
  go_enter Try.func117, Try.ntmps117
  go_wp2_with fail
  go_ret
  exact ⟨rfl, rfl⟩
set_option maxHeartbeats 400000 in
theorem rbktTo_c (s : Bkt) (t : Int) (hs : s.Ok) (ht : U t) (H : Own ε w (rbkt b s :: R)) :
    Calls Try.prog 170 #[.pointer (some ⟨b, 0, none⟩), .int .u64 t] w fun e w' => e = .returned (.tuple #[]) ∧ Own ε w' (rbkt b (s.to t) :: R) := by
  obtain ⟨r, now, tok, was⟩ := s
  obtain ⟨h1, h2, h3, h4⟩ := hs
  simp only at h1 h2 h3 h4
  obtain ⟨c0, f0⟩ := H.cells
  have HH := Lib.hid H; clear H
  by_cases h : t ≤ now
  · rw [show (⟨r, now, tok, was⟩ : Bkt).to t = ⟨r, now, tok, was⟩ by simp [Bkt.to, h]]
    go_enter Try.func170, Try.ntmps170
    go_wp2_with fail
    first | go_end0 | ((try simp only [Exit.inBlock, Exit.then]); refine bodyPost_ret (results_none rfl _ _ _) rfl ?_)
    exact ⟨rfl, HH.out⟩
  · rw [show (⟨r, now, tok, was⟩ : Bkt).to t = ⟨r, t, sadd tok (smul r (t - now)), was⟩ by simp [Bkt.to, h]]
    have hd := U_diff ht h2 (by omega)
    have hm := U_smul h1 hd
    have hd1 := hd.1
    have hd2 := hd.2
    have ht1 := ht.1
    have ht2 := ht.2
    have hn1 := h2.1
    have hw : IntKind.u64.wrap (t - now) = t - now := by rw [IntKind.wrap_u64]; unfold U at hd; omega
    have km := fun w => refMul_c w r (t - now) h1 hd
    have ka := fun w => refAdd_c w tok _ h3 hm
    go_enter Try.func170, Try.ntmps170
    go_wp2_with fail
    clear c0 f0
    refine wp_region_mix (fun w' => w'.cell? ⟨b, 0, none⟩ = some (.int .u64 r) ∧ w'.cell? ⟨b, 1, none⟩ = some (.int .u64 now) ∧ w'.cell? ⟨b, 2, none⟩ = some (.int .u64 tok)) (some 19) (by kernel_rfl) ?_
    change wpMix _ _ _ _ _ _ _ _ _ w.drew
    replace HH := Lib.hid HH.out.drew
    generalize w.drew = w2 at *
    obtain ⟨c0, f0⟩ := HH.out.cells
    have HS : (fun w' : World => w'.cell? ⟨b, 0, none⟩ = some (.int .u64 r) ∧ w'.cell? ⟨b, 1, none⟩ = some (.int .u64 now) ∧ w'.cell? ⟨b, 2, none⟩ = some (.int .u64 tok)) w2 := ⟨c0 0, c0 1, c0 2⟩
    refine mix_q (i := 0) rfl (by kernel_rfl) (fun _ _ _ _ h => h) HS (fun K hK => ?_)
    go_simp
    first | (refine hK _ ?_; clear hK K) | (apply Exists.intro; refine ⟨?_, hK _ ?_⟩; (focus (intros; first | rfl | exact ⟨rfl, rfl⟩ | (go_simp; first | rfl | exact ⟨rfl, rfl⟩))); clear hK K)
    refine mix_q (i := 1) rfl (by kernel_rfl) (fun _ _ _ _ h => h) HS (fun K hK => ?_)
    go_simp
    first | (refine hK _ ?_; clear hK K) | (apply Exists.intro; refine ⟨?_, hK _ ?_⟩; (focus (intros; first | rfl | exact ⟨rfl, rfl⟩ | (go_simp; first | rfl | exact ⟨rfl, rfl⟩))); clear hK K)
    refine mix_q (i := 2) rfl (by kernel_rfl) (fun _ _ _ _ h => h) HS (fun K hK => ?_)
    go_simp
    first | (refine hK _ ?_; clear hK K) | (apply Exists.intro; refine ⟨?_, hK _ ?_⟩; (focus (intros; first | rfl | exact ⟨rfl, rfl⟩ | (go_simp; first | rfl | exact ⟨rfl, rfl⟩))); clear hK K)
    refine mix_q (i := 3) rfl (by kernel_rfl) (fun _ _ _ _ h => h) HS (fun K hK => ?_)
    go_simp
    first | (refine hK _ ?_; clear hK K) | (apply Exists.intro; refine ⟨?_, hK _ ?_⟩; (focus (intros; first | rfl | exact ⟨rfl, rfl⟩ | (go_simp; first | rfl | exact ⟨rfl, rfl⟩))); clear hK K)
    refine mix_q (i := 4) rfl (by kernel_rfl) (fun _ _ _ _ h => h) HS (fun K hK => ?_)
    go_simp
    first | (refine hK _ ?_; clear hK K) | (apply Exists.intro; refine ⟨?_, hK _ ?_⟩; (focus (intros; first | rfl | exact ⟨rfl, rfl⟩ | (go_simp; first | rfl | exact ⟨rfl, rfl⟩))); clear hK K)
    refine mix_q (i := 5) rfl (by kernel_rfl) (fun _ _ _ _ h => h) HS (fun K hK => ?_)
    go_simp
    first | (refine hK _ ?_; clear hK K) | (apply Exists.intro; refine ⟨?_, hK _ ?_⟩; (focus (intros; first | rfl | exact ⟨rfl, rfl⟩ | (go_simp; first | rfl | exact ⟨rfl, rfl⟩))); clear hK K)
    refine mix_q (i := 6) rfl (by kernel_rfl) (fun _ _ _ _ h => h) HS (fun K hK => ?_)
    go_simp
    first | (refine hK _ ?_; clear hK K) | (apply Exists.intro; refine ⟨?_, hK _ ?_⟩; (focus (intros; first | rfl | exact ⟨rfl, rfl⟩ | (go_simp; first | rfl | exact ⟨rfl, rfl⟩))); clear hK K)
    refine mix_q (i := 7) rfl (by kernel_rfl) (fun _ _ _ _ h => h) HS (fun K hK => ?_)
    go_simp
    first | (refine hK _ ?_; clear hK K) | (apply Exists.intro; refine ⟨?_, hK _ ?_⟩; (focus (intros; first | rfl | exact ⟨rfl, rfl⟩ | (go_simp; first | rfl | exact ⟨rfl, rfl⟩))); clear hK K)
    refine mix_q (i := 8) rfl (by kernel_rfl) (fun _ _ _ _ h => h) HS (fun K hK => ?_)
    go_simp
    first | (refine hK _ ?_; clear hK K) | (apply Exists.intro; refine ⟨?_, hK _ ?_⟩; (focus (intros; first | rfl | exact ⟨rfl, rfl⟩ | (go_simp; first | rfl | exact ⟨rfl, rfl⟩))); clear hK K)
    refine mix_q (i := 9) rfl (by kernel_rfl) (fun _ _ _ _ h => h) HS (fun K hK => ?_)
    go_simp
    first | (refine hK _ ?_; clear hK K) | (apply Exists.intro; refine ⟨?_, hK _ ?_⟩; (focus (intros; first | rfl | exact ⟨rfl, rfl⟩ | (go_simp; first | rfl | exact ⟨rfl, rfl⟩))); clear hK K)
    refine mix_q (i := 10) rfl (by kernel_rfl) (fun _ _ _ _ h => h) HS (fun K hK => ?_)
    go_simp
    first | (refine hK _ ?_; clear hK K) | (apply Exists.intro; refine ⟨?_, hK _ ?_⟩; (focus (intros; first | rfl | exact ⟨rfl, rfl⟩ | (go_simp; first | rfl | exact ⟨rfl, rfl⟩))); clear hK K)
    refine mix_q (i := 11) rfl (by kernel_rfl) (fun _ _ _ _ h => h) HS (fun K hK => ?_)
    go_simp
    first | (refine hK _ ?_; clear hK K) | (apply Exists.intro; refine ⟨?_, hK _ ?_⟩; (focus (intros; first | rfl | exact ⟨rfl, rfl⟩ | (go_simp; first | rfl | exact ⟨rfl, rfl⟩))); clear hK K)
    refine mix_q (i := 12) rfl (by kernel_rfl) (fun _ _ _ _ h => h) HS (fun K hK => ?_)
    go_simp
    first | (refine hK _ ?_; clear hK K) | (apply Exists.intro; refine ⟨?_, hK _ ?_⟩; (focus (intros; first | rfl | exact ⟨rfl, rfl⟩ | (go_simp; first | rfl | exact ⟨rfl, rfl⟩))); clear hK K)
    refine mix_q (i := 13) rfl (by kernel_rfl) (fun _ _ _ _ h => h) HS (fun K hK => ?_)
    go_simp
    first | (refine hK _ ?_; clear hK K) | (apply Exists.intro; refine ⟨?_, hK _ ?_⟩; (focus (intros; first | rfl | exact ⟨rfl, rfl⟩ | (go_simp; first | rfl | exact ⟨rfl, rfl⟩))); clear hK K)
    refine mix_q (i := 14) rfl (by kernel_rfl) (fun _ _ _ _ h => h) HS (fun K hK => ?_)
    go_simp
    first | (refine hK _ ?_; clear hK K) | (apply Exists.intro; refine ⟨?_, hK _ ?_⟩; (focus (intros; first | rfl | exact ⟨rfl, rfl⟩ | (go_simp; first | rfl | exact ⟨rfl, rfl⟩))); clear hK K)
    refine mix_q (i := 15) rfl (by kernel_rfl) (fun _ _ _ _ h => h) HS (fun K hK => ?_)
    go_simp
    apply Exists.intro
    refine ⟨?_, hK _ ?_⟩
    · (intro wx; intros; exact km wx)
    clear hK K
    refine mix_q (i := 16) rfl (by kernel_rfl) (fun _ _ _ _ h => h) HS (fun K hK => ?_)
    go_simp
    apply Exists.intro
    refine ⟨?_, hK _ ?_⟩
    · (intro wx; intros; exact ka wx)
    clear hK K
    refine mix_q (i := 17) rfl (by kernel_rfl) (fun _ _ _ _ h => h) HS (fun K hK => ?_)
    go_simp
    first | (refine hK _ ?_; clear hK K) | (apply Exists.intro; refine ⟨?_, hK _ ?_⟩; (focus (intros; first | rfl | exact ⟨rfl, rfl⟩ | (go_simp; first | rfl | exact ⟨rfl, rfl⟩))); clear hK K)
    refine mix_q (i := 18) rfl (by kernel_rfl) (fun _ _ _ _ h => h) HS (fun K hK => ?_)
    go_simp
    first | (refine hK _ ?_; clear hK K) | (apply Exists.intro; refine ⟨?_, hK _ ?_⟩; (focus (intros; first | rfl | exact ⟨rfl, rfl⟩ | (go_simp; first | rfl | exact ⟨rfl, rfl⟩))); clear hK K)
    refine mix_e (last := 19) rfl (by kernel_rfl) (fun K hK => ?_)
    go_simp
    refine hK _ _ ?_
    clear hK K HS
    refine mix_done (by kernel_rfl) ?_ _
    go_wp2_with fail
    first | go_end0 | ((try simp only [Exit.inBlock, Exit.then]); refine bodyPost_ret (results_none rfl _ _ _) rfl ?_)
    exact ⟨rfl, (HH.out.set 2 (.int .u64 (sadd tok (smul r (t - now))))).set 1 (.int .u64 t)⟩
set_option maxHeartbeats 400000 in
theorem rbktTake_c (s : Bkt) (n : Int) (hs : s.Ok) (hn : U n) (H : Own ε w (rbkt b s :: R)) :
    Calls Try.prog 171 #[.pointer (some ⟨b, 0, none⟩), .int .u64 n] w fun e w' => e = .returned (.bool (s.take n).1) ∧ Own ε w' (rbkt b (s.take n).2 :: R) := by
  obtain ⟨r, now, tok, was⟩ := s
  obtain ⟨h1, h2, h3, h4⟩ := hs
  simp only at h1 h2 h3 h4
  obtain ⟨c0, f0⟩ := H.cells
  have HH := Lib.hid H; clear H
  have hm := U_smul hn (U_lit (n := 1000000) (by decide) (by decide))
  have k := fun w => refMul_c w n 1000000 hn (U_lit (by decide) (by decide))
  by_cases h : tok < smul n 1000000
  · rw [show (⟨r, now, tok, was⟩ : Bkt).take n = (false, ⟨r, now, tok, was⟩) by simp [Bkt.take, h]]
    generalize smul n 1000000 = m at *
    go_enter Try.func171, Try.ntmps171
    go_wp2_with fail
    refine (k w).mono ?_
    rintro e w' ⟨rfl, rfl⟩
    go_wp2_with fail
    go_ret
    exact ⟨rfl, HH.out⟩
  · rw [show (⟨r, now, tok, was⟩ : Bkt).take n = (true, ⟨r, now, tok - smul n 1000000, was⟩) by simp [Bkt.take, h]]
    generalize smul n 1000000 = m at *
    have hm1 := hm.1
    have hm2 := hm.2
    have hk1 := h3.1
    have hk2 := h3.2
    go_enter Try.func171, Try.ntmps171
    go_wp2_with fail
    refine (k w).mono ?_
    rintro e w' ⟨rfl, rfl⟩
    go_wp2_with fail
    go_ret
    exact ⟨rfl, HH.out.set 2 (.int .u64 (tok - m))⟩
set_option maxHeartbeats 400000 in
theorem rbktWaste_c (s : Bkt) (n : Int) (hs : s.Ok) (hn : U n) (H : Own ε w (rbkt b s :: R)) :
    Calls Try.prog 174 #[.pointer (some ⟨b, 0, none⟩), .int .u64 n] w fun e w' => e = .returned (.int .u64 (s.waste n).1) ∧ Own ε w' (rbkt b (s.waste n).2 :: R) := by
  obtain ⟨r, now, tok, was⟩ := s
  obtain ⟨h1, h2, h3, h4⟩ := hs
  simp only at h1 h2 h3 h4
  obtain ⟨c0, f0⟩ := H.cells
  have HH := Lib.hid H; clear H
  have hn1 := hn.1
  have hn2 := hn.2
  have hk1 := h3.1
  have hk2 := h3.2
  by_cases h : n ≤ tok
  · rw [show (⟨r, now, tok, was⟩ : Bkt).waste n = (n, ⟨r, now, tok - n, sadd was n⟩) by simp [Bkt.waste, h]]
    go_enter Try.func174, Try.ntmps174
    go_wp2_with fail
    refine (refAdd_c _ was n h4 hn).mono ?_
    rintro e w' ⟨rfl, rfl⟩
    go_wp2_with fail
    go_ret
    exact ⟨rfl, (HH.out.set 2 (.int .u64 (tok - n))).set 3 (.int .u64 (sadd was n))⟩
  · rw [show (⟨r, now, tok, was⟩ : Bkt).waste n = (tok, ⟨r, now, 0, sadd was tok⟩) by simp [Bkt.waste, h]]
    go_enter Try.func174, Try.ntmps174
    go_wp2_with fail
    refine (refAdd_c _ was tok h4 h3).mono ?_
    rintro e w' ⟨rfl, rfl⟩
    go_wp2_with fail
    go_ret
    exact ⟨rfl, (HH.out.set 2 (.int .u64 0)).set 3 (.int .u64 (sadd was tok))⟩
end
end Go.Proofs.Ytklohjjkpobneaa
