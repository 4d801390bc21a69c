/- cycle: the greatest of two cycles. -/
import Derived.Test.YtpfbbpiidhhkbaaGreatRow
import Derived.Test.YtpfbbpiidhhkbaaGreatMix
import Derived.Test.YtpfbbpiidhhkbaaGreatRnd
namespace Go.Proofs.YtpfbbpiidhhkbaaGreat
open Go.RowKit
structure Cyc where
  b0 : Int
  b1 : Int
  n : Int
def maxL (l : List Int) : Int := l.foldl max 0
def Cyc.zero : Cyc := ⟨0, 0, 0⟩
def Cyc.put (s : Cyc) (l : List Int) : Cyc := ⟨max s.b0 (maxL l), s.b1, s.n⟩
def Cyc.next (s : Cyc) : Cyc := ⟨0, s.b0, IntKind.u64.wrap (s.n + 1)⟩
def Cyc.best (s : Cyc) : Int := max s.b0 s.b1
def Cyc.Ok (s : Cyc) : Prop := U s.b0 ∧ U s.b1
theorem foldl_max_le (l : List Int) (a : Int) : a ≤ l.foldl max a := by
  induction l generalizing a with
  | nil => exact Int.le_refl _
  | cons x l ih => exact Int.le_trans (Int.le_max_left a x) (ih _)
theorem foldl_max (l : List Int) (a : Int) (h : 0 ≤ a) : l.foldl max a = max a (maxL l) := by
  induction l generalizing a with
  | nil => simp only [List.foldl_nil, maxL]; omega
  | cons x l ih =>
    have h1 : 0 ≤ max 0 x := by omega
    have h2 : 0 ≤ max a x := by omega
    simp only [List.foldl_cons, maxL]
    rw [ih _ h2, ih _ h1]
    omega
theorem maxL_nil : maxL [] = 0 := rfl
theorem maxL_cons (x : Int) (l : List Int) (h : 0 ≤ x) : maxL (x :: l) = max x (maxL l) := by
  show l.foldl max (max 0 x) = _
  rw [foldl_max _ _ (by omega)]; omega
theorem maxL_nonneg (l : List Int) : 0 ≤ maxL l := foldl_max_le l 0
theorem maxL_append (a b : List Int) : maxL (a ++ b) = max (maxL a) (maxL b) := by
  unfold maxL; rw [List.foldl_append, foldl_max _ _ (foldl_max_le _ _)]; rfl
theorem U_maxC {a b : Int} (h1 : U a) (h2 : U b) : U (max a b) := by obtain ⟨_, _⟩ := h1; obtain ⟨_, _⟩ := h2; exact ⟨by omega, by omega⟩
theorem U_maxL {l : List Int} (h : ∀ x ∈ l, U x) : U (maxL l) := by
  induction l with
  | nil => exact U_zero
  | cons x l ih => rw [maxL_cons x l (h x (by simp)).1]; exact U_maxC (h x (by simp)) (ih fun y hy => h y (by simp [hy]))
theorem maxL_take (l : List Int) (k : Nat) (hk : k < l.length) (h : 0 ≤ l[k]) : maxL (l.take (k + 1)) = max (maxL (l.take k)) l[k] := by
  rw [List.take_succ_eq_append_getElem hk, maxL_append, maxL_cons _ _ h, maxL_nil]; omega
theorem Cyc.ok_put {s : Cyc} {l : List Int} (hl : ∀ x ∈ l, U x) (h : s.Ok) : (s.put l).Ok := ⟨U_maxC h.1 (U_maxL hl), h.2⟩
theorem Cyc.ok_next {s : Cyc} (h : s.Ok) : s.next.Ok := ⟨U_zero, h.1⟩
set_option maxHeartbeats 800000 in
theorem slicesMax_c (w : World) (A : Option Addr) (len cap : Nat) (xs : List Int) (hr : rdSlice (rdInt .u64) 1 w [.slice A len cap] xs) (h0 : 0 < len) :
    Calls Tryz.prog 121 #[.slice A len cap] w fun e w' => e = .returned (.int .u64 (maxL xs)) ∧ w = w' := by
  obtain ⟨hl, hm, hx⟩ := rdInts_cell hr
  clear hr
  rcases hx with hz | ⟨ab, off, rfl, hx⟩
  · omega
  have hx0 := (hx 0 (by omega)).1
  have hU0 := (hx 0 (by omega)).2.1
  rw [Nat.add_zero] at hx0
  go_enter Tryz.func121, Tryz.ntmps121
  go_wp2_with fail
  go_loopw [3, 4] (fun m i wr => wr = w ∧ ∃ (k : Nat), 1 ≤ k ∧ k ≤ len ∧ i = .int .i64 k ∧ m = .int .u64 (maxL (xs.take k))) (fun _ i _ => len - (intOf i).toNat)
  case atStart =>
    refine ⟨rfl, 1, by omega, by omega, rfl, ?_⟩
    have h1 : xs.take 1 = [xs[0]] := by
      cases xs with
      | nil => simp at hl; omega
      | cons x l => rfl
    rw [h1, maxL_cons _ _ hU0, maxL_nil]
    congr 1; omega
  case round =>
    obtain ⟨rfl, k, hk1, hk, rfl, rfl⟩ := hrel
    by_cases hlt : k < len
    · obtain ⟨hc, hU⟩ := hx k (by omega)
      have ht := maxL_take xs k (by omega) hU.1
      generalize xs[k] = x at *
      clear hx hx0
      go_wp2_with fail
      go_roundw
      case rel => exact ⟨trivial, k + 1, by omega, by omega, by go_num, by rw [ht, ite_max]⟩
      case measure => simp [intOf]; omega
    · have hkl : k = len := by omega
      subst hkl
      rw [show xs.take k = xs from List.take_of_length_le (by omega)]
      go_wp2_with fail
      go_ret
      exact ⟨rfl, rfl⟩
@[go_sem] theorem eqArr2 (a b c d : Int) (w : World) : (Op.equalIn 10000 109 (.agg #[.int .u64 a, .int .u64 b]) (.agg #[.int .u64 c, .int .u64 d])).run Tryz.prog w = .ok (a == c && b == d) w := by
  have u3 := Tryz.underlying22
  have a3 := Tryz.isAgg22
  have z3 := Tryz.sizeOf22
  rw [show (10000 : Nat) = 9999 + 1 from rfl, Op.equalIn]
  simp only [Sem.run_bind, run_underlying Tryz.underlying109, Result.andThen_ok]
  simp only [Std.Legacy.Range.forIn_eq_forIn_range', Std.Legacy.Range.size, Nat.sub_zero, Nat.add_sub_cancel, Nat.div_one, List.range'_succ, List.range'_zero, List.forIn_cons, List.forIn_nil]
  go_simp
  by_cases h1 : a = c <;> by_cases h2 : b = d <;> simp [h1, h2]
def cyc (b : Nat) (s : Cyc) : Asn := pts b (.cells #[.int .u64 s.b0, .int .u64 s.b1, .int .u64 s.n] 111 (0, 0))
section
variable (ε w : World) (R : List Asn) (b : Nat)
theorem cycNew_c {L : List Asn} (H : Own ε w L) :
    Calls Tryz.prog 22 #[] w fun e w' => ∃ b, e = .returned (.pointer (some ⟨b, 0, none⟩)) ∧ Own ε w' (cyc b Cyc.zero :: L) := by
  have HH := Lib.hid H; clear H
  go_enter Tryz.func22, Tryz.ntmps22
  go_wp2_with fail
  go_ret
  exact ⟨_, rfl, HH.out.alloc _⟩
set_option maxHeartbeats 800000 in
theorem cycPut_c (s : Cyc) (A : Option Addr) (len cap : Nat) (xs : List Int) (hr : rdSlice (rdInt .u64) 1 w [.slice A len cap] xs) (hs : s.Ok) (H : Own ε w (cyc b s :: R)) :
    Calls Tryz.prog 71 #[.pointer (some ⟨b, 0, none⟩), .slice A len cap] w fun e w' => e = .returned (.tuple #[]) ∧ Own ε w' (cyc b (s.put xs) :: R) := by
  obtain ⟨b0, b1, n⟩ := s
  have HH := Lib.hid H; clear H
  have hl := (rdInts_cell hr).1
  by_cases h0 : len = 0
  · have hx : xs = [] := List.eq_nil_of_length_eq_zero (by omega)
    have hb0 : 0 ≤ b0 := hs.1.1
    rw [show (⟨b0, b1, n⟩ : Cyc).put xs = ⟨b0, b1, n⟩ by rw [hx]; show Cyc.mk (max b0 0) b1 n = _; congr 1; omega]
    subst h0
    go_enter Tryz.func71, Tryz.ntmps71
    go_wp2_with fail
    first | go_end0 | ((try simp only [Exit.inBlock, Exit.then]); refine bodyPost_ret (results_none rfl _ _ _) rfl ?_)
    exact ⟨rfl, HH.out⟩
  · have hr2 := rdSlice_drew (mono_int _) hr
    have hpos : 0 < len := by omega
    rw [show (⟨b0, b1, n⟩ : Cyc).put xs = ⟨if b0 < maxL xs then maxL xs else b0, b1, n⟩ by rw [ite_max]; rfl]
    by_cases hlt : b0 < maxL xs
    all_goals
      first | rw [if_pos hlt] | rw [if_neg hlt]
      go_enter Tryz.func71, Tryz.ntmps71
      go_wp2_with fail
      clear hr
      refine wp_region_mix (fun w' => w'.cell? ⟨b, 0, none⟩ = some (.int .u64 b0) ∧ rdSlice (rdInt .u64) 1 w' [.slice A len cap] xs) (some 12) (by kernel_rfl) ?_
      change wpMix _ _ _ _ _ _ _ _ _ w.drew
      replace HH := Lib.hid HH.out.drew
      generalize w.drew = w2 at *
      obtain ⟨c0, f0⟩ := HH.out.cells
      have HS : (fun w' : World => w'.cell? ⟨b, 0, none⟩ = some (.int .u64 b0) ∧ rdSlice (rdInt .u64) 1 w' [.slice A len cap] xs) w2 := ⟨c0 0, hr2⟩
      refine mix_q (i := 0) rfl (by kernel_rfl) (fun _ _ _ _ h => h) HS (fun K hK => ?_)
      go_simp
      (first | refine hK _ ?_ | (apply Exists.intro; refine ⟨?_, hK _ ?_⟩; focus intros; first | rfl | exact ⟨rfl, rfl⟩ | (go_simp; first | rfl | exact ⟨rfl, rfl⟩))); clear hK K
      refine mix_q (i := 1) rfl (by kernel_rfl) (fun _ _ _ _ h => h) HS (fun K hK => ?_)
      go_simp
      (first | refine hK _ ?_ | (apply Exists.intro; refine ⟨?_, hK _ ?_⟩; focus intros; first | rfl | exact ⟨rfl, rfl⟩ | (go_simp; first | rfl | exact ⟨rfl, rfl⟩))); clear hK K
      refine mix_q (i := 2) rfl (by kernel_rfl) (fun _ _ _ _ h => h) HS (fun K hK => ?_)
      go_simp
      (first | refine hK _ ?_ | (apply Exists.intro; refine ⟨?_, hK _ ?_⟩; focus intros; first | rfl | exact ⟨rfl, rfl⟩ | (go_simp; first | rfl | exact ⟨rfl, rfl⟩))); clear hK K
      refine mix_q (i := 3) rfl (by kernel_rfl) (fun _ _ _ _ h => h) HS (fun K hK => ?_)
      go_simp
      (first | refine hK _ ?_ | (apply Exists.intro; refine ⟨?_, hK _ ?_⟩; focus intros; first | rfl | exact ⟨rfl, rfl⟩ | (go_simp; first | rfl | exact ⟨rfl, rfl⟩))); clear hK K
      refine mix_q (i := 4) rfl (by kernel_rfl) (fun _ _ _ _ h => h) HS (fun K hK => ?_)
      go_simp
      (first | refine hK _ ?_ | (apply Exists.intro; refine ⟨?_, hK _ ?_⟩; focus intros; first | rfl | exact ⟨rfl, rfl⟩ | (go_simp; first | rfl | exact ⟨rfl, rfl⟩))); clear hK K
      refine mix_q (i := 5) rfl (by kernel_rfl) (fun _ _ _ _ h => h) HS (fun K hK => ?_)
      go_simp
      (first | refine hK _ ?_ | (apply Exists.intro; refine ⟨?_, hK _ ?_⟩; focus intros; first | rfl | exact ⟨rfl, rfl⟩ | (go_simp; first | rfl | exact ⟨rfl, rfl⟩))); clear hK K
      refine mix_q (i := 6) rfl (by kernel_rfl) (fun _ _ _ _ h => h) HS (fun K hK => ?_)
      go_simp
      (first | refine hK _ ?_ | (apply Exists.intro; refine ⟨?_, hK _ ?_⟩; focus intros; first | rfl | exact ⟨rfl, rfl⟩ | (go_simp; first | rfl | exact ⟨rfl, rfl⟩))); clear hK K
      refine mix_q (i := 7) rfl (by kernel_rfl) (fun _ _ _ _ h => h) HS (fun K hK => ?_)
      go_simp
      apply Exists.intro
      refine ⟨?_, hK _ ?_⟩
      · (intro wx; intros; exact slicesMax_c wx A len cap xs (by assumption) hpos)
      clear hK K
      refine mix_q (i := 8) rfl (by kernel_rfl) (fun _ _ _ _ h => h) HS (fun K hK => ?_)
      go_simp
      (first | refine hK _ ?_ | (apply Exists.intro; refine ⟨?_, hK _ ?_⟩; focus intros; first | rfl | exact ⟨rfl, rfl⟩ | (go_simp; first | rfl | exact ⟨rfl, rfl⟩))); clear hK K
      refine mix_q (i := 9) rfl (by kernel_rfl) (fun _ _ _ _ h => h) HS (fun K hK => ?_)
      go_simp
      (first | refine hK _ ?_ | (apply Exists.intro; refine ⟨?_, hK _ ?_⟩; focus intros; first | rfl | exact ⟨rfl, rfl⟩ | (go_simp; first | rfl | exact ⟨rfl, rfl⟩))); clear hK K
      refine mix_q (i := 10) rfl (by kernel_rfl) (fun _ _ _ _ h => h) HS (fun K hK => ?_)
      go_simp
      (first | refine hK _ ?_ | (apply Exists.intro; refine ⟨?_, hK _ ?_⟩; focus intros; first | rfl | exact ⟨rfl, rfl⟩ | (go_simp; first | rfl | exact ⟨rfl, rfl⟩))); clear hK K
      refine mix_q (i := 11) rfl (by kernel_rfl) (fun _ _ _ _ h => h) HS (fun K hK => ?_)
      go_simp
      (first | refine hK _ ?_ | (apply Exists.intro; refine ⟨?_, hK _ ?_⟩; focus intros; first | rfl | exact ⟨rfl, rfl⟩ | (go_simp; first | rfl | exact ⟨rfl, rfl⟩))); clear hK K
      refine mix_e (last := 12) rfl (by kernel_rfl) (fun K hK => ?_)
      go_simp
      refine hK _ _ ?_
      clear hK K HS
      refine mix_done (by kernel_rfl) ?_ _
      go_wp2_with fail
      first | go_end0 | ((try simp only [Exit.inBlock, Exit.then]); refine bodyPost_ret (results_none rfl _ _ _) rfl ?_)
      exact ⟨rfl, HH.out.set 0 _⟩
set_option maxHeartbeats 800000 in
theorem cycNext_c (s : Cyc) (H : Own ε w (cyc b s :: R)) :
    Calls Tryz.prog 84 #[.pointer (some ⟨b, 0, none⟩)] w fun e w' => e = .returned (.tuple #[]) ∧ Own ε w' (cyc b s.next :: R) := by
  obtain ⟨b0, b1, n⟩ := s
  have HH := Lib.hid H; clear H
  go_enter Tryz.func84, Tryz.ntmps84
  go_wp2_with fail
  refine wp_region_mix (fun w' => w'.cell? ⟨b, 0, none⟩ = some (.int .u64 b0) ∧ w'.frozen? ⟨b, 1, none⟩ = false) (some 14) (by kernel_rfl) ?_
  change wpMix _ _ _ _ _ _ _ _ _ w.drew
  replace HH := Lib.hid HH.out.drew
  generalize w.drew = w2 at *
  obtain ⟨c0, f0⟩ := HH.out.cells
  have hlt := HH.out.lt
  have HS : (fun w' : World => w'.cell? ⟨b, 0, none⟩ = some (.int .u64 b0) ∧ w'.frozen? ⟨b, 1, none⟩ = false) w2 := ⟨c0 0, f0 1⟩
  refine mix_q (i := 0) rfl (by kernel_rfl) (fun _ _ _ _ h => h) HS (fun K hK => ?_)
  go_simp
  (first | refine hK _ ?_ | (apply Exists.intro; refine ⟨?_, hK _ ?_⟩; focus intros; first | rfl | exact ⟨rfl, rfl⟩ | (go_simp; first | rfl | exact ⟨rfl, rfl⟩))); clear hK K
  refine mix_q (i := 1) rfl (by kernel_rfl) (fun _ _ _ _ h => h) HS (fun K hK => ?_)
  go_simp
  (first | refine hK _ ?_ | (apply Exists.intro; refine ⟨?_, hK _ ?_⟩; focus intros; first | rfl | exact ⟨rfl, rfl⟩ | (go_simp; first | rfl | exact ⟨rfl, rfl⟩))); clear hK K
  refine mix_q (i := 2) rfl (by kernel_rfl) (fun _ _ _ _ h => h) HS (fun K hK => ?_)
  go_simp
  (first | refine hK _ ?_ | (apply Exists.intro; refine ⟨?_, hK _ ?_⟩; focus intros; first | rfl | exact ⟨rfl, rfl⟩ | (go_simp; first | rfl | exact ⟨rfl, rfl⟩))); clear hK K
  refine mix_q (i := 3) rfl (by kernel_rfl) (fun _ _ _ _ h => h) HS (fun K hK => ?_)
  go_simp
  (first | refine hK _ ?_ | (apply Exists.intro; refine ⟨?_, hK _ ?_⟩; focus intros; first | rfl | exact ⟨rfl, rfl⟩ | (go_simp; first | rfl | exact ⟨rfl, rfl⟩))); clear hK K
  refine mix_q (i := 4) rfl (by kernel_rfl) (fun _ _ _ _ h => h) HS (fun K hK => ?_)
  go_simp
  (first | refine hK _ ?_ | (apply Exists.intro; refine ⟨?_, hK _ ?_⟩; focus intros; first | rfl | exact ⟨rfl, rfl⟩ | (go_simp; first | rfl | exact ⟨rfl, rfl⟩))); clear hK K
  refine mix_q (i := 5) rfl (by kernel_rfl) (fun _ _ _ _ h => h) HS (fun K hK => ?_)
  go_simp
  (first | refine hK _ ?_ | (apply Exists.intro; refine ⟨?_, hK _ ?_⟩; focus intros; first | rfl | exact ⟨rfl, rfl⟩ | (go_simp; first | rfl | exact ⟨rfl, rfl⟩))); clear hK K
  refine mix_q (i := 6) rfl (by kernel_rfl) (fun _ _ _ _ h => h) HS (fun K hK => ?_)
  go_simp
  (first | refine hK _ ?_ | (apply Exists.intro; refine ⟨?_, hK _ ?_⟩; focus intros; first | rfl | exact ⟨rfl, rfl⟩ | (go_simp; first | rfl | exact ⟨rfl, rfl⟩))); clear hK K
  refine mix_q (i := 7) rfl (by kernel_rfl) (fun _ _ _ _ h => h) HS (fun K hK => ?_)
  go_simp
  (first | refine hK _ ?_ | (apply Exists.intro; refine ⟨?_, hK _ ?_⟩; focus intros; first | rfl | exact ⟨rfl, rfl⟩ | (go_simp; first | rfl | exact ⟨rfl, rfl⟩))); clear hK K
  refine mix_q (i := 8) rfl (by kernel_rfl) (fun _ _ _ _ h => h) HS (fun K hK => ?_)
  go_simp
  (first | refine hK _ ?_ | (apply Exists.intro; refine ⟨?_, hK _ ?_⟩; focus intros; first | rfl | exact ⟨rfl, rfl⟩ | (go_simp; first | rfl | exact ⟨rfl, rfl⟩))); clear hK K
  refine mix_q (i := 9) rfl (by kernel_rfl) (fun _ _ _ _ h => h) HS (fun K hK => ?_)
  go_simp
  (first | refine hK _ ?_ | (apply Exists.intro; refine ⟨?_, hK _ ?_⟩; focus intros; first | rfl | exact ⟨rfl, rfl⟩ | (go_simp; first | rfl | exact ⟨rfl, rfl⟩))); clear hK K
  refine mix_q (i := 11) rfl (by kernel_rfl) (fun _ _ _ _ h => h) HS (fun K hK => ?_)
  go_simp
  (first | refine hK _ ?_ | (apply Exists.intro; refine ⟨?_, hK _ ?_⟩; focus intros; first | rfl | exact ⟨rfl, rfl⟩ | (go_simp; first | rfl | exact ⟨rfl, rfl⟩))); clear hK K
  refine mix_q (i := 12) rfl (by kernel_rfl) (fun _ _ _ _ h => h) HS (fun K hK => ?_)
  go_simp
  (first | refine hK _ ?_ | (apply Exists.intro; refine ⟨?_, hK _ ?_⟩; focus intros; first | rfl | exact ⟨rfl, rfl⟩ | (go_simp; first | rfl | exact ⟨rfl, rfl⟩))); clear hK K
  refine mix_l (i := 10) rfl (by kernel_rfl) (fun K hK => ?_)
  go_simp
  have H3 := Lib.hid (HH.out.set 1 (.int .u64 b0))
  generalize w2.setCell ⟨b, 1, none⟩ (.int .u64 b0) = w3 at *
  clear HS
  have HS : (fun w' : World => w'.cell? ⟨b, 0, none⟩ = some (.int .u64 b0) ∧ w'.frozen? ⟨b, 1, none⟩ = false) w3 := ⟨H3.out.cells.1 0, H3.out.cells.2 1⟩
  refine hK _ _ HS ?_
  clear hK K
  clear c0 f0
  obtain ⟨c0, f0⟩ := H3.out.cells
  refine mix_q (i := 13) rfl (by kernel_rfl) (fun _ _ _ _ h => h) HS (fun K hK => ?_)
  go_simp
  (first | refine hK _ ?_ | (apply Exists.intro; refine ⟨?_, hK _ ?_⟩; focus intros; first | rfl | exact ⟨rfl, rfl⟩ | (go_simp; first | rfl | exact ⟨rfl, rfl⟩))); clear hK K
  refine mix_e (last := 14) rfl (by kernel_rfl) (fun K hK => ?_)
  go_simp
  refine hK _ _ ?_
  clear hK K HS
  refine mix_done (by kernel_rfl) ?_ _
  go_wp2_with fail
  first | go_end0 | ((try simp only [Exit.inBlock, Exit.then]); refine bodyPost_ret (results_none rfl _ _ _) rfl ?_)
  exact ⟨rfl, (H3.out.set 0 (.int .u64 0)).set 2 (.int .u64 (IntKind.u64.wrap (n + 1)))⟩
set_option maxRecDepth 100000 in
set_option maxHeartbeats 800000 in
theorem cycBest_c (s : Cyc) (hs : s.Ok) (H : Own ε w (cyc b s :: R)) :
    Calls Tryz.prog 50 #[.pointer (some ⟨b, 0, none⟩)] w fun e w' => e = .returned (.int .u64 s.best) ∧ ∃ m, w' = w.drewN m := by
  obtain ⟨b0, b1, n⟩ := s
  obtain ⟨c0, f0⟩ := H.cells
  clear H
  by_cases hz : b0 = 0 ∧ b1 = 0
  · obtain ⟨rfl, rfl⟩ := hz
    go_enter Tryz.func50, Tryz.ntmps50
    go_wp2_with fail
    go_ret
    exact ⟨rfl, 0, rfl⟩
  · rw [show (⟨b0, b1, n⟩ : Cyc).best = if b0 < b1 then b1 else b0 by rw [ite_max]; rfl]
    have c00 := c0 0
    have c01 := c0 1
    have hz' : (b0 == 0 && b1 == 0) = false := by simpa using hz
    by_cases hlt : b0 < b1
    all_goals
      first | rw [if_pos hlt] | rw [if_neg hlt]
      go_enter Tryz.func50, Tryz.ntmps50
      go_wp2_with fail
      go_quiet (fail)
      go_wp2_with fail
      go_ret
      exact ⟨rfl, _, rfl⟩
theorem cycCount_c (s : Cyc) (H : Own ε w (cyc b s :: R)) :
    Calls Tryz.prog 83 #[.pointer (some ⟨b, 0, none⟩)] w fun e w' => e = .returned (.int .u64 s.n) ∧ w = w' := by
  obtain ⟨b0, b1, n⟩ := s
  obtain ⟨c0, f0⟩ := H.cells
  clear H
  go_enter Tryz.func83, Tryz.ntmps83
  go_wp2_with fail
  go_ret
  exact ⟨rfl, rfl⟩
end
end Go.Proofs.YtpfbbpiidhhkbaaGreat
