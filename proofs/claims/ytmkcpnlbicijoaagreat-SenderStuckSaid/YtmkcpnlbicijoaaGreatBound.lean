/- bound, and its reference. -/
import Derived.Test.YtmkcpnlbicijoaaGreatLen
import Derived.Test.YtmkcpnlbicijoaaGreatMix
import Derived.Test.YtmkcpnlbicijoaaGreatRdU
import Derived.Test.YtmkcpnlbicijoaaGreatCalm
import Derived.Test.YtmkcpnlbicijoaaGreatRttD
import Derived.Test.YtmkcpnlbicijoaaGreatRange
namespace Go.Proofs.YtmkcpnlbicijoaaGreat
open Go.RowKit
structure Ctr where
 mark : Int
 n : Int
structure Pip where
 best : Int
 n : Int
def Ctr.zero : Ctr := ⟨0, 0⟩
def Pip.zero : Pip := ⟨0, 0⟩
def Ctr.ack (s : Ctr) (stamp delivered : Int) : Bool × Ctr := if stamp < s.mark then (false, s) else (true, ⟨delivered, IntKind.u64.wrap (s.n + 1)⟩)
def Pip.put (s : Pip) (rate : Int) (round limited : Bool) : Pip :=
 if 3 ≤ s.n ∨ round = false ∨ limited = true then s else if smul s.best 5 ≤ smul rate 4 then ⟨rate, 0⟩ else ⟨s.best, s.n + 1⟩
def Pip.full (s : Pip) : Bool := decide (3 ≤ s.n)
def Pip.Ok (s : Pip) : Prop := U s.best ∧ 0 ≤ s.n ∧ s.n ≤ 3
theorem Pip.ok_zero : Pip.zero.Ok := ⟨U_zero, by decide, by decide⟩
theorem Pip.ok_put {s : Pip} {rate : Int} {r l : Bool} (hr : U rate) (h : s.Ok) : (s.put rate r l).Ok := by
 unfold Pip.Ok at *; unfold Pip.put; split
 ·exact h
 ·split
  ·exact ⟨hr, by simp, by simp⟩
  ·refine ⟨h.1, ?_, ?_⟩ <;> simp only <;> omega
def ctr (b : Nat) (s : Ctr) : Asn := pts b (.cells #[.int .u64 s.mark, .int .u64 s.n] 173 (0, 0))
def pip (b : Nat) (s : Pip) : Asn := pts b (.cells #[.int .u64 s.best, .int .i64 s.n] 168 (0, 0))
section
variable (ε w : World) (R : List Asn) (b : Nat)
theorem ctrNew_c {L : List Asn} (H : Own ε w L) :
  Calls Tryz.prog 59 #[] w fun e w' => ∃ b, e = .returned (.pointer (some ⟨b, 0, none⟩)) ∧ Own ε w' (ctr b Ctr.zero :: L) := by
 have HH := Lib.hid H; clear H
 go_enter Tryz.func59, Tryz.ntmps59
 go_wp2_with fail
 go_ret
 exact ⟨_, rfl, HH.out.alloc _⟩
theorem pipNew_c {L : List Asn} (H : Own ε w L) :
  Calls Tryz.prog 55 #[] w fun e w' => ∃ b, e = .returned (.pointer (some ⟨b, 0, none⟩)) ∧ Own ε w' (pip b Pip.zero :: L) := by
 have HH := Lib.hid H; clear H
 go_enter Tryz.func55, Tryz.ntmps55
 go_wp2_with fail
 go_ret
 exact ⟨_, rfl, HH.out.alloc _⟩
set_option maxHeartbeats 400000 in
theorem ctrAck_c (s : Ctr) (x y : Int) (H : Own ε w (ctr b s :: R)) :
  Calls Tryz.prog 109 #[.pointer (some ⟨b, 0, none⟩), .int .u64 x, .int .u64 y] w fun e w' => e = .returned (.bool (s.ack x y).1) ∧ Own ε w' (ctr b (s.ack x y).2 :: R) := by
 obtain ⟨m, n⟩ := s
 obtain ⟨c0, f0⟩ := H.cells
 have HH := Lib.hid H; clear H
 by_cases h : x < m
 ·rw [show (⟨m, n⟩ : Ctr).ack x y = (false, ⟨m, n⟩) by simp [Ctr.ack, h]]
  go_enter Tryz.func109, Tryz.ntmps109
  go_wp2_with fail
  go_ret
  exact ⟨rfl, HH.out⟩
 ·rw [show (⟨m, n⟩ : Ctr).ack x y = (true, ⟨y, IntKind.u64.wrap (n + 1)⟩) by simp [Ctr.ack, h]]
  go_enter Tryz.func109, Tryz.ntmps109
  go_wp2_with fail
  go_ret
  exact ⟨rfl, (HH.out.set 0 (.int .u64 y)).set 1 (.int .u64 (IntKind.u64.wrap (n + 1)))⟩
theorem pipFull_c (s : Pip) (H : Own ε w (pip b s :: R)) :
  Calls Tryz.prog 115 #[.pointer (some ⟨b, 0, none⟩)] w fun e w' => e = .returned (.bool (decide (3 ≤ s.n))) ∧ w = w' := by
 obtain ⟨m, n⟩ := s
 obtain ⟨c0, f0⟩ := H.cells
 clear H
 go_enter Tryz.func115, Tryz.ntmps115
 go_wp2_with fail
 go_ret
 exact ⟨rfl, rfl⟩
set_option maxHeartbeats 800000 in
theorem pipPut_c (s : Pip) (x : Int) (r l : Bool) (hx : U x) (hs : s.Ok) (H : Own ε w (pip b s :: R)) :
  Calls Tryz.prog 110 #[.pointer (some ⟨b, 0, none⟩), .int .u64 x, .bool r, .bool l] w fun e w' => e = .returned (.tuple #[]) ∧ Own ε w' (pip b (s.put x r l) :: R) := by
 obtain ⟨m, n⟩ := s
 obtain ⟨hu, hn0, hn3⟩ := hs
 simp only at hu hn0 hn3
 obtain ⟨c0, f0⟩ := H.cells
 have HH := Lib.hid H; clear H
 by_cases h3 : 3 ≤ n
 ·rw [show (⟨m, n⟩ : Pip).put x r l = ⟨m, n⟩ by simp [Pip.put, h3]]
  go_enter Tryz.func110, Tryz.ntmps110
  go_wp2_with fail
  first | go_end0 | ((try simp only [Exit.inBlock, Exit.then]); refine bodyPost_ret (results_none rfl _ _ _) rfl ?_)
  exact ⟨rfl, HH.out⟩
 cases r
 ·rw [show (⟨m, n⟩ : Pip).put x false l = ⟨m, n⟩ by simp [Pip.put]]
  go_enter Tryz.func110, Tryz.ntmps110
  go_wp2_with fail
  first | go_end0 | ((try simp only [Exit.inBlock, Exit.then]); refine bodyPost_ret (results_none rfl _ _ _) rfl ?_)
  exact ⟨rfl, HH.out⟩
 cases l
 ·have k4 := fun w => fixMul_c w x 4 hx ⟨by decide, by decide⟩
  have k5 := fun w => fixMul_c w m 5 hu ⟨by decide, by decide⟩
  by_cases hg : smul m 5 ≤ smul x 4
  ·rw [show (⟨m, n⟩ : Pip).put x true false = ⟨x, 0⟩ by unfold Pip.put; rw [if_neg (by rintro (q | q | q); exact h3 q; cases q; cases q)]; first | rw [if_pos hg] | rw [if_neg hg]]
   go_enter Tryz.func110, Tryz.ntmps110
   go_wp2_with fail
   go_quiet ((go_at_call 62; first | (with_reducible exact quiet_c (k4 _)) | (with_reducible exact quiet_c (k5 _))))
   go_wp2_with fail
   first | go_end0 | ((try simp only [Exit.inBlock, Exit.then]); refine bodyPost_ret (results_none rfl _ _ _) rfl ?_)
   exact ⟨rfl, (((HH.out.drewN _).set 0 (.int .u64 x)).set 1 (.int .i64 (-1))).set 1 (.int .i64 0)⟩
  ·rw [show (⟨m, n⟩ : Pip).put x true false = ⟨m, n + 1⟩ by unfold Pip.put; rw [if_neg (by rintro (q | q | q); exact h3 q; cases q; cases q)]; first | rw [if_pos hg] | rw [if_neg hg]]
   go_enter Tryz.func110, Tryz.ntmps110
   go_wp2_with fail
   go_quiet ((go_at_call 62; first | (with_reducible exact quiet_c (k4 _)) | (with_reducible exact quiet_c (k5 _))))
   go_wp2_with fail
   first | go_end0 | ((try simp only [Exit.inBlock, Exit.then]); refine bodyPost_ret (results_none rfl _ _ _) rfl ?_)
   exact ⟨rfl, (HH.out.drewN _).set 1 (.int .i64 (n + 1))⟩
 ·rw [show (⟨m, n⟩ : Pip).put x true true = ⟨m, n⟩ by simp [Pip.put]]
  go_enter Tryz.func110, Tryz.ntmps110
  go_wp2_with fail
  first | go_end0 | ((try simp only [Exit.inBlock, Exit.then]); refine bodyPost_ret (results_none rfl _ _ _) rfl ?_)
  exact ⟨rfl, HH.out⟩
end
end Go.Proofs.YtmkcpnlbicijoaaGreat
namespace Go.Proofs.YtmkcpnlbicijoaaGreat
open Go.RowKit
structure Cyc where
 b0 : Int
 b1 : Int
 n : Int
def maxL (l : List Int) : Int := l.foldl max 0
def Cyc.zero : Cyc := ⟨0, 0, 0⟩
def Cyc.put (s : Cyc) (l : List Int) : Cyc := ⟨max s.b0 (maxL l), s.b1, s.n⟩
def Cyc.next (s : Cyc) : Cyc := ⟨0, s.b0, IntKind.u64.wrap (s.n + 1)⟩
def Cyc.best (s : Cyc) : Int := max s.b0 s.b1
def Cyc.Ok (s : Cyc) : Prop := U s.b0 ∧ U s.b1
theorem foldl_max_le (l : List Int) (a : Int) : a ≤ l.foldl max a := by
 induction l generalizing a with
 | nil => exact Int.le_refl _
 | cons x l ih => exact Int.le_trans (Int.le_max_left a x) (ih _)
theorem foldl_max (l : List Int) (a : Int) (h : 0 ≤ a) : l.foldl max a = max a (maxL l) := by
 induction l generalizing a with
 | nil => simp only [List.foldl_nil, maxL]; omega
 | cons x l ih =>
  have h1 : 0 ≤ max 0 x := by omega
  have h2 : 0 ≤ max a x := by omega
  simp only [List.foldl_cons, maxL]
  rw [ih _ h2, ih _ h1]
  omega
theorem maxL_nil : maxL [] = 0 := rfl
theorem maxL_cons (x : Int) (l : List Int) (h : 0 ≤ x) : maxL (x :: l) = max x (maxL l) := by
 show l.foldl max (max 0 x) = _
 rw [foldl_max _ _ (by omega)]; omega
theorem maxL_append (a b : List Int) : maxL (a ++ b) = max (maxL a) (maxL b) := by
 unfold maxL; rw [List.foldl_append, foldl_max _ _ (foldl_max_le _ _)]; rfl
theorem U_maxC {a b : Int} (h1 : U a) (h2 : U b) : U (max a b) := by obtain ⟨_, _⟩ := h1; obtain ⟨_, _⟩ := h2; exact ⟨by omega, by omega⟩
theorem U_maxL {l : List Int} (h : ∀ x ∈ l, U x) : U (maxL l) := by
 induction l with
 | nil => exact U_zero
 | cons x l ih => rw [maxL_cons x l (h x (by simp)).1]; exact U_maxC (h x (by simp)) (ih fun y hy => h y (by simp [hy]))
theorem maxL_take (l : List Int) (k : Nat) (hk : k < l.length) (h : 0 ≤ l[k]) : maxL (l.take (k + 1)) = max (maxL (l.take k)) l[k] := by
 rw [List.take_succ_eq_append_getElem hk, maxL_append, maxL_cons _ _ h, maxL_nil]; omega
theorem Cyc.ok_zero : Cyc.zero.Ok := ⟨U_zero, U_zero⟩
theorem Cyc.ok_put {s : Cyc} {l : List Int} (hl : ∀ x ∈ l, U x) (h : s.Ok) : (s.put l).Ok := ⟨U_maxC h.1 (U_maxL hl), h.2⟩
theorem Cyc.ok_next {s : Cyc} (h : s.Ok) : s.next.Ok := ⟨U_zero, h.1⟩
set_option maxHeartbeats 800000 in
theorem slicesMax_c (w : World) (A : Option Addr) (len cap : Nat) (xs : List Int) (hr : rdSlice (rdInt .u64) 1 w [.slice A len cap] xs) (h0 : 0 < len) :
  Calls Tryz.prog 145 #[.slice A len cap] w fun e w' => e = .returned (.int .u64 (maxL xs)) ∧ w = w' := by
 obtain ⟨hl, hm, hx⟩ := rdInts_cell hr
 clear hr
 rcases hx with hz | ⟨ab, off, rfl, hx⟩
 ·omega
 have hx0 := (hx 0 (by omega)).1
 have hU0 := (hx 0 (by omega)).2.1
 rw [Nat.add_zero] at hx0
 go_enter Tryz.func145, Tryz.ntmps145
 go_wp2_with fail
 go_loopw [3, 4] (fun m i wr => wr = w ∧ ∃ (k : Nat), 1 ≤ k ∧ k ≤ len ∧ i = .int .i64 k ∧ m = .int .u64 (maxL (xs.take k))) (fun _ i _ => len - (intOf i).toNat)
 case atStart =>
  refine ⟨rfl, 1, by omega, by omega, rfl, ?_⟩
  have h1 : xs.take 1 = [xs[0]] := by
   cases xs with
   | nil => simp at hl; omega
   | cons x l => rfl
  rw [h1, maxL_cons _ _ hU0, maxL_nil]
  congr 1; omega
 case round =>
  obtain ⟨rfl, k, hk1, hk, rfl, rfl⟩ := hrel
  by_cases hlt : k < len
  ·obtain ⟨hc, hU⟩ := hx k (by omega)
   have ht := maxL_take xs k (by omega) hU.1
   generalize xs[k] = x at *
   clear hx hx0
   go_wp2_with fail
   go_roundw
   case rel => exact ⟨trivial, k + 1, by omega, by omega, by go_num, by rw [ht, ite_max]⟩
   case measure => simp [intOf]; omega
  ·have hkl : k = len := by omega
   subst hkl
   rw [show xs.take k = xs from List.take_of_length_le (by omega)]
   go_wp2_with fail
   go_ret
   exact ⟨rfl, rfl⟩
@[go_sem] theorem eqArr2 (a b c d : Int) (w : World) : (Op.equalIn 10000 169 (.agg #[.int .u64 a, .int .u64 b]) (.agg #[.int .u64 c, .int .u64 d])).run Tryz.prog w = .ok (a == c && b == d) w := by
 have u3 := Tryz.underlying22
 have a3 := Tryz.isAgg22
 have z3 := Tryz.sizeOf22
 rw [show (10000 : Nat) = 9999 + 1 from rfl, Op.equalIn]
 simp only [Sem.run_bind, run_underlying Tryz.underlying169, Result.andThen_ok]
 simp only [Std.Legacy.Range.forIn_eq_forIn_range', Std.Legacy.Range.size, Nat.sub_zero, Nat.add_sub_cancel, Nat.div_one, List.range'_succ, List.range'_zero, List.forIn_cons, List.forIn_nil]
 go_simp
 by_cases h1 : a = c <;> by_cases h2 : b = d <;> simp [h1, h2]
def cyc (b : Nat) (s : Cyc) : Asn := pts b (.cells #[.int .u64 s.b0, .int .u64 s.b1, .int .u64 s.n] 171 (0, 0))
section
variable (ε w : World) (R : List Asn) (b : Nat)
theorem cycNew_c {L : List Asn} (H : Own ε w L) :
  Calls Tryz.prog 58 #[] w fun e w' => ∃ b, e = .returned (.pointer (some ⟨b, 0, none⟩)) ∧ Own ε w' (cyc b Cyc.zero :: L) := by
 have HH := Lib.hid H; clear H
 go_enter Tryz.func58, Tryz.ntmps58
 go_wp2_with fail
 go_ret
 exact ⟨_, rfl, HH.out.alloc _⟩
set_option maxHeartbeats 800000 in
theorem cycPut_c (s : Cyc) (A : Option Addr) (len cap : Nat) (xs : List Int) (hr : rdSlice (rdInt .u64) 1 w [.slice A len cap] xs) (hs : s.Ok) (H : Own ε w (cyc b s :: R)) :
  Calls Tryz.prog 108 #[.pointer (some ⟨b, 0, none⟩), .slice A len cap] w fun e w' => e = .returned (.tuple #[]) ∧ Own ε w' (cyc b (s.put xs) :: R) := by
 obtain ⟨b0, b1, n⟩ := s
 have HH := Lib.hid H; clear H
 have hl := (rdInts_cell hr).1
 by_cases h0 : len = 0
 ·have hx : xs = [] := List.eq_nil_of_length_eq_zero (by omega)
  have hb0 : 0 ≤ b0 := hs.1.1
  rw [show (⟨b0, b1, n⟩ : Cyc).put xs = ⟨b0, b1, n⟩ by rw [hx]; show Cyc.mk (max b0 0) b1 n = _; congr 1; omega]
  subst h0
  go_enter Tryz.func108, Tryz.ntmps108
  go_wp2_with fail
  first | go_end0 | ((try simp only [Exit.inBlock, Exit.then]); refine bodyPost_ret (results_none rfl _ _ _) rfl ?_)
  exact ⟨rfl, HH.out⟩
 ·have hr2 := rdSlice_drew (mono_int _) hr
  have hpos : 0 < len := by omega
  rw [show (⟨b0, b1, n⟩ : Cyc).put xs = ⟨if b0 < maxL xs then maxL xs else b0, b1, n⟩ by rw [ite_max]; rfl]
  by_cases hlt : b0 < maxL xs
  all_goals
   first | rw [if_pos hlt] | rw [if_neg hlt]
   go_enter Tryz.func108, Tryz.ntmps108
   go_wp2_with fail
   clear hr
   refine wp_region_mix (fun w' => w'.cell? ⟨b, 0, none⟩ = some (.int .u64 b0) ∧ rdSlice (rdInt .u64) 1 w' [.slice A len cap] xs) (some 12) (by kernel_rfl) ?_
   change wpMix _ _ _ _ _ _ _ _ _ w.drew
   replace HH := Lib.hid HH.out.drew
   generalize w.drew = w2 at *
   obtain ⟨c0, f0⟩ := HH.out.cells
   have HS : (fun w' : World => w'.cell? ⟨b, 0, none⟩ = some (.int .u64 b0) ∧ rdSlice (rdInt .u64) 1 w' [.slice A len cap] xs) w2 := ⟨c0 0, hr2⟩
   refine mix_s 0 HS ?_
   refine mix_s 1 HS ?_
   refine mix_s 2 HS ?_
   refine mix_s 3 HS ?_
   refine mix_s 4 HS ?_
   refine mix_s 5 HS ?_
   refine mix_s 6 HS ?_
   refine mix_q (i := 7) rfl (by kernel_rfl) (fun _ _ _ _ h => h) HS (fun K hK => ?_)
   go_simp
   apply Exists.intro
   refine ⟨?_, hK _ ?_⟩
   ·(intro wx; intros; exact slicesMax_c wx A len cap xs (by assumption) hpos)
   clear hK K
   refine mix_s 8 HS ?_
   refine mix_s 9 HS ?_
   refine mix_s 10 HS ?_
   refine mix_s 11 HS ?_
   refine mix_e (last := 12) rfl (by kernel_rfl) (fun K hK => ?_)
   go_simp
   refine hK _ _ ?_
   clear hK K HS
   refine mix_done (by kernel_rfl) ?_ _
   go_wp2_with fail
   first | go_end0 | ((try simp only [Exit.inBlock, Exit.then]); refine bodyPost_ret (results_none rfl _ _ _) rfl ?_)
   exact ⟨rfl, HH.out.set 0 _⟩
set_option maxHeartbeats 800000 in
theorem cycNext_c (s : Cyc) (H : Own ε w (cyc b s :: R)) :
  Calls Tryz.prog 120 #[.pointer (some ⟨b, 0, none⟩)] w fun e w' => e = .returned (.tuple #[]) ∧ Own ε w' (cyc b s.next :: R) := by
 obtain ⟨b0, b1, n⟩ := s
 have HH := Lib.hid H; clear H
 go_enter Tryz.func120, Tryz.ntmps120
 go_wp2_with fail
 refine wp_region_mix (fun w' => w'.cell? ⟨b, 0, none⟩ = some (.int .u64 b0) ∧ w'.frozen? ⟨b, 1, none⟩ = false) (some 14) (by kernel_rfl) ?_
 change wpMix _ _ _ _ _ _ _ _ _ w.drew
 replace HH := Lib.hid HH.out.drew
 generalize w.drew = w2 at *
 obtain ⟨c0, f0⟩ := HH.out.cells
 have hlt := HH.out.lt
 have HS : (fun w' : World => w'.cell? ⟨b, 0, none⟩ = some (.int .u64 b0) ∧ w'.frozen? ⟨b, 1, none⟩ = false) w2 := ⟨c0 0, f0 1⟩
 refine mix_s 0 HS ?_
 refine mix_s 1 HS ?_
 refine mix_s 2 HS ?_
 refine mix_s 3 HS ?_
 refine mix_s 4 HS ?_
 refine mix_s 5 HS ?_
 refine mix_s 6 HS ?_
 refine mix_s 7 HS ?_
 refine mix_s 8 HS ?_
 refine mix_s 9 HS ?_
 refine mix_s 11 HS ?_
 refine mix_s 12 HS ?_
 refine mix_l (i := 10) rfl (by kernel_rfl) (fun K hK => ?_)
 go_simp
 have H3 := Lib.hid (HH.out.set 1 (.int .u64 b0))
 generalize w2.setCell ⟨b, 1, none⟩ (.int .u64 b0) = w3 at *
 clear HS
 have HS : (fun w' : World => w'.cell? ⟨b, 0, none⟩ = some (.int .u64 b0) ∧ w'.frozen? ⟨b, 1, none⟩ = false) w3 := ⟨H3.out.cells.1 0, H3.out.cells.2 1⟩
 refine hK _ _ HS ?_
 clear hK K
 clear c0 f0
 obtain ⟨c0, f0⟩ := H3.out.cells
 refine mix_s 13 HS ?_
 refine mix_e (last := 14) rfl (by kernel_rfl) (fun K hK => ?_)
 go_simp
 refine hK _ _ ?_
 clear hK K HS
 refine mix_done (by kernel_rfl) ?_ _
 go_wp2_with fail
 first | go_end0 | ((try simp only [Exit.inBlock, Exit.then]); refine bodyPost_ret (results_none rfl _ _ _) rfl ?_)
 exact ⟨rfl, (H3.out.set 0 (.int .u64 0)).set 2 (.int .u64 (IntKind.u64.wrap (n + 1)))⟩
set_option maxRecDepth 100000 in
set_option maxHeartbeats 800000 in
theorem cycBest_c (s : Cyc) (hs : s.Ok) (H : Own ε w (cyc b s :: R)) :
  Calls Tryz.prog 103 #[.pointer (some ⟨b, 0, none⟩)] w fun e w' => e = .returned (.int .u64 s.best) ∧ ∃ m, w' = w.drewN m := by
 obtain ⟨b0, b1, n⟩ := s
 obtain ⟨c0, f0⟩ := H.cells
 clear H
 by_cases hz : b0 = 0 ∧ b1 = 0
 ·obtain ⟨rfl, rfl⟩ := hz
  go_enter Tryz.func103, Tryz.ntmps103
  go_wp2_with fail
  go_ret
  exact ⟨rfl, 0, rfl⟩
 ·rw [show (⟨b0, b1, n⟩ : Cyc).best = if b0 < b1 then b1 else b0 by rw [ite_max]; rfl]
  have c00 := c0 0
  have c01 := c0 1
  have hz' : (b0 == 0 && b1 == 0) = false := by simpa using hz
  by_cases hlt : b0 < b1
  all_goals
   first | rw [if_pos hlt] | rw [if_neg hlt]
   go_enter Tryz.func103, Tryz.ntmps103
   go_wp2_with fail
   go_quiet (fail)
   go_wp2_with fail
   go_ret
   exact ⟨rfl, _, rfl⟩
theorem cycCount_c (s : Cyc) (H : Own ε w (cyc b s :: R)) :
  Calls Tryz.prog 119 #[.pointer (some ⟨b, 0, none⟩)] w fun e w' => e = .returned (.int .u64 s.n) ∧ w = w' := by
 obtain ⟨b0, b1, n⟩ := s
 obtain ⟨c0, f0⟩ := H.cells
 clear H
 go_enter Tryz.func119, Tryz.ntmps119
 go_wp2_with fail
 go_ret
 exact ⟨rfl, rfl⟩
end
end Go.Proofs.YtmkcpnlbicijoaaGreat
namespace Go.Proofs.YtmkcpnlbicijoaaGreat
open Go.RowKit
structure Bnd where
 hi : Int
 lo : Int
 bw : Int
def Bnd.v (s : Bnd) : Value := .agg #[.int .u64 s.hi, .int .u64 s.lo, .int .u64 s.bw]
def Bnd.Ok (s : Bnd) : Prop := U s.hi ∧ U s.lo ∧ U s.bw
instance instBndOk (s : Bnd) : Decidable s.Ok := inferInstanceAs (Decidable (_ ∧ _ ∧ _))
def orI (x y : Int) : Int := if x = 18446744073709551615 then y else x
def cutI (x : Int) : Int := sshare x 70 100
def Bnd.lose (s : Bnd) (flight rate have_ : Int) : Bnd := ⟨s.hi, max flight (cutI (orI s.lo have_)), max rate (cutI (orI s.bw rate))⟩
def Bnd.pull (s : Bnd) (flight target : Int) : Bnd := ⟨max flight (cutI target), s.lo, s.bw⟩
def Bnd.push (s : Bnd) (n : Int) : Bnd := if s.hi = 18446744073709551615 then s else ⟨min (sadd s.hi n) 18446744073709551614, s.lo, s.bw⟩
def Bnd.short (s : Bnd) : Bnd := ⟨s.hi, 18446744073709551615, 18446744073709551615⟩
def Bnd.none : Bnd := ⟨18446744073709551615, 18446744073709551615, 18446744073709551615⟩
def minL (n : Int) (l : List Int) : Int := l.foldl min n
def Bnd.cap (s : Bnd) (l : List Int) : Int := minL (min s.hi s.lo) l
def Bnd.room (s : Bnd) : Int := if s.hi = 18446744073709551615 then 18446744073709551615 else sshare s.hi 85 100
def Bnd.limit (s : Bnd) (r : Int) : Int := min r s.bw
theorem ite_min (a b : Int) : (if b < a then b else a) = min a b := by split <;> omega
theorem U_max {a b : Int} (ha : U a) (hb : U b) : U (max a b) := by unfold U at *; omega
theorem U_min {a b : Int} (ha : U a) (hb : U b) : U (min a b) := by unfold U at *; omega
theorem U_orI {a b : Int} (ha : U a) (hb : U b) : U (orI a b) := by unfold orI; split <;> assumption
theorem U_70 : U 70 ∧ U 100 ∧ U 85 ∧ U 7 ∧ U 10 := by unfold U; omega
theorem U_cut {a : Int} (ha : U a) : U (cutI a) := U_sshare ha U_70.1
section
variable (w : World)
theorem boundOr_c (x y : Int) : Calls Tryz.prog 113 #[.int .u64 x, .int .u64 y] w fun e w' => e = .returned (.int .u64 (orI x y)) ∧ w = w' := by
 unfold orI
 by_cases h : x = 18446744073709551615
 ·rw [if_pos h]
  subst h
  go_enter Tryz.func113, Tryz.ntmps113
  go_wp2_with fail
  go_ret
  exact ⟨rfl, rfl⟩
 ·rw [if_neg h]
  have hb : (x == 18446744073709551615) = false := by simpa using h
  go_enter Tryz.func113, Tryz.ntmps113
  go_wp2_with fail
  go_ret
  exact ⟨rfl, rfl⟩
theorem boundCut_c (x : Int) (hx : U x) : Calls Tryz.prog 111 #[.int .u64 x] w fun e w' => e = .returned (.int .u64 (cutI x)) ∧ ∃ n, w' = w.drewN n := by
 go_enter Tryz.func111, Tryz.ntmps111
 go_wp2_with fail
 refine (fixShare_c _ _ _ _ hx U_70.1 U_70.2.1).mono ?_
 rintro e w' ⟨rfl, n, rfl⟩
 go_wp2_with fail
 go_ret
 exact ⟨rfl, n, rfl⟩
set_option maxRecDepth 100000 in
theorem boundLose_c (s : Bnd) (x y z : Int) (hs : s.Ok) (hx : U x) (hy : U y) (hz : U z) :
  Calls Tryz.prog 78 #[s.v, .int .u64 x, .int .u64 y, .int .u64 z] w fun e w' => e = .returned (s.lose x y z).v ∧ Below w.heap.size w w' := by
 obtain ⟨hi, lo, bw⟩ := s
 obtain ⟨h1, h2, h3⟩ := hs
 simp only at h1 h2 h3
 replace h1 := Lib.hid h1
 replace h2 := Lib.hid h2
 replace h3 := Lib.hid h3
 replace hx := Lib.hid hx
 replace hy := Lib.hid hy
 replace hz := Lib.hid hz
 have im := ite_max
 unfold Bnd.v
 go_enter Tryz.func78, Tryz.ntmps78
 go_wp2_with fail
 refine (boundOr_c _ lo z).mono ?_
 rintro e w' ⟨rfl, rfl⟩
 go_wp2_with fail
 refine (boundCut_c _ _ (U_orI h2.out hz.out)).mono ?_
 rintro e w' ⟨rfl, n1, rfl⟩
 go_wp2_with fail
 refine (boundOr_c _ bw y).mono ?_
 rintro e w' ⟨rfl, rfl⟩
 go_wp2_with fail
 refine (boundCut_c _ _ (U_orI h3.out hy.out)).mono ?_
 rintro e w' ⟨rfl, n2, rfl⟩
 go_wp2_with fail
 refine bodyPost_ret (v := .agg #[.int .u64 hi, .int .u64 (max x (cutI (orI lo z))), .int .u64 (max y (cutI (orI bw y)))]) (by simp [results, Tryz.results78, go_sem]) rfl (⟨rfl, (by repeat (first | with_reducible exact Below.refl _ _ | with_reducible refine Below.alloc ?_ (by simp; first | done | omega) _ | with_reducible refine Below.setCell ?_ (by simp; first | done | omega) _ | with_reducible refine Below.drewN ?_ _ | with_reducible refine Below.drew ?_))⟩)
set_option maxRecDepth 100000 in
theorem boundPull_c (s : Bnd) (x y : Int) (hx : U x) (hy : U y) :
  Calls Tryz.prog 76 #[s.v, .int .u64 x, .int .u64 y] w fun e w' => e = .returned (s.pull x y).v ∧ Below w.heap.size w w' := by
 obtain ⟨hi, lo, bw⟩ := s
 replace hx := Lib.hid hx
 replace hy := Lib.hid hy
 have im := ite_max
 unfold Bnd.v
 go_enter Tryz.func76, Tryz.ntmps76
 go_wp2_with fail
 refine (boundCut_c _ _ hy.out).mono ?_
 rintro e w' ⟨rfl, n1, rfl⟩
 go_wp2_with fail
 refine bodyPost_ret (v := .agg #[.int .u64 (max x (cutI y)), .int .u64 lo, .int .u64 bw]) (by simp [results, Tryz.results76, go_sem]) rfl (⟨rfl, (by repeat (first | with_reducible exact Below.refl _ _ | with_reducible refine Below.alloc ?_ (by simp; first | done | omega) _ | with_reducible refine Below.setCell ?_ (by simp; first | done | omega) _ | with_reducible refine Below.drewN ?_ _ | with_reducible refine Below.drew ?_))⟩)
set_option maxRecDepth 100000 in
theorem boundPush_c (s : Bnd) (x : Int) (hs : s.Ok) (hx : U x) :
  Calls Tryz.prog 80 #[s.v, .int .u64 x] w fun e w' => e = .returned (s.push x).v ∧ Below w.heap.size w w' := by
 obtain ⟨hi, lo, bw⟩ := s
 obtain ⟨h1, h2, h3⟩ := hs
 simp only at h1 h2 h3
 replace h1 := Lib.hid h1
 clear h2 h3
 replace hx := Lib.hid hx
 have im := ite_min
 unfold Bnd.push Bnd.v
 simp only
 by_cases h : hi = 18446744073709551615
 ·rw [if_pos h]
  subst h
  go_enter Tryz.func80, Tryz.ntmps80
  go_wp2_with fail
  refine bodyPost_ret (v := .agg #[.int .u64 18446744073709551615, .int .u64 lo, .int .u64 bw]) (by simp [results, Tryz.results80, go_sem]) rfl (⟨rfl, (by repeat (first | with_reducible exact Below.refl _ _ | with_reducible refine Below.alloc ?_ (by simp; first | done | omega) _ | with_reducible refine Below.setCell ?_ (by simp; first | done | omega) _ | with_reducible refine Below.drewN ?_ _ | with_reducible refine Below.drew ?_))⟩)
 ·rw [if_neg h]
  have hb : (hi != 18446744073709551615) = true := by simpa using h
  clear h
  go_enter Tryz.func80, Tryz.ntmps80
  go_wp2_with fail
  refine (fixAdd2_c _ _ _ _ h1.out hx.out (by go_simp) (by go_simp)).mono ?_
  rintro e w' ⟨rfl, rfl⟩
  go_wp2_with fail
  refine bodyPost_ret (v := .agg #[.int .u64 (min (sadd hi x) 18446744073709551614), .int .u64 lo, .int .u64 bw]) (by simp [results, Tryz.results80, go_sem]) rfl (⟨rfl, (by repeat (first | with_reducible exact Below.refl _ _ | with_reducible refine Below.alloc ?_ (by simp; first | done | omega) _ | with_reducible refine Below.setCell ?_ (by simp; first | done | omega) _ | with_reducible refine Below.drewN ?_ _ | with_reducible refine Below.drew ?_))⟩)
theorem boundShort_c (s : Bnd) :
  Calls Tryz.prog 121 #[s.v] w fun e w' => e = .returned s.short.v ∧ Below w.heap.size w w' := by
 obtain ⟨hi, lo, bw⟩ := s
 unfold Bnd.v
 go_enter Tryz.func121, Tryz.ntmps121
 go_wp2_with fail
 refine bodyPost_ret (v := .agg #[.int .u64 hi, .int .u64 18446744073709551615, .int .u64 18446744073709551615]) (by simp [results, Tryz.results121, go_sem]) rfl (⟨rfl, (by repeat (first | with_reducible exact Below.refl _ _ | with_reducible refine Below.alloc ?_ (by simp; first | done | omega) _ | with_reducible refine Below.setCell ?_ (by simp; first | done | omega) _ | with_reducible refine Below.drewN ?_ _ | with_reducible refine Below.drew ?_))⟩)
theorem boundNone_c :
  Calls Tryz.prog 56 #[] w fun e w' => e = .returned Bnd.none.v ∧ Below w.heap.size w w' := by
 unfold Bnd.v
 go_enter Tryz.func56, Tryz.ntmps56
 go_wp2_with fail
 refine bodyPost_ret (v := .agg #[.int .u64 18446744073709551615, .int .u64 18446744073709551615, .int .u64 18446744073709551615]) (by simp [results, Tryz.results56, go_sem]) rfl (⟨rfl, (by repeat (first | with_reducible exact Below.refl _ _ | with_reducible refine Below.alloc ?_ (by simp; first | done | omega) _ | with_reducible refine Below.setCell ?_ (by simp; first | done | omega) _ | with_reducible refine Below.drewN ?_ _ | with_reducible refine Below.drew ?_))⟩)
theorem boundRoom_c (s : Bnd) (hs : s.Ok) :
  Calls Tryz.prog 117 #[s.v] w fun e w' => e = .returned (.int .u64 s.room) ∧ Below w.heap.size w w' := by
 obtain ⟨hi, lo, bw⟩ := s
 have h1 := Lib.hid hs.1
 clear hs
 unfold Bnd.room Bnd.v
 simp only
 by_cases h : hi = 18446744073709551615
 ·rw [if_pos h]
  subst h
  go_enter Tryz.func117, Tryz.ntmps117
  go_wp2_with fail
  go_ret
  exact ⟨rfl, (by repeat (first | with_reducible exact Below.refl _ _ | with_reducible refine Below.alloc ?_ (by simp; first | done | omega) _ | with_reducible refine Below.setCell ?_ (by simp; first | done | omega) _ | with_reducible refine Below.drewN ?_ _ | with_reducible refine Below.drew ?_))⟩
 ·rw [if_neg h]
  have hb : (hi == 18446744073709551615) = false := by simpa using h
  clear h
  go_enter Tryz.func117, Tryz.ntmps117
  go_wp2_with fail
  refine (fixShare_c _ _ _ _ h1.out U_70.2.2.1 U_70.2.1).mono ?_
  rintro e w' ⟨rfl, n, rfl⟩
  go_wp2_with fail
  go_ret
  exact ⟨rfl, (by repeat (first | with_reducible exact Below.refl _ _ | with_reducible refine Below.alloc ?_ (by simp; first | done | omega) _ | with_reducible refine Below.setCell ?_ (by simp; first | done | omega) _ | with_reducible refine Below.drewN ?_ _ | with_reducible refine Below.drew ?_))⟩
theorem boundLimit_c (s : Bnd) (r : Int) :
  Calls Tryz.prog 64 #[s.v, .int .u64 r] w fun e w' => e = .returned (.int .u64 (s.limit r)) ∧ Below w.heap.size w w' := by
 obtain ⟨hi, lo, bw⟩ := s
 have im := ite_min
 unfold Bnd.v
 go_enter Tryz.func64, Tryz.ntmps64
 go_wp2_with fail
 go_ret
 exact ⟨rfl, (by repeat (first | with_reducible exact Below.refl _ _ | with_reducible refine Below.alloc ?_ (by simp; first | done | omega) _ | with_reducible refine Below.setCell ?_ (by simp; first | done | omega) _ | with_reducible refine Below.drewN ?_ _ | with_reducible refine Below.drew ?_))⟩
end
end Go.Proofs.YtmkcpnlbicijoaaGreat
