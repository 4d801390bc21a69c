/- filt: the best of a window. -/
import Derived.Test.YtmkcpnlbicijoaaGreatRingR2
import Derived.Test.YtmkcpnlbicijoaaGreatLen
import Derived.Test.YtmkcpnlbicijoaaGreatBase
import Derived.Deep.LoopGhost
namespace Go.Proofs.YtmkcpnlbicijoaaGreat
open Go.RowKit
section
variable (ε w : World) (R : List Asn) (b : Nat)
set_option maxHeartbeats 1600000 in
theorem rgNew_c (H : Own ε w R) :
  Calls Tryz.prog 137 #[.slice none 0 0] w fun e w' => ∃ b, e = .returned (.pointer (some ⟨b, 0, none⟩)) ∧ Own ε w' (rgRing b [] :: R) := by
 have HH := Lib.hid H; clear H
 go_enter Tryz.func137, Tryz.ntmps137
 go_wp2_with (with_reducible first | refine stop_bs ?_ | refine stop_bx ?_ | refine stop_al ?_ | refine stop_ms ?_ | refine stop_app ?_ | refine stop_copy ?_)
 refine Stop.go ?_
 refine wpList_make_slc rfl _ _ _ rfl 154 2 16 Tryz.underlying214 (by kernel_rfl) (by decide) [.int .u64 0, .int .u64 0] (by kernel_rfl) 4 rfl rfl (by first | rfl | omega) (by first | rfl | omega) (by omega) (by simp only [maxLen]; omega) HH.out ?_
 intro g2 w2 H2
 replace H2 := Lib.hid H2
 clear HH
 go_wp2_with (with_reducible first | refine stop_bs ?_ | refine stop_bx ?_ | refine stop_al ?_ | refine stop_ms ?_ | refine stop_app ?_ | refine stop_copy ?_)
 refine Stop.go ?_
 go_step
 go_simp
 have H3 := Lib.hid (H2.out.alloc (.cells #[.slice (some ⟨g2, 0, none⟩) 4 4, .int .i64 0, .int .i64 0] 216))
 generalize w2.alloc (.cells #[.slice (some ⟨g2, 0, none⟩) 4 4, .int .i64 0, .int .i64 0] 216) = w3 at *
 generalize w2.heap.size = b at *
 have k0 := H3.out.cells
 replace H3 := Lib.hid H3.out.r2
 go_wp2_with (with_reducible first | refine stop_bs ?_ | refine stop_bx ?_ | refine stop_al ?_ | refine stop_ms ?_ | refine stop_app ?_ | refine stop_copy ?_)
 refine Stop.go ?_
 refine wpList_copy_slc rfl (.tmp 14) (.tmp 15) _ _ rfl 154 2 16 Tryz.underlying214 (by kernel_rfl) 0 [] 0 (by rfl) (by rfl) rfl H3.out (.inl rfl) ⟨rfl, .inl rfl⟩ (by simp) (by simp) ?_
 intro w4 H4
 simp only [List.take_zero, List.nil_append, List.length_nil, Nat.add_zero, List.drop_zero, List.append_nil] at H4
 replace H4 := Lib.hid H4.r2
 clear k0
 have k0 := H4.out.cells
 go_wp2_with fail
 go_ret
 refine ⟨_, rfl, ?_⟩
 have hh := RingOk.new (sz := 2) [] (by simp) (by simp) (by simp) [.int .u64 0, .int .u64 0] rfl (by simp [Value.oneCell'])
 have hfl : (([] : List (List Value)) ++ List.replicate (max 4 0 - 0) [Value.int .u64 0, Value.int .u64 0]).flatten.length = 4 * 2 := rfl
 have H5 := ((H4.out.set 2 (.int .i64 (0 : Nat))).r2.slc_mk (xs := (([] : List (List Value)) ++ List.replicate (max 4 0 - 0) [Value.int .u64 0, Value.int .u64 0]).flatten) (n := 4) (cap := 4) (Nat.le_refl _) (by decide) rfl hfl rfl).r2
 exact Own.ring_mk' (n := 0) rfl hh H5
end
end Go.Proofs.YtmkcpnlbicijoaaGreat
namespace Go.Proofs.YtmkcpnlbicijoaaGreat
structure Fil where
 win : Int
 now : Int
 least : Bool
 l : List (Int × Int)
def encR (r : Int × Int) : List Value := [.int .u64 r.1, .int .u64 r.2]
def aheadOf (least : Bool) (x y : Int) : Bool := if least then decide (x < y) else decide (y < x)
def Fil.old (win t : Int) (l : List (Int × Int)) : List (Int × Int) := l.dropWhile fun r => decide (sadd r.1 win < t)
def Fil.worse (least : Bool) (x : Int) (l : List (Int × Int)) : List (Int × Int) := (l.reverse.dropWhile fun r => !aheadOf least r.2 x).reverse
def Fil.to (s : Fil) (t : Int) : Int × Fil := if t < s.now then (2, s) else (0, { s with now := t, l := Fil.old s.win t s.l })
def Fil.put (s : Fil) (t x : Int) : Int × Fil := if t < s.now then (2, s) else (0, { s with now := t, l := Fil.worse s.least x (Fil.old s.win t s.l) ++ [(t, x)] })
def Fil.best (s : Fil) : (Int × Int) × Bool := match s.l with
 | [] => ((0, 0), false)
 | r :: _ => (r, true)
def Fil.Ok (s : Fil) : Prop := U s.win ∧ U s.now ∧ ∀ r ∈ s.l, U r.1 ∧ U r.2
theorem Fil.old_cons (win t : Int) (r : Int × Int) (l : List (Int × Int)) : Fil.old win t (r :: l) = if sadd r.1 win < t then Fil.old win t l else r :: l := by
 unfold Fil.old
 rw [List.dropWhile_cons]
 by_cases h : sadd r.1 win < t
 ·rw [if_pos (by simpa using h), if_pos h]
 ·rw [if_neg (by simpa using h), if_neg h]
structure FInv (win now : Int) (least : Bool) (all row : List (Int × Int)) : Prop where
 mem : ∀ r ∈ row, r ∈ all
 cnt : ∀ r ∈ row, ¬ sadd r.1 win < now
 cover : ∀ r ∈ all, ¬ sadd r.1 win < now → ∃ r' ∈ row, r.1 ≤ r'.1 ∧ aheadOf least r.2 r'.2 = false
 sorted : row.Pairwise fun a b => a.1 ≤ b.1 ∧ aheadOf least a.2 b.2 = true
 le : ∀ r ∈ all, r.1 ≤ now
theorem FInv.zero (win : Int) (least : Bool) : FInv win 0 least [] [] :=
 ⟨fun _ h => by simp at h, fun _ h => by simp at h, fun _ h => by simp at h, List.Pairwise.nil, fun _ h => by simp at h⟩
theorem ahead_trans {least : Bool} {x y z : Int} (h1 : aheadOf least x y = true) (h2 : aheadOf least y z = true) : aheadOf least x z = true := by
 unfold aheadOf at *
 cases least <;> simp_all <;> omega
theorem behind_trans {least : Bool} {x y z : Int} (h1 : aheadOf least x y = false) (h2 : aheadOf least y z = false) : aheadOf least x z = false := by
 unfold aheadOf at *
 cases least <;> simp_all <;> omega
theorem ahead_self (least : Bool) (x : Int) : aheadOf least x x = false := by
 unfold aheadOf
 cases least <;> simp
theorem sadd_mono {a b win : Int} (h : a ≤ b) : sadd a win ≤ sadd b win := by unfold sadd; split <;> split <;> omega
theorem mem_old {win t : Int} {r : Int × Int} {l : List (Int × Int)} (h : r ∈ l) (hc : ¬ sadd r.1 win < t) : r ∈ Fil.old win t l := by
 induction l with
 | nil => cases h
 | cons q l ih =>
  rw [Fil.old_cons]
  rcases List.mem_cons.1 h with rfl | h2
  ·rw [if_neg hc]; exact List.mem_cons_self ..
  ·split
   ·exact ih h2
   ·exact List.mem_cons_of_mem _ h2
theorem old_cnt {win t : Int} {least : Bool} {l : List (Int × Int)} (hs : l.Pairwise fun a b => a.1 ≤ b.1 ∧ aheadOf least a.2 b.2 = true) : ∀ r ∈ Fil.old win t l, ¬ sadd r.1 win < t := by
 induction l with
 | nil => intro r h; cases h
 | cons q l ih =>
  rw [List.pairwise_cons] at hs
  rw [Fil.old_cons]
  split
  ·exact ih hs.2
  ·rename_i hq
   intro r hr
   rcases List.mem_cons.1 hr with rfl | h2
   ·exact hq
   ·have := sadd_mono (win := win) (hs.1 r h2).1
    omega
theorem FInv.to {win now t : Int} {least : Bool} {all row : List (Int × Int)} (h : FInv win now least all row) (ht : now ≤ t) : FInv win t least all (Fil.old win t row) := by
 refine ⟨fun r hr => h.mem r ((List.dropWhile_sublist _).subset hr), old_cnt h.sorted, ?_, List.Pairwise.sublist (List.dropWhile_sublist _) h.sorted, fun r hr => Int.le_trans (h.le r hr) ht⟩
 intro r hr hc
 obtain ⟨r', h1, h2, h3⟩ := h.cover r hr (by omega)
 have := sadd_mono (win := win) h2
 exact ⟨r', mem_old h1 (by omega), h2, h3⟩
theorem worse_split (least : Bool) (x : Int) (l : List (Int × Int)) : ∃ gone, l = Fil.worse least x l ++ gone ∧ (∀ r ∈ gone, aheadOf least r.2 x = false) ∧ (∀ r, (Fil.worse least x l).getLast? = some r → aheadOf least r.2 x = true) := by
 refine ⟨(l.reverse.takeWhile fun r => !aheadOf least r.2 x).reverse, ?_, ?_, ?_⟩
 ·unfold Fil.worse
  rw [← List.reverse_append, List.takeWhile_append_dropWhile, List.reverse_reverse]
 ·intro r hr
  have h1 := List.mem_reverse.1 hr
  have h2 := List.all_takeWhile (p := fun r : Int × Int => !aheadOf least r.2 x) (l := l.reverse)
  have h3 := List.all_eq_true.1 h2 r h1
  simpa using h3
 ·intro r hr
  unfold Fil.worse at hr
  rw [List.getLast?_reverse] at hr
  have h2 := List.head?_dropWhile_not (fun r : Int × Int => !aheadOf least r.2 x) l.reverse
  rw [hr] at h2
  simpa using h2
theorem FInv.put {win t x : Int} {least : Bool} {all row : List (Int × Int)} (h : FInv win t least all row) (hw : ¬ sadd t win < t) : FInv win t least (all ++ [(t, x)]) (Fil.worse least x row ++ [(t, x)]) := by
 obtain ⟨gone, h1, h2, h3⟩ := worse_split least x row
 generalize Fil.worse least x row = kept at *
 have hk : ∀ r ∈ kept, r ∈ row := fun r hr => by rw [h1]; exact List.mem_append_left _ hr
 have hs := h.sorted
 rw [h1, List.pairwise_append] at hs
 have ha : ∀ r ∈ kept, aheadOf least r.2 x = true := by
  intro r hr
  rcases List.eq_nil_or_concat kept with e | ⟨k0, q, e⟩
  ·rw [e] at hr; cases hr
  ·have e2 : kept = k0 ++ [q] := by simpa using e
   have hq := h3 q (by rw [e2]; simp)
   rw [e2] at hr
   rcases List.mem_append.1 hr with hr | hr
   ·have hp := hs.1
    rw [e2, List.pairwise_append] at hp
    exact ahead_trans (hp.2.2 r hr q (by simp)).2 hq
   ·rw [List.mem_singleton.1 hr]; exact hq
 refine ⟨?_, ?_, ?_, ?_, ?_⟩
 ·intro r hr
  rcases List.mem_append.1 hr with hr | hr
  ·exact List.mem_append_left _ (h.mem r (hk r hr))
  ·exact List.mem_append_right _ hr
 ·intro r hr
  rcases List.mem_append.1 hr with hr | hr
  ·exact h.cnt r (hk r hr)
  ·rw [List.mem_singleton.1 hr]; exact hw
 ·intro r hr hc
  rcases List.mem_append.1 hr with hr | hr
  ·obtain ⟨r', g1, g2, g3⟩ := h.cover r hr hc
   rw [h1] at g1
   rcases List.mem_append.1 g1 with g1 | g1
   ·exact ⟨r', List.mem_append_left _ g1, g2, g3⟩
   ·exact ⟨(t, x), by simp, h.le r hr, behind_trans g3 (h2 r' g1)⟩
  ·rw [List.mem_singleton.1 hr]
   exact ⟨(t, x), by simp, Int.le_refl _, ahead_self _ _⟩
 ·rw [List.pairwise_append]
  refine ⟨hs.1, List.pairwise_singleton .., ?_⟩
  intro a ha2 b hb
  rw [List.mem_singleton.1 hb]
  exact ⟨h.le a (h.mem a (hk a ha2)), ha a ha2⟩
 ·intro r hr
  rcases List.mem_append.1 hr with hr | hr
  ·exact h.le r hr
  ·rw [List.mem_singleton.1 hr]; exact Int.le_refl _
theorem FInv.best {win now : Int} {least : Bool} {all : List (Int × Int)} {q : Int × Int} {row : List (Int × Int)} (h : FInv win now least all (q :: row)) : q ∈ all ∧ ¬ sadd q.1 win < now ∧ ∀ r ∈ all, ¬ sadd r.1 win < now → aheadOf least r.2 q.2 = false := by
 refine ⟨h.mem q (List.mem_cons_self ..), h.cnt q (List.mem_cons_self ..), fun r hr hc => ?_⟩
 obtain ⟨r', h1, _, h3⟩ := h.cover r hr hc
 have hs := h.sorted
 rw [List.pairwise_cons] at hs
 rcases List.mem_cons.1 h1 with rfl | h1
 ·exact h3
 ·have h4 := (hs.1 r' h1).2
  refine behind_trans h3 ?_
  unfold aheadOf at h4 ⊢
  cases least <;> simp_all <;> omega
theorem FInv.none {win now : Int} {least : Bool} {all : List (Int × Int)} (h : FInv win now least all []) : ∀ r ∈ all, sadd r.1 win < now := by
 intro r hr
 by_cases hc : sadd r.1 win < now
 ·exact hc
 ·obtain ⟨_, h1, _⟩ := h.cover r hr hc
  cases h1
end Go.Proofs.YtmkcpnlbicijoaaGreat
namespace Go.Proofs.YtmkcpnlbicijoaaGreat
open Go.RowKit
def fil (b : Nat) (s : Fil) : Asn := exA fun rb : Nat => sep (pts b (.cells #[.pointer (some ⟨rb, 0, none⟩), .int .u64 s.win, .int .u64 s.now, .bool s.least] 159 (0, 0))) (rgRing rb (s.l.map encR))
section
variable (ε w : World) (R : List Asn) (b : Nat)
theorem Own.fil_open {s : Fil} (H : Own ε w (fil b s :: R)) : ∃ rb, Own ε w (pts b (.cells #[.pointer (some ⟨rb, 0, none⟩), .int .u64 s.win, .int .u64 s.now, .bool s.least] 159 (0, 0)) :: rgRing rb (s.l.map encR) :: R) := by
 obtain ⟨rb, H⟩ := H.ex
 exact ⟨rb, H.split⟩
theorem Own.fil_mk {s : Fil} {rb : Nat} (H : Own ε w (pts b (.cells #[.pointer (some ⟨rb, 0, none⟩), .int .u64 s.win, .int .u64 s.now, .bool s.least] 159 (0, 0)) :: rgRing rb (s.l.map encR) :: R)) : Own ε w (fil b s :: R) := Own.ex_mk rb H.join
theorem filMost_c (win : Int) (H : Own ε w R) :
  Calls Tryz.prog 100 #[.int .u64 win] w fun e w' => ∃ b, e = .returned (.pointer (some ⟨b, 0, none⟩)) ∧ Own ε w' (fil b ⟨win, 0, false, []⟩ :: R) := by
 have HH := Lib.hid H; clear H
 go_enter Tryz.func100, Tryz.ntmps100
 go_wp2_with fail
 refine (rgNew_c ε w _ HH.out).mono ?_
 rintro e w2 ⟨rb, rfl, H2⟩
 replace H2 := Lib.hid H2
 go_wp2_with (with_reducible first | refine stop_bs ?_ | refine stop_bx ?_ | refine stop_al ?_ | refine stop_ms ?_ | refine stop_app ?_ | refine stop_copy ?_)
 refine Stop.go ?_
 go_step
 go_simp
 have H3 := Lib.hid (H2.out.alloc (.cells #[.pointer (some ⟨rb, 0, none⟩), .int .u64 win, .int .u64 0, .bool false] 159))
 generalize w2.alloc (.cells #[.pointer (some ⟨rb, 0, none⟩), .int .u64 win, .int .u64 0, .bool false] 159) = w3 at *
 generalize w2.heap.size = b at *
 go_wp2_with fail
 go_ret
 exact ⟨_, rfl, Own.fil_mk ε w3 R b H3.out⟩
theorem filLeast_c (win : Int) (H : Own ε w R) :
  Calls Tryz.prog 57 #[.int .u64 win] w fun e w' => ∃ b, e = .returned (.pointer (some ⟨b, 0, none⟩)) ∧ Own ε w' (fil b ⟨win, 0, true, []⟩ :: R) := by
 have HH := Lib.hid H; clear H
 go_enter Tryz.func57, Tryz.ntmps57
 go_wp2_with fail
 refine (filMost_c ε w _ win HH.out).mono ?_
 rintro e w2 ⟨b, rfl, H2⟩
 replace H2 := Lib.hid H2
 obtain ⟨rb, H3⟩ := H2.out.fil_open
 replace H3 := Lib.hid H3
 have k0 := H3.out.cells
 clear H2
 go_wp2_with fail
 go_ret
 exact ⟨_, rfl, Own.fil_mk ε _ R b (H3.out.set 3 (.bool true))⟩
set_option maxHeartbeats 3200000 in
theorem filTo_c (s : Fil) (t : Int) (hs : s.Ok) (H : Own ε w (fil b s :: R)) :
  Calls Tryz.prog 73 #[.pointer (some ⟨b, 0, none⟩), .int .u64 t] w fun e w' => e = .returned (.int .i64 (s.to t).1) ∧ Own ε w' (fil b (s.to t).2 :: R) := by
 obtain ⟨win, now, least, l⟩ := s
 obtain ⟨hU1, hU2, hU3⟩ := hs
 simp only at hU1 hU2 hU3
 obtain ⟨rb, H⟩ := H.fil_open
 have k0 := H.cells
 have HH := Lib.hid H; clear H
 by_cases hlt : t < now
 ·rw [show (⟨win, now, least, l⟩ : Fil).to t = (2, ⟨win, now, least, l⟩) from if_pos hlt]
  go_enter Tryz.func73, Tryz.ntmps73
  go_wp2_with fail
  go_ret
  exact ⟨rfl, Own.fil_mk ε w R b HH.out⟩
 ·rw [show (⟨win, now, least, l⟩ : Fil).to t = (0, ⟨win, t, least, Fil.old win t l⟩) from if_neg hlt]
  go_enter Tryz.func73, Tryz.ntmps73
  go_wp2_with (with_reducible refine stop_st ?_)
  refine Stop.go ?_
  go_step
  go_simp
  have H2 := Lib.hid (HH.out.set 2 (.int .u64 t))
  generalize w.setCell ⟨b, 2, none⟩ (.int .u64 t) = w2 at *
  clear k0
  replace hU3 := Lib.hid hU3
  go_wp2_with fail
  go_loopg [] l.length (fun k wr => ∃ l' : List (Int × Int), l'.length = k ∧ (∀ r ∈ l', U r.1 ∧ U r.2) ∧ Fil.old win t l' = Fil.old win t l ∧ Own ε wr (pts b (.cells #[.pointer (some ⟨rb, 0, none⟩), .int .u64 win, .int .u64 t, .bool least] 159 (0, 0)) :: rgRing rb (l'.map encR) :: R))
  case atStart => exact ⟨l, rfl, hU3.out, rfl, H2.out⟩
  case round =>
   obtain ⟨l', hk, hUl, hold, HR⟩ := hrel
   replace HR := Lib.hid HR
   replace hold := Lib.hid hold
   replace hk := Lib.hid hk
   have k0 := HR.out.cells
   cases l' with
   | nil =>
    have c1 := rgAt_c ε wr _ rb [] 0 HR.out.r2
    rw [show atC [.int .u64 0, .int .u64 0] [] 0 = ([.int .u64 0, .int .u64 0], false) by simp [atC]] at c1
    go_wp2_with fail
    refine (c1).mono ?_
    rintro e w3 ⟨rfl, H3⟩
    replace H3 := Lib.hid H3
    clear c1 k0
    go_wp2_with (with_reducible first | refine stop_bs ?_ | refine stop_bx ?_ | refine stop_al ?_ | refine stop_ms ?_ | refine stop_app ?_ | refine stop_copy ?_)
    refine Stop.go ?_
    go_step
    go_simp
    have H4 := Lib.hid (H3.out.alloc (.cells #[.int .u64 0, .int .u64 0] 154))
    generalize w3.alloc (.cells #[.int .u64 0, .int .u64 0] 154) = w4 at *
    generalize w3.heap.size = bx at *
    have k1 := H4.out.cells
    go_wp2_with (with_reducible refine stop_st ?_)
    refine Stop.go ?_
    go_step
    go_simp
    have H5 := Lib.hid ((show Own _ ((w4.setCell ⟨bx, 0, none⟩ (.int .u64 0)).setCell ⟨bx, 1, none⟩ (.int .u64 0)) _ from Own.slc_setsB H4.out [.int .u64 0, .int .u64 0]))
    generalize ((w4.setCell ⟨bx, 0, none⟩ (.int .u64 0)).setCell ⟨bx, 1, none⟩ (.int .u64 0)) = w5 at *
    clear k1
    go_wp2_with fail
    go_quiet (fail)
    replace H5 := Lib.hid (H5.out.drewN nq)
    go_wp2_with fail
    go_ret
    have e0 := hold.out
    rw [show Fil.old win t [] = [] from rfl] at e0
    refine ⟨rfl, Own.fil_mk ε _ R b (rb := rb) ?_⟩
    rw [← e0]
    exact H5.out.tail.r2
   | cons r l'' =>
    obtain ⟨r1, r2⟩ := r
    have hUr := hUl (r1, r2) (by simp)
    simp only at hUr
    have hUl2 : ∀ r ∈ l'', U r.1 ∧ U r.2 := fun r hr => hUl r (by simp [hr])
    clear hUl
    have c1 := rgAt_c ε wr _ rb (((r1, r2) :: l'').map encR) 0 HR.out.r2
    rw [show atC [.int .u64 0, .int .u64 0] (((r1, r2) :: l'').map encR) 0 = ([.int .u64 r1, .int .u64 r2], true) by rw [show (0 : Int) = ((0 : Nat) : Int) from rfl, atC_in (by simp)]; rfl] at c1
    go_wp2_with fail
    refine (c1).mono ?_
    rintro e w3 ⟨rfl, H3⟩
    replace H3 := Lib.hid H3
    clear c1 k0
    go_wp2_with (with_reducible first | refine stop_bs ?_ | refine stop_bx ?_ | refine stop_al ?_ | refine stop_ms ?_ | refine stop_app ?_ | refine stop_copy ?_)
    refine Stop.go ?_
    go_step
    go_simp
    have H4 := Lib.hid (H3.out.alloc (.cells #[.int .u64 0, .int .u64 0] 154))
    generalize w3.alloc (.cells #[.int .u64 0, .int .u64 0] 154) = w4 at *
    generalize w3.heap.size = bx at *
    have k1 := H4.out.cells
    go_wp2_with (with_reducible refine stop_st ?_)
    refine Stop.go ?_
    go_step
    go_simp
    have H5 := Lib.hid ((show Own _ ((w4.setCell ⟨bx, 0, none⟩ (.int .u64 r1)).setCell ⟨bx, 1, none⟩ (.int .u64 r2)) _ from Own.slc_setsB H4.out [.int .u64 r1, .int .u64 r2]))
    generalize ((w4.setCell ⟨bx, 0, none⟩ (.int .u64 r1)).setCell ⟨bx, 1, none⟩ (.int .u64 r2)) = w5 at *
    clear k1 H3 H4
    replace hUl2 := Lib.hid hUl2
    rcases Int.lt_or_le (sadd r1 win) t with hold2 | hold2
    ·have e9 : Fil.old win t ((r1, r2) :: l'') = Fil.old win t l'' := by rw [Fil.old_cons, if_pos hold2]
     replace e9 := Lib.hid e9
     go_wp2_with fail
     refine wp_region_mix (fun w' => w'.cell? ⟨bx, 0, none⟩ = some (.int .u64 r1) ∧ w'.cell? ⟨b, 1, none⟩ = some (.int .u64 win)) none (by kernel_rfl) ?_
     change wpMix _ _ _ _ _ _ _ _ _ w5.drew
     replace H5 := Lib.hid H5.out.drew
     generalize w5.drew = w6 at *
     have HS : (fun w' : World => w'.cell? ⟨bx, 0, none⟩ = some (.int .u64 r1) ∧ w'.cell? ⟨b, 1, none⟩ = some (.int .u64 win)) w6 := ⟨H5.out.cells.1 0, H5.out.r3.cells.1 1⟩
     refine mix_s 0 HS ?_
     refine mix_s 1 HS ?_
     refine mix_s 2 HS ?_
     refine mix_s 3 HS ?_
     refine mix_s 4 HS ?_
     refine mix_s 5 HS ?_
     refine mix_s 6 HS ?_
     refine mix_s 7 HS ?_
     refine mix_s 8 HS ?_
     refine mix_s 11 HS ?_
     refine mix_l (i := 9) rfl (by kernel_rfl) (fun K hK => ?_)
     go_simp
     have H7 := Lib.hid (H5.out.alloc (.cells #[.int .u64 r1, .int .u64 win] 22))
     generalize w6.alloc (.cells #[.int .u64 r1, .int .u64 win] 22) = w7 at *
     generalize w6.heap.size = sb at *
     clear HS
     have HS : (fun w' : World => w'.cell? ⟨bx, 0, none⟩ = some (.int .u64 r1) ∧ w'.cell? ⟨b, 1, none⟩ = some (.int .u64 win)) w7 := ⟨H7.out.r2.cells.1 0, H7.out.r4.cells.1 1⟩
     refine hK _ _ HS ?_
     clear hK K
     obtain ⟨c1, _⟩ := H7.out.cells
     refine mix_l (i := 10) rfl (by kernel_rfl) (fun K hK => ?_)
     go_simp
     refine (fixAdd2_c _ _ r1 win hUr.1 hU1 (c1 0) (c1 1)).mono ?_
     rintro e w' ⟨rfl, rfl⟩
     refine hK _ _ HS ?_
     clear hK K
     refine mix_s 12 HS ?_
     refine mix_s 13 HS ?_
     refine mix_done (by kernel_rfl) ?_ _
     clear HS
     clear c1
     have k0 := H7.out.r4.cells
     have c1 := rgShift_c ε w7 _ rb (((r1, r2) :: l'').map encR) H7.out.r3
     rw [show atC [.int .u64 0, .int .u64 0] (((r1, r2) :: l'').map encR) 0 = ([.int .u64 r1, .int .u64 r2], true) by rw [show (0 : Int) = ((0 : Nat) : Int) from rfl, atC_in (by simp)]; rfl] at c1
     go_wp2_with fail
     refine (c1).mono ?_
     rintro e w8 ⟨rfl, H8⟩
     replace H8 := Lib.hid H8
     clear c1 k0
     go_wp2_with fail
     go_roundg l''.length
     case measure => have := hk.out; simp at this; omega
     case rel => exact ⟨l'', rfl, hUl2.out, by rw [← hold.out, e9.out], H8.out.r2.tail.r2.tail.r2⟩
    ·have e9 : Fil.old win t ((r1, r2) :: l'') = (r1, r2) :: l'' := by rw [Fil.old_cons, if_neg (by simp only; omega)]
     replace e9 := Lib.hid e9
     go_wp2_with fail
     refine wp_region_mix (fun w' => w'.cell? ⟨bx, 0, none⟩ = some (.int .u64 r1) ∧ w'.cell? ⟨b, 1, none⟩ = some (.int .u64 win)) none (by kernel_rfl) ?_
     change wpMix _ _ _ _ _ _ _ _ _ w5.drew
     replace H5 := Lib.hid H5.out.drew
     generalize w5.drew = w6 at *
     have HS : (fun w' : World => w'.cell? ⟨bx, 0, none⟩ = some (.int .u64 r1) ∧ w'.cell? ⟨b, 1, none⟩ = some (.int .u64 win)) w6 := ⟨H5.out.cells.1 0, H5.out.r3.cells.1 1⟩
     refine mix_s 0 HS ?_
     refine mix_s 1 HS ?_
     refine mix_s 2 HS ?_
     refine mix_s 3 HS ?_
     refine mix_s 4 HS ?_
     refine mix_s 5 HS ?_
     refine mix_s 6 HS ?_
     refine mix_s 7 HS ?_
     refine mix_s 8 HS ?_
     refine mix_s 11 HS ?_
     refine mix_l (i := 9) rfl (by kernel_rfl) (fun K hK => ?_)
     go_simp
     have H7 := Lib.hid (H5.out.alloc (.cells #[.int .u64 r1, .int .u64 win] 22))
     generalize w6.alloc (.cells #[.int .u64 r1, .int .u64 win] 22) = w7 at *
     generalize w6.heap.size = sb at *
     clear HS
     have HS : (fun w' : World => w'.cell? ⟨bx, 0, none⟩ = some (.int .u64 r1) ∧ w'.cell? ⟨b, 1, none⟩ = some (.int .u64 win)) w7 := ⟨H7.out.r2.cells.1 0, H7.out.r4.cells.1 1⟩
     refine hK _ _ HS ?_
     clear hK K
     obtain ⟨c1, _⟩ := H7.out.cells
     refine mix_l (i := 10) rfl (by kernel_rfl) (fun K hK => ?_)
     go_simp
     refine (fixAdd2_c _ _ r1 win hUr.1 hU1 (c1 0) (c1 1)).mono ?_
     rintro e w' ⟨rfl, rfl⟩
     refine hK _ _ HS ?_
     clear hK K
     refine mix_s 12 HS ?_
     refine mix_s 13 HS ?_
     refine mix_done (by kernel_rfl) ?_ _
     clear HS
     clear c1
     go_wp2_with fail
     go_ret
     refine ⟨rfl, Own.fil_mk ε _ R b (rb := rb) ?_⟩
     rw [← hold.out, e9.out]
     exact H7.out.tail.tail.r2
end
end Go.Proofs.YtmkcpnlbicijoaaGreat
