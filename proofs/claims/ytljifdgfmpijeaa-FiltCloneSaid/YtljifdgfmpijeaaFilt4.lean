/- filt: the live question, and FiltFew. -/
import Derived.Test.YtljifdgfmpijeaaFilt3
import Derived.Test.YtljifdgfmpijeaaFiltE
import Derived.Test.YtljifdgfmpijeaaItAt
import Derived.Test.YtljifdgfmpijeaaRdU
import Derived.Outline
namespace Go.Proofs.Ytljifdgfmpijeaa
open Go.RowKit
theorem slc_rdF {α : Type} {enc : α → List Value} {sz : Nat} {T : TypeId} {A : Option Addr} {n cap : Nat} {l : List α} (he : ∀ x, (enc x).length = sz) (hz : 0 < sz) {ε wx : World} {R : List Asn} (H : Own ε wx (slc T sz (.slice A n cap) (encs enc l) :: R)) : itAt enc sz wx A n l := by
  obtain ⟨_, _, _, e, _, _, h⟩ := H.slc_it he hz
  cases e
  exact h
theorem encR_len (x : Int × Int) : (encR x).length = 2 := rfl
theorem any_step {α : Type} {p : α → Bool} {l : List α} {k : Nat} {r : α} (h : l[k]? = some r) : (l.take (k + 1)).any p = ((l.take k).any p || p r) := by
  rw [List.take_add_one, h]
  simp
section
variable (w : World)
set_option maxHeartbeats 1600000 in
theorem alive05_k : Calls Try.prog 5 #[] w fun e w' => e = .returned (.bool true) ∧ Below w.heap.size w w' := by
  have HH := Lib.hid (Own.init w)
  have ok0 : (⟨10, 0, true, []⟩ : Fil).Ok := ⟨by decide, by decide, by simp⟩
  have ok1 : (⟨10, 1, true, [(1, 5)]⟩ : Fil).Ok := ⟨by decide, by decide, by simp; decide⟩
  have ok2 : (⟨10, 4, true, [(1, 5), (4, 7)]⟩ : Fil).Ok := ⟨by decide, by decide, by simp; decide⟩
  have ok3 : (⟨10, 12, true, [(4, 7)]⟩ : Fil).Ok := ⟨by decide, by decide, by simp; decide⟩
  replace ok0 := Lib.hid ok0
  replace ok1 := Lib.hid ok1
  replace ok2 := Lib.hid ok2
  replace ok3 := Lib.hid ok3
  go_enter Try.func5, Try.ntmps5
  go_wp2_with fail
  refine (filLeast_c w _ _ 10 HH.out).mono ?_
  rintro e w1_ ⟨b, rfl, H9_⟩
  replace HH := Lib.hid H9_
  clear H9_
  go_wp2_with fail
  refine (filPut_c w _ _ b ⟨10, 0, true, []⟩ 1 5 ok0.out (by decide) HH.out).mono ?_
  rw [show (⟨10, 0, true, []⟩ : Fil).put 1 5 = (0, ⟨10, 1, true, [(1, 5)]⟩) from by first | rfl | decide]
  rintro e w2_ ⟨rfl, H9_⟩
  replace HH := Lib.hid H9_
  clear H9_
  go_wp2_with fail
  refine (filPut_c w _ _ b ⟨10, 1, true, [(1, 5)]⟩ 4 7 ok1.out (by decide) HH.out).mono ?_
  rw [show (⟨10, 1, true, [(1, 5)]⟩ : Fil).put 4 7 = (0, ⟨10, 4, true, [(1, 5), (4, 7)]⟩) from by first | rfl | decide]
  rintro e w3_ ⟨rfl, H9_⟩
  replace HH := Lib.hid H9_
  clear H9_
  go_wp2_with fail
  refine (filBest_c w _ _ b ⟨10, 4, true, [(1, 5), (4, 7)]⟩ HH.out).mono ?_
  rw [show (⟨10, 4, true, [(1, 5), (4, 7)]⟩ : Fil).best = ((1, 5), true) from by first | rfl | decide]
  rintro e w4_ ⟨rfl, H9_⟩
  replace HH := Lib.hid H9_
  clear H9_
  go_wp2_with fail
  refine (filTo_c w _ _ b ⟨10, 4, true, [(1, 5), (4, 7)]⟩ 12 ok2.out HH.out).mono ?_
  rw [show (⟨10, 4, true, [(1, 5), (4, 7)]⟩ : Fil).to 12 = (0, ⟨10, 12, true, [(4, 7)]⟩) from by first | rfl | decide]
  rintro e w5_ ⟨rfl, H9_⟩
  replace HH := Lib.hid H9_
  clear H9_
  go_wp2_with fail
  refine (filBest_c w _ _ b ⟨10, 12, true, [(4, 7)]⟩ HH.out).mono ?_
  rw [show (⟨10, 12, true, [(4, 7)]⟩ : Fil).best = ((4, 7), true) from by first | rfl | decide]
  rintro e w6_ ⟨rfl, H9_⟩
  replace HH := Lib.hid H9_
  clear H9_
  go_wp2_with fail
  refine (filTo_c w _ _ b ⟨10, 12, true, [(4, 7)]⟩ 11 ok3.out HH.out).mono ?_
  rw [show (⟨10, 12, true, [(4, 7)]⟩ : Fil).to 11 = (2, ⟨10, 12, true, [(4, 7)]⟩) from by first | rfl | decide]
  rintro e w7_ ⟨rfl, H9_⟩
  replace HH := Lib.hid H9_
  clear H9_
  go_wp2_with fail
  go_ret
  exact ⟨rfl, HH.out.tail.old_below⟩
theorem of05_c (ε : World) (R : List Asn) (win : Int) (least : Bool) (H : Own ε w R) :
    Calls Try.prog 6 #[.int .u64 win, .bool least] w fun e w' => ∃ b, e = .returned (.pointer (some ⟨b, 0, none⟩)) ∧ Own ε w' (fil b ⟨win, 0, least, []⟩ :: R) := by
  have HH := Lib.hid H; clear H
  cases least
  · go_enter Try.func6, Try.ntmps6
    go_wp2_with fail
    refine (filMost_c ε _ _ win HH.out).mono ?_
    rintro e w8_ ⟨b, rfl, H9_⟩
    replace HH := Lib.hid H9_
    clear H9_
    go_wp2_with fail
    go_ret
    exact ⟨_, rfl, HH.out⟩
  · go_enter Try.func6, Try.ntmps6
    go_wp2_with fail
    refine (filLeast_c ε _ _ win HH.out).mono ?_
    rintro e w9_ ⟨b, rfl, H9_⟩
    replace HH := Lib.hid H9_
    clear H9_
    go_wp2_with fail
    go_ret
    exact ⟨_, rfl, HH.out⟩
abbrev ActF := Bool × Int × Int × Unit
def rdActF : Rd ActF := rdPair rdBool (rdPair (rdInt .u64) (rdPair (rdInt .u64) rdUnit))
theorem rdActF_open {w : World} {c : List Value} {x : ActF} (h : rdActF w c x) : c = [.bool x.1, .int .u64 x.2.1, .int .u64 x.2.2.1] ∧ U x.2.1 ∧ U x.2.2.1 := by
  obtain ⟨c1, d1, rfl, rfl, c2, d2, rfl, ⟨rfl, h2⟩, c3, d3, rfl, ⟨rfl, h3⟩, rfl⟩ := h
  exact ⟨rfl, U_of_wf h2, U_of_wf h3⟩
theorem Fil.ok_to {s : Fil} {t : Int} (h : s.Ok) (ht : U t) : (s.to t).2.Ok := by
  unfold Fil.to
  split
  · exact h
  · exact ⟨h.1, ht, fun r hr => h.2.2 r ((List.dropWhile_sublist _).subset hr)⟩
theorem Fil.ok_put {s : Fil} {t x : Int} (h : s.Ok) (ht : U t) (hx : U x) : (s.put t x).2.Ok := by
  unfold Fil.put
  split
  · exact h
  · refine ⟨h.1, ht, fun r hr => ?_⟩
    rcases List.mem_append.1 hr with hr | hr
    · exact h.2.2 r ((List.dropWhile_sublist _).subset (worse_sub _ _ _ r hr))
    · rw [List.mem_singleton.1 hr]; exact ⟨ht, hx⟩
theorem worse_len (least : Bool) (x : Int) (l : List (Int × Int)) : (Fil.worse least x l).length ≤ l.length := by
  unfold Fil.worse
  rw [List.length_reverse]
  exact Nat.le_trans (List.dropWhile_sublist _).length_le (by rw [List.length_reverse]; exact Nat.le_refl _)
theorem old_len (win t : Int) (l : List (Int × Int)) : (Fil.old win t l).length ≤ l.length := (List.dropWhile_sublist _).length_le
theorem sadd_ge {t win : Int} (ht : U t) (hw : U win) : ¬ sadd t win < t := by
  unfold sadd; unfold U at *; split <;> omega
/-- Counts a reading? -/
def cntB (win now : Int) (r : Int × Int) : Bool := !decide (sadd r.1 win < now)
theorem FInv.none_any {win now : Int} {least : Bool} {all : List (Int × Int)} (h : FInv win now least all []) : all.any (cntB win now) = false := by
  rw [List.any_eq_false]
  intro r hr
  simp [cntB, h.none r hr]
theorem FInv.best_any {win now : Int} {least : Bool} {all : List (Int × Int)} {q : Int × Int} {row : List (Int × Int)} (h : FInv win now least all (q :: row)) : all.any (cntB win now) = true ∧ all.any (fun r => cntB win now r && (decide (r.1 = q.1) && decide (r.2 = q.2))) = true := by
  obtain ⟨h1, h2, _⟩ := h.best
  constructor
  · rw [List.any_eq_true]; exact ⟨q, h1, by simp [cntB]; omega⟩
  · rw [List.any_eq_true]; exact ⟨q, h1, by simp [cntB]; omega⟩
end
end Go.Proofs.Ytljifdgfmpijeaa
