/- conf: may a setup be: a range over a function. -/
import Derived.Test.YtpfbbpiidhhkbaaConf
import Derived.Test.YtpfbbpiidhhkbaaRound
import Derived.Sort.QuietTacIn
import Derived.Shelf.Abstract
namespace Go.Proofs.Ytpfbbpiidhhkbaa
open Go.RowKit Go.Shelf
attribute [local go_sem] Oper.semAt_some
section
variable (ε w : World) (A : List Asn)
abbrev capCf (kb cb : Nat) : Asn := pts kb (.cells #[.pointer (some ⟨cb, 0, none⟩)] 77 (0, 0))
abbrev cnfB (cb : Nat) (c : Cnf) : Asn := pts cb (.cells #[.int .u64 c.mss, .int .u64 c.init, .int .u64 c.reorder, .int .u64 c.window, .int .u64 c.probe, .int .u64 c.loss] 24 (0, 0))
def Cnf.all (c : Cnf) : Bool := inB c.mss 1 65535 && inB c.init 4 1000 && inB c.reorder 1 100 && inB c.window 1 1099511627776 && inB c.probe 1 1099511627776 && inB c.loss 0 1000
theorem Cnf.all_right {c : Cnf} (h : c.Ok) : c.all = c.right := by
  unfold Cnf.all Cnf.right
  have : inB c.loss 0 1000 = decide (c.loss ≤ 1000) := by unfold inB; have := h.loss.1; simp [this]
  rw [this]
def YOut (ε : World) (F G : List Asn) (b : Bool) (e : Ending) (w' : World) : Prop := e = .returned (.bool b) ∧ (b = true → Own ε w' F) ∧ (b = false → Own ε w' G)
def IOut (ε : World) (F G : List Asn) (b : Bool) (e : Ending) (w' : World) : Prop := (∃ v, e = .returned v) ∧ (b = true → Own ε w' F) ∧ (b = false → Own ε w' G)
set_option maxHeartbeats 3200000 in
theorem confIter_c (m l kb cb : Nat) (c : Cnf) (F G : List Asn)
    (hY : ∀ nm o lo hi x W, c.cells[o]? = some (.int .u64 x) → Own ε W (capCf kb cb :: cnfB cb c :: F) → YieldAt Fence.wide m Try.prog l #[.string nm, .agg #[.pointer (some ⟨cb, o, none⟩), .int .u64 lo, .int .u64 hi]] W (YOut ε (capCf kb cb :: cnfB cb c :: F) G (inB x lo hi)))
    (H : Own ε w (capCf kb cb :: cnfB cb c :: F)) :
    Calls Try.prog 69 #[.func (.yield l) #[] #[], .pointer (some ⟨kb, 0, none⟩)] w (IOut ε (capCf kb cb :: cnfB cb c :: F) G c.all) := by
  have HH := Lib.hid H; clear H
  replace hY := Lib.hid hY
  unfold Cnf.all
  obtain ⟨b1, e1⟩ : ∃ x, inB c.mss 1 65535 = x := ⟨_, rfl⟩
  obtain ⟨b2, e2⟩ : ∃ x, inB c.init 4 1000 = x := ⟨_, rfl⟩
  obtain ⟨b3, e3⟩ : ∃ x, inB c.reorder 1 100 = x := ⟨_, rfl⟩
  obtain ⟨b4, e4⟩ : ∃ x, inB c.window 1 1099511627776 = x := ⟨_, rfl⟩
  obtain ⟨b5, e5⟩ : ∃ x, inB c.probe 1 1099511627776 = x := ⟨_, rfl⟩
  obtain ⟨b6, e6⟩ : ∃ x, inB c.loss 0 1000 = x := ⟨_, rfl⟩
  rw [e1, e2, e3, e4, e5, e6]
  replace e1 := Lib.hid e1
  replace e2 := Lib.hid e2
  replace e3 := Lib.hid e3
  replace e4 := Lib.hid e4
  replace e5 := Lib.hid e5
  replace e6 := Lib.hid e6
  go_enter Try.func69, Try.ntmps69
  (try clear cc1_); (try clear cc2_); (try clear cc3_); (try clear cc4_); (try clear cc5_); (try clear cc6_); (try clear cc7_)
  have cc1_ := HH.out.cells
  obtain ⟨fn, tmps, assign, body, hy, hR⟩ := hY.out ⟨#[109, 115, 115]⟩ 0 1 65535 c.mss _ rfl HH.out
  refine (wpIn_wide (n := m + 1)).1 ?_
  gi_wp2
  refine hR.mono ?_
  clear hy hR
  rw [e1.out]
  rintro e w1 ⟨rfl, hT, hF⟩
  cases b1
  case' false =>
    have H9 := Lib.hid (hF rfl)
    clear hT hF HH
    gi_wp2
    (repeat (refine ⟨fun _ h => (nomatch h), ?_⟩; gi_wp2))
    go_wp2_with fail
    first | go_end0 | ((try simp only [Exit.inBlock, Exit.then]); refine bodyPost_ret (results_none rfl _ _ _) rfl ?_)
    exact ⟨⟨_, rfl⟩, fun h => by simp at h, fun _ => H9.out⟩
  replace HH := Lib.hid (hT rfl)
  clear hT hF
  (try clear cc1_); (try clear cc2_); (try clear cc3_); (try clear cc4_); (try clear cc5_); (try clear cc6_); (try clear cc7_)
  have cc1_ := HH.out.cells
  obtain ⟨fn, tmps, assign, body, hy, hR⟩ := hY.out ⟨#[105, 110, 105, 116]⟩ 1 4 1000 c.init _ rfl HH.out
  gi_wp2
  refine hR.mono ?_
  clear hy hR
  rw [e2.out]
  rintro e w2 ⟨rfl, hT, hF⟩
  cases b2
  case' false =>
    have H9 := Lib.hid (hF rfl)
    clear hT hF HH
    gi_wp2
    (repeat (refine ⟨fun _ h => (nomatch h), ?_⟩; gi_wp2))
    go_wp2_with fail
    first | go_end0 | ((try simp only [Exit.inBlock, Exit.then]); refine bodyPost_ret (results_none rfl _ _ _) rfl ?_)
    exact ⟨⟨_, rfl⟩, fun h => by simp at h, fun _ => H9.out⟩
  replace HH := Lib.hid (hT rfl)
  clear hT hF
  (try clear cc1_); (try clear cc2_); (try clear cc3_); (try clear cc4_); (try clear cc5_); (try clear cc6_); (try clear cc7_)
  have cc1_ := HH.out.cells
  obtain ⟨fn, tmps, assign, body, hy, hR⟩ := hY.out ⟨#[114, 101, 111, 114, 100, 101, 114]⟩ 2 1 100 c.reorder _ rfl HH.out
  gi_wp2
  refine hR.mono ?_
  clear hy hR
  rw [e3.out]
  rintro e w3 ⟨rfl, hT, hF⟩
  cases b3
  case' false =>
    have H9 := Lib.hid (hF rfl)
    clear hT hF HH
    gi_wp2
    (repeat (refine ⟨fun _ h => (nomatch h), ?_⟩; gi_wp2))
    go_wp2_with fail
    first | go_end0 | ((try simp only [Exit.inBlock, Exit.then]); refine bodyPost_ret (results_none rfl _ _ _) rfl ?_)
    exact ⟨⟨_, rfl⟩, fun h => by simp at h, fun _ => H9.out⟩
  replace HH := Lib.hid (hT rfl)
  clear hT hF
  (try clear cc1_); (try clear cc2_); (try clear cc3_); (try clear cc4_); (try clear cc5_); (try clear cc6_); (try clear cc7_)
  have cc1_ := HH.out.cells
  obtain ⟨fn, tmps, assign, body, hy, hR⟩ := hY.out ⟨#[119, 105, 110, 100, 111, 119]⟩ 3 1 1099511627776 c.window _ rfl HH.out
  gi_wp2
  refine hR.mono ?_
  clear hy hR
  rw [e4.out]
  rintro e w4 ⟨rfl, hT, hF⟩
  cases b4
  case' false =>
    have H9 := Lib.hid (hF rfl)
    clear hT hF HH
    gi_wp2
    (repeat (refine ⟨fun _ h => (nomatch h), ?_⟩; gi_wp2))
    go_wp2_with fail
    first | go_end0 | ((try simp only [Exit.inBlock, Exit.then]); refine bodyPost_ret (results_none rfl _ _ _) rfl ?_)
    exact ⟨⟨_, rfl⟩, fun h => by simp at h, fun _ => H9.out⟩
  replace HH := Lib.hid (hT rfl)
  clear hT hF
  (try clear cc1_); (try clear cc2_); (try clear cc3_); (try clear cc4_); (try clear cc5_); (try clear cc6_); (try clear cc7_)
  have cc1_ := HH.out.cells
  obtain ⟨fn, tmps, assign, body, hy, hR⟩ := hY.out ⟨#[112, 114, 111, 98, 101]⟩ 4 1 1099511627776 c.probe _ rfl HH.out
  gi_wp2
  refine hR.mono ?_
  clear hy hR
  rw [e5.out]
  rintro e w5 ⟨rfl, hT, hF⟩
  cases b5
  case' false =>
    have H9 := Lib.hid (hF rfl)
    clear hT hF HH
    gi_wp2
    (repeat (refine ⟨fun _ h => (nomatch h), ?_⟩; gi_wp2))
    go_wp2_with fail
    first | go_end0 | ((try simp only [Exit.inBlock, Exit.then]); refine bodyPost_ret (results_none rfl _ _ _) rfl ?_)
    exact ⟨⟨_, rfl⟩, fun h => by simp at h, fun _ => H9.out⟩
  replace HH := Lib.hid (hT rfl)
  clear hT hF
  (try clear cc1_); (try clear cc2_); (try clear cc3_); (try clear cc4_); (try clear cc5_); (try clear cc6_); (try clear cc7_)
  have cc1_ := HH.out.cells
  obtain ⟨fn, tmps, assign, body, hy, hR⟩ := hY.out ⟨#[108, 111, 115, 115]⟩ 5 0 1000 c.loss _ rfl HH.out
  gi_wp2
  refine hR.mono ?_
  clear hy hR
  rw [e6.out]
  rintro e w6 ⟨rfl, hT, hF⟩
  cases b6
  case' false =>
    have H9 := Lib.hid (hF rfl)
    clear hT hF HH
    gi_wp2
    (repeat (refine ⟨fun _ h => (nomatch h), ?_⟩; gi_wp2))
    go_wp2_with fail
    first | go_end0 | ((try simp only [Exit.inBlock, Exit.then]); refine bodyPost_ret (results_none rfl _ _ _) rfl ?_)
    exact ⟨⟨_, rfl⟩, fun h => by simp at h, fun _ => H9.out⟩
  replace HH := Lib.hid (hT rfl)
  clear hT hF
  gi_wp2
  go_wp2_with fail
  first | go_end0 | ((try simp only [Exit.inBlock, Exit.then]); refine bodyPost_ret (results_none rfl _ _ _) rfl ?_)
  exact ⟨⟨_, rfl⟩, fun _ => HH.out, fun h => by simp at h⟩
end
end Go.Proofs.Ytpfbbpiidhhkbaa
