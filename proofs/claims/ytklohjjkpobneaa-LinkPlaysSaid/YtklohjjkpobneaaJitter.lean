/- jitter: a way that takes a while, more or less. -/
import Derived.Test.YtklohjjkpobneaaRingD4
import Derived.Test.YtklohjjkpobneaaPk
import Derived.Test.YtklohjjkpobneaaReg2
import Derived.Test.YtklohjjkpobneaaFix01
namespace Go.Proofs.Ytklohjjkpobneaa
open Go.RowKit
/-- A packet, and when it is due. -/
structure Du where
  p : Pk
  t : Int
deriving DecidableEq
def Du.cells (d : Du) : List Value := [.int .u64 d.p.n, .int .u64 d.p.size, .int .u64 d.p.sent, .int .u64 d.p.first, .int .u64 d.p.deliv, .int .u64 d.p.at', .bool d.p.lim, .int .u64 d.t]
theorem Du.len (d : Du) : d.cells.length = 8 := rfl
theorem Du.one (d : Du) : ∀ u ∈ d.cells, u.oneCell' = true := by
  intro u h
  simp only [Du.cells, List.mem_cons, List.not_mem_nil, or_false] at h
  rcases h with h | h | h | h | h | h | h | h <;> (rw [h]; rfl)
def Du.zero : Du := ⟨Pk.zero, 0⟩
def dus (l : List Du) : List (List Value) := l.map Du.cells
theorem dus_len (l : List Du) : (dus l).length = l.length := List.length_map ..
theorem dus_snoc (l : List Du) (d : Du) : dus (l ++ [d]) = dus l ++ [d.cells] := by simp [dus]
theorem dus_drop (l : List Du) (n : Nat) : (dus l).drop n = dus (l.drop n) := by simp [dus, List.map_drop]
def headD (l : List Du) : Du × Bool := match l with
  | [] => (Du.zero, false)
  | d :: _ => (d, true)
theorem atC_dus (l : List Du) : atC [.int .u64 0, .int .u64 0, .int .u64 0, .int .u64 0, .int .u64 0, .int .u64 0, .bool false, .int .u64 0] (dus l) 0 = ((headD l).1.cells, (headD l).2) := by
  cases l with
  | nil => rfl
  | cons d l => rw [show (0 : Int) = ((0 : Nat) : Int) from rfl, atC_in (by simp [dus])]; rfl
/-- A box: its delay, jitter, when the last one is due, and what it has. -/
structure Bo where
  delay : Int
  jit : Int
  last : Int
  l : List Du
def Bo.new (delay jit : Int) : Bo := ⟨delay, jit, 0, []⟩
def Bo.due (s : Bo) (now c : Int) : Int := max s.last (sadd (sadd now s.delay) (min c s.jit))
def Bo.put (s : Bo) (p : Pk) (now c : Int) : Bo := { s with last := s.due now c, l := s.l ++ [⟨p, s.due now c⟩] }
def Bo.outL (now : Int) (l : List Du) : List Pk := (l.takeWhile fun d => decide (d.t ≤ now)).map Du.p
def Bo.restL (now : Int) (l : List Du) : List Du := l.dropWhile fun d => decide (d.t ≤ now)
def Bo.out (s : Bo) (now : Int) : List Pk × Bo := (Bo.outL now s.l, { s with l := Bo.restL now s.l })
structure Bo.Ok (s : Bo) : Prop where
  delay : U s.delay
  jit : U s.jit
  last : U s.last
  due : ∀ d ∈ s.l, U d.t
theorem Bo.ok_new {delay jit : Int} (h : U delay) (h2 : U jit) : (Bo.new delay jit).Ok := ⟨h, h2, U_zero, by intro d hd; cases hd⟩
theorem Bo.U_due {s : Bo} {now c : Int} (h : s.Ok) (h1 : U now) (h2 : U c) : U (s.due now c) := by
  have h3 : U (min c s.jit) := by have := h.jit; unfold U at *; omega
  have h4 := U_sadd (U_sadd h1 h.delay) h3
  have := h.last
  unfold Bo.due U at *; omega
theorem Bo.ok_put {s : Bo} {p : Pk} {now c : Int} (h : s.Ok) (h1 : U now) (h2 : U c) : (s.put p now c).Ok := by
  have hu := Bo.U_due h h1 h2
  refine ⟨h.delay, h.jit, hu, ?_⟩
  intro d hd
  rcases List.mem_append.1 hd with hd | hd
  · exact h.due d hd
  · rw [List.mem_singleton.1 hd]; exact hu
theorem Bo.ok_out {s : Bo} {now : Int} (h : s.Ok) : (s.out now).2.Ok := ⟨h.delay, h.jit, h.last, fun d hd => h.due d ((List.dropWhile_sublist _).subset hd)⟩
theorem Bo.out_nil (now : Int) : Bo.outL now [] = [] ∧ Bo.restL now [] = [] := ⟨rfl, rfl⟩
theorem Bo.out_cons (now : Int) (d : Du) (l : List Du) : (d.t ≤ now → Bo.outL now (d :: l) = d.p :: Bo.outL now l ∧ Bo.restL now (d :: l) = Bo.restL now l) ∧ (¬ d.t ≤ now → Bo.outL now (d :: l) = [] ∧ Bo.restL now (d :: l) = d :: l) := by
  unfold Bo.outL Bo.restL
  constructor
  · intro h
    have hd : decide (d.t ≤ now) = true := decide_eq_true h
    simp [hd]
  · intro h
    have hd : decide (d.t ≤ now) = false := decide_eq_false h
    simp [hd]
def box (b : Nat) (s : Bo) : Asn := exA fun rb : Nat => sep (pts b (.cells #[.pointer (some ⟨rb, 0, none⟩), .int .u64 s.delay, .int .u64 s.jit, .int .u64 s.last] 243 (0, 0))) (rdRing rb (dus s.l))
section
variable {ε w : World} {R : List Asn} {b : Nat} {s : Bo}
theorem Own.box_open (H : Own ε w (box b s :: R)) : ∃ rb, Own ε w (pts b (.cells #[.pointer (some ⟨rb, 0, none⟩), .int .u64 s.delay, .int .u64 s.jit, .int .u64 s.last] 243 (0, 0)) :: rdRing rb (dus s.l) :: R) := by
  obtain ⟨rb, H⟩ := H.ex
  exact ⟨rb, H.split⟩
theorem Own.box_mk {rb : Nat} (H : Own ε w (pts b (.cells #[.pointer (some ⟨rb, 0, none⟩), .int .u64 s.delay, .int .u64 s.jit, .int .u64 s.last] 243 (0, 0)) :: rdRing rb (dus s.l) :: R)) : Own ε w (box b s :: R) := Own.ex_mk rb H.join
end
section
variable (ε w : World) (R : List Asn) (b : Nat)
theorem boxNew_c (delay jit : Int) (H : Own ε w R) :
    Calls Try.prog 99 #[.int .u64 delay, .int .u64 jit] w fun e w' => ∃ b, e = .returned (.pointer (some ⟨b, 0, none⟩)) ∧ Own ε w' (box b (Bo.new delay jit) :: R) := by
  have HH := Lib.hid H; clear H
  go_enter Try.func99, Try.ntmps99
  go_wp2_with fail
  refine (rdNew_c ε _ _ HH.out).mono ?_
  rintro e w1_ ⟨rb, rfl, H9_⟩
  replace HH := Lib.hid H9_
  clear H9_
  go_wp2_with (with_reducible refine stop_bx ?_)
  refine Stop.go ?_
  refine wpList_box_own HH.out [_, _, _, _] rfl ?_
  intro b w2_ H9_
  replace HH := Lib.hid H9_
  clear H9_
  go_wp2_with fail
  go_ret
  exact ⟨_, rfl, Own.box_mk (s := Bo.new delay jit) HH.out⟩
set_option maxHeartbeats 1600000 in
theorem boxNext_c (s : Bo) (H : Own ε w (box b s :: R)) :
    Calls Try.prog 118 #[.pointer (some ⟨b, 0, none⟩)] w fun e w' => e = .returned (.tuple #[.int .u64 (headD s.l).1.t, .bool (headD s.l).2]) ∧ Own ε w' (box b s :: R) := by
  obtain ⟨rb, H⟩ := H.box_open
  have HH := Lib.hid H; clear H
  have c1 := atC_dus s.l
  generalize headD s.l = x at c1 ⊢
  obtain ⟨⟨⟨pn, ps, p3, p4, p5, p6, p7⟩, pt⟩, hd⟩ := x
  replace c1 := Lib.hid c1
  have k1 := HH.out.cells
  go_enter Try.func118, Try.ntmps118
  go_wp2_with fail
  refine (rdAt_c ε _ _ rb (dus s.l) 0 HH.out.r2).mono ?_
  rw [c1.out]
  rintro e w3_ ⟨rfl, H9_⟩
  replace HH := Lib.hid H9_
  clear H9_
  clear k1
  go_wp2_with (with_reducible refine stop_al ?_)
  refine Stop.go ?_
  refine wpList_alloc_own HH.out [.int .u64 0, .int .u64 0, .int .u64 0, .int .u64 0, .int .u64 0, .int .u64 0, .bool false, .int .u64 0] (by kernel_rfl) ?_
  intro sx w4_ H9_
  replace HH := Lib.hid H9_
  clear H9_
  go_wp2_with (with_reducible refine stop_st ?_)
  refine Stop.go ?_
  refine wpList_store_own _ #[_, _, _, _, _, _, _, _] rfl rfl HH.out (by kernel_rfl) rfl (by repeat (first | (refine List.forall_mem_cons.2 ⟨(by first | with_reducible assumption | rfl), ?_⟩) | exact fun _ h => absurd h List.not_mem_nil)) ?_
  intro w5_ H9_
  replace HH := Lib.hid H9_
  clear H9_
  (try clear cc1_); (try clear cc2_); (try clear cc3_); (try clear cc4_); (try clear cc5_); (try clear cc6_); (try clear cc7_)
  have cc1_ := HH.out.cells
  go_wp2_with fail
  go_ret2
  exact ⟨rfl, Own.box_mk (Own.pm (HH.out) (by repeat (first | with_reducible exact Pm.refl _ | with_reducible exact Pm.nil _ | with_reducible refine Pm.here ?_ | with_reducible refine Pm.at2 ?_ | with_reducible refine Pm.at3 ?_ | with_reducible refine Pm.at4 ?_ | with_reducible refine Pm.at5 ?_ | with_reducible refine Pm.at6 ?_ | with_reducible refine Pm.at7 ?_ | with_reducible refine Pm.at8 ?_ | with_reducible refine Pm.skip ?_)))⟩
set_option maxHeartbeats 1600000 in
theorem boxPut_c (s : Bo) (p : Pk) (now c : Int) (hs : s.Ok) (h1 : U now) (h2 : U c) (hl : s.l.length ≤ 1000000) (H : Own ε w (box b s :: R)) :
    Calls Try.prog 165 #[.pointer (some ⟨b, 0, none⟩), .agg p.cells.toArray, .int .u64 now, .int .u64 c] w fun e w' => e = .returned (.int .u64 (s.due now c)) ∧ Own ε w' (box b (s.put p now c) :: R) := by
  obtain ⟨rb, H⟩ := H.box_open
  have HH := Lib.hid H; clear H
  have hu := Bo.U_due hs h1 h2
  have hm : U (min c s.jit) := by have := hs.jit; unfold U at *; omega
  have hdl := hs.delay
  have hput : s.put p now c = ⟨s.delay, s.jit, s.due now c, s.l ++ [⟨p, s.due now c⟩]⟩ := rfl
  rw [hput]
  have hdue : max s.last (sadd (sadd now s.delay) (min c s.jit)) = s.due now c := rfl
  generalize s.due now c = dt at hdue hu ⊢
  clear hput hs h2
  obtain ⟨dl, jt, la, l⟩ := s
  obtain ⟨pn, ps, p3, p4, p5, p6, p7⟩ := p
  simp only at hdue hm hdl hl
  have im := min_ite'
  have ix := max_ite'
  replace hm := Lib.hid hm
  replace hdl := Lib.hid hdl
  replace h1 := Lib.hid h1
  clear hu
  go_enter Try.func165, Try.ntmps165
  go_wp2_with (with_reducible refine stop_bx ?_)
  refine Stop.go ?_
  refine wpList_box_own HH.out [_, _, _, _, _, _, _] rfl ?_
  intro sp w6_ H9_
  replace HH := Lib.hid H9_
  clear H9_
  go_wp2_with fail
  refine wp_region_reg (some 21) HH.out (by kernel_rfl) ?_
  intro wm H9_
  replace HH := Lib.hid H9_
  clear H9_
  refine reg_p (i := 0) rfl (by kernel_rfl) (fun _ _ _ _ h => h) HH.out (fun K hK => ?_)
  go_simp
  first | (refine hK _ ?_; clear hK K) | (apply Exists.intro; refine ⟨?_, hK _ ?_⟩; (focus (intro wx; first | (go_simp; first | rfl) | rfl)); clear hK K)
  refine reg_p (i := 1) rfl (by kernel_rfl) (fun _ _ _ _ h => h) HH.out (fun K hK => ?_)
  go_simp
  first | (refine hK _ ?_; clear hK K) | (apply Exists.intro; refine ⟨?_, hK _ ?_⟩; (focus (intro wx; first | (go_simp; first | rfl) | rfl)); clear hK K)
  refine reg_p (i := 2) rfl (by kernel_rfl) (fun _ _ _ _ h => h) HH.out (fun K hK => ?_)
  go_simp
  first | (refine hK _ ?_; clear hK K) | (apply Exists.intro; refine ⟨?_, hK _ ?_⟩; (focus (intro wx; first | (go_simp; first | rfl) | rfl)); clear hK K)
  refine reg_p (i := 3) rfl (by kernel_rfl) (fun _ _ _ _ h => h) HH.out (fun K hK => ?_)
  go_simp
  first | (refine hK _ ?_; clear hK K) | (apply Exists.intro; refine ⟨?_, hK _ ?_⟩; (focus (intro wx; first | (go_simp; first | rfl) | rfl)); clear hK K)
  refine mixk_q (i := 4) rfl (by kernel_rfl) (fun _ _ _ _ h => h) HH.out (fun K hK => ?_)
  go_simp
  first | (refine hK _ ?_; clear hK K) | (apply Exists.intro; refine ⟨?_, hK _ ?_⟩; (focus (intro wx hx; have x2_ := hx.r2.cells; first | (go_simp; first | rfl | exact ⟨rfl, rfl⟩) | rfl | exact ⟨rfl, rfl⟩)); clear hK K)
  refine reg_p (i := 5) rfl (by kernel_rfl) (fun _ _ _ _ h => h) HH.out (fun K hK => ?_)
  go_simp
  first | (refine hK _ ?_; clear hK K) | (apply Exists.intro; refine ⟨?_, hK _ ?_⟩; (focus (intro wx; first | (go_simp; first | rfl) | rfl)); clear hK K)
  refine reg_p (i := 6) rfl (by kernel_rfl) (fun _ _ _ _ h => h) HH.out (fun K hK => ?_)
  go_simp
  first | (refine hK _ ?_; clear hK K) | (apply Exists.intro; refine ⟨?_, hK _ ?_⟩; (focus (intro wx; first | (go_simp; first | rfl) | rfl)); clear hK K)
  refine reg_p (i := 7) rfl (by kernel_rfl) (fun _ _ _ _ h => h) HH.out (fun K hK => ?_)
  go_simp
  first | (refine hK _ ?_; clear hK K) | (apply Exists.intro; refine ⟨?_, hK _ ?_⟩; (focus (intro wx; first | (go_simp; first | rfl) | rfl)); clear hK K)
  refine reg_p (i := 8) rfl (by kernel_rfl) (fun _ _ _ _ h => h) HH.out (fun K hK => ?_)
  go_simp
  first | (refine hK _ ?_; clear hK K) | (apply Exists.intro; refine ⟨?_, hK _ ?_⟩; (focus (intro wx; first | (go_simp; first | rfl) | rfl)); clear hK K)
  refine mixk_q (i := 9) rfl (by kernel_rfl) (fun _ _ _ _ h => h) HH.out (fun K hK => ?_)
  go_simp
  first | (refine hK _ ?_; clear hK K) | (apply Exists.intro; refine ⟨?_, hK _ ?_⟩; (focus (intro wx hx; have x2_ := hx.r2.cells; first | (go_simp; first | rfl | exact ⟨rfl, rfl⟩) | rfl | exact ⟨rfl, rfl⟩)); clear hK K)
  refine reg_p (i := 10) rfl (by kernel_rfl) (fun _ _ _ _ h => h) HH.out (fun K hK => ?_)
  go_simp
  first | (refine hK _ ?_; clear hK K) | (apply Exists.intro; refine ⟨?_, hK _ ?_⟩; (focus (intro wx; first | (go_simp; first | rfl) | rfl)); clear hK K)
  refine reg_p (i := 11) rfl (by kernel_rfl) (fun _ _ _ _ h => h) HH.out (fun K hK => ?_)
  go_simp
  first | (refine hK _ ?_; clear hK K) | (apply Exists.intro; refine ⟨?_, hK _ ?_⟩; (focus (intro wx; first | (go_simp; first | rfl) | rfl)); clear hK K)
  refine reg_p (i := 12) rfl (by kernel_rfl) (fun _ _ _ _ h => h) HH.out (fun K hK => ?_)
  go_simp
  first | (refine hK _ ?_; clear hK K) | (apply Exists.intro; refine ⟨?_, hK _ ?_⟩; (focus (intro wx; first | (go_simp; first | rfl) | rfl)); clear hK K)
  refine reg_p (i := 13) rfl (by kernel_rfl) (fun _ _ _ _ h => h) HH.out (fun K hK => ?_)
  go_simp
  first | (refine hK _ ?_; clear hK K) | (apply Exists.intro; refine ⟨?_, hK _ ?_⟩; (focus (intro wx; first | (go_simp; first | rfl) | rfl)); clear hK K)
  refine mixk_q (i := 14) rfl (by kernel_rfl) (fun _ _ _ _ h => h) HH.out (fun K hK => ?_)
  go_simp
  first | (refine hK _ ?_; clear hK K) | (apply Exists.intro; refine ⟨?_, hK _ ?_⟩; (focus (intro wx hx; have x2_ := hx.r2.cells; first | (go_simp; first | rfl | exact ⟨rfl, rfl⟩) | rfl | exact ⟨rfl, rfl⟩)); clear hK K)
  refine reg_p (i := 15) rfl (by kernel_rfl) (fun _ _ _ _ h => h) HH.out (fun K hK => ?_)
  go_simp
  first | (refine hK _ ?_; clear hK K) | (apply Exists.intro; refine ⟨?_, hK _ ?_⟩; (focus (intro wx; first | (go_simp; first | rfl) | rfl)); clear hK K)
  refine reg_l (some 21) (i := 16) rfl (by kernel_rfl) (fun wn hk K hK => ?_)
  replace HH := Lib.hid (hk _ _ HH.out)
  clear hk
  go_simp
  replace HH := Lib.hid (HH.out.alloc (.cells #[.int .u64 now, .int .u64 dl, .int .u64 (min c jt)] 27))
  generalize wn.alloc (.cells #[.int .u64 now, .int .u64 dl, .int .u64 (min c jt)] 27) = wm at *
  generalize wn.heap.size = sb at *
  refine hK _ _ _ HH.out (.inr ⟨rfl, fun _ h => h.tail⟩) ?_
  clear hK K
  refine reg_l (some 21) (i := 17) rfl (by kernel_rfl) (fun wn hk K hK => ?_)
  replace HH := Lib.hid (hk _ _ HH.out)
  clear hk
  go_simp
  refine (fixAdd3_c wn sb now dl (min c jt) h1.out hdl.out hm.out (HH.out.cells.1 0) (HH.out.cells.1 1) (HH.out.cells.1 2)).mono ?_
  rintro e wm ⟨rfl, hbel⟩
  replace HH := Lib.hid ((by first | exact Kp.same hbel | exact Kp.drew hbel | exact Kp.below hbel : Kp wn wm) _ _ HH.out)
  clear hbel
  refine hK _ _ _ HH.out (.inr ⟨rfl, fun _ h => h⟩) ?_
  clear hK K
  refine reg_p (i := 18) rfl (by kernel_rfl) (fun _ _ _ _ h => h) HH.out (fun K hK => ?_)
  go_simp
  first | (refine hK _ ?_; clear hK K) | (apply Exists.intro; refine ⟨?_, hK _ ?_⟩; (focus (intro wx; first | (go_simp; first | rfl) | rfl)); clear hK K)
  refine reg_p (i := 19) rfl (by kernel_rfl) (fun _ _ _ _ h => h) HH.out (fun K hK => ?_)
  go_simp
  first | (refine hK _ ?_; clear hK K) | (apply Exists.intro; refine ⟨?_, hK _ ?_⟩; (focus (intro wx; first | (go_simp; first | rfl) | rfl)); clear hK K)
  refine reg_p (i := 20) rfl (by kernel_rfl) (fun _ _ _ _ h => h) HH.out (fun K hK => ?_)
  go_simp
  first | (refine hK _ ?_; clear hK K) | (apply Exists.intro; refine ⟨?_, hK _ ?_⟩; (focus (intro wx; first | (go_simp; first | rfl) | rfl)); clear hK K)
  refine reg_l none (i := 21) rfl (by kernel_rfl) (fun wn hk K hK => ?_)
  replace HH := Lib.hid (hk _ _ HH.out)
  clear hk
  have hx := HH.out
  have x2_ := hx.r3.cells
  go_simp
  replace HH := Lib.hid (HH.out.r3.set 3 (.int .u64 dt))
  simp only [List.setIfInBounds_toArray, List.set_cons_succ, List.set_cons_zero] at HH
  generalize wn.setCell ⟨b, 3, none⟩ (.int .u64 dt) = wm at *
  clear hx x2_
  refine hK _ _ _ HH.out (.inl (by kernel_rfl)) ?_
  clear hK K
  refine mixk_done (by kernel_rfl) (fun w7_ hk => ?_) _
  replace HH := Lib.hid (hk _ _ HH.out)
  clear hk
  clear hdue
  replace HH := Lib.hid ((Own.pm (HH.out) (by repeat (first | with_reducible exact Pm.refl _ | with_reducible exact Pm.nil _ | with_reducible refine Pm.here ?_ | with_reducible refine Pm.at2 ?_ | with_reducible refine Pm.at3 ?_ | with_reducible refine Pm.at4 ?_ | with_reducible refine Pm.at5 ?_ | with_reducible refine Pm.at6 ?_ | with_reducible refine Pm.at7 ?_ | with_reducible refine Pm.at8 ?_ | with_reducible refine Pm.skip ?_))) : Own ε _ (rdRing rb (dus l) :: pts b _ :: pts sp _ :: R))
  go_wp2_with fail
  refine wp_region_reg (some 10) HH.out (by kernel_rfl) ?_
  intro wm H9_
  replace HH := Lib.hid H9_
  clear H9_
  refine reg_p (i := 0) rfl (by kernel_rfl) (fun _ _ _ _ h => h) HH.out (fun K hK => ?_)
  go_simp
  first | (refine hK _ ?_; clear hK K) | (apply Exists.intro; refine ⟨?_, hK _ ?_⟩; (focus (intro wx; first | (go_simp; first | rfl) | rfl)); clear hK K)
  refine reg_p (i := 1) rfl (by kernel_rfl) (fun _ _ _ _ h => h) HH.out (fun K hK => ?_)
  go_simp
  first | (refine hK _ ?_; clear hK K) | (apply Exists.intro; refine ⟨?_, hK _ ?_⟩; (focus (intro wx; first | (go_simp; first | rfl) | rfl)); clear hK K)
  refine reg_p (i := 2) rfl (by kernel_rfl) (fun _ _ _ _ h => h) HH.out (fun K hK => ?_)
  go_simp
  first | (refine hK _ ?_; clear hK K) | (apply Exists.intro; refine ⟨?_, hK _ ?_⟩; (focus (intro wx; first | (go_simp; first | rfl) | rfl)); clear hK K)
  refine mixk_q (i := 3) rfl (by kernel_rfl) (fun _ _ _ _ h => h) HH.out (fun K hK => ?_)
  go_simp
  first | (refine hK _ ?_; clear hK K) | (apply Exists.intro; refine ⟨?_, hK _ ?_⟩; (focus (intro wx hx; have x2_ := hx.r2.cells; have x3_ := hx.r3.cells; first | (go_simp; first | rfl | exact ⟨rfl, rfl⟩) | rfl | exact ⟨rfl, rfl⟩)); clear hK K)
  refine mixk_q (i := 4) rfl (by kernel_rfl) (fun _ _ _ _ h => h) HH.out (fun K hK => ?_)
  go_simp
  first | (refine hK _ ?_; clear hK K) | (apply Exists.intro; refine ⟨?_, hK _ ?_⟩; (focus (intro wx hx; have x2_ := hx.r2.cells; have x3_ := hx.r3.cells; first | (go_simp; first | rfl | exact ⟨rfl, rfl⟩) | rfl | exact ⟨rfl, rfl⟩)); clear hK K)
  refine reg_p (i := 5) rfl (by kernel_rfl) (fun _ _ _ _ h => h) HH.out (fun K hK => ?_)
  go_simp
  first | (refine hK _ ?_; clear hK K) | (apply Exists.intro; refine ⟨?_, hK _ ?_⟩; (focus (intro wx; first | (go_simp; first | rfl) | rfl)); clear hK K)
  refine reg_p (i := 6) rfl (by kernel_rfl) (fun _ _ _ _ h => h) HH.out (fun K hK => ?_)
  go_simp
  first | (refine hK _ ?_; clear hK K) | (apply Exists.intro; refine ⟨?_, hK _ ?_⟩; (focus (intro wx; first | (go_simp; first | rfl) | rfl)); clear hK K)
  refine reg_p (i := 7) rfl (by kernel_rfl) (fun _ _ _ _ h => h) HH.out (fun K hK => ?_)
  go_simp
  first | (refine hK _ ?_; clear hK K) | (apply Exists.intro; refine ⟨?_, hK _ ?_⟩; (focus (intro wx; first | (go_simp; first | rfl) | rfl)); clear hK K)
  refine mixk_q (i := 8) rfl (by kernel_rfl) (fun _ _ _ _ h => h) HH.out (fun K hK => ?_)
  go_simp
  first | (refine hK _ ?_; clear hK K) | (apply Exists.intro; refine ⟨?_, hK _ ?_⟩; (focus (intro wx hx; have x2_ := hx.r2.cells; have x3_ := hx.r3.cells; first | (go_simp; first | rfl | exact ⟨rfl, rfl⟩) | rfl | exact ⟨rfl, rfl⟩)); clear hK K)
  refine reg_p (i := 9) rfl (by kernel_rfl) (fun _ _ _ _ h => h) HH.out (fun K hK => ?_)
  go_simp
  first | (refine hK _ ?_; clear hK K) | (apply Exists.intro; refine ⟨?_, hK _ ?_⟩; (focus (intro wx; first | (go_simp; first | rfl) | rfl)); clear hK K)
  refine reg_l none (i := 10) rfl (by kernel_rfl) (fun wn hk K hK => ?_)
  replace HH := Lib.hid (hk _ _ HH.out)
  clear hk
  go_simp
  refine (rdPush_c ε wn _ rb (dus l) _ _ _ _ _ _ _ _ rfl rfl rfl rfl rfl rfl rfl rfl (by rw [dus_len]; exact hl) HH.out).mono ?_
  rintro e wm ⟨rfl, H9_⟩
  replace HH := Lib.hid H9_
  clear H9_
  refine hK _ _ _ HH.out (.inl (by kernel_rfl)) ?_
  clear hK K
  refine mixk_done (by kernel_rfl) (fun w8_ hk => ?_) _
  replace HH := Lib.hid (hk _ _ HH.out)
  clear hk
  (try clear cc1_); (try clear cc2_); (try clear cc3_); (try clear cc4_); (try clear cc5_); (try clear cc6_); (try clear cc7_)
  have cc2_ := HH.out.r2.cells
  go_wp2_with fail
  go_ret
  refine ⟨rfl, Own.box_mk (rb := rb) ?_⟩
  rw [dus_snoc]
  exact ((Own.pm (HH.out) (by repeat (first | with_reducible exact Pm.refl _ | with_reducible exact Pm.nil _ | with_reducible refine Pm.here ?_ | with_reducible refine Pm.at2 ?_ | with_reducible refine Pm.at3 ?_ | with_reducible refine Pm.at4 ?_ | with_reducible refine Pm.at5 ?_ | with_reducible refine Pm.at6 ?_ | with_reducible refine Pm.at7 ?_ | with_reducible refine Pm.at8 ?_ | with_reducible refine Pm.skip ?_))) : Own ε _ (pts b _ :: rdRing rb _ :: R))
theorem boxPut_nil (p : Pk) (now c : Int) (H : Own ε w R) : Calls Try.prog 165 #[.pointer none, .agg p.cells.toArray, .int .u64 now, .int .u64 c] w fun e w' => e = .returned (.int .u64 0) ∧ Own ε w' R := by
  have HH := Lib.hid H; clear H
  go_enter Try.func165, Try.ntmps165
  go_wp2_with (with_reducible refine stop_bx ?_)
  refine Stop.go ?_
  refine wpList_box_own HH.out [_, _, _, _, _, _, _] rfl ?_
  intro sb w9_ H9_
  replace HH := Lib.hid H9_
  clear H9_
  go_wp2_with fail
  go_ret
  exact ⟨rfl, HH.out.tail⟩
theorem boxNext_nil : Calls Try.prog 118 #[.pointer none] w fun e w' => e = .returned (.tuple #[.int .u64 0, .bool false]) ∧ w = w' := by
  go_enter Try.func118, Try.ntmps118
  go_wp2_with fail
  go_ret2
  exact ⟨rfl, rfl⟩
theorem boxAll_nil : Calls Try.prog 108 #[.pointer none] w fun e w' => e = .returned (.slice none 0 0) ∧ w = w' := by
  go_enter Try.func108, Try.ntmps108
  go_wp2_with fail
  go_ret
  exact ⟨rfl, rfl⟩
theorem boxOut_nil (now : Int) : Calls Try.prog 104 #[.pointer none, .int .u64 now] w fun e w' => e = .returned (.slice none 0 0) ∧ w = w' := by
  go_enter Try.func104, Try.ntmps104
  go_wp2_with fail
  go_ret
  exact ⟨rfl, rfl⟩
end
end Go.Proofs.Ytklohjjkpobneaa
