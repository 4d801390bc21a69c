/- meter: the clauses, Check, Turns: walks. -/
import Derived.Test.YtoimbdbajpjmjaaMeter3
namespace Go.Proofs.Ytoimbdbajpjmjaa
open Go.RowKit
section
variable (ε w : World) (R : List Asn)
set_option maxHeartbeats 3200000 in
theorem mClause_c (room B : Int) (a b : MRow) (ha : a.Ok) (hb : b.Ok) (hB : a.few B) (hB2 : B ≤ 1152921504606846976) : Calls Try.prog 62 #[.int .u64 room, .agg a.cells.toArray, .agg b.cells.toArray] w fun e w' => e = .returned (.int .i64 (mClause room a b)) ∧ Below w.heap.size w w' := by
  have HH := Lib.hid (Own.init w)
  have hF := fun wx => mFalls_c wx a b ha hb
  cases hfa : a.falls b
  case true =>
    rw [show mClause room a b = 1 from if_pos hfa]
    rw [hfa] at hF
    obtain ⟨a1, a2, a3, a4, a5⟩ := a
    obtain ⟨b1, b2, b3, b4, b5⟩ := b
    clear ha hb hB
    replace hF := Lib.hid hF
    replace hfa := Lib.hid hfa
    go_enter Try.func62, Try.ntmps62
    go_wp2_with (with_reducible refine stop_bx ?_)
    refine Stop.go ?_
    refine wpList_box_own HH.out [_, _, _, _, _] rfl ?_
    intro ba w1_ H9_
    replace HH := Lib.hid H9_
    clear H9_
    go_wp2_with (with_reducible refine stop_bx ?_)
    refine Stop.go ?_
    refine wpList_box_own HH.out [_, _, _, _, _] rfl ?_
    intro bb w2_ H9_
    replace HH := Lib.hid H9_
    clear H9_
    (try clear cc1_); (try clear cc2_); (try clear cc3_); (try clear cc4_); (try clear cc5_); (try clear cc6_); (try clear cc7_)
    have cc1_ := HH.out.cells
    have cc2_ := HH.out.r2.cells
    go_wp2_with fail
    refine (hF.out _).mono ?_
    rintro e w3_ ⟨rfl, hbel⟩
    replace HH := Lib.hid ((by first | exact Kp.same hbel | exact Kp.drew hbel | exact Kp.below hbel : Kp _ w3_) _ _ (by first | exact HH.out | exact HH.out.drewN _ | exact (HH.out.alloc _).tail | exact ((HH.out.alloc _).drewN _).tail | exact ((HH.out.alloc _).alloc _).tail.tail))
    clear hbel
    (try clear cc1_); (try clear cc2_); (try clear cc3_); (try clear cc4_); (try clear cc5_); (try clear cc6_); (try clear cc7_)
    go_wp2_with fail
    go_ret
    exact ⟨rfl, HH.out.r3.old_below⟩
  case false =>
    rw [hfa] at hF
    have hcl : mClause room a b = (if b.c < b.d + a.s ∨ room < b.c - (b.d + a.s) then 2 else if a.d < b.d ∧ b.c - (b.d + a.s) < room then 3 else if b.c < b.d + b.s ∨ b.g < b.s + b.v then 4 else if 0 < b.queue ∧ (0 < b.tokens ∨ a.v < b.v) then 5 else 0) := if_neg (by rw [hfa]; decide)
    have hbf := MRow.few_next hB hfa
    obtain ⟨a1, a2, a3, a4, a5⟩ := a
    obtain ⟨b1, b2, b3, b4, b5⟩ := b
    obtain ⟨m1, m2, m3, m4, m5⟩ := hB
    obtain ⟨n1, n2, n3, n4, n5⟩ := hbf
    obtain ⟨⟨_, _⟩, ⟨_, _⟩, ⟨_, _⟩, ⟨p4, _⟩, ⟨p5, _⟩⟩ := ha
    obtain ⟨⟨q1, _⟩, ⟨q2, _⟩, ⟨q3, _⟩, ⟨q4, _⟩, ⟨q5, _⟩⟩ := hb
    simp only [MRow.queue, MRow.tokens] at hcl
    simp only at m1 m2 m3 m4 m5 n1 n2 n3 n4 n5 p4 p5 q1 q2 q3 q4 q5
    have hw1 : IntKind.u64.wrap (b3 + a4) = b3 + a4 := by rw [IntKind.wrap_u64]; omega
    have hw2 : IntKind.u64.wrap (b3 + b4) = b3 + b4 := by rw [IntKind.wrap_u64]; omega
    have hw3 : IntKind.u64.wrap (b4 + b5) = b4 + b5 := by rw [IntKind.wrap_u64]; omega
    have hQ : ∀ wx, b3 + b4 ≤ b2 → Calls Try.prog 85 #[.agg #[.int .u64 b1, .int .u64 b2, .int .u64 b3, .int .u64 b4, .int .u64 b5]] wx fun e w' => e = .returned (.int .u64 (b2 - b3 - b4)) ∧ Below wx.heap.size wx w' := fun wx h =>
      mQueue_c wx ⟨b1, b2, b3, b4, b5⟩ (by show 0 ≤ b2 - b3 - b4; omega) (by show b2 - b3 - b4 ≤ _; omega) (by show U (b2 - b3); unfold U; omega)
    have hT : ∀ wx, b4 + b5 ≤ b1 → Calls Try.prog 86 #[.agg #[.int .u64 b1, .int .u64 b2, .int .u64 b3, .int .u64 b4, .int .u64 b5]] wx fun e w' => e = .returned (.int .u64 (b1 - b4 - b5)) ∧ Below wx.heap.size wx w' := fun wx h =>
      mTokens_c wx ⟨b1, b2, b3, b4, b5⟩ (by show 0 ≤ b1 - b4 - b5; omega) (by show b1 - b4 - b5 ≤ _; omega) (by show U (b1 - b4); unfold U; omega)
    have hw4 : ∀ (_ : b3 + a4 ≤ b2), IntKind.u64.wrap (b2 - (b3 + a4)) = b2 - (b3 + a4) := fun h => by rw [IntKind.wrap_u64]; omega
    clear m1 m2 m3 m4 m5 n1 n2 n3 n4 n5 p4 p5 q1 q2 q3 q4 q5 hB2
    obtain ⟨R0, hR0⟩ : ∃ r, mClause room ⟨a1, a2, a3, a4, a5⟩ ⟨b1, b2, b3, b4, b5⟩ = r := ⟨_, rfl⟩
    rw [hR0] at hcl ⊢
    replace hF := Lib.hid hF
    replace hQ := Lib.hid hQ
    replace hT := Lib.hid hT
    replace hfa := Lib.hid hfa
    clear hR0
    replace hcl := Lib.hid hcl
    by_cases hc1 : b2 < b3 + a4
    · obtain rfl : R0 = 2 := by rw [hcl.out, if_pos (.inl hc1)]
      clear hw4
      go_enter Try.func62, Try.ntmps62
      go_wp2_with (with_reducible refine stop_bx ?_)
      refine Stop.go ?_
      refine wpList_box_own HH.out [_, _, _, _, _] rfl ?_
      intro ba w4_ H9_
      replace HH := Lib.hid H9_
      clear H9_
      go_wp2_with (with_reducible refine stop_bx ?_)
      refine Stop.go ?_
      refine wpList_box_own HH.out [_, _, _, _, _] rfl ?_
      intro bb w5_ H9_
      replace HH := Lib.hid H9_
      clear H9_
      (try clear cc1_); (try clear cc2_); (try clear cc3_); (try clear cc4_); (try clear cc5_); (try clear cc6_); (try clear cc7_)
      have cc1_ := HH.out.cells
      have cc2_ := HH.out.r2.cells
      go_wp2_with fail
      refine (hF.out _).mono ?_
      rintro e w6_ ⟨rfl, hbel⟩
      replace HH := Lib.hid ((by first | exact Kp.same hbel | exact Kp.drew hbel | exact Kp.below hbel : Kp _ w6_) _ _ (by first | exact HH.out | exact HH.out.drewN _ | exact (HH.out.alloc _).tail | exact ((HH.out.alloc _).drewN _).tail | exact ((HH.out.alloc _).alloc _).tail.tail))
      clear hbel
      (try clear cc1_); (try clear cc2_); (try clear cc3_); (try clear cc4_); (try clear cc5_); (try clear cc6_); (try clear cc7_)
      have cc1_ := HH.out.cells
      have cc2_ := HH.out.r2.cells
      go_wp2_with fail
      go_ret
      exact ⟨rfl, HH.out.r3.old_below⟩
    have hw4 := hw4 (by omega)
    have hc0 : b3 + a4 ≤ b2 := by omega
    clear hc1
    go_enter Try.func62, Try.ntmps62
    go_wp2_with (with_reducible refine stop_bx ?_)
    refine Stop.go ?_
    refine wpList_box_own HH.out [_, _, _, _, _] rfl ?_
    intro ba w7_ H9_
    replace HH := Lib.hid H9_
    clear H9_
    go_wp2_with (with_reducible refine stop_bx ?_)
    refine Stop.go ?_
    refine wpList_box_own HH.out [_, _, _, _, _] rfl ?_
    intro bb w8_ H9_
    replace HH := Lib.hid H9_
    clear H9_
    (try clear cc1_); (try clear cc2_); (try clear cc3_); (try clear cc4_); (try clear cc5_); (try clear cc6_); (try clear cc7_)
    have cc1_ := HH.out.cells
    have cc2_ := HH.out.r2.cells
    go_wp2_with fail
    refine (hF.out _).mono ?_
    rintro e w9_ ⟨rfl, hbel⟩
    replace HH := Lib.hid ((by first | exact Kp.same hbel | exact Kp.drew hbel | exact Kp.below hbel : Kp _ w9_) _ _ (by first | exact HH.out | exact HH.out.drewN _ | exact (HH.out.alloc _).tail | exact ((HH.out.alloc _).drewN _).tail | exact ((HH.out.alloc _).alloc _).tail.tail))
    clear hbel
    (try clear cc1_); (try clear cc2_); (try clear cc3_); (try clear cc4_); (try clear cc5_); (try clear cc6_); (try clear cc7_)
    have cc1_ := HH.out.cells
    have cc2_ := HH.out.r2.cells
    go_wp2_with fail
    all_goals try (go_ret; exact ⟨congrArg (fun x => Ending.returned (Value.int IntKind.i64 x)) (by have h9 := hcl.out; (repeat' split at h9) <;> omega), HH.out.r3.old_below⟩)
    all_goals
      go_wp2_with fail
      refine (hQ.out _ (by omega)).mono ?_
      rintro e w10_ ⟨rfl, hbel⟩
      replace HH := Lib.hid ((by first | exact Kp.same hbel | exact Kp.drew hbel | exact Kp.below hbel : Kp _ w10_) _ _ (by first | exact HH.out | exact HH.out.drewN _ | exact (HH.out.alloc _).tail | exact ((HH.out.alloc _).drewN _).tail | exact ((HH.out.alloc _).alloc _).tail.tail))
      clear hbel
      (try clear cc1_); (try clear cc2_); (try clear cc3_); (try clear cc4_); (try clear cc5_); (try clear cc6_); (try clear cc7_)
      have cc1_ := HH.out.cells
      have cc2_ := HH.out.r2.cells
      go_wp2_with fail
    all_goals try (go_ret; exact ⟨congrArg (fun x => Ending.returned (Value.int IntKind.i64 x)) (by have h9 := hcl.out; (repeat' split at h9) <;> omega), HH.out.r3.old_below⟩)
    all_goals
      go_wp2_with fail
      refine (hT.out _ (by omega)).mono ?_
      rintro e w11_ ⟨rfl, hbel⟩
      replace HH := Lib.hid ((by first | exact Kp.same hbel | exact Kp.drew hbel | exact Kp.below hbel : Kp _ w11_) _ _ (by first | exact HH.out | exact HH.out.drewN _ | exact (HH.out.alloc _).tail | exact ((HH.out.alloc _).drewN _).tail | exact ((HH.out.alloc _).alloc _).tail.tail))
      clear hbel
      (try clear cc1_); (try clear cc2_); (try clear cc3_); (try clear cc4_); (try clear cc5_); (try clear cc6_); (try clear cc7_)
      have cc1_ := HH.out.cells
      have cc2_ := HH.out.r2.cells
      go_wp2_with fail
    all_goals (go_ret; exact ⟨congrArg (fun x => Ending.returned (Value.int IntKind.i64 x)) (by have h9 := hcl.out; (repeat' split at h9) <;> omega), HH.out.r3.old_below⟩)
theorem drop_cons_get {α : Type} {l : List α} {k : Nat} {x : α} (h : l[k]? = some x) : l.drop k = x :: l.drop (k + 1) := by
  obtain ⟨hk, rfl⟩ := List.getElem?_eq_some_iff.1 h
  exact List.drop_eq_getElem_cons hk
theorem mCheck_cons (room : Int) (a b : MRow) (i : Nat) (l : List MRow) : mCheck room a i (b :: l) = if mClause room a b = 0 then mCheck room b (i + 1) l else ((i : Int), mClause room a b) := rfl
theorem mClause_zero_falls {room : Int} {a b : MRow} (h : mClause room a b = 0) : a.falls b = false := by
  cases hf : a.falls b
  · rfl
  · rw [show mClause room a b = 1 from if_pos hf] at h; cases h
set_option maxHeartbeats 3200000 in
theorem mCheck_c (room : Int) (A : Option Addr) (n cap : Nat) (ts : List MRow) (hU : ∀ t ∈ ts, t.Ok) (hA : ∀ wx, Own ε wx R → itAt MRow.cells 5 wx A n ts) (hn : n ≤ 9223372036854775807) (H : Own ε w R) :
    Calls Try.prog 22 #[.int .u64 room, .slice A n cap] w fun e w' => e = .returned (.tuple #[.int .i64 (mChecked room ts).1, .int .i64 (mChecked room ts).2]) ∧ Own ε w' R := by
  have hl := (hA w H).1
  have HH := Lib.hid H; clear H
  by_cases h1 : 72057594037927936 < room
  · rw [show mChecked room ts = (0, 1) from if_pos (.inl h1)]
    go_enter Try.func22, Try.ntmps22
    go_wp2_with fail
    go_ret2
    exact ⟨rfl, HH.out⟩
  by_cases h2 : 65536 < n
  · rw [show mChecked room ts = (0, 1) from if_pos (.inr (by omega))]
    go_enter Try.func22, Try.ntmps22
    go_wp2_with fail
    go_ret2
    exact ⟨rfl, HH.out⟩
  rw [show mChecked room ts = mCheck room MRow.zero 0 ts from if_neg (by omega)]
  replace hA := Lib.hid hA
  replace hU := Lib.hid hU
  go_enter Try.func22, Try.ntmps22
  go_wp2_with (with_reducible refine stop_al ?_)
  refine Stop.go ?_
  refine wpList_alloc_own HH.out [.int .u64 0, .int .u64 0, .int .u64 0, .int .u64 0, .int .u64 0] (by kernel_rfl) ?_
  intro bx w12_ H9_
  replace HH := Lib.hid H9_
  clear H9_
  go_wp2_with fail
  go_loopw [7, 8, 9, 19] (fun _ _ _ i wr => ∃ (k : Nat) (a : MRow), k ≤ n ∧ i = .int .i64 k ∧ a.Ok ∧ a.few (k * 1099511627776) ∧ mCheck room a k (ts.drop k) = mCheck room MRow.zero 0 ts ∧ Own ε wr (pts bx (.cells a.cells.toArray 41 (0, 0)) :: R)) (fun _ _ _ i _ => n - (intOf i).toNat)
  case atStart => exact ⟨0, MRow.zero, Nat.zero_le _, rfl, ⟨U_zero, U_zero, U_zero, U_zero, U_zero⟩, ⟨by decide, by decide, by decide, by decide, by decide⟩, rfl, HH.out⟩
  case round =>
    obtain ⟨k, a, hk, rfl, ha, hfew, hC, HR⟩ := hrel
    replace HH := Lib.hid HR
    clear HR
    by_cases hlt : k < n
    · obtain ⟨g, off, b, rfl, hb, hc⟩ := (hA.out _ HH.out.tail).get hlt
      have c0 := hc 0 _ rfl
      have c1 := hc 1 _ rfl
      have c2 := hc 2 _ rfl
      have c3 := hc 3 _ rfl
      have c4 := hc 4 _ rfl
      rw [Nat.add_zero] at c0
      clear hc
      have hbo := hU.out b (List.mem_of_getElem? hb)
      have hdr := drop_cons_get hb
      rw [hdr, mCheck_cons] at hC
      have hcl := fun wx => mClause_c wx room (k * 1099511627776) a b ha hbo hfew (by omega)
      have hfn : mClause room a b = 0 → b.few ((k + 1 : Nat) * 1099511627776) := fun h => by
        have := MRow.few_next hfew (mClause_zero_falls h)
        rw [show ((k + 1 : Nat) : Int) * 1099511627776 = (k : Int) * 1099511627776 + 1099511627776 by omega]
        exact this
      generalize mClause room a b = cl at hC hcl hfn
      obtain ⟨a1, a2, a3, a4, a5⟩ := a
      obtain ⟨b1, b2, b3, b4, b5⟩ := b
      simp only [MRow.cells] at HH
      clear ha hfew hdr hb
      replace hcl := Lib.hid hcl
      replace hbo := Lib.hid hbo
      replace hC := Lib.hid hC
      replace hfn := Lib.hid hfn
      go_wp2_with (with_reducible refine stop_al ?_)
      refine Stop.go ?_
      refine wpList_alloc_own HH.out [.int .u64 0, .int .u64 0, .int .u64 0, .int .u64 0, .int .u64 0] (by kernel_rfl) ?_
      intro bq w13_ H9_
      replace HH := Lib.hid H9_
      clear H9_
      go_wp2_with (with_reducible refine stop_st ?_)
      refine Stop.go ?_
      refine wpList_store_own _ #[_, _, _, _, _] rfl rfl HH.out (by kernel_rfl) rfl (by repeat (first | (refine List.forall_mem_cons.2 ⟨(by first | with_reducible assumption | rfl), ?_⟩) | exact fun _ h => absurd h List.not_mem_nil)) ?_
      intro w14_ H9_
      replace HH := Lib.hid H9_
      clear H9_
      clear c0 c1 c2 c3 c4
      (try clear cc1_); (try clear cc2_); (try clear cc3_); (try clear cc4_); (try clear cc5_); (try clear cc6_); (try clear cc7_)
      have cc1_ := HH.out.cells
      have cc2_ := HH.out.r2.cells
      go_wp2_with fail
      refine (hcl.out _).mono ?_
      rintro e w15_ ⟨rfl, hbel⟩
      replace HH := Lib.hid ((by first | exact Kp.same hbel | exact Kp.drew hbel | exact Kp.below hbel : Kp _ w15_) _ _ (by first | exact HH.out | exact HH.out.drewN _ | exact (HH.out.alloc _).tail | exact ((HH.out.alloc _).drewN _).tail | exact ((HH.out.alloc _).alloc _).tail.tail))
      clear hbel
      (try clear cc1_); (try clear cc2_); (try clear cc3_); (try clear cc4_); (try clear cc5_); (try clear cc6_); (try clear cc7_)
      have cc1_ := HH.out.cells
      have cc2_ := HH.out.r2.cells
      by_cases hz : cl = 0
      · subst hz
        have e1 := hC.out
        rw [if_pos rfl] at e1
        replace e1 := Lib.hid e1
        have hfw := hfn.out rfl
        replace hfw := Lib.hid hfw
        clear hfn
        replace HH := Lib.hid HH.out.r2
        go_wp2_with (with_reducible refine stop_st ?_)
        refine Stop.go ?_
        refine wpList_store_own _ #[_, _, _, _, _] rfl rfl HH.out (by kernel_rfl) rfl (by repeat (first | (refine List.forall_mem_cons.2 ⟨(by first | with_reducible assumption | rfl), ?_⟩) | exact fun _ h => absurd h List.not_mem_nil)) ?_
        intro w16_ H9_
        replace HH := Lib.hid H9_
        clear H9_
        go_wp2_with fail
        go_roundw
        case rel => exact ⟨k + 1, ⟨b1, b2, b3, b4, b5⟩, by omega, by go_num, hbo.out, hfw.out, e1.out, HH.out.r2.tail⟩
        case measure => simp [intOf]; omega
      · have e1 := hC.out
        rw [if_neg hz] at e1
        replace e1 := Lib.hid e1
        have hzb : (cl == 0) = false := by simpa using hz
        have hzn : (cl != 0) = true := by simpa using hz
        go_wp2_with fail
        go_ret2
        exact ⟨congrArg (fun p : Int × Int => Ending.returned (Value.tuple #[.int .i64 p.1, .int .i64 p.2])) e1.out, HH.out.tail.tail⟩
    · have hkn : k = n := by omega
      subst hkn
      have e1 : ts.drop k = [] := List.drop_of_length_le (by omega)
      rw [e1] at hC
      replace hC := Lib.hid hC
      go_wp2_with fail
      go_ret2
      exact ⟨congrArg (fun p : Int × Int => Ending.returned (Value.tuple #[.int .i64 p.1, .int .i64 p.2])) hC.out, HH.out.tail⟩
set_option maxHeartbeats 3200000 in
theorem mTurns_c (A : Option Addr) (n cap : Nat) (ts : List MRow) (hU : ∀ t ∈ ts, t.Ok) (hA : ∀ wx, Own ε wx R → itAt MRow.cells 5 wx A n ts) (hn : n ≤ 65536) (H : Own ε w R) :
    Calls Try.prog 24 #[.slice A n cap] w fun e w' => ∃ v, e = .returned v ∧ Own ε w' (slc 39 3 v (encs MTurn.cells (mTurns MRow.zero ts)) :: R) := by
  have hl := (hA w H).1
  have HH := Lib.hid H; clear H
  replace hA := Lib.hid hA
  replace hU := Lib.hid hU
  have im := min_ite
  go_enter Try.func24, Try.ntmps24
  go_wp2_with (with_reducible refine stop_al ?_)
  refine Stop.go ?_
  refine wpList_alloc_own HH.out [.int .u64 0, .int .u64 0, .int .u64 0, .int .u64 0, .int .u64 0] (by kernel_rfl) ?_
  intro bx w17_ H9_
  replace HH := Lib.hid H9_
  clear H9_
  replace HH := Lib.hid (HH.out.slc_none (T := 39) (sz := 3))
  go_wp2_with fail
  go_loopw [3, 6, 9] (fun v _ i wr => ∃ (k : Nat) (a : MRow) (T0 : List MTurn), k ≤ n ∧ i = .int .i64 k ∧ a.Ok ∧ T0.length = k ∧ T0 ++ mTurns a (ts.drop k) = mTurns MRow.zero ts ∧ Own ε wr (slc 39 3 v (encs MTurn.cells T0) :: pts bx (.cells a.cells.toArray 41 (0, 0)) :: R)) (fun _ _ i _ => n - (intOf i).toNat)
  case atStart => exact ⟨0, MRow.zero, [], Nat.zero_le _, rfl, ⟨U_zero, U_zero, U_zero, U_zero, U_zero⟩, rfl, rfl, HH.out⟩
  case round =>
    obtain ⟨k, a, T0, hk, rfl, ha, hT0, hC, HR⟩ := hrel
    replace HH := Lib.hid HR
    clear HR
    by_cases hlt : k < n
    · obtain ⟨g, off, b, rfl, hb, hc⟩ := (hA.out _ HH.out.tail.tail).get hlt
      have c0 := hc 0 _ rfl
      have c1 := hc 1 _ rfl
      have c2 := hc 2 _ rfl
      have c3 := hc 3 _ rfl
      have c4 := hc 4 _ rfl
      rw [Nat.add_zero] at c0
      clear hc
      have hbo := hU.out b (List.mem_of_getElem? hb)
      have hdr := drop_cons_get hb
      rw [hdr] at hC
      have hC2 : (T0 ++ [a.turn b]) ++ mTurns b (ts.drop (k + 1)) = mTurns MRow.zero ts := by rw [← hC]; simp [mTurns]
      have hlen : (encs MTurn.cells T0).length = k * 3 := by rw [encs_len MTurn.len, hT0]
      obtain ⟨a1, a2, a3, a4, a5⟩ := a
      obtain ⟨b1, b2, b3, b4, b5⟩ := b
      simp only [MRow.cells] at HH
      have hw1 : IntKind.u64.wrap (b1 - min a1 b1) = b1 - min a1 b1 := by have := hbo.1; have := ha.1; unfold U at *; simp only at *; rw [IntKind.wrap_u64]; omega
      have hw2 : IntKind.u64.wrap (b2 - min a2 b2) = b2 - min a2 b2 := by have := hbo.2.1; have := ha.2.1; unfold U at *; simp only at *; rw [IntKind.wrap_u64]; omega
      have hw3 : IntKind.u64.wrap (b5 - min a5 b5) = b5 - min a5 b5 := by have := hbo.2.2.2.2; have := ha.2.2.2.2; unfold U at *; simp only at *; rw [IntKind.wrap_u64]; omega
      clear ha hdr hb hC
      replace hbo := Lib.hid hbo
      replace hC2 := Lib.hid hC2
      replace hlen := Lib.hid hlen
      replace hT0 := Lib.hid hT0
      go_wp2_with (with_reducible refine stop_al ?_)
      refine Stop.go ?_
      refine wpList_alloc_own HH.out [.int .u64 0, .int .u64 0, .int .u64 0, .int .u64 0, .int .u64 0] (by kernel_rfl) ?_
      intro bq w18_ H9_
      replace HH := Lib.hid H9_
      clear H9_
      go_wp2_with (with_reducible refine stop_st ?_)
      refine Stop.go ?_
      refine wpList_store_own _ #[_, _, _, _, _] rfl rfl HH.out (by kernel_rfl) rfl (by repeat (first | (refine List.forall_mem_cons.2 ⟨(by first | with_reducible assumption | rfl), ?_⟩) | exact fun _ h => absurd h List.not_mem_nil)) ?_
      intro w19_ H9_
      replace HH := Lib.hid H9_
      clear H9_
      clear c0 c1 c2 c3 c4
      (try clear cc1_); (try clear cc2_); (try clear cc3_); (try clear cc4_); (try clear cc5_); (try clear cc6_); (try clear cc7_)
      have cc1_ := HH.out.cells
      have cc3_ := HH.out.r3.cells
      replace HH := Lib.hid HH.out.r2
      go_wp2_with (with_reducible refine stop_bs ?_)
      refine Stop.go ?_
      refine wpList_bs1_own HH.out #[_, _, _] 3 24 Try.underlying23 (by kernel_rfl) (by decide) (by decide) rfl rfl ?_
      intro g_ w20_ H9_
      replace HH := Lib.hid H9_
      clear H9_
      go_wp2_with (with_reducible refine stop_app ?_)
      refine Stop.go ?_
      refine wpList_app1_own rfl _ _ 23 rfl 39 3 24 Try.underlying23 (by kernel_rfl) (by decide) (k) rfl rfl HH.out (hlen.out) rfl (by repeat (first | (refine List.forall_mem_cons.2 ⟨(by first | with_reducible assumption | rfl), ?_⟩) | exact fun _ h => absurd h List.not_mem_nil)) (by simp only [maxLen]; omega) (by omega) ?_
      intro v5 w21_ H9_
      obtain ⟨A_v5, n_v5, c_v5, rfl⟩ := H9_.slc_isv
      replace HH := Lib.hid H9_
      clear H9_
      clear hw1 hw2 hw3
      replace HH := Lib.hid ((Own.pm (HH.out) (by repeat (first | with_reducible exact Pm.refl _ | with_reducible exact Pm.nil _ | with_reducible refine Pm.here ?_ | with_reducible refine Pm.at2 ?_ | with_reducible refine Pm.at3 ?_ | with_reducible refine Pm.at4 ?_ | with_reducible refine Pm.at5 ?_ | with_reducible refine Pm.at6 ?_ | with_reducible refine Pm.at7 ?_ | with_reducible refine Pm.at8 ?_ | with_reducible refine Pm.skip ?_))) : Own ε _ (pts bx _ :: pts bq _ :: slc _ 3 _ _ :: R))
      (try clear cc1_); (try clear cc2_); (try clear cc3_); (try clear cc4_); (try clear cc5_); (try clear cc6_); (try clear cc7_)
      have cc2_ := HH.out.r2.cells
      go_wp2_with (with_reducible refine stop_st ?_)
      refine Stop.go ?_
      refine wpList_store_own _ #[_, _, _, _, _] rfl rfl HH.out (by kernel_rfl) rfl (by repeat (first | (refine List.forall_mem_cons.2 ⟨(by first | with_reducible assumption | rfl), ?_⟩) | exact fun _ h => absurd h List.not_mem_nil)) ?_
      intro w22_ H9_
      replace HH := Lib.hid H9_
      clear H9_
      go_wp2_with fail
      go_roundw
      case rel =>
        refine ⟨k + 1, ⟨b1, b2, b3, b4, b5⟩, T0 ++ [MRow.turn ⟨a1, a2, a3, a4, a5⟩ ⟨b1, b2, b3, b4, b5⟩], by omega, by go_num, hbo.out, by rw [List.length_append, hT0.out]; rfl, hC2.out, ?_⟩
        rw [encs_snoc]
        exact ((Own.pm (HH.out) (by repeat (first | with_reducible exact Pm.refl _ | with_reducible exact Pm.nil _ | with_reducible refine Pm.here ?_ | with_reducible refine Pm.at2 ?_ | with_reducible refine Pm.at3 ?_ | with_reducible refine Pm.at4 ?_ | with_reducible refine Pm.at5 ?_ | with_reducible refine Pm.at6 ?_ | with_reducible refine Pm.at7 ?_ | with_reducible refine Pm.at8 ?_ | with_reducible refine Pm.skip ?_))) : Own ε _ (slc _ 3 _ _ :: pts bx _ :: R))
      case measure => simp [intOf]; omega
    · have hkn : k = n := by omega
      subst hkn
      have e1 : ts.drop k = [] := List.drop_of_length_le (by omega)
      rw [e1] at hC
      replace hC := Lib.hid hC
      go_wp2_with fail
      go_ret
      refine ⟨_, rfl, ?_⟩
      rw [← hC.out, show mTurns a [] = [] from rfl, List.append_nil]
      exact HH.out.r2.tail
end
end Go.Proofs.Ytoimbdbajpjmjaa
