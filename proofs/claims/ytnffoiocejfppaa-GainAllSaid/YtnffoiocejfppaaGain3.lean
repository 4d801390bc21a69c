/- gain: the reference's parsing; the laws. -/
import Derived.Test.YtnffoiocejfppaaGain2
namespace Go.Proofs.Ytnffoiocejfppaa
open Go.RowKit
theorem beq_list {n c : ByteArray} {l : List UInt8} {b : Bool} (hl : c.toList = l) (h : (n == c) = b) : (l == n.toList) = b := by
  rw [← h, beq_toListBytes, hl, BEq.comm]
section
variable (w : World)
theorem refNames_c (ε : World) (R : List Asn) (H : Own ε w R) : Calls Try.prog 73 #[] w fun e w' => ∃ b, e = .returned (.slice (some ⟨b, 0, none⟩) 7 7) ∧ Own ε w' (pts b (.cells #[.string ⟨#[115, 116, 97, 114, 116, 117, 112]⟩, .string ⟨#[100, 114, 97, 105, 110]⟩, .string ⟨#[100, 111, 119, 110]⟩, .string ⟨#[99, 114, 117, 105, 115, 101]⟩, .string ⟨#[114, 101, 102, 105, 108, 108]⟩, .string ⟨#[117, 112]⟩, .string ⟨#[112, 114, 111, 98, 101]⟩] 9 (0, 0)) :: R) := by
  have HH := Lib.hid H
  clear H
  go_enter Try.func73, Try.ntmps73
  go_wp2_with fail
  go_ret
  exact ⟨_, rfl, HH.out.alloc _⟩
set_option maxRecDepth 100000 in
set_option maxHeartbeats 6400000 in
theorem refParse_c (n : ByteArray) : Calls Try.prog 51 #[.string n] w fun e w' => e = .returned (gRes (gParse n)) ∧ Below w.heap.size w w' := by
  have HH := Lib.hid (Own.init w)
  cases h0 : (n == (⟨#[115, 116, 97, 114, 116, 117, 112]⟩ : ByteArray)) with
  | true =>
    have e : gParse n = some 0 := by simp [gParse, gTab, List.findIdx?_cons, h0]
    rw [e]
    clear e
    have t0 := beq_list (l := [115, 116, 97, 114, 116, 117, 112]) (by kernel_rfl) h0
    clear h0
    go_enter Try.func51, Try.ntmps51
    go_wp2_with fail
    refine (refNames_c _ _ _ HH.out).mono ?_
    rintro e w2 ⟨b, rfl, H2⟩
    replace H2 := Lib.hid H2
    (try clear k1); have k1 := H2.out.cells
    go_wp2_with fail
    refine wp_loop_rounds 1 ?_
    rw [rounds_succ]
    go_wp2
    go_ret2
    exact ⟨rfl, H2.out.tail.old_below⟩
  | false =>
    cases h1 : (n == (⟨#[100, 114, 97, 105, 110]⟩ : ByteArray)) with
    | true =>
      have e : gParse n = some 1 := by simp [gParse, gTab, List.findIdx?_cons, h0, h1]
      rw [e]
      clear e
      have t0 := beq_list (l := [115, 116, 97, 114, 116, 117, 112]) (by kernel_rfl) h0
      have t1 := beq_list (l := [100, 114, 97, 105, 110]) (by kernel_rfl) h1
      clear h0 h1
      go_enter Try.func51, Try.ntmps51
      go_wp2_with fail
      refine (refNames_c _ _ _ HH.out).mono ?_
      rintro e w2 ⟨b, rfl, H2⟩
      replace H2 := Lib.hid H2
      (try clear k1); have k1 := H2.out.cells
      go_wp2_with fail
      refine wp_loop_rounds 2 ?_
      rw [rounds_succ]
      go_wp2
      rw [rounds_succ]
      go_wp2
      go_ret2
      exact ⟨rfl, H2.out.tail.old_below⟩
    | false =>
      cases h2 : (n == (⟨#[100, 111, 119, 110]⟩ : ByteArray)) with
      | true =>
        have e : gParse n = some 2 := by simp [gParse, gTab, List.findIdx?_cons, h0, h1, h2]
        rw [e]
        clear e
        have t0 := beq_list (l := [115, 116, 97, 114, 116, 117, 112]) (by kernel_rfl) h0
        have t1 := beq_list (l := [100, 114, 97, 105, 110]) (by kernel_rfl) h1
        have t2 := beq_list (l := [100, 111, 119, 110]) (by kernel_rfl) h2
        clear h0 h1 h2
        go_enter Try.func51, Try.ntmps51
        go_wp2_with fail
        refine (refNames_c _ _ _ HH.out).mono ?_
        rintro e w2 ⟨b, rfl, H2⟩
        replace H2 := Lib.hid H2
        (try clear k1); have k1 := H2.out.cells
        go_wp2_with fail
        refine wp_loop_rounds 3 ?_
        rw [rounds_succ]
        go_wp2
        rw [rounds_succ]
        go_wp2
        rw [rounds_succ]
        go_wp2
        go_ret2
        exact ⟨rfl, H2.out.tail.old_below⟩
      | false =>
        cases h3 : (n == (⟨#[99, 114, 117, 105, 115, 101]⟩ : ByteArray)) with
        | true =>
          have e : gParse n = some 3 := by simp [gParse, gTab, List.findIdx?_cons, h0, h1, h2, h3]
          rw [e]
          clear e
          have t0 := beq_list (l := [115, 116, 97, 114, 116, 117, 112]) (by kernel_rfl) h0
          have t1 := beq_list (l := [100, 114, 97, 105, 110]) (by kernel_rfl) h1
          have t2 := beq_list (l := [100, 111, 119, 110]) (by kernel_rfl) h2
          have t3 := beq_list (l := [99, 114, 117, 105, 115, 101]) (by kernel_rfl) h3
          clear h0 h1 h2 h3
          go_enter Try.func51, Try.ntmps51
          go_wp2_with fail
          refine (refNames_c _ _ _ HH.out).mono ?_
          rintro e w2 ⟨b, rfl, H2⟩
          replace H2 := Lib.hid H2
          (try clear k1); have k1 := H2.out.cells
          go_wp2_with fail
          refine wp_loop_rounds 4 ?_
          rw [rounds_succ]
          go_wp2
          rw [rounds_succ]
          go_wp2
          rw [rounds_succ]
          go_wp2
          rw [rounds_succ]
          go_wp2
          go_ret2
          exact ⟨rfl, H2.out.tail.old_below⟩
        | false =>
          cases h4 : (n == (⟨#[114, 101, 102, 105, 108, 108]⟩ : ByteArray)) with
          | true =>
            have e : gParse n = some 4 := by simp [gParse, gTab, List.findIdx?_cons, h0, h1, h2, h3, h4]
            rw [e]
            clear e
            have t0 := beq_list (l := [115, 116, 97, 114, 116, 117, 112]) (by kernel_rfl) h0
            have t1 := beq_list (l := [100, 114, 97, 105, 110]) (by kernel_rfl) h1
            have t2 := beq_list (l := [100, 111, 119, 110]) (by kernel_rfl) h2
            have t3 := beq_list (l := [99, 114, 117, 105, 115, 101]) (by kernel_rfl) h3
            have t4 := beq_list (l := [114, 101, 102, 105, 108, 108]) (by kernel_rfl) h4
            clear h0 h1 h2 h3 h4
            go_enter Try.func51, Try.ntmps51
            go_wp2_with fail
            refine (refNames_c _ _ _ HH.out).mono ?_
            rintro e w2 ⟨b, rfl, H2⟩
            replace H2 := Lib.hid H2
            (try clear k1); have k1 := H2.out.cells
            go_wp2_with fail
            refine wp_loop_rounds 5 ?_
            rw [rounds_succ]
            go_wp2
            rw [rounds_succ]
            go_wp2
            rw [rounds_succ]
            go_wp2
            rw [rounds_succ]
            go_wp2
            rw [rounds_succ]
            go_wp2
            go_ret2
            exact ⟨rfl, H2.out.tail.old_below⟩
          | false =>
            cases h5 : (n == (⟨#[117, 112]⟩ : ByteArray)) with
            | true =>
              have e : gParse n = some 5 := by simp [gParse, gTab, List.findIdx?_cons, h0, h1, h2, h3, h4, h5]
              rw [e]
              clear e
              have t0 := beq_list (l := [115, 116, 97, 114, 116, 117, 112]) (by kernel_rfl) h0
              have t1 := beq_list (l := [100, 114, 97, 105, 110]) (by kernel_rfl) h1
              have t2 := beq_list (l := [100, 111, 119, 110]) (by kernel_rfl) h2
              have t3 := beq_list (l := [99, 114, 117, 105, 115, 101]) (by kernel_rfl) h3
              have t4 := beq_list (l := [114, 101, 102, 105, 108, 108]) (by kernel_rfl) h4
              have t5 := beq_list (l := [117, 112]) (by kernel_rfl) h5
              clear h0 h1 h2 h3 h4 h5
              go_enter Try.func51, Try.ntmps51
              go_wp2_with fail
              refine (refNames_c _ _ _ HH.out).mono ?_
              rintro e w2 ⟨b, rfl, H2⟩
              replace H2 := Lib.hid H2
              (try clear k1); have k1 := H2.out.cells
              go_wp2_with fail
              refine wp_loop_rounds 6 ?_
              rw [rounds_succ]
              go_wp2
              rw [rounds_succ]
              go_wp2
              rw [rounds_succ]
              go_wp2
              rw [rounds_succ]
              go_wp2
              rw [rounds_succ]
              go_wp2
              rw [rounds_succ]
              go_wp2
              go_ret2
              exact ⟨rfl, H2.out.tail.old_below⟩
            | false =>
              cases h6 : (n == (⟨#[112, 114, 111, 98, 101]⟩ : ByteArray)) with
              | true =>
                have e : gParse n = some 6 := by simp [gParse, gTab, List.findIdx?_cons, h0, h1, h2, h3, h4, h5, h6]
                rw [e]
                clear e
                have t0 := beq_list (l := [115, 116, 97, 114, 116, 117, 112]) (by kernel_rfl) h0
                have t1 := beq_list (l := [100, 114, 97, 105, 110]) (by kernel_rfl) h1
                have t2 := beq_list (l := [100, 111, 119, 110]) (by kernel_rfl) h2
                have t3 := beq_list (l := [99, 114, 117, 105, 115, 101]) (by kernel_rfl) h3
                have t4 := beq_list (l := [114, 101, 102, 105, 108, 108]) (by kernel_rfl) h4
                have t5 := beq_list (l := [117, 112]) (by kernel_rfl) h5
                have t6 := beq_list (l := [112, 114, 111, 98, 101]) (by kernel_rfl) h6
                clear h0 h1 h2 h3 h4 h5 h6
                go_enter Try.func51, Try.ntmps51
                go_wp2_with fail
                refine (refNames_c _ _ _ HH.out).mono ?_
                rintro e w2 ⟨b, rfl, H2⟩
                replace H2 := Lib.hid H2
                (try clear k1); have k1 := H2.out.cells
                go_wp2_with fail
                refine wp_loop_rounds 7 ?_
                rw [rounds_succ]
                go_wp2
                rw [rounds_succ]
                go_wp2
                rw [rounds_succ]
                go_wp2
                rw [rounds_succ]
                go_wp2
                rw [rounds_succ]
                go_wp2
                rw [rounds_succ]
                go_wp2
                rw [rounds_succ]
                go_wp2
                go_ret2
                exact ⟨rfl, H2.out.tail.old_below⟩
              | false =>
                have e : gParse n = none := by simp [gParse, gTab, List.findIdx?_cons, h0, h1, h2, h3, h4, h5, h6]
                rw [e]
                clear e
                have t0 := beq_list (l := [115, 116, 97, 114, 116, 117, 112]) (by kernel_rfl) h0
                have t1 := beq_list (l := [100, 114, 97, 105, 110]) (by kernel_rfl) h1
                have t2 := beq_list (l := [100, 111, 119, 110]) (by kernel_rfl) h2
                have t3 := beq_list (l := [99, 114, 117, 105, 115, 101]) (by kernel_rfl) h3
                have t4 := beq_list (l := [114, 101, 102, 105, 108, 108]) (by kernel_rfl) h4
                have t5 := beq_list (l := [117, 112]) (by kernel_rfl) h5
                have t6 := beq_list (l := [112, 114, 111, 98, 101]) (by kernel_rfl) h6
                clear h0 h1 h2 h3 h4 h5 h6
                go_enter Try.func51, Try.ntmps51
                go_wp2_with fail
                refine (refNames_c _ _ _ HH.out).mono ?_
                rintro e w2 ⟨b, rfl, H2⟩
                replace H2 := Lib.hid H2
                (try clear k1); have k1 := H2.out.cells
                go_wp2_with fail
                refine wp_loop_rounds 8 ?_
                rw [rounds_succ]
                go_wp2
                rw [rounds_succ]
                go_wp2
                rw [rounds_succ]
                go_wp2
                rw [rounds_succ]
                go_wp2
                rw [rounds_succ]
                go_wp2
                rw [rounds_succ]
                go_wp2
                rw [rounds_succ]
                go_wp2
                rw [rounds_succ]
                go_wp2
                go_ret2
                exact ⟨rfl, H2.out.tail.old_below⟩
set_option maxHeartbeats 1600000 in
theorem alive12_k : Calls Try.prog 41 #[] w fun e w' => e = .returned (.bool true) ∧ Below w.heap.size w w' := by
  have HH := Lib.hid (Own.init w)
  go_enter Try.func41, Try.ntmps41
  go_wp2_with fail
  refine (gainParse_c _ ⟨#[117, 112]⟩).mono ?_
  rw [show gRes (gParse ⟨#[117, 112]⟩) = .tuple #[.int .i64 5, .int .i64 0] from by first | rfl | decide]
  rintro e w1 ⟨rfl, hbel⟩
  replace HH := Lib.hid ((by first | exact Kp.same hbel | exact Kp.drew hbel | exact Kp.below hbel : Kp _ w1) _ _ (by first | exact HH.out | exact HH.out.drewN _ | exact (HH.out.alloc _).tail | exact ((HH.out.alloc _).drewN _).tail | exact ((HH.out.alloc _).alloc _).tail.tail))
  clear hbel
  go_wp2_with fail
  refine (gainParse_c _ ⟨#[85, 112]⟩).mono ?_
  rw [show gRes (gParse ⟨#[85, 112]⟩) = .tuple #[.int .i64 0, .int .i64 31] from by first | rfl | decide]
  rintro e w2 ⟨rfl, hbel⟩
  replace HH := Lib.hid ((by first | exact Kp.same hbel | exact Kp.drew hbel | exact Kp.below hbel : Kp _ w2) _ _ (by first | exact HH.out | exact HH.out.drewN _ | exact (HH.out.alloc _).tail | exact ((HH.out.alloc _).drewN _).tail | exact ((HH.out.alloc _).alloc _).tail.tail))
  clear hbel
  go_wp2_with fail
  refine (gainName_c _ 1).mono ?_
  rw [show (gAt 1).1 = ⟨#[100, 114, 97, 105, 110]⟩ from by first | rfl | decide]
  rintro e w3 ⟨rfl, hbel⟩
  replace HH := Lib.hid ((by first | exact Kp.same hbel | exact Kp.drew hbel | exact Kp.below hbel : Kp _ w3) _ _ (by first | exact HH.out | exact HH.out.drewN _ | exact (HH.out.alloc _).tail | exact ((HH.out.alloc _).drewN _).tail | exact ((HH.out.alloc _).alloc _).tail.tail))
  clear hbel
  go_wp2_with fail
  refine (gainPace_c _ 0 1000 (by decide)).mono ?_
  rw [show gPace 0 1000 = 2770 from by first | rfl | decide]
  rintro e w4 ⟨rfl, hbel⟩
  replace HH := Lib.hid ((by first | exact Kp.same hbel | exact Kp.drew hbel | exact Kp.below hbel : Kp _ w4) _ _ (by first | exact HH.out | exact HH.out.drewN _ | exact (HH.out.alloc _).tail | exact ((HH.out.alloc _).drewN _).tail | exact ((HH.out.alloc _).alloc _).tail.tail))
  clear hbel
  go_wp2_with fail
  refine (gainWindow_c _ 6 3 (by decide)).mono ?_
  rw [show gWindow 6 3 = 2 from by first | rfl | decide]
  rintro e w5 ⟨rfl, hbel⟩
  replace HH := Lib.hid ((by first | exact Kp.same hbel | exact Kp.drew hbel | exact Kp.below hbel : Kp _ w5) _ _ (by first | exact HH.out | exact HH.out.drewN _ | exact (HH.out.alloc _).tail | exact ((HH.out.alloc _).drewN _).tail | exact ((HH.out.alloc _).alloc _).tail.tail))
  clear hbel
  go_wp2_with fail
  go_ret
  exact ⟨rfl, HH.out.old_below⟩
set_option maxHeartbeats 1600000 in
theorem gainTells_c (s : Int) (_hs : (Lit.int .i64 s).wf = true) (r : Int) (hr : (Lit.int .u64 r).wf = true) (f : Int) (hf : (Lit.int .u64 f).wf = true) :
    Calls Try.prog 10 #[.int .i64 s, .int .u64 r, .int .u64 f] w fun e w' => e = .returned (.bool true) ∧ Own w w' [old w] := by
  have HH := Lib.hid (Own.init w)
  replace hr := Lib.hid (U_of_wf hr)
  replace hf := Lib.hid (U_of_wf hf)
  clear _hs
  go_enter Try.func10, Try.ntmps10
  go_wp2_with fail
  refine (alive12_k _).mono ?_
  rintro e w1 ⟨rfl, hbel⟩
  replace HH := Lib.hid ((by first | exact Kp.same hbel | exact Kp.drew hbel | exact Kp.below hbel : Kp _ w1) _ _ (by first | exact HH.out | exact HH.out.drewN _ | exact (HH.out.alloc _).tail | exact ((HH.out.alloc _).drewN _).tail | exact ((HH.out.alloc _).alloc _).tail.tail))
  clear hbel
  go_wp2_with fail
  refine (gainRight_c _ s).mono ?_
  rintro e w2 ⟨rfl, hbel⟩
  replace HH := Lib.hid ((by first | exact Kp.same hbel | exact Kp.drew hbel | exact Kp.below hbel : Kp _ w2) _ _ (by first | exact HH.out | exact HH.out.drewN _ | exact (HH.out.alloc _).tail | exact ((HH.out.alloc _).drewN _).tail | exact ((HH.out.alloc _).alloc _).tail.tail))
  clear hbel
  go_wp2_with fail
  refine (refRight12_c _ s).mono ?_
  rintro e w3 ⟨rfl, hbel⟩
  replace HH := Lib.hid ((by first | exact Kp.same hbel | exact Kp.drew hbel | exact Kp.below hbel : Kp _ w3) _ _ (by first | exact HH.out | exact HH.out.drewN _ | exact (HH.out.alloc _).tail | exact ((HH.out.alloc _).drewN _).tail | exact ((HH.out.alloc _).alloc _).tail.tail))
  clear hbel
  go_wp2_with fail
  refine (gainName_c _ s).mono ?_
  rintro e w4 ⟨rfl, hbel⟩
  replace HH := Lib.hid ((by first | exact Kp.same hbel | exact Kp.drew hbel | exact Kp.below hbel : Kp _ w4) _ _ (by first | exact HH.out | exact HH.out.drewN _ | exact (HH.out.alloc _).tail | exact ((HH.out.alloc _).drewN _).tail | exact ((HH.out.alloc _).alloc _).tail.tail))
  clear hbel
  go_wp2_with fail
  refine (refName_c _ s).mono ?_
  rintro e w5 ⟨rfl, hbel⟩
  replace HH := Lib.hid ((by first | exact Kp.same hbel | exact Kp.drew hbel | exact Kp.below hbel : Kp _ w5) _ _ (by first | exact HH.out | exact HH.out.drewN _ | exact (HH.out.alloc _).tail | exact ((HH.out.alloc _).drewN _).tail | exact ((HH.out.alloc _).alloc _).tail.tail))
  clear hbel
  go_wp2_with fail
  refine (gainPace_c _ s r hr.out).mono ?_
  rintro e w6 ⟨rfl, hbel⟩
  replace HH := Lib.hid ((by first | exact Kp.same hbel | exact Kp.drew hbel | exact Kp.below hbel : Kp _ w6) _ _ (by first | exact HH.out | exact HH.out.drewN _ | exact (HH.out.alloc _).tail | exact ((HH.out.alloc _).drewN _).tail | exact ((HH.out.alloc _).alloc _).tail.tail))
  clear hbel
  go_wp2_with fail
  refine (refPace_c _ s r hr.out).mono ?_
  rintro e w7 ⟨rfl, hbel⟩
  replace HH := Lib.hid ((by first | exact Kp.same hbel | exact Kp.drew hbel | exact Kp.below hbel : Kp _ w7) _ _ (by first | exact HH.out | exact HH.out.drewN _ | exact (HH.out.alloc _).tail | exact ((HH.out.alloc _).drewN _).tail | exact ((HH.out.alloc _).alloc _).tail.tail))
  clear hbel
  go_wp2_with fail
  refine (gainWindow_c _ s f hf.out).mono ?_
  rintro e w8 ⟨rfl, hbel⟩
  replace HH := Lib.hid ((by first | exact Kp.same hbel | exact Kp.drew hbel | exact Kp.below hbel : Kp _ w8) _ _ (by first | exact HH.out | exact HH.out.drewN _ | exact (HH.out.alloc _).tail | exact ((HH.out.alloc _).drewN _).tail | exact ((HH.out.alloc _).alloc _).tail.tail))
  clear hbel
  go_wp2_with fail
  refine (refWindow_c _ s f hf.out).mono ?_
  rintro e w9 ⟨rfl, hbel⟩
  replace HH := Lib.hid ((by first | exact Kp.same hbel | exact Kp.drew hbel | exact Kp.below hbel : Kp _ w9) _ _ (by first | exact HH.out | exact HH.out.drewN _ | exact (HH.out.alloc _).tail | exact ((HH.out.alloc _).drewN _).tail | exact ((HH.out.alloc _).alloc _).tail.tail))
  clear hbel
  go_wp2_with fail
  go_ret
  exact ⟨rfl, HH.out⟩
set_option maxHeartbeats 1600000 in
theorem gainNamesLaw_c (n : ByteArray) (hn : n.size ≤ maxLen) :
    Calls Try.prog 11 #[.string n] w fun e w' => e = .returned (.bool true) ∧ Own w w' [old w] := by
  have HH := Lib.hid (Own.init w)
  unfold maxLen at hn
  by_cases hb : 100 < n.size
  · go_enter Try.func11, Try.ntmps11
    go_wp2_with fail
    refine (alive12_k _).mono ?_
    rintro e w1 ⟨rfl, hbel⟩
    replace HH := Lib.hid ((by first | exact Kp.same hbel | exact Kp.drew hbel | exact Kp.below hbel : Kp _ w1) _ _ (by first | exact HH.out | exact HH.out.drewN _ | exact (HH.out.alloc _).tail | exact ((HH.out.alloc _).drewN _).tail | exact ((HH.out.alloc _).alloc _).tail.tail))
    clear hbel
    go_wp2_with fail
    go_ret
    exact ⟨rfl, HH.out⟩
  have c1 := gainParse_c w n
  obtain ⟨v, hv, a, b, rfl⟩ : ∃ v, gRes (gParse n) = v ∧ ∃ a b, v = .tuple #[.int .i64 a, .int .i64 b] := by
    cases gParse n with
    | none => exact ⟨_, rfl, _, _, rfl⟩
    | some k => exact ⟨_, rfl, _, _, rfl⟩
  have c2 := fun w => refParse_c w n
  rw [hv] at c1
  simp only [hv] at c2
  clear hv
  go_enter Try.func11, Try.ntmps11
  go_wp2_with fail
  refine (c1).mono ?_
  rintro e w1 ⟨rfl, hbel⟩
  replace HH := Lib.hid ((by first | exact Kp.same hbel | exact Kp.drew hbel | exact Kp.below hbel : Kp _ w1) _ _ (by first | exact HH.out | exact HH.out.drewN _ | exact (HH.out.alloc _).tail | exact ((HH.out.alloc _).drewN _).tail | exact ((HH.out.alloc _).alloc _).tail.tail))
  clear hbel
  go_wp2_with fail
  refine (c2 _).mono ?_
  rintro e w2 ⟨rfl, hbel⟩
  replace HH := Lib.hid ((by first | exact Kp.same hbel | exact Kp.drew hbel | exact Kp.below hbel : Kp _ w2) _ _ (by first | exact HH.out | exact HH.out.drewN _ | exact (HH.out.alloc _).tail | exact ((HH.out.alloc _).drewN _).tail | exact ((HH.out.alloc _).alloc _).tail.tail))
  clear hbel
  clear c1 c2
  go_wp2_with fail
  refine (alive12_k _).mono ?_
  rintro e w3 ⟨rfl, hbel⟩
  replace HH := Lib.hid ((by first | exact Kp.same hbel | exact Kp.drew hbel | exact Kp.below hbel : Kp _ w3) _ _ (by first | exact HH.out | exact HH.out.drewN _ | exact (HH.out.alloc _).tail | exact ((HH.out.alloc _).drewN _).tail | exact ((HH.out.alloc _).alloc _).tail.tail))
  clear hbel
  go_wp2_with fail
  go_ret
  exact ⟨rfl, HH.out⟩
end
end Go.Proofs.Ytnffoiocejfppaa
