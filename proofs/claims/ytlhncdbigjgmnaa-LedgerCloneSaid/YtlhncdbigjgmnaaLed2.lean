/- ledger: new ones, and what is sent. -/
import Derived.Test.YtlhncdbigjgmnaaLed
import Derived.Test.YtlhncdbigjgmnaaRegIn
import Derived.Test.YtlhncdbigjgmnaaReg2
import Derived.Test.YtlhncdbigjgmnaaEv
namespace Go.Proofs.Ytlhncdbigjgmnaa
open Go.RowKit
section
variable (ε w : World) (R : List Asn) (b : Nat)
theorem ledNew_c (re : Int) (H : Own ε w R) :
    Calls Try.prog 14 #[.int .u64 re] w fun e w' => ∃ b, e = .returned (.pointer (some ⟨b, 0, none⟩)) ∧ Own ε w' (led b ⟨re, 0, 0, false, []⟩ :: R) := by
  have HH := Lib.hid H; clear H
  go_enter Try.func14, Try.ntmps14
  go_wp2_with fail
  refine (rlNew_c ε _ _ [] none 0 0 rfl (fun _ _ => ⟨rfl, .inl rfl⟩) (by decide) HH.out).mono ?_
  rintro e w1_ ⟨rb, rfl, H9_⟩
  replace HH := Lib.hid H9_
  clear H9_
  go_wp2_with (with_reducible refine stop_bx ?_)
  refine Stop.go ?_
  refine wpList_box_own HH.out [_, _, _, _, _] rfl ?_
  intro b w2_ H9_
  replace HH := Lib.hid H9_
  clear H9_
  go_wp2_with fail
  go_ret
  exact ⟨_, rfl, Own.led_mk (rb := rb) (Own.ents_nil HH.out).l3⟩
/-- What was sent, with its stamp. -/
abbrev sentPk (n size q1 q2 q3 q4 : Int) (q5 : Bool) : Pk := ⟨n, size, q1, q2, q3, q4, q5⟩
set_option maxHeartbeats 1600000 in
theorem ledSend_c (s : Led) (size q1 q2 q3 q4 : Int) (q5 : Bool) (hn : s.row.length ≤ 1000000) (h0 : 0 ≤ s.next) (hx : s.next < 9223372036854775807) (H : Own ε w (led b s :: R)) :
    Calls Try.prog 15 #[.pointer (some ⟨b, 0, none⟩), .int .u64 size, .agg #[.int .u64 q1, .int .u64 q2, .int .u64 q3, .int .u64 q4, .bool q5]] w fun e w' => ∃ eb, e = .returned (.int .u64 s.next) ∧
      Own ε w' (led b { s with next := s.next + 1, row := s.row ++ [⟨eb, ⟨s.next, size, q1, q2, q3, q4, q5⟩, true⟩] } :: R) := by
  obtain ⟨re, next, top, sm, row⟩ := s
  obtain ⟨rb, H⟩ := H.led_open
  simp only at hn h0 hx H ⊢
  have HH := Lib.hid H; clear H
  have hw : IntKind.u64.wrap (next + 1) = next + 1 := by rw [IntKind.wrap_u64]; omega
  replace hn := Lib.hid hn
  clear h0 hx
  go_enter Try.func15, Try.ntmps15
  go_wp2_with (with_reducible refine stop_bx ?_)
  refine Stop.go ?_
  refine wpList_box_own HH.out [_, _, _, _, _] rfl ?_
  intro sp w3_ H9_
  replace HH := Lib.hid H9_
  clear H9_
  (try clear cc1_); (try clear cc2_); (try clear cc3_); (try clear cc4_); (try clear cc5_); (try clear cc6_); (try clear cc7_)
  have cc1_ := HH.out.cells
  have cc2_ := HH.out.r2.cells
  go_wp2_with fail
  refine wp_region_reg (some 10) HH.out (by kernel_rfl) ?_
  intro wm H9_
  replace HH := Lib.hid H9_
  clear H9_
  refine reg_p (i := 0) rfl (by kernel_rfl) (fun _ _ _ _ h => h) HH.out (fun K hK => ?_)
  go_simp
  first | (refine hK _ ?_; clear hK K) | (apply Exists.intro; refine ⟨?_, hK _ ?_⟩; (focus (intro wx; first | (go_simp; first | rfl) | rfl)); clear hK K)
  refine reg_p (i := 1) rfl (by kernel_rfl) (fun _ _ _ _ h => h) HH.out (fun K hK => ?_)
  go_simp
  first | (refine hK _ ?_; clear hK K) | (apply Exists.intro; refine ⟨?_, hK _ ?_⟩; (focus (intro wx; first | (go_simp; first | rfl) | rfl)); clear hK K)
  refine reg_p (i := 2) rfl (by kernel_rfl) (fun _ _ _ _ h => h) HH.out (fun K hK => ?_)
  go_simp
  first | (refine hK _ ?_; clear hK K) | (apply Exists.intro; refine ⟨?_, hK _ ?_⟩; (focus (intro wx; first | (go_simp; first | rfl) | rfl)); clear hK K)
  refine mixk_q (i := 3) rfl (by kernel_rfl) (fun _ _ _ _ h => h) HH.out (fun K hK => ?_)
  go_simp
  first | (refine hK _ ?_; clear hK K) | (apply Exists.intro; refine ⟨?_, hK _ ?_⟩; (focus (intro wx hx; have x1_ := hx.cells; have x2_ := hx.r2.cells; first | (go_simp; first | rfl | exact ⟨rfl, rfl⟩) | rfl | exact ⟨rfl, rfl⟩)); clear hK K)
  refine reg_p (i := 4) rfl (by kernel_rfl) (fun _ _ _ _ h => h) HH.out (fun K hK => ?_)
  go_simp
  first | (refine hK _ ?_; clear hK K) | (apply Exists.intro; refine ⟨?_, hK _ ?_⟩; (focus (intro wx; first | (go_simp; first | rfl) | rfl)); clear hK K)
  refine reg_p (i := 5) rfl (by kernel_rfl) (fun _ _ _ _ h => h) HH.out (fun K hK => ?_)
  go_simp
  first | (refine hK _ ?_; clear hK K) | (apply Exists.intro; refine ⟨?_, hK _ ?_⟩; (focus (intro wx; first | (go_simp; first | rfl) | rfl)); clear hK K)
  refine mixk_q (i := 6) rfl (by kernel_rfl) (fun _ _ _ _ h => h) HH.out (fun K hK => ?_)
  go_simp
  first | (refine hK _ ?_; clear hK K) | (apply Exists.intro; refine ⟨?_, hK _ ?_⟩; (focus (intro wx hx; have x1_ := hx.cells; have x2_ := hx.r2.cells; first | (go_simp; first | rfl | exact ⟨rfl, rfl⟩) | rfl | exact ⟨rfl, rfl⟩)); clear hK K)
  refine reg_p (i := 7) rfl (by kernel_rfl) (fun _ _ _ _ h => h) HH.out (fun K hK => ?_)
  go_simp
  first | (refine hK _ ?_; clear hK K) | (apply Exists.intro; refine ⟨?_, hK _ ?_⟩; (focus (intro wx; first | (go_simp; first | rfl) | rfl)); clear hK K)
  refine reg_p (i := 8) rfl (by kernel_rfl) (fun _ _ _ _ h => h) HH.out (fun K hK => ?_)
  go_simp
  first | (refine hK _ ?_; clear hK K) | (apply Exists.intro; refine ⟨?_, hK _ ?_⟩; (focus (intro wx; first | (go_simp; first | rfl) | rfl)); clear hK K)
  refine reg_l (some 10) (i := 9) rfl (by kernel_rfl) (fun wn hk K hK => ?_)
  replace HH := Lib.hid (hk _ _ HH.out)
  clear hk
  go_simp
  replace HH := Lib.hid (HH.out.alloc (.cells #[.int .u64 next, .int .u64 size, .int .u64 q1, .int .u64 q2, .int .u64 q3, .int .u64 q4, .bool q5, .bool true] 80))
  generalize wn.alloc (.cells #[.int .u64 next, .int .u64 size, .int .u64 q1, .int .u64 q2, .int .u64 q3, .int .u64 q4, .bool q5, .bool true] 80) = wm at *
  generalize wn.heap.size = eb at *
  refine hK _ _ _ HH.out (.inr ⟨rfl, fun _ h => h.tail⟩) ?_
  clear hK K
  refine reg_l none (i := 10) rfl (by kernel_rfl) (fun wn hk K hK => ?_)
  replace HH := Lib.hid (hk _ _ HH.out)
  clear hk
  go_simp
  refine (rlPush_c ε wn _ rb (blks row) eb (by simpa using hn.out) HH.out.r4).mono ?_
  rintro e wm ⟨rfl, H9_⟩
  replace HH := Lib.hid H9_
  clear H9_
  refine hK _ _ _ HH.out (.inl (by kernel_rfl)) ?_
  clear hK K
  refine mixk_done (by kernel_rfl) (fun w4_ hk => ?_) _
  replace HH := Lib.hid (hk _ _ HH.out)
  clear hk
  replace HH := Lib.hid ((Own.pm (HH.out) (by repeat (first | with_reducible exact Pm.refl _ | with_reducible exact Pm.nil _ | with_reducible refine Pm.here ?_ | with_reducible refine Pm.at2 ?_ | with_reducible refine Pm.at3 ?_ | with_reducible refine Pm.at4 ?_ | with_reducible refine Pm.at5 ?_ | with_reducible refine Pm.at6 ?_ | with_reducible refine Pm.at7 ?_ | with_reducible refine Pm.at8 ?_ | with_reducible refine Pm.skip ?_))) : Own _ _ (pts b _ :: ringL rb _ :: ents row :: pts eb _ :: R))
  (try clear cc1_); (try clear cc2_); (try clear cc3_); (try clear cc4_); (try clear cc5_); (try clear cc6_); (try clear cc7_)
  have cc1_ := HH.out.cells
  go_wp2_with (with_reducible refine stop_st ?_)
  refine Stop.go ?_
  refine wpList_store1_own (v := .int .u64 (next + 1)) (k := 2) rfl rfl HH.out (by kernel_rfl) (by simp) (by first | rfl | assumption) ?_
  intro w5_ H9_
  replace HH := Lib.hid H9_
  clear H9_
  simp only [List.setIfInBounds_toArray, List.set_cons_succ, List.set_cons_zero] at HH
  go_wp2_with fail
  go_ret
  refine ⟨eb, rfl, Own.led_mk (rb := rb) ?_⟩
  have H9 := HH.out
  have e1 : blks row ++ [eb] = blks (row ++ [⟨eb, ⟨next, size, q1, q2, q3, q4, q5⟩, true⟩]) := by simp
  simp only
  rw [← e1]
  have H8 := ((Own.pm (H9) (by repeat (first | with_reducible exact Pm.refl _ | with_reducible exact Pm.nil _ | with_reducible refine Pm.here ?_ | with_reducible refine Pm.at2 ?_ | with_reducible refine Pm.at3 ?_ | with_reducible refine Pm.at4 ?_ | with_reducible refine Pm.at5 ?_ | with_reducible refine Pm.at6 ?_ | with_reducible refine Pm.at7 ?_ | with_reducible refine Pm.at8 ?_ | with_reducible refine Pm.skip ?_))) : Own ε _ (pts eb _ :: ents row :: pts b _ :: ringL rb _ :: R))
  have H10 := Own.ents_snoc (l := row) (e := ⟨eb, ⟨next, size, q1, q2, q3, q4, q5⟩, true⟩) H8
  exact (Own.pm (H10) (by repeat (first | with_reducible exact Pm.refl _ | with_reducible exact Pm.nil _ | with_reducible refine Pm.here ?_ | with_reducible refine Pm.at2 ?_ | with_reducible refine Pm.at3 ?_ | with_reducible refine Pm.at4 ?_ | with_reducible refine Pm.at5 ?_ | with_reducible refine Pm.at6 ?_ | with_reducible refine Pm.at7 ?_ | with_reducible refine Pm.at8 ?_ | with_reducible refine Pm.skip ?_)))
theorem ledSend_nil (size : Int) (H : Own ε w R) : Calls Try.prog 15 #[.pointer none, .int .u64 size, .agg #[.int .u64 0, .int .u64 0, .int .u64 0, .int .u64 0, .bool false]] w fun e w' => e = .returned (.int .u64 0) ∧ Own ε w' R := by
  have HH := Lib.hid H; clear H
  go_enter Try.func15, Try.ntmps15
  go_wp2_with (with_reducible refine stop_bx ?_)
  refine Stop.go ?_
  refine wpList_box_own HH.out [_, _, _, _, _] rfl ?_
  intro sp w6_ H9_
  replace HH := Lib.hid H9_
  clear H9_
  go_wp2_with fail
  go_ret
  exact ⟨rfl, HH.out.tail⟩
/-- The iterator's own box. -/
abbrev capL (bb b : Nat) : Asn := pts bb (.cells #[.pointer (some ⟨b, 0, none⟩)] 37 (0, 0))
theorem ledSeq_c (H : Own ε w R) :
    Calls Try.prog 39 #[.pointer (some ⟨b, 0, none⟩)] w fun e w' => ∃ bb, e = .returned (.func (.func 58) #[] #[.pointer (some ⟨bb, 0, none⟩)]) ∧ Own ε w' (capL bb b :: R) := by
  have HH := Lib.hid H; clear H
  go_enter Try.func39, Try.ntmps39
  go_wp2_with (with_reducible refine stop_bx ?_)
  refine Stop.go ?_
  refine wpList_box_own HH.out [_] rfl ?_
  intro bb w7_ H9_
  replace HH := Lib.hid H9_
  clear H9_
  go_wp2_with fail
  go_ret
  exact ⟨_, rfl, HH.out⟩
end
end Go.Proofs.Ytlhncdbigjgmnaa
