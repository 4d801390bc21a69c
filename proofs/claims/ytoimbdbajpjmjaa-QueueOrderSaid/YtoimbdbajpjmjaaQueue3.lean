/- queue: the live question, and QueuePlays. -/
import Derived.Test.YtoimbdbajpjmjaaQueue2
import Derived.Test.YtoimbdbajpjmjaaSame08
import Derived.Test.YtoimbdbajpjmjaaRdU
import Derived.Outline
namespace Go.Proofs.Ytoimbdbajpjmjaa
open Go.RowKit
theorem Pk.bare_ok {n size : Int} (h : U n) (h2 : U size) : (Pk.bare n size).Ok := ⟨h, h2, U_zero, U_zero, U_zero, U_zero⟩
section
variable (w : World)
set_option maxHeartbeats 1600000 in
theorem alive19_k : Calls Try.prog 30 #[] w fun e w' => e = .returned (.bool true) ∧ Below w.heap.size w w' := by
  have HH := Lib.hid (Own.init w)
  go_enter Try.func30, Try.ntmps30
  go_wp2_with fail
  refine (queNew_c w _ _ 10 HH.out).mono ?_
  rintro e w1_ ⟨b, rfl, H9_⟩
  replace HH := Lib.hid H9_
  clear H9_
  go_wp2_with fail
  refine (quePut_c w _ _ b (Que.new 10) (Pk.bare 1 6) (Que.ok_new (by decide)) (by decide) (by decide) HH.out).mono ?_
  rw [show (Que.new 10).put (Pk.bare 1 6) = (true, ⟨10, 6, 0, 0, [Pk.bare 1 6]⟩) from by first | rfl | decide]
  rintro e w2_ ⟨rfl, H9_⟩
  replace HH := Lib.hid H9_
  clear H9_
  go_wp2_with fail
  refine (quePut_c w _ _ b ⟨10, 6, 0, 0, [Pk.bare 1 6]⟩ (Pk.bare 2 5) ⟨by decide, by decide, by decide, by decide, by decide, by decide⟩ (by decide) (by decide) HH.out).mono ?_
  rw [show (⟨10, 6, 0, 0, [Pk.bare 1 6]⟩ : Que).put (Pk.bare 2 5) = (false, ⟨10, 6, 1, 5, [Pk.bare 1 6]⟩) from by first | rfl | decide]
  rintro e w3_ ⟨rfl, H9_⟩
  replace HH := Lib.hid H9_
  clear H9_
  go_wp2_with fail
  refine (quePut_c w _ _ b ⟨10, 6, 1, 5, [Pk.bare 1 6]⟩ (Pk.bare 3 4) ⟨by decide, by decide, by decide, by decide, by decide, by decide⟩ (by decide) (by decide) HH.out).mono ?_
  rw [show (⟨10, 6, 1, 5, [Pk.bare 1 6]⟩ : Que).put (Pk.bare 3 4) = (true, ⟨10, 10, 1, 5, [Pk.bare 1 6, Pk.bare 3 4]⟩) from by first | rfl | decide]
  rintro e w4_ ⟨rfl, H9_⟩
  replace HH := Lib.hid H9_
  clear H9_
  go_wp2_with fail
  refine (queShift_c w _ _ b ⟨10, 10, 1, 5, [Pk.bare 1 6, Pk.bare 3 4]⟩ ⟨by decide, by decide, by decide, by decide, by decide, by decide⟩ HH.out).mono ?_
  rw [show (⟨10, 10, 1, 5, [Pk.bare 1 6, Pk.bare 3 4]⟩ : Que).shift = ((Pk.bare 1 6, true), ⟨10, 4, 1, 5, [Pk.bare 3 4]⟩) from by first | rfl | decide]
  rintro e w5_ ⟨rfl, H9_⟩
  replace HH := Lib.hid H9_
  clear H9_
  go_wp2_with (with_reducible refine stop_al ?_)
  refine Stop.go ?_
  refine wpList_alloc_own HH.out [.int .u64 0, .int .u64 0, .int .u64 0, .int .u64 0, .int .u64 0, .int .u64 0, .bool false] (by kernel_rfl) ?_
  intro x w6_ H9_
  replace HH := Lib.hid H9_
  clear H9_
  go_wp2_with (with_reducible refine stop_st ?_)
  refine Stop.go ?_
  refine wpList_store_own _ #[_, _, _, _, _, _, _] rfl rfl HH.out (by kernel_rfl) rfl (by repeat (first | (refine List.forall_mem_cons.2 ⟨(by first | with_reducible assumption | rfl), ?_⟩) | exact fun _ h => absurd h List.not_mem_nil)) ?_
  intro w7_ H9_
  replace HH := Lib.hid H9_
  clear H9_
  go_wp2_with fail
  refine (queHead_c w _ _ b ⟨10, 4, 1, 5, [Pk.bare 3 4]⟩ HH.out.r2).mono ?_
  rw [show headP [Pk.bare 3 4] = (Pk.bare 3 4, true) from by first | rfl | decide]
  rintro e w8_ ⟨rfl, H9_⟩
  replace HH := Lib.hid H9_
  clear H9_
  go_wp2_with (with_reducible refine stop_al ?_)
  refine Stop.go ?_
  refine wpList_alloc_own HH.out [.int .u64 0, .int .u64 0, .int .u64 0, .int .u64 0, .int .u64 0, .int .u64 0, .bool false] (by kernel_rfl) ?_
  intro y w9_ H9_
  replace HH := Lib.hid H9_
  clear H9_
  go_wp2_with (with_reducible refine stop_st ?_)
  refine Stop.go ?_
  refine wpList_store_own _ #[_, _, _, _, _, _, _] rfl rfl HH.out (by kernel_rfl) rfl (by repeat (first | (refine List.forall_mem_cons.2 ⟨(by first | with_reducible assumption | rfl), ?_⟩) | exact fun _ h => absurd h List.not_mem_nil)) ?_
  intro w10_ H9_
  replace HH := Lib.hid H9_
  clear H9_
  go_wp2_with fail
  refine (queDropped_c w _ _ b ⟨10, 4, 1, 5, [Pk.bare 3 4]⟩ HH.out.r2).mono ?_
  rintro e w11_ ⟨rfl, nd, hnd⟩
  replace HH := Lib.hid (HH.out.drewN nd)
  rw [← hnd] at HH
  clear hnd
  have k1 := HH.out.cells
  have k2 := HH.out.r3.cells
  go_wp2_with fail
  refine (queBytes_c w _ _ b ⟨10, 4, 1, 5, [Pk.bare 3 4]⟩ HH.out.r2).mono ?_
  rintro e w12_ ⟨rfl, hbel⟩
  replace HH := Lib.hid ((by first | exact Kp.same hbel | exact Kp.drew hbel | exact Kp.below hbel : Kp _ w12_) _ _ (by first | exact HH.out | exact HH.out.drewN _ | exact (HH.out.alloc _).tail | exact ((HH.out.alloc _).drewN _).tail | exact ((HH.out.alloc _).alloc _).tail.tail))
  clear hbel
  go_wp2_with fail
  go_ret
  exact ⟨rfl, ((Own.pm (HH.out) (by repeat (first | with_reducible exact Pm.refl _ | with_reducible exact Pm.nil _ | with_reducible refine Pm.here ?_ | with_reducible refine Pm.at2 ?_ | with_reducible refine Pm.at3 ?_ | with_reducible refine Pm.at4 ?_ | with_reducible refine Pm.at5 ?_ | with_reducible refine Pm.at6 ?_ | with_reducible refine Pm.at7 ?_ | with_reducible refine Pm.at8 ?_ | with_reducible refine Pm.skip ?_))) : Own w _ [old w]).old_below⟩
abbrev ActQ := Bool × Int × Unit
def rdActQ : Rd ActQ := rdPair rdBool (rdPair (rdInt .u64) rdUnit)
theorem rdActQ_open {w : World} {c : List Value} {x : ActQ} (h : rdActQ w c x) : c = [.bool x.1, .int .u64 x.2.1] ∧ U x.2.1 := by
  obtain ⟨c1, d1, rfl, rfl, c2, d2, rfl, ⟨rfl, h2⟩, rfl⟩ := h
  exact ⟨rfl, U_of_wf h2⟩
set_option maxRecDepth 100000 in
set_option maxHeartbeats 12800000 in
theorem queuePlays_c (room : Int) (hr0 : (Lit.int .u64 room).wf = true) (A : Option Addr) (len cap : Nat) (xs : List ActQ) (hr : rdSlice rdActQ 2 w [.slice A len cap] xs) :
    Calls Try.prog 8 #[.int .u64 room, .slice A len cap] w fun e w' => e = .returned (.bool true) ∧ Own w w' [old w] := by
  have HH := Lib.hid (Own.init w)
  have hroom := Lib.hid (U_of_wf hr0)
  clear hr0
  obtain ⟨hlen, hm, hx⟩ := rdSlice_cases hr
  clear hr
  by_cases hbig : 200 < len
  · go_enter Try.func8, Try.ntmps8
    go_wp2_with fail
    refine (alive19_k _).mono ?_
    rintro e w13_ ⟨rfl, hbel⟩
    replace HH := Lib.hid ((by first | exact Kp.same hbel | exact Kp.drew hbel | exact Kp.below hbel : Kp _ w13_) _ _ (by first | exact HH.out | exact HH.out.drewN _ | exact (HH.out.alloc _).tail | exact ((HH.out.alloc _).drewN _).tail | exact ((HH.out.alloc _).alloc _).tail.tail))
    clear hbel
    go_wp2_with fail
    go_ret
    exact ⟨rfl, HH.out⟩
  have hacts : ∀ k, k < len → ∃ ab off tk sz, A = some ⟨ab, off, none⟩ ∧ U sz ∧ w.cell? ⟨ab, off + k * 2, none⟩ = some (.bool tk) ∧ w.cell? ⟨ab, off + k * 2 + 1, none⟩ = some (.int .u64 sz) := by
    intro k hk
    rcases hx with hz | ⟨ab, off, rfl, hx⟩
    · omega
    · obtain ⟨c, _, hcell, hR⟩ := hx k (by omega)
      obtain ⟨rfl, h0⟩ := rdActQ_open hR
      exact ⟨ab, off, _, _, rfl, h0, hcell 0 _ rfl, hcell 1 _ rfl⟩
  clear hx
  replace hacts := Lib.hid hacts
  replace hlen := Lib.hid hlen
  go_enter Try.func8, Try.ntmps8
  go_wp2_with fail
  refine (queNew_c w _ _ room HH.out).mono ?_
  rintro e w14_ ⟨b1, rfl, H9_⟩
  replace HH := Lib.hid H9_
  clear H9_
  go_wp2_with (with_reducible refine stop_bx ?_)
  refine Stop.go ?_
  refine wpList_box_own HH.out [_, _, _, _] rfl ?_
  intro b2 w15_ H9_
  replace HH := Lib.hid H9_
  clear H9_
  replace HH := Lib.hid ((Own.pm ((Own.rque_mk (q := Que.new room) (HH.out.r2.slc_none.r3 : Own w _ (pts b2 _ :: slc _ 7 _ _ :: _)))) (by repeat (first | with_reducible exact Pm.refl _ | with_reducible exact Pm.nil _ | with_reducible refine Pm.here ?_ | with_reducible refine Pm.at2 ?_ | with_reducible refine Pm.at3 ?_ | with_reducible refine Pm.at4 ?_ | with_reducible refine Pm.at5 ?_ | with_reducible refine Pm.at6 ?_ | with_reducible refine Pm.at7 ?_ | with_reducible refine Pm.at8 ?_ | with_reducible refine Pm.skip ?_))) : Own w _ (que b1 (Que.new room) :: rque b2 (Que.new room) :: [old w]))
  go_wp2_with fail
  go_loopw [7] (fun i wr => ∃ (k : Nat) (q : Que), k ≤ len ∧ i = .int .i64 k ∧ q.Ok ∧ q.l.length ≤ k ∧ Own w wr (que b1 q :: rque b2 q :: [old w])) (fun i _ => len - (intOf i).toNat)
  case atStart => exact ⟨0, Que.new room, Nat.zero_le _, rfl, Que.ok_new hroom.out, Nat.le_refl _, HH.out⟩
  case round =>
    obtain ⟨k, q, hk, rfl, hq, hql, HR⟩ := hrel
    replace HH := Lib.hid HR
    clear HR
    replace hq := Lib.hid hq
    by_cases hlt : k < len
    · obtain ⟨ab, off, tk, sz, rfl, hsz, c0, c1⟩ := hacts.out k hlt
      replace hsz := Lib.hid hsz
      have hkU : U (k : Int) := by unfold U; omega
      have hp : (Pk.bare k sz).Ok := Pk.bare_ok hkU hsz.out
      replace hkU := Lib.hid hkU
      replace hp := Lib.hid hp
      have o1 := ((Own.pm (HH.out) (by repeat (first | with_reducible exact Pm.refl _ | with_reducible exact Pm.nil _ | with_reducible refine Pm.here ?_ | with_reducible refine Pm.at2 ?_ | with_reducible refine Pm.at3 ?_ | with_reducible refine Pm.at4 ?_ | with_reducible refine Pm.at5 ?_ | with_reducible refine Pm.at6 ?_ | with_reducible refine Pm.at7 ?_ | with_reducible refine Pm.at8 ?_ | with_reducible refine Pm.skip ?_))) : Own w _ [old w]).old_cell c1
      have hwk : IntKind.u64.wrap (k : Int) = (k : Int) := by rw [IntKind.wrap_u64]; omega
      go_wp2_with (with_reducible refine stop_al ?_)
      refine Stop.go ?_
      refine wpList_alloc_own HH.out [.int .u64 0, .int .u64 0, .int .u64 0, .int .u64 0, .int .u64 0, .int .u64 0, .bool false] (by kernel_rfl) ?_
      intro px w16_ H9_
      replace HH := Lib.hid H9_
      clear H9_
      go_wp2_with (with_reducible refine stop_st ?_)
      refine Stop.go ?_
      refine wpList_store_own _ #[_, _, _, _, _, _, _] rfl rfl HH.out (by kernel_rfl) rfl (by repeat (first | (refine List.forall_mem_cons.2 ⟨(by first | with_reducible assumption | rfl), ?_⟩) | exact fun _ h => absurd h List.not_mem_nil)) ?_
      intro w17_ H9_
      replace HH := Lib.hid H9_
      clear H9_
      clear o1
      have o0 := ((Own.pm (HH.out) (by repeat (first | with_reducible exact Pm.refl _ | with_reducible exact Pm.nil _ | with_reducible refine Pm.here ?_ | with_reducible refine Pm.at2 ?_ | with_reducible refine Pm.at3 ?_ | with_reducible refine Pm.at4 ?_ | with_reducible refine Pm.at5 ?_ | with_reducible refine Pm.at6 ?_ | with_reducible refine Pm.at7 ?_ | with_reducible refine Pm.at8 ?_ | with_reducible refine Pm.skip ?_))) : Own w _ [old w]).old_cell c0
      replace c0 := Lib.hid c0
      replace c1 := Lib.hid c1
      cases tk
      case' true =>
        obtain ⟨⟨⟨⟨x0, x1, x2, x3, x4, x5, x6⟩, xb⟩, q3⟩, hsh⟩ : ∃ r, q.shift = r := ⟨_, rfl⟩
        have hq3 : q3.Ok := by have := Que.ok_shift hq.out; rw [hsh] at this; exact this
        have hl3 : q3.l.length ≤ k := by
          have h1 : q.shift.2.l.length ≤ q.l.length := by show (q.l.drop 1).length ≤ _; simp
          rw [hsh] at h1; exact Nat.le_trans h1 hql
        replace hsh := Lib.hid hsh
        go_wp2_with fail
        refine (queShift_c w _ _ b1 q hq.out HH.out.r2).mono ?_
        rw [hsh.out]
        rintro e w18_ ⟨rfl, H9_⟩
        replace HH := Lib.hid H9_
        clear H9_
        clear o0
        go_wp2_with (with_reducible refine stop_al ?_)
        refine Stop.go ?_
        refine wpList_alloc_own HH.out [.int .u64 0, .int .u64 0, .int .u64 0, .int .u64 0, .int .u64 0, .int .u64 0, .bool false] (by kernel_rfl) ?_
        intro xx w19_ H9_
        replace HH := Lib.hid H9_
        clear H9_
        go_wp2_with (with_reducible refine stop_st ?_)
        refine Stop.go ?_
        refine wpList_store_own _ #[_, _, _, _, _, _, _] rfl rfl HH.out (by kernel_rfl) rfl (by repeat (first | (refine List.forall_mem_cons.2 ⟨(by first | with_reducible assumption | rfl), ?_⟩) | exact fun _ h => absurd h List.not_mem_nil)) ?_
        intro w20_ H9_
        replace HH := Lib.hid H9_
        clear H9_
        go_wp2_with fail
        refine (rqueShift_c w _ _ b2 q (by omega) HH.out.r4).mono ?_
        rw [hsh.out]
        rintro e w21_ ⟨rfl, H9_⟩
        replace HH := Lib.hid H9_
        clear H9_
        go_wp2_with (with_reducible refine stop_al ?_)
        refine Stop.go ?_
        refine wpList_alloc_own HH.out [.int .u64 0, .int .u64 0, .int .u64 0, .int .u64 0, .int .u64 0, .int .u64 0, .bool false] (by kernel_rfl) ?_
        intro yy w22_ H9_
        replace HH := Lib.hid H9_
        clear H9_
        go_wp2_with (with_reducible refine stop_st ?_)
        refine Stop.go ?_
        refine wpList_store_own _ #[_, _, _, _, _, _, _] rfl rfl HH.out (by kernel_rfl) rfl (by repeat (first | (refine List.forall_mem_cons.2 ⟨(by first | with_reducible assumption | rfl), ?_⟩) | exact fun _ h => absurd h List.not_mem_nil)) ?_
        intro w23_ H9_
        replace HH := Lib.hid H9_
        clear H9_
        have e1 := HH.out.cells
        have e2 := HH.out.r3.cells
        have hbq : Pk.beq ⟨x0, x1, x2, x3, x4, x5, x6⟩ ⟨x0, x1, x2, x3, x4, x5, x6⟩ = true := Pk.beq_true rfl
        replace HH := Lib.hid ((Own.pm (HH.out) (by repeat (first | with_reducible exact Pm.refl _ | with_reducible exact Pm.nil _ | with_reducible refine Pm.here ?_ | with_reducible refine Pm.at2 ?_ | with_reducible refine Pm.at3 ?_ | with_reducible refine Pm.at4 ?_ | with_reducible refine Pm.at5 ?_ | with_reducible refine Pm.at6 ?_ | with_reducible refine Pm.at7 ?_ | with_reducible refine Pm.at8 ?_ | with_reducible refine Pm.skip ?_))) : Own w _ (que b1 q3 :: rque b2 q3 :: [old w]))
        replace hl3 : q3.l.length ≤ k + 1 := by omega
      case' false =>
        obtain ⟨⟨pb, q3⟩, hpu⟩ : ∃ r, q.put (Pk.bare k sz) = r := ⟨_, rfl⟩
        have hq3 : q3.Ok := by have := Que.ok_put hq.out hp.out; rw [hpu] at this; exact this
        have hl3 : q3.l.length ≤ k + 1 := by
          have h1 : (q.put (Pk.bare k sz)).2.l.length ≤ q.l.length + 1 := by unfold Que.put; split <;> simp
          rw [hpu] at h1; simp only at h1; omega
        replace hpu := Lib.hid hpu
        go_wp2_with fail
        refine wp_region_regK (some 5) [pts px (.cells #[.int .u64 k, .int .u64 sz, .int .u64 0, .int .u64 0, .int .u64 0, .int .u64 0, .bool false] 62 (0, 0))] HH.out (by kernel_rfl) ?_
        intro wm H9_
        replace HH := Lib.hid H9_
        clear H9_
        have HS : Own _ wm [pts px (.cells #[.int .u64 k, .int .u64 sz, .int .u64 0, .int .u64 0, .int .u64 0, .int .u64 0, .bool false] 62 (0, 0))] := (Own.pm (HH.out) (by repeat (first | with_reducible exact Pm.refl _ | with_reducible exact Pm.nil _ | with_reducible refine Pm.here ?_ | with_reducible refine Pm.at2 ?_ | with_reducible refine Pm.at3 ?_ | with_reducible refine Pm.at4 ?_ | with_reducible refine Pm.at5 ?_ | with_reducible refine Pm.at6 ?_ | with_reducible refine Pm.at7 ?_ | with_reducible refine Pm.at8 ?_ | with_reducible refine Pm.skip ?_)))
        refine reg_p (i := 0) rfl (by kernel_rfl) (fun _ _ _ _ h => h) HS (fun K hK => ?_)
        go_simp
        first | (refine hK _ ?_; clear hK K) | (apply Exists.intro; refine ⟨?_, hK _ ?_⟩; (focus (intro wx; first | (go_simp; first | rfl) | rfl)); clear hK K)
        refine mixk_q (i := 1) rfl (by kernel_rfl) (fun _ _ _ _ h => h) HS (fun K hK => ?_)
        go_simp
        first | (refine hK _ ?_; clear hK K) | (apply Exists.intro; refine ⟨?_, hK _ ?_⟩; (focus (intro wx hx; have x1_ := hx.cells; first | (go_simp; first | rfl | exact ⟨rfl, rfl⟩) | rfl | exact ⟨rfl, rfl⟩)); clear hK K)
        refine reg_p (i := 3) rfl (by kernel_rfl) (fun _ _ _ _ h => h) HS (fun K hK => ?_)
        go_simp
        first | (refine hK _ ?_; clear hK K) | (apply Exists.intro; refine ⟨?_, hK _ ?_⟩; (focus (intro wx; first | (go_simp; first | rfl) | rfl)); clear hK K)
        refine mixk_q (i := 4) rfl (by kernel_rfl) (fun _ _ _ _ h => h) HS (fun K hK => ?_)
        go_simp
        first | (refine hK _ ?_; clear hK K) | (apply Exists.intro; refine ⟨?_, hK _ ?_⟩; (focus (intro wx hx; have x1_ := hx.cells; first | (go_simp; first | rfl | exact ⟨rfl, rfl⟩) | rfl | exact ⟨rfl, rfl⟩)); clear hK K)
        refine reg_l (some 5) (i := 2) rfl (by kernel_rfl) (fun wn hk K hK => ?_)
        replace HH := Lib.hid (hk _ _ HH.out)
        clear hk HS
        go_simp
        refine (quePut_c w wn _ b1 q (Pk.bare k sz) hq.out hp.out (by omega) HH.out.r2).mono ?_
        rw [hpu.out]
        rintro e wm ⟨rfl, H9_⟩
        replace HH := Lib.hid H9_
        clear H9_
        have HS : Own _ wm [pts px (.cells #[.int .u64 k, .int .u64 sz, .int .u64 0, .int .u64 0, .int .u64 0, .int .u64 0, .bool false] 62 (0, 0))] := (Own.pm (HH.out) (by repeat (first | with_reducible exact Pm.refl _ | with_reducible exact Pm.nil _ | with_reducible refine Pm.here ?_ | with_reducible refine Pm.at2 ?_ | with_reducible refine Pm.at3 ?_ | with_reducible refine Pm.at4 ?_ | with_reducible refine Pm.at5 ?_ | with_reducible refine Pm.at6 ?_ | with_reducible refine Pm.at7 ?_ | with_reducible refine Pm.at8 ?_ | with_reducible refine Pm.skip ?_)))
        refine hK _ _ [pts px (.cells #[.int .u64 k, .int .u64 sz, .int .u64 0, .int .u64 0, .int .u64 0, .int .u64 0, .bool false] 62 (0, 0))] HS (.inr ⟨rfl, fun _ h => h⟩) ?_
        clear hK K
        refine reg_l none (i := 5) rfl (by kernel_rfl) (fun wn hk K hK => ?_)
        replace HH := Lib.hid (hk _ _ HH.out)
        clear hk HS
        go_simp
        refine (rquePut_c w wn _ b2 q (Pk.bare k sz) hq.out hp.out (by omega) HH.out.r3).mono ?_
        rw [hpu.out]
        rintro e wm ⟨rfl, H9_⟩
        replace HH := Lib.hid H9_
        clear H9_
        refine hK _ _ _ HH.out (.inl (by kernel_rfl)) ?_
        clear hK K
        refine reg_p (i := 6) rfl (by kernel_rfl) (fun _ _ _ _ h => h) HH.out (fun K hK => ?_)
        go_simp
        first | (refine hK _ ?_; clear hK K) | (apply Exists.intro; refine ⟨?_, hK _ ?_⟩; (focus (intro wx; first | (go_simp; first | rfl) | rfl)); clear hK K)
        refine reg_p (i := 7) rfl (by kernel_rfl) (fun _ _ _ _ h => h) HH.out (fun K hK => ?_)
        go_simp
        first | (refine hK _ ?_; clear hK K) | (apply Exists.intro; refine ⟨?_, hK _ ?_⟩; (focus (intro wx; first | (go_simp; first | rfl) | rfl)); clear hK K)
        refine mixk_done (by kernel_rfl) (fun w24_ hk => ?_) _
        replace HH := Lib.hid (hk _ _ HH.out)
        clear hk
        replace HH := Lib.hid ((Own.pm (HH.out) (by repeat (first | with_reducible exact Pm.refl _ | with_reducible exact Pm.nil _ | with_reducible refine Pm.here ?_ | with_reducible refine Pm.at2 ?_ | with_reducible refine Pm.at3 ?_ | with_reducible refine Pm.at4 ?_ | with_reducible refine Pm.at5 ?_ | with_reducible refine Pm.at6 ?_ | with_reducible refine Pm.at7 ?_ | with_reducible refine Pm.at8 ?_ | with_reducible refine Pm.skip ?_))) : Own _ _ (que b1 q3 :: rque b2 q3 :: [old w]))
      all_goals
        replace hq3 := Lib.hid hq3
        go_wp2_with fail
        refine (queDropped_c w _ _ b1 q3 HH.out).mono ?_
        rintro e w25_ ⟨rfl, nd, hnd⟩
        replace HH := Lib.hid (HH.out.drewN nd)
        rw [← hnd] at HH
        clear hnd
        go_wp2_with fail
        refine (queAll_c w _ _ b1 q3 HH.out).mono ?_
        rintro e w26_ ⟨v, rfl, H9_⟩
        replace HH := Lib.hid H9_
        clear H9_
        obtain ⟨A1, n1, d1, rfl, hn1, hcap1, hA1⟩ := HH.out.slcP_val
        obtain ⟨v2, HX⟩ := HH.out.r3.rque_open
        replace HH := Lib.hid HX
        clear HX
        obtain ⟨A2, n2, d2, rfl, _, _, hA2⟩ := HH.out.r2.slcP_val
        have m1 := HH.out.cells
        replace hA1 := Lib.hid hA1
        replace hA2 := Lib.hid hA2
        go_wp2_with fail
        refine (same08_c _ A1 A2 n1 n2 d1 d2 q3.l q3.l hA1.out hA2.out (by omega)).mono ?_
        rw [show decide (q3.l = q3.l) = true from decide_eq_true rfl]
        rintro e w9 ⟨rfl, nd, hnd⟩
        replace HH := Lib.hid (HH.out.drewN nd)
        rw [← hnd] at HH
        clear hnd m1 hA1 hA2
        go_wp2_with fail
        refine (queBytes_c w _ _ b1 q3 HH.out.r4).mono ?_
        rintro e w27_ ⟨rfl, hbel⟩
        replace HH := Lib.hid ((by first | exact Kp.same hbel | exact Kp.drew hbel | exact Kp.below hbel : Kp _ w27_) _ _ (by first | exact HH.out | exact HH.out.drewN _ | exact (HH.out.alloc _).tail | exact ((HH.out.alloc _).drewN _).tail | exact ((HH.out.alloc _).alloc _).tail.tail))
        clear hbel
        go_wp2_with fail
        refine (rqueBytes_c w _ _ b2 q3 hq3.out (Own.rque_mk HH.out)).mono ?_
        rintro e w28_ ⟨rfl, hbel⟩
        replace HH := Lib.hid ((by first | exact Kp.same hbel | exact Kp.drew hbel | exact Kp.below hbel : Kp _ w28_) _ _ (by first | exact HH.out | exact HH.out.drewN _ | exact (HH.out.alloc _).tail | exact ((HH.out.alloc _).drewN _).tail | exact ((HH.out.alloc _).alloc _).tail.tail))
        clear hbel
        have m1 := HH.out.cells
        go_wp2_with fail
        go_roundw
        case rel => exact ⟨k + 1, q3, by omega, by go_num, hq3.out, hl3, (Own.pm ((Own.rque_mk HH.out : Own w _ (rque b2 q3 :: slcP _ _ :: que b1 q3 :: [old w]))) (by repeat (first | with_reducible exact Pm.refl _ | with_reducible exact Pm.nil _ | with_reducible refine Pm.here ?_ | with_reducible refine Pm.at2 ?_ | with_reducible refine Pm.at3 ?_ | with_reducible refine Pm.at4 ?_ | with_reducible refine Pm.at5 ?_ | with_reducible refine Pm.at6 ?_ | with_reducible refine Pm.at7 ?_ | with_reducible refine Pm.at8 ?_ | with_reducible refine Pm.skip ?_)))⟩
        case measure => simp [intOf]; omega
    · have hkl : k = len := by omega
      clear hacts
      replace HH := Lib.hid ((Own.pm (HH.out) (by repeat (first | with_reducible exact Pm.refl _ | with_reducible exact Pm.nil _ | with_reducible refine Pm.here ?_ | with_reducible refine Pm.at2 ?_ | with_reducible refine Pm.at3 ?_ | with_reducible refine Pm.at4 ?_ | with_reducible refine Pm.at5 ?_ | with_reducible refine Pm.at6 ?_ | with_reducible refine Pm.at7 ?_ | with_reducible refine Pm.at8 ?_ | with_reducible refine Pm.skip ?_))) : Own w wr [old w])
      go_wp2_with fail
      refine (alive19_k _).mono ?_
      rintro e w29_ ⟨rfl, hbel⟩
      replace HH := Lib.hid ((by first | exact Kp.same hbel | exact Kp.drew hbel | exact Kp.below hbel : Kp _ w29_) _ _ (by first | exact HH.out | exact HH.out.drewN _ | exact (HH.out.alloc _).tail | exact ((HH.out.alloc _).drewN _).tail | exact ((HH.out.alloc _).alloc _).tail.tail))
      clear hbel
      go_wp2_with fail
      go_ret
      exact ⟨rfl, HH.out⟩
end
end Go.Proofs.Ytoimbdbajpjmjaa
