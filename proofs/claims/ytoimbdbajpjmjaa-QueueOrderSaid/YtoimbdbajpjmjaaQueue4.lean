/- queue: QueueOrder. -/
import Derived.Test.YtoimbdbajpjmjaaQueue3
import Derived.Test.YtoimbdbajpjmjaaSlcO
namespace Go.Proofs.Ytoimbdbajpjmjaa
open Go.RowKit
def nsOf (l : List Pk) : List Value := l.map fun p => .int .u64 p.n
theorem nsOf_len (l : List Pk) : (nsOf l).length = l.length := List.length_map ..
theorem nsOf_snoc (l : List Pk) (p : Pk) : nsOf (l ++ [p]) = nsOf l ++ [.int .u64 p.n] := by simp [nsOf]
section
variable (w : World)
set_option maxRecDepth 100000 in
set_option maxHeartbeats 12800000 in
theorem queueOrder_c (room : Int) (hr0 : (Lit.int .u64 room).wf = true) (A : Option Addr) (len cap : Nat) (xs : List ActQ) (hr : rdSlice rdActQ 2 w [.slice A len cap] xs) :
    Calls Try.prog 9 #[.int .u64 room, .slice A len cap] w fun e w' => e = .returned (.bool true) ∧ Own w w' [old w] := by
  have HH := Lib.hid (Own.init w)
  have hroom := Lib.hid (U_of_wf hr0)
  clear hr0
  obtain ⟨hlen, hm, hx⟩ := rdSlice_cases hr
  clear hr
  by_cases hbig : 200 < len
  · go_enter Try.func9, Try.ntmps9
    go_wp2_with fail
    refine (alive19_k _).mono ?_
    rintro e w1_ ⟨rfl, hbel⟩
    replace HH := Lib.hid ((by first | exact Kp.same hbel | exact Kp.drew hbel | exact Kp.below hbel : Kp _ w1_) _ _ (by first | exact HH.out | exact HH.out.drewN _ | exact (HH.out.alloc _).tail | exact ((HH.out.alloc _).drewN _).tail | exact ((HH.out.alloc _).alloc _).tail.tail))
    clear hbel
    go_wp2_with fail
    go_ret
    exact ⟨rfl, HH.out⟩
  have hacts : ∀ k, k < len → ∃ ab off tk sz, A = some ⟨ab, off, none⟩ ∧ U sz ∧ w.cell? ⟨ab, off + k * 2, none⟩ = some (.bool tk) ∧ w.cell? ⟨ab, off + k * 2 + 1, none⟩ = some (.int .u64 sz) := by
    intro k hk
    rcases hx with hz | ⟨ab, off, rfl, hx⟩
    · omega
    · obtain ⟨c, _, hcell, hR⟩ := hx k (by omega)
      obtain ⟨rfl, h0⟩ := rdActQ_open hR
      exact ⟨ab, off, _, _, rfl, h0, hcell 0 _ rfl, hcell 1 _ rfl⟩
  clear hx
  replace hacts := Lib.hid hacts
  replace hlen := Lib.hid hlen
  go_enter Try.func9, Try.ntmps9
  go_wp2_with fail
  refine (queNew_c w _ _ room HH.out).mono ?_
  rintro e w2_ ⟨b1, rfl, H9_⟩
  replace HH := Lib.hid H9_
  clear H9_
  replace HH := Lib.hid ((Own.pm ((HH.out.slco_none (T := 22))) (by repeat (first | with_reducible exact Pm.refl _ | with_reducible exact Pm.nil _ | with_reducible refine Pm.here ?_ | with_reducible refine Pm.at2 ?_ | with_reducible refine Pm.at3 ?_ | with_reducible refine Pm.at4 ?_ | with_reducible refine Pm.at5 ?_ | with_reducible refine Pm.at6 ?_ | with_reducible refine Pm.at7 ?_ | with_reducible refine Pm.at8 ?_ | with_reducible refine Pm.skip ?_))) : Own w _ (que b1 (Que.new room) :: slcO 22 (.slice none 0 0) [] :: [old w]))
  go_wp2_with fail
  go_loopw [6, 7] (fun v i wr => ∃ (k : Nat) (q : Que), k ≤ len ∧ i = .int .i64 k ∧ q.Ok ∧ q.room = room ∧ q.l.length ≤ k ∧ Own w wr (que b1 q :: slcO 22 v (nsOf q.l) :: [old w])) (fun _ i _ => len - (intOf i).toNat)
  case atStart => exact ⟨0, Que.new room, Nat.zero_le _, rfl, Que.ok_new hroom.out, rfl, Nat.le_refl _, HH.out⟩
  case round =>
    obtain ⟨k, q, hk, rfl, hq, hqr, hql, HR⟩ := hrel
    replace HH := Lib.hid HR
    clear HR
    replace hq := Lib.hid hq
    replace hqr := Lib.hid hqr
    by_cases hlt : k < len
    · obtain ⟨ab, off, tk, sz, rfl, hsz, c0, c1⟩ := hacts.out k hlt
      replace hsz := Lib.hid hsz
      have hkU : U (k : Int) := by unfold U; omega
      have hp : (Pk.bare k sz).Ok := Pk.bare_ok hkU hsz.out
      replace hkU := Lib.hid hkU
      replace hp := Lib.hid hp
      have hwk : IntKind.u64.wrap (k : Int) = (k : Int) := by rw [IntKind.wrap_u64]; omega
      obtain ⟨⟨⟨x0, x1, x2, x3, x4, x5, x6⟩, xb⟩, hhd⟩ : ∃ r, headP q.l = r := ⟨_, rfl⟩
      have hbq : Pk.beq ⟨x0, x1, x2, x3, x4, x5, x6⟩ ⟨x0, x1, x2, x3, x4, x5, x6⟩ = true := Pk.beq_true rfl
      obtain ⟨⟨⟨sh1, sh2⟩, q3⟩, hsh⟩ : ∃ r, q.shift = r := ⟨_, rfl⟩
      obtain ⟨rfl, rfl⟩ : sh1 = ⟨x0, x1, x2, x3, x4, x5, x6⟩ ∧ xb = sh2 := by
        have e : (sh1, sh2) = headP q.l := by rw [show headP q.l = q.shift.1 from rfl, hsh]
        rw [hhd] at e
        cases e; exact ⟨rfl, rfl⟩
      have hq3 : q3.Ok := by have := Que.ok_shift hq.out; rw [hsh] at this; exact this
      have hl3 : q3.l = q.l.drop 1 := by rw [show q3 = q.shift.2 by rw [hsh]]; rfl
      have hr3 : q3.room = room := by rw [← hqr.out, show q3 = q.shift.2 by rw [hsh]]; rfl
      replace c0 := Lib.hid c0
      replace c1 := Lib.hid c1
      replace hsh := Lib.hid hsh
      replace hq3 := Lib.hid hq3
      replace hr3 := Lib.hid hr3
      obtain ⟨A1, n1, d1, rfl, hn1, _⟩ := HH.out.r2.slco_val
      rw [nsOf_len] at hn1
      go_wp2_with fail
      refine (queHead_c w _ _ b1 q HH.out).mono ?_
      rw [hhd]
      rintro e w3_ ⟨rfl, H9_⟩
      replace HH := Lib.hid H9_
      clear H9_
      cases hcl : q.l
      case' nil =>
        obtain rfl : xb = false := by have := congrArg Prod.snd hhd; rw [hcl] at this; exact this.symm
        obtain rfl : n1 = 0 := by rw [← hn1, hcl]; rfl
        clear hn1
        replace hhd := Lib.hid hhd
        replace hcl := Lib.hid hcl
        replace hl3 := Lib.hid hl3
        go_wp2_with (with_reducible refine stop_al ?_)
        refine Stop.go ?_
        refine wpList_alloc_own HH.out [.int .u64 0, .int .u64 0, .int .u64 0, .int .u64 0, .int .u64 0, .int .u64 0, .bool false] (by kernel_rfl) ?_
        intro hx w4_ H9_
        replace HH := Lib.hid H9_
        clear H9_
        go_wp2_with (with_reducible refine stop_st ?_)
        refine Stop.go ?_
        refine wpList_store_own _ #[_, _, _, _, _, _, _] rfl rfl HH.out (by kernel_rfl) rfl (by repeat (first | (refine List.forall_mem_cons.2 ⟨(by first | with_reducible assumption | rfl), ?_⟩) | exact fun _ h => absurd h List.not_mem_nil)) ?_
        intro w5_ H9_
        replace HH := Lib.hid H9_
        clear H9_
        go_wp2_with fail
        refine wp_region_reg none HH.out (by kernel_rfl) ?_
        intro wm H9_
        replace HH := Lib.hid H9_
        clear H9_
        refine reg_p (i := 0) rfl (by kernel_rfl) (fun _ _ _ _ h => h) HH.out (fun K hK => ?_)
        go_simp
        first | (refine hK _ ?_; clear hK K) | (apply Exists.intro; refine ⟨?_, hK _ ?_⟩; (focus (intro wx; first | (go_simp; first | rfl) | rfl)); clear hK K)
        refine reg_p (i := 1) rfl (by kernel_rfl) (fun _ _ _ _ h => h) HH.out (fun K hK => ?_)
        go_simp
        first | (refine hK _ ?_; clear hK K) | (apply Exists.intro; refine ⟨?_, hK _ ?_⟩; (focus (intro wx; first | (go_simp; first | rfl) | rfl)); clear hK K)
        refine reg_p (i := 2) rfl (by kernel_rfl) (fun _ _ _ _ h => h) HH.out (fun K hK => ?_)
        go_simp
        first | (refine hK _ ?_; clear hK K) | (apply Exists.intro; refine ⟨?_, hK _ ?_⟩; (focus (intro wx; first | (go_simp; first | rfl) | rfl)); clear hK K)
        refine reg_p (i := 3) rfl (by kernel_rfl) (fun _ _ _ _ h => h) HH.out (fun K hK => ?_)
        go_simp
        first | (refine hK _ ?_; clear hK K) | (apply Exists.intro; refine ⟨?_, hK _ ?_⟩; (focus (intro wx; first | (go_simp; first | rfl) | rfl)); clear hK K)
        refine reg_p (i := 4) rfl (by kernel_rfl) (fun _ _ _ _ h => h) HH.out (fun K hK => ?_)
        go_simp
        first | (refine hK _ ?_; clear hK K) | (apply Exists.intro; refine ⟨?_, hK _ ?_⟩; (focus (intro wx; first | (go_simp; first | rfl) | rfl)); clear hK K)
        refine reg_p (i := 5) rfl (by kernel_rfl) (fun _ _ _ _ h => h) HH.out (fun K hK => ?_)
        go_simp
        first | (refine hK _ ?_; clear hK K) | (apply Exists.intro; refine ⟨?_, hK _ ?_⟩; (focus (intro wx; first | (go_simp; first | rfl) | rfl)); clear hK K)
        refine reg_p (i := 6) rfl (by kernel_rfl) (fun _ _ _ _ h => h) HH.out (fun K hK => ?_)
        go_simp
        first | (refine hK _ ?_; clear hK K) | (apply Exists.intro; refine ⟨?_, hK _ ?_⟩; (focus (intro wx; first | (go_simp; first | rfl) | rfl)); clear hK K)
        refine reg_p (i := 7) rfl (by kernel_rfl) (fun _ _ _ _ h => h) HH.out (fun K hK => ?_)
        go_simp
        first | (refine hK _ ?_; clear hK K) | (apply Exists.intro; refine ⟨?_, hK _ ?_⟩; (focus (intro wx; first | (go_simp; first | rfl) | rfl)); clear hK K)
        refine reg_p (i := 8) rfl (by kernel_rfl) (fun _ _ _ _ h => h) HH.out (fun K hK => ?_)
        go_simp
        first | (refine hK _ ?_; clear hK K) | (apply Exists.intro; refine ⟨?_, hK _ ?_⟩; (focus (intro wx; first | (go_simp; first | rfl) | rfl)); clear hK K)
        refine mixk_q (i := 9) rfl (by kernel_rfl) (fun _ _ _ _ h => h) HH.out (fun K hK => ?_)
        go_simp
        first | (refine hK _ ?_; clear hK K) | (apply Exists.intro; refine ⟨?_, hK _ ?_⟩; (focus (intro wx hx; have x1_ := hx.cells; first | (go_simp; first | rfl | exact ⟨rfl, rfl⟩) | rfl | exact ⟨rfl, rfl⟩)); clear hK K)
        refine reg_p (i := 10) rfl (by kernel_rfl) (fun _ _ _ _ h => h) HH.out (fun K hK => ?_)
        go_simp
        first | (refine hK _ ?_; clear hK K) | (apply Exists.intro; refine ⟨?_, hK _ ?_⟩; (focus (intro wx; first | (go_simp; first | rfl) | rfl)); clear hK K)
        refine reg_p (i := 11) rfl (by kernel_rfl) (fun _ _ _ _ h => h) HH.out (fun K hK => ?_)
        go_simp
        first | (refine hK _ ?_; clear hK K) | (apply Exists.intro; refine ⟨?_, hK _ ?_⟩; (focus (intro wx; first | (go_simp; first | rfl) | rfl)); clear hK K)
        refine mixk_q (i := 12) rfl (by kernel_rfl) (fun _ _ _ _ h => h) HH.out (fun K hK => ?_)
        go_simp
        first | (refine hK _ ?_; clear hK K) | (apply Exists.intro; refine ⟨?_, hK _ ?_⟩; (focus (intro wx hx; have x1_ := hx.cells; first | (go_simp; first | rfl | exact ⟨rfl, rfl⟩) | rfl | exact ⟨rfl, rfl⟩)); clear hK K)
        refine reg_p (i := 13) rfl (by kernel_rfl) (fun _ _ _ _ h => h) HH.out (fun K hK => ?_)
        go_simp
        first | (refine hK _ ?_; clear hK K) | (apply Exists.intro; refine ⟨?_, hK _ ?_⟩; (focus (intro wx; first | (go_simp; first | rfl) | rfl)); clear hK K)
        refine reg_p (i := 14) rfl (by kernel_rfl) (fun _ _ _ _ h => h) HH.out (fun K hK => ?_)
        go_simp
        first | (refine hK _ ?_; clear hK K) | (apply Exists.intro; refine ⟨?_, hK _ ?_⟩; (focus (intro wx; first | (go_simp; first | rfl) | rfl)); clear hK K)
        refine reg_p (i := 15) rfl (by kernel_rfl) (fun _ _ _ _ h => h) HH.out (fun K hK => ?_)
        go_simp
        first | (refine hK _ ?_; clear hK K) | (apply Exists.intro; refine ⟨?_, hK _ ?_⟩; (focus (intro wx; first | (go_simp; first | rfl) | rfl)); clear hK K)
        refine mixk_done (by kernel_rfl) (fun w6_ hk => ?_) _
        replace HH := Lib.hid (hk _ _ HH.out)
        clear hk
        have o0 := ((Own.pm (HH.out) (by repeat (first | with_reducible exact Pm.refl _ | with_reducible exact Pm.nil _ | with_reducible refine Pm.here ?_ | with_reducible refine Pm.at2 ?_ | with_reducible refine Pm.at3 ?_ | with_reducible refine Pm.at4 ?_ | with_reducible refine Pm.at5 ?_ | with_reducible refine Pm.at6 ?_ | with_reducible refine Pm.at7 ?_ | with_reducible refine Pm.at8 ?_ | with_reducible refine Pm.skip ?_))) : Own w _ [old w]).old_cell c0.out
        cases tk
        case' true =>
          go_wp2_with fail
          go_wp2_with fail
          refine (queShift_c w _ _ b1 q hq.out HH.out.r2).mono ?_
          rw [hsh.out]
          rintro e w7_ ⟨rfl, H9_⟩
          replace HH := Lib.hid H9_
          clear H9_
          clear o0
          go_wp2_with (with_reducible refine stop_al ?_)
          refine Stop.go ?_
          refine wpList_alloc_own HH.out [.int .u64 0, .int .u64 0, .int .u64 0, .int .u64 0, .int .u64 0, .int .u64 0, .bool false] (by kernel_rfl) ?_
          intro xx w8_ H9_
          replace HH := Lib.hid H9_
          clear H9_
          go_wp2_with (with_reducible refine stop_st ?_)
          refine Stop.go ?_
          refine wpList_store_own _ #[_, _, _, _, _, _, _] rfl rfl HH.out (by kernel_rfl) rfl (by repeat (first | (refine List.forall_mem_cons.2 ⟨(by first | with_reducible assumption | rfl), ?_⟩) | exact fun _ h => absurd h List.not_mem_nil)) ?_
          intro w9_ H9_
          replace HH := Lib.hid H9_
          clear H9_
          have e1 := HH.out.cells
          have e2 := HH.out.r3.cells
          go_wp2_with fail
          go_roundw
          case rel =>
            have e3 : nsOf q3.l = nsOf q.l := by rw [hl3.out, hcl.out]; rfl
            have e4 := hl3.out
            rw [hcl.out] at e4
            refine ⟨k + 1, q3, by omega, by go_num, hq3.out, hr3.out, by rw [e4]; simp, ?_⟩
            rw [e3]
            exact (Own.pm (HH.out) (by repeat (first | with_reducible exact Pm.refl _ | with_reducible exact Pm.nil _ | with_reducible refine Pm.here ?_ | with_reducible refine Pm.at2 ?_ | with_reducible refine Pm.at3 ?_ | with_reducible refine Pm.at4 ?_ | with_reducible refine Pm.at5 ?_ | with_reducible refine Pm.at6 ?_ | with_reducible refine Pm.at7 ?_ | with_reducible refine Pm.at8 ?_ | with_reducible refine Pm.skip ?_)))
          case measure => simp [intOf]; omega
      case' cons p l0 =>
        obtain ⟨rfl, rfl⟩ : p = ⟨x0, x1, x2, x3, x4, x5, x6⟩ ∧ xb = true := by rw [hcl] at hhd; cases hhd; exact ⟨rfl, rfl⟩
        obtain rfl : n1 = l0.length + 1 := by rw [← hn1, hcl]; rfl
        clear hn1
        replace hhd := Lib.hid hhd
        have hns : nsOf q.l = .int .u64 x0 :: nsOf l0 := by rw [hcl]; rfl
        have hql2 : l0.length + 1 ≤ k := by rw [hcl] at hql; exact hql
        replace hcl := Lib.hid hcl
        replace hl3 := Lib.hid hl3
        rw [hns] at HH
        replace hns := Lib.hid hns
        obtain ⟨_, _, _, e, _, hz⟩ := HH.out.r2.slco_val
        cases e
        obtain ⟨g, off, rfl, _⟩ := hz 0 _ rfl
        clear hz
        go_wp2_with (with_reducible refine stop_al ?_)
        refine Stop.go ?_
        refine wpList_alloc_own HH.out [.int .u64 0, .int .u64 0, .int .u64 0, .int .u64 0, .int .u64 0, .int .u64 0, .bool false] (by kernel_rfl) ?_
        intro hx w10_ H9_
        replace HH := Lib.hid H9_
        clear H9_
        go_wp2_with (with_reducible refine stop_st ?_)
        refine Stop.go ?_
        refine wpList_store_own _ #[_, _, _, _, _, _, _] rfl rfl HH.out (by kernel_rfl) rfl (by repeat (first | (refine List.forall_mem_cons.2 ⟨(by first | with_reducible assumption | rfl), ?_⟩) | exact fun _ h => absurd h List.not_mem_nil)) ?_
        intro w11_ H9_
        replace HH := Lib.hid H9_
        clear H9_
        go_wp2_with fail
        refine wp_region_reg none HH.out (by kernel_rfl) ?_
        intro wm H9_
        replace HH := Lib.hid H9_
        clear H9_
        refine reg_p (i := 0) rfl (by kernel_rfl) (fun _ _ _ _ h => h) HH.out (fun K hK => ?_)
        go_simp
        first | (refine hK _ ?_; clear hK K) | (apply Exists.intro; refine ⟨?_, hK _ ?_⟩; (focus (intro wx; first | (go_simp; first | rfl) | rfl)); clear hK K)
        refine reg_p (i := 1) rfl (by kernel_rfl) (fun _ _ _ _ h => h) HH.out (fun K hK => ?_)
        go_simp
        first | (refine hK _ ?_; clear hK K) | (apply Exists.intro; refine ⟨?_, hK _ ?_⟩; (focus (intro wx; first | (go_simp; first | rfl) | rfl)); clear hK K)
        refine reg_p (i := 2) rfl (by kernel_rfl) (fun _ _ _ _ h => h) HH.out (fun K hK => ?_)
        go_simp
        first | (refine hK _ ?_; clear hK K) | (apply Exists.intro; refine ⟨?_, hK _ ?_⟩; (focus (intro wx; first | (go_simp; first | rfl) | rfl)); clear hK K)
        refine reg_p (i := 3) rfl (by kernel_rfl) (fun _ _ _ _ h => h) HH.out (fun K hK => ?_)
        go_simp
        first | (refine hK _ ?_; clear hK K) | (apply Exists.intro; refine ⟨?_, hK _ ?_⟩; (focus (intro wx; first | (go_simp; first | rfl) | rfl)); clear hK K)
        refine reg_p (i := 4) rfl (by kernel_rfl) (fun _ _ _ _ h => h) HH.out (fun K hK => ?_)
        go_simp
        first | (refine hK _ ?_; clear hK K) | (apply Exists.intro; refine ⟨?_, hK _ ?_⟩; (focus (intro wx; first | (go_simp; first | rfl) | rfl)); clear hK K)
        refine reg_p (i := 5) rfl (by kernel_rfl) (fun _ _ _ _ h => h) HH.out (fun K hK => ?_)
        go_simp
        first | (refine hK _ ?_; clear hK K) | (apply Exists.intro; refine ⟨?_, hK _ ?_⟩; (focus (intro wx; first | (go_simp; first | rfl) | rfl)); clear hK K)
        refine reg_p (i := 6) rfl (by kernel_rfl) (fun _ _ _ _ h => h) HH.out (fun K hK => ?_)
        go_simp
        first | (refine hK _ ?_; clear hK K) | (apply Exists.intro; refine ⟨?_, hK _ ?_⟩; (focus (intro wx; first | (go_simp; first | rfl) | rfl)); clear hK K)
        refine reg_p (i := 7) rfl (by kernel_rfl) (fun _ _ _ _ h => h) HH.out (fun K hK => ?_)
        go_simp
        first | (refine hK _ ?_; clear hK K) | (apply Exists.intro; refine ⟨?_, hK _ ?_⟩; (focus (intro wx; first | (go_simp; first | rfl) | rfl)); clear hK K)
        refine reg_p (i := 8) rfl (by kernel_rfl) (fun _ _ _ _ h => h) HH.out (fun K hK => ?_)
        go_simp
        first | (refine hK _ ?_; clear hK K) | (apply Exists.intro; refine ⟨?_, hK _ ?_⟩; (focus (intro wx; first | (go_simp; first | rfl) | rfl)); clear hK K)
        refine mixk_q (i := 9) rfl (by kernel_rfl) (fun _ _ _ _ h => h) HH.out (fun K hK => ?_)
        go_simp
        first | (refine hK _ ?_; clear hK K) | (apply Exists.intro; refine ⟨?_, hK _ ?_⟩; (focus (intro wx hx; have x1_ := hx.cells; obtain ⟨_, _, _, e_, _, hz_⟩ := hx.r3.slco_val; cases e_; obtain ⟨_, _, e_, z0_⟩ := hz_ 0 _ rfl; cases e_; rw [Nat.add_zero] at z0_; clear hz_; first | (go_simp; first | rfl | exact ⟨rfl, rfl⟩) | rfl | exact ⟨rfl, rfl⟩)); clear hK K)
        refine reg_p (i := 10) rfl (by kernel_rfl) (fun _ _ _ _ h => h) HH.out (fun K hK => ?_)
        go_simp
        first | (refine hK _ ?_; clear hK K) | (apply Exists.intro; refine ⟨?_, hK _ ?_⟩; (focus (intro wx; first | (go_simp; first | rfl) | rfl)); clear hK K)
        refine reg_p (i := 11) rfl (by kernel_rfl) (fun _ _ _ _ h => h) HH.out (fun K hK => ?_)
        go_simp
        first | (refine hK _ ?_; clear hK K) | (apply Exists.intro; refine ⟨?_, hK _ ?_⟩; (focus (intro wx; first | (go_simp; first | rfl) | rfl)); clear hK K)
        refine mixk_q (i := 12) rfl (by kernel_rfl) (fun _ _ _ _ h => h) HH.out (fun K hK => ?_)
        go_simp
        first | (refine hK _ ?_; clear hK K) | (apply Exists.intro; refine ⟨?_, hK _ ?_⟩; (focus (intro wx hx; have x1_ := hx.cells; obtain ⟨_, _, _, e_, _, hz_⟩ := hx.r3.slco_val; cases e_; obtain ⟨_, _, e_, z0_⟩ := hz_ 0 _ rfl; cases e_; rw [Nat.add_zero] at z0_; clear hz_; first | (go_simp; first | rfl | exact ⟨rfl, rfl⟩) | rfl | exact ⟨rfl, rfl⟩)); clear hK K)
        refine reg_p (i := 13) rfl (by kernel_rfl) (fun _ _ _ _ h => h) HH.out (fun K hK => ?_)
        go_simp
        first | (refine hK _ ?_; clear hK K) | (apply Exists.intro; refine ⟨?_, hK _ ?_⟩; (focus (intro wx; first | (go_simp; first | rfl) | rfl)); clear hK K)
        refine reg_p (i := 14) rfl (by kernel_rfl) (fun _ _ _ _ h => h) HH.out (fun K hK => ?_)
        go_simp
        first | (refine hK _ ?_; clear hK K) | (apply Exists.intro; refine ⟨?_, hK _ ?_⟩; (focus (intro wx; first | (go_simp; first | rfl) | rfl)); clear hK K)
        refine reg_p (i := 15) rfl (by kernel_rfl) (fun _ _ _ _ h => h) HH.out (fun K hK => ?_)
        go_simp
        first | (refine hK _ ?_; clear hK K) | (apply Exists.intro; refine ⟨?_, hK _ ?_⟩; (focus (intro wx; first | (go_simp; first | rfl) | rfl)); clear hK K)
        refine mixk_done (by kernel_rfl) (fun w12_ hk => ?_) _
        replace HH := Lib.hid (hk _ _ HH.out)
        clear hk
        have o0 := ((Own.pm (HH.out) (by repeat (first | with_reducible exact Pm.refl _ | with_reducible exact Pm.nil _ | with_reducible refine Pm.here ?_ | with_reducible refine Pm.at2 ?_ | with_reducible refine Pm.at3 ?_ | with_reducible refine Pm.at4 ?_ | with_reducible refine Pm.at5 ?_ | with_reducible refine Pm.at6 ?_ | with_reducible refine Pm.at7 ?_ | with_reducible refine Pm.at8 ?_ | with_reducible refine Pm.skip ?_))) : Own w _ [old w]).old_cell c0.out
        cases tk
        case' true =>
          go_wp2_with fail
          go_wp2_with fail
          refine (queShift_c w _ _ b1 q hq.out HH.out.r2).mono ?_
          rw [hsh.out]
          rintro e w13_ ⟨rfl, H9_⟩
          replace HH := Lib.hid H9_
          clear H9_
          clear o0
          go_wp2_with (with_reducible refine stop_al ?_)
          refine Stop.go ?_
          refine wpList_alloc_own HH.out [.int .u64 0, .int .u64 0, .int .u64 0, .int .u64 0, .int .u64 0, .int .u64 0, .bool false] (by kernel_rfl) ?_
          intro xx w14_ H9_
          replace HH := Lib.hid H9_
          clear H9_
          go_wp2_with (with_reducible refine stop_st ?_)
          refine Stop.go ?_
          refine wpList_store_own _ #[_, _, _, _, _, _, _] rfl rfl HH.out (by kernel_rfl) rfl (by repeat (first | (refine List.forall_mem_cons.2 ⟨(by first | with_reducible assumption | rfl), ?_⟩) | exact fun _ h => absurd h List.not_mem_nil)) ?_
          intro w15_ H9_
          replace HH := Lib.hid H9_
          clear H9_
          have e1 := HH.out.cells
          have e2 := HH.out.r3.cells
          by_cases hd1 : d1 = 1
          · go_wp2_with fail
            go_roundw
            case rel =>
              have e3 : nsOf q3.l = nsOf l0 := by rw [hl3.out, hcl.out]; rfl
              obtain ⟨hnil, hn0, HT⟩ := HH.out.r4.slco_tail.2 hd1
              refine ⟨k + 1, q3, by omega, by go_num, hq3.out, hr3.out, by rw [hl3.out, hcl.out]; simp; omega, ?_⟩
              rw [e3, hn0, hnil]
              exact (Own.pm (HT) (by repeat (first | with_reducible exact Pm.refl _ | with_reducible exact Pm.nil _ | with_reducible refine Pm.here ?_ | with_reducible refine Pm.at2 ?_ | with_reducible refine Pm.at3 ?_ | with_reducible refine Pm.at4 ?_ | with_reducible refine Pm.at5 ?_ | with_reducible refine Pm.at6 ?_ | with_reducible refine Pm.at7 ?_ | with_reducible refine Pm.at8 ?_ | with_reducible refine Pm.skip ?_)))
            case measure => simp [intOf]; omega
          · go_wp2_with fail
            go_roundw
            case rel =>
              have e3 : nsOf q3.l = nsOf l0 := by rw [hl3.out, hcl.out]; rfl
              refine ⟨k + 1, q3, by omega, by go_num, hq3.out, hr3.out, by rw [hl3.out, hcl.out]; simp; omega, ?_⟩
              rw [e3]
              exact (Own.pm (HH.out.r4.slco_tail.1) (by repeat (first | with_reducible exact Pm.refl _ | with_reducible exact Pm.nil _ | with_reducible refine Pm.here ?_ | with_reducible refine Pm.at2 ?_ | with_reducible refine Pm.at3 ?_ | with_reducible refine Pm.at4 ?_ | with_reducible refine Pm.at5 ?_ | with_reducible refine Pm.at6 ?_ | with_reducible refine Pm.at7 ?_ | with_reducible refine Pm.at8 ?_ | with_reducible refine Pm.skip ?_)))
            case measure => simp [intOf]; omega
        case' false => replace HH := Lib.hid (show Own w _ [pts hx _, que b1 q, slcO _ _ (nsOf q.l), old w] by rw [hns.out]; exact HH.out)
      all_goals
        have hfit : q.bytes ≤ room := by rw [← hqr.out]; exact hq.out.fits
        have hub := hq.out.ub
        have hw1 : IntKind.u64.wrap (room - q.bytes) = room - q.bytes := by have := hroom.out; unfold U at this hub; rw [IntKind.wrap_u64]; omega
        have f1 : decide (q.bytes ≤ room) = true := decide_eq_true hfit
        replace hfit := Lib.hid hfit
        replace hub := Lib.hid hub
        go_wp2_with fail
        clear o0
        go_wp2_with fail
        refine wp_region_reg none HH.out (by kernel_rfl) ?_
        intro wm H9_
        replace HH := Lib.hid H9_
        clear H9_
        refine reg_p (i := 0) rfl (by kernel_rfl) (fun _ _ _ _ h => h) HH.out (fun K hK => ?_)
        go_simp
        first | (refine hK _ ?_; clear hK K) | (apply Exists.intro; refine ⟨?_, hK _ ?_⟩; (focus (intro wx; first | (go_simp; first | rfl) | rfl)); clear hK K)
        refine mixk_q (i := 1) rfl (by kernel_rfl) (fun _ _ _ _ h => h) HH.out (fun K hK => ?_)
        go_simp
        first | (refine hK _ ?_; clear hK K) | (apply Exists.intro; refine ⟨?_, hK _ ?_⟩; (focus (intro wx hx; have o1_ := hx.r4.old_cell c1.out; first | (first | (go_at_call 39; refine (queBytes_c w wx _ b1 q hx.r2).mono ?_; rintro e wy ⟨rfl, hbel⟩; exact ⟨rfl, (by first | exact Kp.same hbel | exact Kp.drew hbel | exact Kp.below hbel : Kp wx wy)⟩)) | (go_simp; first | rfl | exact ⟨rfl, rfl⟩) | rfl | exact ⟨rfl, rfl⟩)); clear hK K)
        refine reg_p (i := 2) rfl (by kernel_rfl) (fun _ _ _ _ h => h) HH.out (fun K hK => ?_)
        go_simp
        first | (refine hK _ ?_; clear hK K) | (apply Exists.intro; refine ⟨?_, hK _ ?_⟩; (focus (intro wx; first | (go_simp; first | rfl) | rfl)); clear hK K)
        refine reg_p (i := 3) rfl (by kernel_rfl) (fun _ _ _ _ h => h) HH.out (fun K hK => ?_)
        go_simp
        first | (refine hK _ ?_; clear hK K) | (apply Exists.intro; refine ⟨?_, hK _ ?_⟩; (focus (intro wx; first | (go_simp; first | rfl) | rfl)); clear hK K)
        refine reg_p (i := 4) rfl (by kernel_rfl) (fun _ _ _ _ h => h) HH.out (fun K hK => ?_)
        go_simp
        first | (refine hK _ ?_; clear hK K) | (apply Exists.intro; refine ⟨?_, hK _ ?_⟩; (focus (intro wx; first | (go_simp; first | rfl) | rfl)); clear hK K)
        refine reg_p (i := 5) rfl (by kernel_rfl) (fun _ _ _ _ h => h) HH.out (fun K hK => ?_)
        go_simp
        first | (refine hK _ ?_; clear hK K) | (apply Exists.intro; refine ⟨?_, hK _ ?_⟩; (focus (intro wx; first | (go_simp; first | rfl) | rfl)); clear hK K)
        refine reg_p (i := 6) rfl (by kernel_rfl) (fun _ _ _ _ h => h) HH.out (fun K hK => ?_)
        go_simp
        first | (refine hK _ ?_; clear hK K) | (apply Exists.intro; refine ⟨?_, hK _ ?_⟩; (focus (intro wx; first | (go_simp; first | rfl) | rfl)); clear hK K)
        refine reg_p (i := 7) rfl (by kernel_rfl) (fun _ _ _ _ h => h) HH.out (fun K hK => ?_)
        go_simp
        first | (refine hK _ ?_; clear hK K) | (apply Exists.intro; refine ⟨?_, hK _ ?_⟩; (focus (intro wx; first | (go_simp; first | rfl) | rfl)); clear hK K)
        refine reg_p (i := 8) rfl (by kernel_rfl) (fun _ _ _ _ h => h) HH.out (fun K hK => ?_)
        go_simp
        first | (refine hK _ ?_; clear hK K) | (apply Exists.intro; refine ⟨?_, hK _ ?_⟩; (focus (intro wx; first | (go_simp; first | rfl) | rfl)); clear hK K)
        refine mixk_q (i := 9) rfl (by kernel_rfl) (fun _ _ _ _ h => h) HH.out (fun K hK => ?_)
        go_simp
        first | (refine hK _ ?_; clear hK K) | (apply Exists.intro; refine ⟨?_, hK _ ?_⟩; (focus (intro wx hx; have o1_ := hx.r4.old_cell c1.out; first | (first | (go_at_call 39; refine (queBytes_c w wx _ b1 q hx.r2).mono ?_; rintro e wy ⟨rfl, hbel⟩; exact ⟨rfl, (by first | exact Kp.same hbel | exact Kp.drew hbel | exact Kp.below hbel : Kp wx wy)⟩)) | (go_simp; first | rfl | exact ⟨rfl, rfl⟩) | rfl | exact ⟨rfl, rfl⟩)); clear hK K)
        refine reg_p (i := 10) rfl (by kernel_rfl) (fun _ _ _ _ h => h) HH.out (fun K hK => ?_)
        go_simp
        first | (refine hK _ ?_; clear hK K) | (apply Exists.intro; refine ⟨?_, hK _ ?_⟩; (focus (intro wx; first | (go_simp; first | rfl) | rfl)); clear hK K)
        refine reg_p (i := 11) rfl (by kernel_rfl) (fun _ _ _ _ h => h) HH.out (fun K hK => ?_)
        go_simp
        first | (refine hK _ ?_; clear hK K) | (apply Exists.intro; refine ⟨?_, hK _ ?_⟩; (focus (intro wx; first | (go_simp; first | rfl) | rfl)); clear hK K)
        refine mixk_q (i := 12) rfl (by kernel_rfl) (fun _ _ _ _ h => h) HH.out (fun K hK => ?_)
        go_simp
        first | (refine hK _ ?_; clear hK K) | (apply Exists.intro; refine ⟨?_, hK _ ?_⟩; (focus (intro wx hx; have o1_ := hx.r4.old_cell c1.out; first | (first | (go_at_call 39; refine (queBytes_c w wx _ b1 q hx.r2).mono ?_; rintro e wy ⟨rfl, hbel⟩; exact ⟨rfl, (by first | exact Kp.same hbel | exact Kp.drew hbel | exact Kp.below hbel : Kp wx wy)⟩)) | (go_simp; first | rfl | exact ⟨rfl, rfl⟩) | rfl | exact ⟨rfl, rfl⟩)); clear hK K)
        refine reg_p (i := 13) rfl (by kernel_rfl) (fun _ _ _ _ h => h) HH.out (fun K hK => ?_)
        go_simp
        first | (refine hK _ ?_; clear hK K) | (apply Exists.intro; refine ⟨?_, hK _ ?_⟩; (focus (intro wx; first | (go_simp; first | rfl) | rfl)); clear hK K)
        refine reg_p (i := 14) rfl (by kernel_rfl) (fun _ _ _ _ h => h) HH.out (fun K hK => ?_)
        go_simp
        first | (refine hK _ ?_; clear hK K) | (apply Exists.intro; refine ⟨?_, hK _ ?_⟩; (focus (intro wx; first | (go_simp; first | rfl) | rfl)); clear hK K)
        refine reg_p (i := 15) rfl (by kernel_rfl) (fun _ _ _ _ h => h) HH.out (fun K hK => ?_)
        go_simp
        first | (refine hK _ ?_; clear hK K) | (apply Exists.intro; refine ⟨?_, hK _ ?_⟩; (focus (intro wx; first | (go_simp; first | rfl) | rfl)); clear hK K)
        refine reg_p (i := 16) rfl (by kernel_rfl) (fun _ _ _ _ h => h) HH.out (fun K hK => ?_)
        go_simp
        first | (refine hK _ ?_; clear hK K) | (apply Exists.intro; refine ⟨?_, hK _ ?_⟩; (focus (intro wx; first | (go_simp; first | rfl) | rfl)); clear hK K)
        refine mixk_done (by kernel_rfl) (fun w16_ hk => ?_) _
        replace HH := Lib.hid (hk _ _ HH.out)
        clear hk
        clear hw1 f1
        have o1 := HH.out.r4.old_cell c1.out
        by_cases hf : sz ≤ room - q.bytes
        case' pos =>
          obtain ⟨q4, hq4e⟩ : ∃ q4, ({ q with bytes := q.bytes + (Pk.bare k sz).size, l := q.l ++ [Pk.bare k sz] } : Que) = q4 := ⟨_, rfl⟩
          have hpu : q.put (Pk.bare k sz) = (true, q4) := by rw [← hq4e]; exact if_pos (by rw [hqr.out]; exact hf)
          have hq4 : q4.Ok := by have := Que.ok_put hq.out hp.out; rw [hpu] at this; exact this
          have hr4 : q4.room = room := by rw [← hq4e]; exact hqr.out
          have hl4 : q4.l = q.l ++ [Pk.bare k sz] := by rw [← hq4e]
          clear hq4e
          have f2 : q4.bytes ≤ room := by rw [← hr4]; exact hq4.fits
          replace hpu := Lib.hid hpu
          replace hq4 := Lib.hid hq4
          replace hr4 := Lib.hid hr4
          replace hl4 := Lib.hid hl4
          have hlq : (nsOf q.l).length = q.l.length := nsOf_len _
          replace hlq := Lib.hid hlq
          go_wp2_with fail
          refine (quePut_c w _ _ b1 q (Pk.bare k sz) hq.out hp.out (by omega) HH.out.r2).mono ?_
          rw [hpu.out]
          rintro e w17_ ⟨rfl, H9_⟩
          replace HH := Lib.hid H9_
          clear H9_
          clear o1
          replace HH := Lib.hid HH.out.r3
          go_wp2_with (with_reducible refine stop_bs ?_)
          refine Stop.go ?_
          refine wpList_bs1_own HH.out #[.int .u64 k] 1 8 Try.underlying37 (by kernel_rfl) (by decide) (by decide) rfl rfl ?_
          intro g_ w18_ H9_
          replace HH := Lib.hid H9_
          clear H9_
          go_wp2_with (with_reducible refine stop_app ?_)
          refine Stop.go ?_
          refine wpList_app_slco rfl _ _ 37 rfl 22 8 Try.underlying37 (by kernel_rfl) (q.l.length) rfl rfl HH.out.r2 (hlq.out) (by first | rfl | assumption) (by simp only [maxLen]; omega) (by omega) ?_
          intro v5 w19_ H9_
          replace HH := Lib.hid H9_
          clear H9_
          have hown := ((Own.pm (HH.out) (by repeat (first | with_reducible exact Pm.refl _ | with_reducible exact Pm.nil _ | with_reducible refine Pm.here ?_ | with_reducible refine Pm.at2 ?_ | with_reducible refine Pm.at3 ?_ | with_reducible refine Pm.at4 ?_ | with_reducible refine Pm.at5 ?_ | with_reducible refine Pm.at6 ?_ | with_reducible refine Pm.at7 ?_ | with_reducible refine Pm.at8 ?_ | with_reducible refine Pm.skip ?_))) : Own w _ [que b1 q4, slcO 22 v5 (nsOf q.l ++ [.int .u64 k]), old w])
          rw [← (show nsOf q4.l = nsOf q.l ++ [.int .u64 k] by rw [hl4.out, nsOf_snoc]; rfl)] at hown
          replace HH := Lib.hid hown
          clear hown hf
        case' neg =>
          obtain ⟨q4, hq4e⟩ : ∃ q4, ({ q with dropped := sadd q.dropped 1, gone := sadd q.gone (Pk.bare k sz).size } : Que) = q4 := ⟨_, rfl⟩
          have hpu : q.put (Pk.bare k sz) = (false, q4) := by rw [← hq4e]; exact if_neg (by rw [hqr.out]; exact hf)
          have hq4 : q4.Ok := by have := Que.ok_put hq.out hp.out; rw [hpu] at this; exact this
          have hr4 : q4.room = room := by rw [← hq4e]; exact hqr.out
          have hl4 : q4.l = q.l := by rw [← hq4e]
          clear hq4e
          have f2 : q4.bytes ≤ room := by rw [← hr4]; exact hq4.fits
          replace hpu := Lib.hid hpu
          replace hq4 := Lib.hid hq4
          replace hr4 := Lib.hid hr4
          replace hl4 := Lib.hid hl4
          go_wp2_with fail
          refine (quePut_c w _ _ b1 q (Pk.bare k sz) hq.out hp.out (by omega) HH.out.r2).mono ?_
          rw [hpu.out]
          rintro e w20_ ⟨rfl, H9_⟩
          replace HH := Lib.hid H9_
          clear H9_
          clear o1
          have hown := ((Own.pm (HH.out) (by repeat (first | with_reducible exact Pm.refl _ | with_reducible exact Pm.nil _ | with_reducible refine Pm.here ?_ | with_reducible refine Pm.at2 ?_ | with_reducible refine Pm.at3 ?_ | with_reducible refine Pm.at4 ?_ | with_reducible refine Pm.at5 ?_ | with_reducible refine Pm.at6 ?_ | with_reducible refine Pm.at7 ?_ | with_reducible refine Pm.at8 ?_ | with_reducible refine Pm.skip ?_))) : Own w _ [que b1 q4, slcO 22 _ (nsOf q.l), old w])
          rw [← hl4.out] at hown
          replace HH := Lib.hid hown
          clear hown
        all_goals
          have hl5 : q4.l.length ≤ k + 1 := by rw [hl4.out]; first | omega | (simp; omega)
          replace hl5 := Lib.hid hl5
          go_wp2_with fail
          refine (queBytes_c w _ _ b1 q4 HH.out).mono ?_
          rintro e w21_ ⟨rfl, hbel⟩
          replace HH := Lib.hid ((by first | exact Kp.same hbel | exact Kp.drew hbel | exact Kp.below hbel : Kp _ w21_) _ _ (by first | exact HH.out | exact HH.out.drewN _ | exact (HH.out.alloc _).tail | exact ((HH.out.alloc _).drewN _).tail | exact ((HH.out.alloc _).alloc _).tail.tail))
          clear hbel
          go_wp2_with fail
          go_roundw
          case rel => exact ⟨k + 1, q4, by omega, by go_num, hq4.out, hr4.out, hl5.out, HH.out⟩
          case measure => simp [intOf]; omega
    · have hkl : k = len := by omega
      clear hacts
      replace HH := Lib.hid ((Own.pm (HH.out) (by repeat (first | with_reducible exact Pm.refl _ | with_reducible exact Pm.nil _ | with_reducible refine Pm.here ?_ | with_reducible refine Pm.at2 ?_ | with_reducible refine Pm.at3 ?_ | with_reducible refine Pm.at4 ?_ | with_reducible refine Pm.at5 ?_ | with_reducible refine Pm.at6 ?_ | with_reducible refine Pm.at7 ?_ | with_reducible refine Pm.at8 ?_ | with_reducible refine Pm.skip ?_))) : Own w wr [old w])
      go_wp2_with fail
      refine (queHead_nil _ _ _ HH.out).mono ?_
      rintro e w22_ ⟨rfl, H9_⟩
      replace HH := Lib.hid H9_
      clear H9_
      go_wp2_with (with_reducible refine stop_al ?_)
      refine Stop.go ?_
      refine wpList_alloc_own HH.out [.int .u64 0, .int .u64 0, .int .u64 0, .int .u64 0, .int .u64 0, .int .u64 0, .bool false] (by kernel_rfl) ?_
      intro h1 w23_ H9_
      replace HH := Lib.hid H9_
      clear H9_
      go_wp2_with (with_reducible refine stop_st ?_)
      refine Stop.go ?_
      refine wpList_store_own _ #[_, _, _, _, _, _, _] rfl rfl HH.out (by kernel_rfl) rfl (by repeat (first | (refine List.forall_mem_cons.2 ⟨(by first | with_reducible assumption | rfl), ?_⟩) | exact fun _ h => absurd h List.not_mem_nil)) ?_
      intro w24_ H9_
      replace HH := Lib.hid H9_
      clear H9_
      go_wp2_with fail
      refine (queShift_nil _ _ _ HH.out).mono ?_
      rintro e w25_ ⟨rfl, H9_⟩
      replace HH := Lib.hid H9_
      clear H9_
      go_wp2_with (with_reducible refine stop_al ?_)
      refine Stop.go ?_
      refine wpList_alloc_own HH.out [.int .u64 0, .int .u64 0, .int .u64 0, .int .u64 0, .int .u64 0, .int .u64 0, .bool false] (by kernel_rfl) ?_
      intro h2 w26_ H9_
      replace HH := Lib.hid H9_
      clear H9_
      go_wp2_with (with_reducible refine stop_st ?_)
      refine Stop.go ?_
      refine wpList_store_own _ #[_, _, _, _, _, _, _] rfl rfl HH.out (by kernel_rfl) rfl (by repeat (first | (refine List.forall_mem_cons.2 ⟨(by first | with_reducible assumption | rfl), ?_⟩) | exact fun _ h => absurd h List.not_mem_nil)) ?_
      intro w27_ H9_
      replace HH := Lib.hid H9_
      clear H9_
      go_wp2_with fail
      refine (queDropped_nil _).mono ?_
      rintro e w28_ ⟨rfl, hbel⟩
      replace HH := Lib.hid ((by first | exact Kp.same hbel | exact Kp.drew hbel | exact Kp.below hbel : Kp _ w28_) _ _ (by first | exact HH.out | exact HH.out.drewN _ | exact (HH.out.alloc _).tail | exact ((HH.out.alloc _).drewN _).tail | exact ((HH.out.alloc _).alloc _).tail.tail))
      clear hbel
      go_wp2_with fail
      refine (alive19_k _).mono ?_
      rintro e w29_ ⟨rfl, hbel⟩
      replace HH := Lib.hid ((by first | exact Kp.same hbel | exact Kp.drew hbel | exact Kp.below hbel : Kp _ w29_) _ _ (by first | exact HH.out | exact HH.out.drewN _ | exact (HH.out.alloc _).tail | exact ((HH.out.alloc _).drewN _).tail | exact ((HH.out.alloc _).alloc _).tail.tail))
      clear hbel
      go_wp2_with fail
      refine (queBytes_nil _).mono ?_
      rintro e w30_ ⟨rfl, hbel⟩
      replace HH := Lib.hid ((by first | exact Kp.same hbel | exact Kp.drew hbel | exact Kp.below hbel : Kp _ w30_) _ _ (by first | exact HH.out | exact HH.out.drewN _ | exact (HH.out.alloc _).tail | exact ((HH.out.alloc _).drewN _).tail | exact ((HH.out.alloc _).alloc _).tail.tail))
      clear hbel
      go_wp2_with fail
      refine (quePut_nil _ _ Pk.zero _ HH.out).mono ?_
      rintro e w31_ ⟨rfl, H9_⟩
      replace HH := Lib.hid H9_
      clear H9_
      go_wp2_with fail
      refine (queAll_nil _).mono ?_
      rintro e w32_ ⟨rfl, hbel⟩
      replace HH := Lib.hid ((by first | exact Kp.same hbel | exact Kp.drew hbel | exact Kp.below hbel : Kp _ w32_) _ _ (by first | exact HH.out | exact HH.out.drewN _ | exact (HH.out.alloc _).tail | exact ((HH.out.alloc _).drewN _).tail | exact ((HH.out.alloc _).alloc _).tail.tail))
      clear hbel
      go_wp2_with fail
      go_ret
      exact ⟨rfl, (Own.pm (HH.out) (by repeat (first | with_reducible exact Pm.refl _ | with_reducible exact Pm.nil _ | with_reducible refine Pm.here ?_ | with_reducible refine Pm.at2 ?_ | with_reducible refine Pm.at3 ?_ | with_reducible refine Pm.at4 ?_ | with_reducible refine Pm.at5 ?_ | with_reducible refine Pm.at6 ?_ | with_reducible refine Pm.at7 ?_ | with_reducible refine Pm.at8 ?_ | with_reducible refine Pm.skip ?_)))⟩
end
end Go.Proofs.Ytoimbdbajpjmjaa
