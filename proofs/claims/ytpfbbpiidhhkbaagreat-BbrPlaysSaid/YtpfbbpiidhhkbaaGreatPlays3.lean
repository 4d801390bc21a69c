/- goitref15: an engine's next state: written by mkplays.py. -/
import Derived.Test.YtpfbbpiidhhkbaaGreatPlays2
import Derived.Test.YtpfbbpiidhhkbaaGreatStk
namespace Go.Proofs.YtpfbbpiidhhkbaaGreat
open Go.RowKit
theorem RRel.keep {N K K' : Nat} {s s' : Eng} {m : Fil} {mm : Nat} {l1 l0 : List Int} (h : RRel N K s m mm l1 l0) (ok : s'.Ok) (hc : s'.c = s.c) (hf : s'.f = s.f) (hr : s'.r = s.r) (hd : s'.rounds ≤ N) (hK : K ≤ K') : RRel N K' s' m mm l1 l0 :=
  { h with ok := ok, right := (by rw [hc]; exact h.right), f := (by rw [hf]; exact h.f), sl := (by rw [hf]; exact h.sl), b0 := (by rw [hr]; exact h.b0), b1 := (by rw [hr]; exact h.b1), n := (by rw [hr]; exact h.n), mK := Nat.le_trans h.mK (Nat.succ_le_succ hK), rd := hd }
theorem RRel.next {N K : Nat} {s s' : Eng} {m : Fil} {mm : Nat} {l1 l0 : List Int} (h : RRel N K s m mm l1 l0) (hK : K ≤ 1000) (ok : s'.Ok) (hc : s'.c = s.c) (hf : s'.f = s.f) (hr : s'.r = s.r.next) (hd : s'.rounds ≤ N) : RRel N (K + 1) s' m (mm + 1) l0 [] := by
  have hn : s'.r.n = ((mm + 1 : Nat) : Int) - 1 := by
    rw [hr]
    show IntKind.u64.wrap (s.r.n + 1) = _
    have h1 := h.m1
    have h2 := h.mK
    rw [h.n, IntKind.wrap_u64]
    omega
  exact { ok := ok, right := (by rw [hc]; exact h.right), f := (by rw [hf]; exact h.f), fl := h.fl, sl := (by rw [hf]; exact h.sl), b0 := (by rw [hr]; rfl), b1 := (by rw [hr]; exact h.b0), n := hn, m1 := Nat.le_succ_of_le h.m1, mK := Nat.succ_le_succ h.mK, u0 := by simp, u1 := h.u0, n0 := Nat.zero_le _, rd := hd }
section
variable (ε w : World) (R : List Asn) (b yb : Nat)
set_option maxRecDepth 100000 in
set_option maxHeartbeats 12800000 in
theorem rTurn_c {N K : Nat} {s : Eng} {m : Fil} {mm : Nat} {l1 l0 : List Int} (hR : RRel N K s m mm l1 l0) (v : Value) (hK : K ≤ 1000) (x : Evt) (hx : x.Ok) (ov lz : Bool) (H : Own ε w (pts b (.cells #[.int .u64 s.c.mss, .int .u64 s.c.init, .int .u64 s.c.reorder, .int .u64 s.c.window, .int .u64 s.c.probe, .int .u64 s.c.loss, .int .i64 s.st, .int .u64 s.since, .int .u64 s.rounds, .int .u64 m.win, .bool m.least, .int .u64 m.now, v, .pointer (some ⟨yb, 0, none⟩), .int .u64 s.k.mark, .int .u64 s.k.n, .int .u64 s.p.best, .int .i64 s.p.n, .int .u64 s.bd.hi, .int .u64 s.bd.lo, .int .u64 s.bd.bw, .int .u64 s.acked, .int .u64 s.lost, .int .u64 s.cwnd, .int .u64 s.kept, .int .u64 s.ended] 76 (0, 0)) :: slc 151 2 v (encs encR m.l) :: rcyc yb mm l1 l0 :: R)) :
    Calls Tryz.prog 47 #[.pointer (some ⟨b, 0, none⟩), x.v, .bool ov, .bool lz] w fun e w' => ∃ mm' l1' l0' v', ∃ _ : RRel N (K + 1) (s.turn x ov lz) m mm' l1' l0', e = .returned (.tuple #[]) ∧ Own ε w' (pts b (.cells #[.int .u64 (s.turn x ov lz).c.mss, .int .u64 (s.turn x ov lz).c.init, .int .u64 (s.turn x ov lz).c.reorder, .int .u64 (s.turn x ov lz).c.window, .int .u64 (s.turn x ov lz).c.probe, .int .u64 (s.turn x ov lz).c.loss, .int .i64 (s.turn x ov lz).st, .int .u64 (s.turn x ov lz).since, .int .u64 (s.turn x ov lz).rounds, .int .u64 m.win, .bool m.least, .int .u64 m.now, v', .pointer (some ⟨yb, 0, none⟩), .int .u64 (s.turn x ov lz).k.mark, .int .u64 (s.turn x ov lz).k.n, .int .u64 (s.turn x ov lz).p.best, .int .i64 (s.turn x ov lz).p.n, .int .u64 (s.turn x ov lz).bd.hi, .int .u64 (s.turn x ov lz).bd.lo, .int .u64 (s.turn x ov lz).bd.bw, .int .u64 (s.turn x ov lz).acked, .int .u64 (s.turn x ov lz).lost, .int .u64 (s.turn x ov lz).cwnd, .int .u64 (s.turn x ov lz).kept, .int .u64 (s.turn x ov lz).ended] 76 (0, 0)) :: slc 151 2 v' (encs encR m.l) :: rcyc yb mm' l1' l0' :: R) := by
  have HH := Lib.hid H; clear H
  have hto := Eng.ok_turn (ov := ov) (lz := lz) hR.ok hx
  unfold Eng.turn at hto ⊢
  obtain ⟨nx, hnx⟩ : ∃ nx, s.next x ov lz = nx := ⟨_, rfl⟩
  rw [hnx] at hto ⊢
  obtain ⟨tg, htg⟩ : ∃ tg, (if nx = s.st then s else ((s.leave x.now nx).enter nx).comes x.now nx) = tg := ⟨_, rfl⟩
  rw [htg] at hto ⊢
  replace htg := Lib.hid htg
  replace hto := Lib.hid hto
  have hn' := Lib.hid hx.now
  unfold Eng.next Eng.sig at hnx
  rw [hR.n] at hnx
  have hmI : U ((mm : Int) - 1) := by have h1 := hR.m1; have h2 := hR.mK; unfold U; omega
  have hs := hR.ok
  have hsg : Sig.Ok ⟨decide (3 ≤ s.p.n), ov, lz, s.stale x.now, x.fl, s.holds, s.bd.room, s.rounds, ssub x.now s.since, waitI s.st ((mm : Int) - 1) s.c.probe⟩ := ⟨hx.fl, Eng.U_holds hs, Bnd.U_room hs.bd, hs.rounds, U_ssub hx.now hs.since, U_waitI hs.c.probe⟩
  obtain ⟨st8, hst⟩ : ∃ y, s.stale x.now = y := ⟨_, rfl⟩
  obtain ⟨hd, hhd⟩ : ∃ y, s.holds = y := ⟨_, rfl⟩
  obtain ⟨rm, hrm⟩ : ∃ y, s.bd.room = y := ⟨_, rfl⟩
  obtain ⟨el, hel⟩ : ∃ y, ssub x.now s.since = y := ⟨_, rfl⟩
  obtain ⟨wt, hwt⟩ : ∃ y, waitI s.st ((mm : Int) - 1) s.c.probe = y := ⟨_, rfl⟩
  rw [hst, hhd, hrm, hel, hwt] at hnx hsg
  have hw1 : IntKind.i64.wrap ((mm : Int) - 1) = (mm : Int) - 1 := by have h1 := hR.m1; have h2 := hR.mK; rw [IntKind.wrap_i64]; omega
  have hw2 : IntKind.u64.wrap ((mm : Int) - 1) = (mm : Int) - 1 := by have h1 := hR.m1; have h2 := hR.mK; rw [IntKind.wrap_u64]; omega
  have hmb : mm ≤ 1000000 := by have h2 := hR.mK; omega
  have hbd := Lib.hid hs.bd
  have hsi := Lib.hid hs.since
  have ix := max_ite'
  clear hs
  replace hst := Lib.hid hst
  replace hhd := Lib.hid hhd
  replace hrm := Lib.hid hrm
  replace hel := Lib.hid hel
  replace hwt := Lib.hid hwt
  replace hnx := Lib.hid hnx
  replace hsg := Lib.hid hsg
  replace hmI := Lib.hid hmI
  replace hmb := Lib.hid hmb
  replace hR := Lib.hid hR
  replace hx := Lib.hid hx
  replace hw1 := Lib.hid hw1
  replace hw2 := Lib.hid hw2
  unfold Evt.v
  go_enter Tryz.func47, Tryz.ntmps47
  go_wp2_with (with_reducible refine stop_bx ?_)
  refine Stop.go ?_
  refine wpList_box_own HH.out [_, _, _, _, _, _, _, _, _, _, _] rfl ?_
  intro g w1_ H9_
  replace HH := Lib.hid H9_
  clear H9_
  replace HH := Lib.hid ((Own.pm (HH.out) (by with_reducible repeat (first | exact .refl _ | exact .nil _ | refine .here ?_ | refine .at2 ?_ | refine .at3 ?_ | refine .at4 ?_ | refine .at5 ?_ | refine .at6 ?_ | refine .at7 ?_ | refine .at8 ?_ | refine .skip ?_))) : Own ε _ (pts b (.cells #[.int .u64 s.c.mss, .int .u64 s.c.init, .int .u64 s.c.reorder, .int .u64 s.c.window, .int .u64 s.c.probe, .int .u64 s.c.loss, .int .i64 s.st, .int .u64 s.since, .int .u64 s.rounds, .int .u64 m.win, .bool m.least, .int .u64 m.now, v, .pointer (some ⟨yb, 0, none⟩), .int .u64 s.k.mark, .int .u64 s.k.n, .int .u64 s.p.best, .int .i64 s.p.n, .int .u64 s.bd.hi, .int .u64 s.bd.lo, .int .u64 s.bd.bw, .int .u64 s.acked, .int .u64 s.lost, .int .u64 s.cwnd, .int .u64 s.kept, .int .u64 s.ended] 76 (0, 0)) :: slc 151 2 v (encs encR m.l) :: rcyc yb mm l1 l0 :: pts g (.cells #[.int .u64 x.now, .int .u64 x.sd, .int .u64 x.si, .int .u64 x.sr, .int .u64 x.rtt, .bool x.slim, .bool x.some, .int .u64 x.deliv, .int .u64 x.acked, .int .u64 x.lost, .int .u64 x.fl] 41 (0, 0)) :: R))
  (try clear cc1_); (try clear cc2_); (try clear cc3_); (try clear cc4_); (try clear cc5_); (try clear cc6_); (try clear cc7_)
  have cc1_ := HH.out.cells
  have cc4_ := HH.out.r4.cells
  go_wp2_with fail
  go_simp
  go_cut [8] from 146 (fun v8 wc => ∃ sb, v8 = .pointer (some ⟨sb, 0, none⟩) ∧ Own ε wc (pts b (.cells #[.int .u64 s.c.mss, .int .u64 s.c.init, .int .u64 s.c.reorder, .int .u64 s.c.window, .int .u64 s.c.probe, .int .u64 s.c.loss, .int .i64 s.st, .int .u64 s.since, .int .u64 s.rounds, .int .u64 m.win, .bool m.least, .int .u64 m.now, v, .pointer (some ⟨yb, 0, none⟩), .int .u64 s.k.mark, .int .u64 s.k.n, .int .u64 s.p.best, .int .i64 s.p.n, .int .u64 s.bd.hi, .int .u64 s.bd.lo, .int .u64 s.bd.bw, .int .u64 s.acked, .int .u64 s.lost, .int .u64 s.cwnd, .int .u64 s.kept, .int .u64 s.ended] 76 (0, 0)) :: slc 151 2 v (encs encR m.l) :: rcyc yb mm l1 l0 :: pts g (.cells #[.int .u64 x.now, .int .u64 x.sd, .int .u64 x.si, .int .u64 x.sr, .int .u64 x.rtt, .bool x.slim, .bool x.some, .int .u64 x.deliv, .int .u64 x.acked, .int .u64 x.lost, .int .u64 x.fl] 41 (0, 0)) :: pts sb (.cells #[.bool (decide (3 ≤ s.p.n)), .bool ov, .bool lz, .bool false, .int .u64 x.fl, .int .u64 hd, .int .u64 rm, .int .u64 s.rounds, .int .u64 0, .int .u64 0] 136 (0, 0)) :: R))
  case first =>
    go_wp2_with fail
    refine wp_region_reg (some 23) HH.out (by kernel_rfl) ?_
    intro wm H9_
    replace HH := Lib.hid H9_
    clear H9_
    refine reg_p (i := 0) rfl (by kernel_rfl) (fun _ _ _ _ h => h) HH.out (fun K hK => ?_)
    go_simp
    (first | refine hK _ ?_ | (apply Exists.intro; refine ⟨?_, hK _ ?_⟩; focus intro wx; first | (go_simp; rfl) | rfl)); clear hK K
    refine reg_p (i := 1) rfl (by kernel_rfl) (fun _ _ _ _ h => h) HH.out (fun K hK => ?_)
    go_simp
    (first | refine hK _ ?_ | (apply Exists.intro; refine ⟨?_, hK _ ?_⟩; focus intro wx; first | (go_simp; rfl) | rfl)); clear hK K
    refine reg_p (i := 2) rfl (by kernel_rfl) (fun _ _ _ _ h => h) HH.out (fun K hK => ?_)
    go_simp
    (first | refine hK _ ?_ | (apply Exists.intro; refine ⟨?_, hK _ ?_⟩; focus intro wx; first | (go_simp; rfl) | rfl)); clear hK K
    refine reg_p (i := 3) rfl (by kernel_rfl) (fun _ _ _ _ h => h) HH.out (fun K hK => ?_)
    go_simp
    (first | refine hK _ ?_ | (apply Exists.intro; refine ⟨?_, hK _ ?_⟩; focus intro wx; first | (go_simp; rfl) | rfl)); clear hK K
    refine mixk_q (i := 4) rfl (by kernel_rfl) (fun _ _ _ _ h => h) HH.out (fun K hK => ?_)
    go_simp
    (first | refine hK _ ?_ | (apply Exists.intro; refine ⟨?_, hK _ ?_⟩; focus intro wx hx; have x1_ := hx.cells; have x4_ := hx.r4.cells; first | (go_simp; first | rfl | exact ⟨rfl, rfl⟩) | rfl | exact ⟨rfl, rfl⟩)); clear hK K
    refine reg_p (i := 5) rfl (by kernel_rfl) (fun _ _ _ _ h => h) HH.out (fun K hK => ?_)
    go_simp
    (first | refine hK _ ?_ | (apply Exists.intro; refine ⟨?_, hK _ ?_⟩; focus intro wx; first | (go_simp; rfl) | rfl)); clear hK K
    refine reg_p (i := 6) rfl (by kernel_rfl) (fun _ _ _ _ h => h) HH.out (fun K hK => ?_)
    go_simp
    (first | refine hK _ ?_ | (apply Exists.intro; refine ⟨?_, hK _ ?_⟩; focus intro wx; first | (go_simp; rfl) | rfl)); clear hK K
    refine reg_p (i := 7) rfl (by kernel_rfl) (fun _ _ _ _ h => h) HH.out (fun K hK => ?_)
    go_simp
    (first | refine hK _ ?_ | (apply Exists.intro; refine ⟨?_, hK _ ?_⟩; focus intro wx; first | (go_simp; rfl) | rfl)); clear hK K
    refine reg_p (i := 8) rfl (by kernel_rfl) (fun _ _ _ _ h => h) HH.out (fun K hK => ?_)
    go_simp
    (first | refine hK _ ?_ | (apply Exists.intro; refine ⟨?_, hK _ ?_⟩; focus intro wx; first | (go_simp; rfl) | rfl)); clear hK K
    refine mixk_q (i := 9) rfl (by kernel_rfl) (fun _ _ _ _ h => h) HH.out (fun K hK => ?_)
    go_simp
    (first | refine hK _ ?_ | (apply Exists.intro; refine ⟨?_, hK _ ?_⟩; focus intro wx hx; have x1_ := hx.cells; have x4_ := hx.r4.cells; first | (go_simp; first | rfl | exact ⟨rfl, rfl⟩) | rfl | exact ⟨rfl, rfl⟩)); clear hK K
    refine reg_p (i := 10) rfl (by kernel_rfl) (fun _ _ _ _ h => h) HH.out (fun K hK => ?_)
    go_simp
    (first | refine hK _ ?_ | (apply Exists.intro; refine ⟨?_, hK _ ?_⟩; focus intro wx; first | (go_simp; rfl) | rfl)); clear hK K
    refine reg_p (i := 12) rfl (by kernel_rfl) (fun _ _ _ _ h => h) HH.out (fun K hK => ?_)
    go_simp
    (first | refine hK _ ?_ | (apply Exists.intro; refine ⟨?_, hK _ ?_⟩; focus intro wx; first | (go_simp; rfl) | rfl)); clear hK K
    refine reg_p (i := 13) rfl (by kernel_rfl) (fun _ _ _ _ h => h) HH.out (fun K hK => ?_)
    go_simp
    (first | refine hK _ ?_ | (apply Exists.intro; refine ⟨?_, hK _ ?_⟩; focus intro wx; first | (go_simp; rfl) | rfl)); clear hK K
    refine reg_p (i := 14) rfl (by kernel_rfl) (fun _ _ _ _ h => h) HH.out (fun K hK => ?_)
    go_simp
    (first | refine hK _ ?_ | (apply Exists.intro; refine ⟨?_, hK _ ?_⟩; focus intro wx; first | (go_simp; rfl) | rfl)); clear hK K
    refine mixk_q (i := 15) rfl (by kernel_rfl) (fun _ _ _ _ h => h) HH.out (fun K hK => ?_)
    go_simp
    (first | refine hK _ ?_ | (apply Exists.intro; refine ⟨?_, hK _ ?_⟩; focus intro wx hx; have x1_ := hx.cells; have x4_ := hx.r4.cells; first | (go_simp; first | rfl | exact ⟨rfl, rfl⟩) | rfl | exact ⟨rfl, rfl⟩)); clear hK K
    refine reg_p (i := 17) rfl (by kernel_rfl) (fun _ _ _ _ h => h) HH.out (fun K hK => ?_)
    go_simp
    (first | refine hK _ ?_ | (apply Exists.intro; refine ⟨?_, hK _ ?_⟩; focus intro wx; first | (go_simp; rfl) | rfl)); clear hK K
    refine reg_p (i := 18) rfl (by kernel_rfl) (fun _ _ _ _ h => h) HH.out (fun K hK => ?_)
    go_simp
    (first | refine hK _ ?_ | (apply Exists.intro; refine ⟨?_, hK _ ?_⟩; focus intro wx; first | (go_simp; rfl) | rfl)); clear hK K
    refine reg_p (i := 19) rfl (by kernel_rfl) (fun _ _ _ _ h => h) HH.out (fun K hK => ?_)
    go_simp
    (first | refine hK _ ?_ | (apply Exists.intro; refine ⟨?_, hK _ ?_⟩; focus intro wx; first | (go_simp; rfl) | rfl)); clear hK K
    refine mixk_q (i := 20) rfl (by kernel_rfl) (fun _ _ _ _ h => h) HH.out (fun K hK => ?_)
    go_simp
    (first | refine hK _ ?_ | (apply Exists.intro; refine ⟨?_, hK _ ?_⟩; focus intro wx hx; have x1_ := hx.cells; have x4_ := hx.r4.cells; first | (go_simp; first | rfl | exact ⟨rfl, rfl⟩) | rfl | exact ⟨rfl, rfl⟩)); clear hK K
    refine reg_two (some 23) (some 23) (i := 11) (j := 22) rfl rfl (by kernel_rfl) (fun wn hk K hK => ?g1_) (fun wn hk K hK => ?g2_)
    case' g1_ =>
      replace HH := Lib.hid (hk _ _ HH.out)
      clear hk
      go_simp
      refine (rHolds_c ε wn _ b yb hR.out v (by first | exact HH.out | exact HH.out.l4)).mono ?_
      rw [hhd.out]
      rintro e wm ⟨rfl, H9_⟩
      replace HH := Lib.hid H9_
      clear H9_
      refine hK _ _ _ HH.out (.inr ⟨rfl, fun _ h => (Own.pm (h) (by with_reducible repeat (first | exact .refl _ | exact .nil _ | refine .here ?_ | refine .at2 ?_ | refine .at3 ?_ | refine .at4 ?_ | refine .at5 ?_ | refine .at6 ?_ | refine .at7 ?_ | refine .at8 ?_ | refine .skip ?_)))⟩) ?_
      clear hK K
      refine reg_two (some 23) (some 23) (i := 16) (j := 22) rfl rfl (by kernel_rfl) (fun wn hk K hK => ?g3_) (fun wn hk K hK => ?g4_)
      case' g3_ =>
        replace HH := Lib.hid (hk _ _ HH.out)
        clear hk
        go_simp
        refine (refRoom_c wn s.bd hbd.out).mono ?_
        rw [hrm.out]
        rintro e wm ⟨rfl, hbel⟩
        replace HH := Lib.hid ((by first | exact .same hbel | exact .drew hbel | exact .below hbel : Kp wn wm) _ _ HH.out)
        clear hbel
        refine hK _ _ _ HH.out (.inr ⟨rfl, fun _ h => h⟩) ?_
        clear hK K
        refine reg_p (i := 21) rfl (by kernel_rfl) (fun _ _ _ _ h => h) HH.out (fun K hK => ?_)
        go_simp
        (first | refine hK _ ?_ | (apply Exists.intro; refine ⟨?_, hK _ ?_⟩; focus intro wx; first | (go_simp; rfl) | rfl)); clear hK K
        refine reg_l (some 23) (i := 22) rfl (by kernel_rfl) (fun wn hk K hK => ?_)
        replace HH := Lib.hid (hk _ _ HH.out)
        clear hk
        go_simp
        replace HH := Lib.hid (HH.out.alloc (.cells #[.bool false, .bool false, .bool false, .bool false, .int .u64 0, .int .u64 0, .int .u64 0, .int .u64 0, .int .u64 0, .int .u64 0] 136))
        generalize wn.alloc (.cells #[.bool false, .bool false, .bool false, .bool false, .int .u64 0, .int .u64 0, .int .u64 0, .int .u64 0, .int .u64 0, .int .u64 0] 136) = wm at *
        generalize wn.heap.size = sb at *
        refine hK _ _ _ HH.out (.inr ⟨rfl, fun _ h => h.tail⟩) ?_
        clear hK K
        refine reg_l none (i := 23) rfl (by kernel_rfl) (fun wn hk K hK => ?_)
        replace HH := Lib.hid (hk _ _ HH.out)
        clear hk
        refine want rfl (wp_store_own _ #[_, _, _, _, _, _, _, _, _, _] rfl rfl rfl ((Own.pm (HH.out) (by with_reducible repeat (first | exact .refl _ | exact .nil _ | refine .here ?_ | refine .at2 ?_ | refine .at3 ?_ | refine .at4 ?_ | refine .at5 ?_ | refine .at6 ?_ | refine .at7 ?_ | refine .at8 ?_ | refine .skip ?_))) : Own _ _ (pts sb (.cells #[.bool false, .bool false, .bool false, .bool false, .int .u64 0, .int .u64 0, .int .u64 0, .int .u64 0, .int .u64 0, .int .u64 0] 136 (0, 0)) :: pts b (.cells #[.int .u64 s.c.mss, .int .u64 s.c.init, .int .u64 s.c.reorder, .int .u64 s.c.window, .int .u64 s.c.probe, .int .u64 s.c.loss, .int .i64 s.st, .int .u64 s.since, .int .u64 s.rounds, .int .u64 m.win, .bool m.least, .int .u64 m.now, v, .pointer (some ⟨yb, 0, none⟩), .int .u64 s.k.mark, .int .u64 s.k.n, .int .u64 s.p.best, .int .i64 s.p.n, .int .u64 s.bd.hi, .int .u64 s.bd.lo, .int .u64 s.bd.bw, .int .u64 s.acked, .int .u64 s.lost, .int .u64 s.cwnd, .int .u64 s.kept, .int .u64 s.ended] 76 (0, 0)) :: slc 151 2 v (encs encR m.l) :: rcyc yb mm l1 l0 :: pts g (.cells #[.int .u64 x.now, .int .u64 x.sd, .int .u64 x.si, .int .u64 x.sr, .int .u64 x.rtt, .bool x.slim, .bool x.some, .int .u64 x.deliv, .int .u64 x.acked, .int .u64 x.lost, .int .u64 x.fl] 41 (0, 0)) :: R)) (by kernel_rfl) rfl (by repeat (first | (refine List.forall_mem_cons.2 ⟨(by first | with_reducible assumption | rfl), ?_⟩) | exact fun _ h => absurd h List.not_mem_nil)) ?_)
        intro wm H9_
        replace HH := Lib.hid H9_
        clear H9_
        refine hK _ _ _ HH.out (.inl (by kernel_rfl)) ?_
        clear hK K
        refine mixk_done (by kernel_rfl) (fun w2_ hk => ?_) _
        replace HH := Lib.hid (hk _ _ HH.out)
        clear hk
      case' g4_ =>
        replace HH := Lib.hid (hk _ _ HH.out)
        clear hk
        go_simp
        replace HH := Lib.hid (HH.out.alloc (.cells #[.bool false, .bool false, .bool false, .bool false, .int .u64 0, .int .u64 0, .int .u64 0, .int .u64 0, .int .u64 0, .int .u64 0] 136))
        generalize wn.alloc (.cells #[.bool false, .bool false, .bool false, .bool false, .int .u64 0, .int .u64 0, .int .u64 0, .int .u64 0, .int .u64 0, .int .u64 0] 136) = wm at *
        generalize wn.heap.size = sb at *
        refine hK _ _ _ HH.out (.inr ⟨rfl, fun _ h => h.tail⟩) ?_
        clear hK K
        refine reg_l (some 23) (i := 16) rfl (by kernel_rfl) (fun wn hk K hK => ?_)
        replace HH := Lib.hid (hk _ _ HH.out)
        clear hk
        go_simp
        refine (refRoom_c wn s.bd hbd.out).mono ?_
        rw [hrm.out]
        rintro e wm ⟨rfl, hbel⟩
        replace HH := Lib.hid ((by first | exact .same hbel | exact .drew hbel | exact .below hbel : Kp wn wm) _ _ HH.out)
        clear hbel
        refine hK _ _ _ HH.out (.inr ⟨rfl, fun _ h => h⟩) ?_
        clear hK K
        refine reg_p (i := 21) rfl (by kernel_rfl) (fun _ _ _ _ h => h) HH.out (fun K hK => ?_)
        go_simp
        (first | refine hK _ ?_ | (apply Exists.intro; refine ⟨?_, hK _ ?_⟩; focus intro wx; first | (go_simp; rfl) | rfl)); clear hK K
        refine reg_l none (i := 23) rfl (by kernel_rfl) (fun wn hk K hK => ?_)
        replace HH := Lib.hid (hk _ _ HH.out)
        clear hk
        refine want rfl (wp_store_own _ #[_, _, _, _, _, _, _, _, _, _] rfl rfl rfl ((Own.pm (HH.out) (by with_reducible repeat (first | exact .refl _ | exact .nil _ | refine .here ?_ | refine .at2 ?_ | refine .at3 ?_ | refine .at4 ?_ | refine .at5 ?_ | refine .at6 ?_ | refine .at7 ?_ | refine .at8 ?_ | refine .skip ?_))) : Own _ _ (pts sb (.cells #[.bool false, .bool false, .bool false, .bool false, .int .u64 0, .int .u64 0, .int .u64 0, .int .u64 0, .int .u64 0, .int .u64 0] 136 (0, 0)) :: pts b (.cells #[.int .u64 s.c.mss, .int .u64 s.c.init, .int .u64 s.c.reorder, .int .u64 s.c.window, .int .u64 s.c.probe, .int .u64 s.c.loss, .int .i64 s.st, .int .u64 s.since, .int .u64 s.rounds, .int .u64 m.win, .bool m.least, .int .u64 m.now, v, .pointer (some ⟨yb, 0, none⟩), .int .u64 s.k.mark, .int .u64 s.k.n, .int .u64 s.p.best, .int .i64 s.p.n, .int .u64 s.bd.hi, .int .u64 s.bd.lo, .int .u64 s.bd.bw, .int .u64 s.acked, .int .u64 s.lost, .int .u64 s.cwnd, .int .u64 s.kept, .int .u64 s.ended] 76 (0, 0)) :: slc 151 2 v (encs encR m.l) :: rcyc yb mm l1 l0 :: pts g (.cells #[.int .u64 x.now, .int .u64 x.sd, .int .u64 x.si, .int .u64 x.sr, .int .u64 x.rtt, .bool x.slim, .bool x.some, .int .u64 x.deliv, .int .u64 x.acked, .int .u64 x.lost, .int .u64 x.fl] 41 (0, 0)) :: R)) (by kernel_rfl) rfl (by repeat (first | (refine List.forall_mem_cons.2 ⟨(by first | with_reducible assumption | rfl), ?_⟩) | exact fun _ h => absurd h List.not_mem_nil)) ?_)
        intro wm H9_
        replace HH := Lib.hid H9_
        clear H9_
        refine hK _ _ _ HH.out (.inl (by kernel_rfl)) ?_
        clear hK K
        refine mixk_done (by kernel_rfl) (fun w2_ hk => ?_) _
        replace HH := Lib.hid (hk _ _ HH.out)
        clear hk
    case' g2_ =>
      replace HH := Lib.hid (hk _ _ HH.out)
      clear hk
      go_simp
      replace HH := Lib.hid (HH.out.alloc (.cells #[.bool false, .bool false, .bool false, .bool false, .int .u64 0, .int .u64 0, .int .u64 0, .int .u64 0, .int .u64 0, .int .u64 0] 136))
      generalize wn.alloc (.cells #[.bool false, .bool false, .bool false, .bool false, .int .u64 0, .int .u64 0, .int .u64 0, .int .u64 0, .int .u64 0, .int .u64 0] 136) = wm at *
      generalize wn.heap.size = sb at *
      refine hK _ _ _ HH.out (.inr ⟨rfl, fun _ h => h.tail⟩) ?_
      clear hK K
      refine reg_l (some 23) (i := 11) rfl (by kernel_rfl) (fun wn hk K hK => ?_)
      replace HH := Lib.hid (hk _ _ HH.out)
      clear hk
      go_simp
      refine (rHolds_c ε wn _ b yb hR.out v (by first | exact HH.out | exact HH.out.l4)).mono ?_
      rw [hhd.out]
      rintro e wm ⟨rfl, H9_⟩
      replace HH := Lib.hid H9_
      clear H9_
      refine hK _ _ _ HH.out (.inr ⟨rfl, fun _ h => (Own.pm (h) (by with_reducible repeat (first | exact .refl _ | exact .nil _ | refine .here ?_ | refine .at2 ?_ | refine .at3 ?_ | refine .at4 ?_ | refine .at5 ?_ | refine .at6 ?_ | refine .at7 ?_ | refine .at8 ?_ | refine .skip ?_)))⟩) ?_
      clear hK K
      refine reg_l (some 23) (i := 16) rfl (by kernel_rfl) (fun wn hk K hK => ?_)
      replace HH := Lib.hid (hk _ _ HH.out)
      clear hk
      go_simp
      refine (refRoom_c wn s.bd hbd.out).mono ?_
      rw [hrm.out]
      rintro e wm ⟨rfl, hbel⟩
      replace HH := Lib.hid ((by first | exact .same hbel | exact .drew hbel | exact .below hbel : Kp wn wm) _ _ HH.out)
      clear hbel
      refine hK _ _ _ HH.out (.inr ⟨rfl, fun _ h => h⟩) ?_
      clear hK K
      refine reg_p (i := 21) rfl (by kernel_rfl) (fun _ _ _ _ h => h) HH.out (fun K hK => ?_)
      go_simp
      (first | refine hK _ ?_ | (apply Exists.intro; refine ⟨?_, hK _ ?_⟩; focus intro wx; first | (go_simp; rfl) | rfl)); clear hK K
      refine reg_l none (i := 23) rfl (by kernel_rfl) (fun wn hk K hK => ?_)
      replace HH := Lib.hid (hk _ _ HH.out)
      clear hk
      refine want rfl (wp_store_own _ #[_, _, _, _, _, _, _, _, _, _] rfl rfl rfl ((Own.pm (HH.out) (by with_reducible repeat (first | exact .refl _ | exact .nil _ | refine .here ?_ | refine .at2 ?_ | refine .at3 ?_ | refine .at4 ?_ | refine .at5 ?_ | refine .at6 ?_ | refine .at7 ?_ | refine .at8 ?_ | refine .skip ?_))) : Own _ _ (pts sb (.cells #[.bool false, .bool false, .bool false, .bool false, .int .u64 0, .int .u64 0, .int .u64 0, .int .u64 0, .int .u64 0, .int .u64 0] 136 (0, 0)) :: pts b (.cells #[.int .u64 s.c.mss, .int .u64 s.c.init, .int .u64 s.c.reorder, .int .u64 s.c.window, .int .u64 s.c.probe, .int .u64 s.c.loss, .int .i64 s.st, .int .u64 s.since, .int .u64 s.rounds, .int .u64 m.win, .bool m.least, .int .u64 m.now, v, .pointer (some ⟨yb, 0, none⟩), .int .u64 s.k.mark, .int .u64 s.k.n, .int .u64 s.p.best, .int .i64 s.p.n, .int .u64 s.bd.hi, .int .u64 s.bd.lo, .int .u64 s.bd.bw, .int .u64 s.acked, .int .u64 s.lost, .int .u64 s.cwnd, .int .u64 s.kept, .int .u64 s.ended] 76 (0, 0)) :: slc 151 2 v (encs encR m.l) :: rcyc yb mm l1 l0 :: pts g (.cells #[.int .u64 x.now, .int .u64 x.sd, .int .u64 x.si, .int .u64 x.sr, .int .u64 x.rtt, .bool x.slim, .bool x.some, .int .u64 x.deliv, .int .u64 x.acked, .int .u64 x.lost, .int .u64 x.fl] 41 (0, 0)) :: R)) (by kernel_rfl) rfl (by repeat (first | (refine List.forall_mem_cons.2 ⟨(by first | with_reducible assumption | rfl), ?_⟩) | exact fun _ h => absurd h List.not_mem_nil)) ?_)
      intro wm H9_
      replace HH := Lib.hid H9_
      clear H9_
      refine hK _ _ _ HH.out (.inl (by kernel_rfl)) ?_
      clear hK K
      refine mixk_done (by kernel_rfl) (fun w2_ hk => ?_) _
      replace HH := Lib.hid (hk _ _ HH.out)
      clear hk
    all_goals
      go_wp2_with fail
      go_meet
      case rel => exact ⟨_, rfl, (Own.pm (HH.out) (by with_reducible repeat (first | exact .refl _ | exact .nil _ | refine .here ?_ | refine .at2 ?_ | refine .at3 ?_ | refine .at4 ?_ | refine .at5 ?_ | refine .at6 ?_ | refine .at7 ?_ | refine .at8 ?_ | refine .skip ?_)))⟩
  case rest =>
    clear HH
    obtain ⟨sb, rfl, HR⟩ := hcut
    have HH := Lib.hid HR
    clear HR
    (try clear cc1_); (try clear cc2_); (try clear cc3_); (try clear cc4_); (try clear cc5_); (try clear cc6_); (try clear cc7_)
    have cc4_ := HH.out.r4.cells
    go_wp2_with fail
    refine (rStale_c ε _ _ b yb hR.out v x.now hn'.out HH.out).mono ?_
    rw [hst.out]
    rintro e w3_ ⟨rfl, H9_⟩
    replace HH := Lib.hid H9_
    clear H9_
    go_wp2_with (with_reducible refine stop_st ?_)
    refine Stop.go ?_
    refine wpList_store1_own (v := .bool st8) (k := 3) rfl rfl HH.out.r5 (by kernel_rfl) (by simp) (by first | rfl | assumption) ?_
    intro w4_ H9_
    replace HH := Lib.hid H9_
    clear H9_
    simp only [List.setIfInBounds_toArray, List.set_cons_succ, List.set_cons_zero] at HH
    replace HH := Lib.hid ((Own.pm (HH.out) (by with_reducible repeat (first | exact .refl _ | exact .nil _ | refine .here ?_ | refine .at2 ?_ | refine .at3 ?_ | refine .at4 ?_ | refine .at5 ?_ | refine .at6 ?_ | refine .at7 ?_ | refine .at8 ?_ | refine .skip ?_))) : Own ε _ (pts b (.cells #[.int .u64 s.c.mss, .int .u64 s.c.init, .int .u64 s.c.reorder, .int .u64 s.c.window, .int .u64 s.c.probe, .int .u64 s.c.loss, .int .i64 s.st, .int .u64 s.since, .int .u64 s.rounds, .int .u64 m.win, .bool m.least, .int .u64 m.now, v, .pointer (some ⟨yb, 0, none⟩), .int .u64 s.k.mark, .int .u64 s.k.n, .int .u64 s.p.best, .int .i64 s.p.n, .int .u64 s.bd.hi, .int .u64 s.bd.lo, .int .u64 s.bd.bw, .int .u64 s.acked, .int .u64 s.lost, .int .u64 s.cwnd, .int .u64 s.kept, .int .u64 s.ended] 76 (0, 0)) :: slc 151 2 v (encs encR m.l) :: rcyc yb mm l1 l0 :: pts g (.cells #[.int .u64 x.now, .int .u64 x.sd, .int .u64 x.si, .int .u64 x.sr, .int .u64 x.rtt, .bool x.slim, .bool x.some, .int .u64 x.deliv, .int .u64 x.acked, .int .u64 x.lost, .int .u64 x.fl] 41 (0, 0)) :: pts sb (.cells #[.bool (decide (3 ≤ s.p.n)), .bool ov, .bool lz, .bool st8, .int .u64 x.fl, .int .u64 hd, .int .u64 rm, .int .u64 s.rounds, .int .u64 0, .int .u64 0] 136 (0, 0)) :: R))
    (try clear cc1_); (try clear cc2_); (try clear cc3_); (try clear cc4_); (try clear cc5_); (try clear cc6_); (try clear cc7_)
    have cc1_ := HH.out.cells
    have cc4_ := HH.out.r4.cells
    go_wp2_with fail
    go_wp2_with fail
    refine wp_region_reg (some 8) HH.out (by kernel_rfl) ?_
    intro wm H9_
    replace HH := Lib.hid H9_
    clear H9_
    refine reg_p (i := 0) rfl (by kernel_rfl) (fun _ _ _ _ h => h) HH.out (fun K hK => ?_)
    go_simp
    (first | refine hK _ ?_ | (apply Exists.intro; refine ⟨?_, hK _ ?_⟩; focus intro wx; first | (go_simp; rfl) | rfl)); clear hK K
    refine mixk_q (i := 1) rfl (by kernel_rfl) (fun _ _ _ _ h => h) HH.out (fun K hK => ?_)
    go_simp
    (first | refine hK _ ?_ | (apply Exists.intro; refine ⟨?_, hK _ ?_⟩; focus intro wx hx; have x1_ := hx.cells; have x4_ := hx.r4.cells; have x5_ := hx.r5.cells; first | (go_simp; first | rfl | exact ⟨rfl, rfl⟩) | rfl | exact ⟨rfl, rfl⟩)); clear hK K
    refine reg_p (i := 2) rfl (by kernel_rfl) (fun _ _ _ _ h => h) HH.out (fun K hK => ?_)
    go_simp
    (first | refine hK _ ?_ | (apply Exists.intro; refine ⟨?_, hK _ ?_⟩; focus intro wx; first | (go_simp; rfl) | rfl)); clear hK K
    refine reg_p (i := 3) rfl (by kernel_rfl) (fun _ _ _ _ h => h) HH.out (fun K hK => ?_)
    go_simp
    (first | refine hK _ ?_ | (apply Exists.intro; refine ⟨?_, hK _ ?_⟩; focus intro wx; first | (go_simp; rfl) | rfl)); clear hK K
    refine reg_p (i := 4) rfl (by kernel_rfl) (fun _ _ _ _ h => h) HH.out (fun K hK => ?_)
    go_simp
    (first | refine hK _ ?_ | (apply Exists.intro; refine ⟨?_, hK _ ?_⟩; focus intro wx; first | (go_simp; rfl) | rfl)); clear hK K
    refine mixk_q (i := 5) rfl (by kernel_rfl) (fun _ _ _ _ h => h) HH.out (fun K hK => ?_)
    go_simp
    (first | refine hK _ ?_ | (apply Exists.intro; refine ⟨?_, hK _ ?_⟩; focus intro wx hx; have x1_ := hx.cells; have x4_ := hx.r4.cells; have x5_ := hx.r5.cells; first | (go_simp; first | rfl | exact ⟨rfl, rfl⟩) | rfl | exact ⟨rfl, rfl⟩)); clear hK K
    refine reg_l (some 8) (i := 6) rfl (by kernel_rfl) (fun wn hk K hK => ?_)
    replace HH := Lib.hid (hk _ _ HH.out)
    clear hk
    go_simp
    refine (refSub_c wn x.now s.since hn'.out hsi.out).mono ?_
    rw [hel.out]
    rintro e wm ⟨rfl, hbel⟩
    replace HH := Lib.hid ((by first | exact .same hbel | exact .drew hbel | exact .below hbel : Kp wn wm) _ _ HH.out)
    clear hbel
    refine hK _ _ _ HH.out (.inr ⟨rfl, fun _ h => h⟩) ?_
    clear hK K
    refine reg_p (i := 7) rfl (by kernel_rfl) (fun _ _ _ _ h => h) HH.out (fun K hK => ?_)
    go_simp
    (first | refine hK _ ?_ | (apply Exists.intro; refine ⟨?_, hK _ ?_⟩; focus intro wx; first | (go_simp; rfl) | rfl)); clear hK K
    refine reg_l none (i := 8) rfl (by kernel_rfl) (fun wn hk K hK => ?_)
    replace HH := Lib.hid (hk _ _ HH.out)
    clear hk
    have hx := HH.out
    have x1_ := hx.cells
    have x4_ := hx.r4.cells
    have x5_ := hx.r5.cells
    go_simp
    replace HH := Lib.hid (HH.out.r5.set 8 (.int .u64 el))
    simp only [List.setIfInBounds_toArray, List.set_cons_succ, List.set_cons_zero] at HH
    generalize wn.setCell ⟨sb, 8, none⟩ (.int .u64 el) = wm at *
    clear hx x1_ x4_ x5_
    refine hK _ _ _ HH.out (.inl (by kernel_rfl)) ?_
    clear hK K
    refine mixk_done (by kernel_rfl) (fun w5_ hk => ?_) _
    replace HH := Lib.hid (hk _ _ HH.out)
    clear hk
    replace HH := Lib.hid ((Own.pm (HH.out) (by with_reducible repeat (first | exact .refl _ | exact .nil _ | refine .here ?_ | refine .at2 ?_ | refine .at3 ?_ | refine .at4 ?_ | refine .at5 ?_ | refine .at6 ?_ | refine .at7 ?_ | refine .at8 ?_ | refine .skip ?_))) : Own _ _ (pts b (.cells #[.int .u64 s.c.mss, .int .u64 s.c.init, .int .u64 s.c.reorder, .int .u64 s.c.window, .int .u64 s.c.probe, .int .u64 s.c.loss, .int .i64 s.st, .int .u64 s.since, .int .u64 s.rounds, .int .u64 m.win, .bool m.least, .int .u64 m.now, v, .pointer (some ⟨yb, 0, none⟩), .int .u64 s.k.mark, .int .u64 s.k.n, .int .u64 s.p.best, .int .i64 s.p.n, .int .u64 s.bd.hi, .int .u64 s.bd.lo, .int .u64 s.bd.bw, .int .u64 s.acked, .int .u64 s.lost, .int .u64 s.cwnd, .int .u64 s.kept, .int .u64 s.ended] 76 (0, 0)) :: slc 151 2 v (encs encR m.l) :: rcyc yb mm l1 l0 :: pts g (.cells #[.int .u64 x.now, .int .u64 x.sd, .int .u64 x.si, .int .u64 x.sr, .int .u64 x.rtt, .bool x.slim, .bool x.some, .int .u64 x.deliv, .int .u64 x.acked, .int .u64 x.lost, .int .u64 x.fl] 41 (0, 0)) :: pts sb (.cells #[.bool (decide (3 ≤ s.p.n)), .bool ov, .bool lz, .bool st8, .int .u64 x.fl, .int .u64 hd, .int .u64 rm, .int .u64 s.rounds, .int .u64 el, .int .u64 0] 136 (0, 0)) :: R))
    obtain ⟨og, ocap, y1, y0, vs, q1, q2, q3, q4, H3⟩ := HH.out.r3.rcyc_open
    clear HH
    have HH := Lib.hid ((Own.pm (H3) (by with_reducible repeat (first | exact .refl _ | exact .nil _ | refine .here ?_ | refine .at2 ?_ | refine .at3 ?_ | refine .at4 ?_ | refine .at5 ?_ | refine .at6 ?_ | refine .at7 ?_ | refine .at8 ?_ | refine .skip ?_))) : Own ε _ (pts yb (.cells #[.slice (some ⟨og, 0, none⟩) mm ocap] 118 (0, 0)) :: pts b (.cells #[.int .u64 s.c.mss, .int .u64 s.c.init, .int .u64 s.c.reorder, .int .u64 s.c.window, .int .u64 s.c.probe, .int .u64 s.c.loss, .int .i64 s.st, .int .u64 s.since, .int .u64 s.rounds, .int .u64 m.win, .bool m.least, .int .u64 m.now, v, .pointer (some ⟨yb, 0, none⟩), .int .u64 s.k.mark, .int .u64 s.k.n, .int .u64 s.p.best, .int .i64 s.p.n, .int .u64 s.bd.hi, .int .u64 s.bd.lo, .int .u64 s.bd.bw, .int .u64 s.acked, .int .u64 s.lost, .int .u64 s.cwnd, .int .u64 s.kept, .int .u64 s.ended] 76 (0, 0)) :: pts sb (.cells #[.bool (decide (3 ≤ s.p.n)), .bool ov, .bool lz, .bool st8, .int .u64 x.fl, .int .u64 hd, .int .u64 rm, .int .u64 s.rounds, .int .u64 el, .int .u64 0] 136 (0, 0)) :: pts g (.cells #[.int .u64 x.now, .int .u64 x.sd, .int .u64 x.si, .int .u64 x.sr, .int .u64 x.rtt, .bool x.slim, .bool x.some, .int .u64 x.deliv, .int .u64 x.acked, .int .u64 x.lost, .int .u64 x.fl] 41 (0, 0)) :: slc 119 1 (.slice (some ⟨og, 0, none⟩) mm ocap) vs :: own64 y1 l1 :: own64 y0 l0 :: slc 151 2 v (encs encR m.l) :: R))
    clear H3
    replace q1 := Lib.hid q1
    replace q2 := Lib.hid q2
    replace q3 := Lib.hid q3
    replace q4 := Lib.hid q4
    replace hw1 := hw1.out
    replace hw2 := hw2.out
    (try clear cc1_); (try clear cc2_); (try clear cc3_); (try clear cc4_); (try clear cc5_); (try clear cc6_); (try clear cc7_)
    have cc1_ := HH.out.cells
    have cc2_ := HH.out.r2.cells
    go_wp2_with fail
    go_wp2_with fail
    refine wp_region_reg (some 21) HH.out (by kernel_rfl) ?_
    intro wm H9_
    replace HH := Lib.hid H9_
    clear H9_
    refine reg_p (i := 0) rfl (by kernel_rfl) (fun _ _ _ _ h => h) HH.out (fun K hK => ?_)
    go_simp
    (first | refine hK _ ?_ | (apply Exists.intro; refine ⟨?_, hK _ ?_⟩; focus intro wx; first | (go_simp; rfl) | rfl)); clear hK K
    refine reg_p (i := 1) rfl (by kernel_rfl) (fun _ _ _ _ h => h) HH.out (fun K hK => ?_)
    go_simp
    (first | refine hK _ ?_ | (apply Exists.intro; refine ⟨?_, hK _ ?_⟩; focus intro wx; first | (go_simp; rfl) | rfl)); clear hK K
    refine reg_p (i := 2) rfl (by kernel_rfl) (fun _ _ _ _ h => h) HH.out (fun K hK => ?_)
    go_simp
    (first | refine hK _ ?_ | (apply Exists.intro; refine ⟨?_, hK _ ?_⟩; focus intro wx; first | (go_simp; rfl) | rfl)); clear hK K
    refine mixk_q (i := 3) rfl (by kernel_rfl) (fun _ _ _ _ h => h) HH.out (fun K hK => ?_)
    go_simp
    (first | refine hK _ ?_ | (apply Exists.intro; refine ⟨?_, hK _ ?_⟩; focus intro wx hx; have x1_ := hx.cells; have x2_ := hx.r2.cells; have x3_ := hx.r3.cells; first | (go_simp; first | rfl | exact ⟨rfl, rfl⟩) | rfl | exact ⟨rfl, rfl⟩)); clear hK K
    refine reg_p (i := 4) rfl (by kernel_rfl) (fun _ _ _ _ h => h) HH.out (fun K hK => ?_)
    go_simp
    (first | refine hK _ ?_ | (apply Exists.intro; refine ⟨?_, hK _ ?_⟩; focus intro wx; first | (go_simp; rfl) | rfl)); clear hK K
    refine reg_p (i := 5) rfl (by kernel_rfl) (fun _ _ _ _ h => h) HH.out (fun K hK => ?_)
    go_simp
    (first | refine hK _ ?_ | (apply Exists.intro; refine ⟨?_, hK _ ?_⟩; focus intro wx; first | (go_simp; rfl) | rfl)); clear hK K
    refine reg_p (i := 6) rfl (by kernel_rfl) (fun _ _ _ _ h => h) HH.out (fun K hK => ?_)
    go_simp
    (first | refine hK _ ?_ | (apply Exists.intro; refine ⟨?_, hK _ ?_⟩; focus intro wx; first | (go_simp; rfl) | rfl)); clear hK K
    refine mixk_q (i := 7) rfl (by kernel_rfl) (fun _ _ _ _ h => h) HH.out (fun K hK => ?_)
    go_simp
    (first | refine hK _ ?_ | (apply Exists.intro; refine ⟨?_, hK _ ?_⟩; focus intro wx hx; have x1_ := hx.cells; have x2_ := hx.r2.cells; have x3_ := hx.r3.cells; first | (go_simp; first | rfl | exact ⟨rfl, rfl⟩) | rfl | exact ⟨rfl, rfl⟩)); clear hK K
    refine reg_p (i := 8) rfl (by kernel_rfl) (fun _ _ _ _ h => h) HH.out (fun K hK => ?_)
    go_simp
    (first | refine hK _ ?_ | (apply Exists.intro; refine ⟨?_, hK _ ?_⟩; focus intro wx; first | (go_simp; rfl) | rfl)); clear hK K
    refine reg_p (i := 9) rfl (by kernel_rfl) (fun _ _ _ _ h => h) HH.out (fun K hK => ?_)
    go_simp
    (first | refine hK _ ?_ | (apply Exists.intro; refine ⟨?_, hK _ ?_⟩; focus intro wx; first | (go_simp; rfl) | rfl)); clear hK K
    refine mixk_q (i := 10) rfl (by kernel_rfl) (fun _ _ _ _ h => h) HH.out (fun K hK => ?_)
    go_simp
    (first | refine hK _ ?_ | (apply Exists.intro; refine ⟨?_, hK _ ?_⟩; focus intro wx hx; have x1_ := hx.cells; have x2_ := hx.r2.cells; have x3_ := hx.r3.cells; first | (go_simp; first | rfl | exact ⟨rfl, rfl⟩) | rfl | exact ⟨rfl, rfl⟩)); clear hK K
    refine reg_p (i := 11) rfl (by kernel_rfl) (fun _ _ _ _ h => h) HH.out (fun K hK => ?_)
    go_simp
    (first | refine hK _ ?_ | (apply Exists.intro; refine ⟨?_, hK _ ?_⟩; focus intro wx; first | (go_simp; rfl) | rfl)); clear hK K
    refine reg_p (i := 12) rfl (by kernel_rfl) (fun _ _ _ _ h => h) HH.out (fun K hK => ?_)
    go_simp
    (first | refine hK _ ?_ | (apply Exists.intro; refine ⟨?_, hK _ ?_⟩; focus intro wx; first | (go_simp; rfl) | rfl)); clear hK K
    refine reg_p (i := 13) rfl (by kernel_rfl) (fun _ _ _ _ h => h) HH.out (fun K hK => ?_)
    go_simp
    (first | refine hK _ ?_ | (apply Exists.intro; refine ⟨?_, hK _ ?_⟩; focus intro wx; first | (go_simp; rfl) | rfl)); clear hK K
    refine reg_p (i := 14) rfl (by kernel_rfl) (fun _ _ _ _ h => h) HH.out (fun K hK => ?_)
    go_simp
    (first | refine hK _ ?_ | (apply Exists.intro; refine ⟨?_, hK _ ?_⟩; focus intro wx; first | (go_simp; rfl) | rfl)); clear hK K
    refine reg_p (i := 15) rfl (by kernel_rfl) (fun _ _ _ _ h => h) HH.out (fun K hK => ?_)
    go_simp
    (first | refine hK _ ?_ | (apply Exists.intro; refine ⟨?_, hK _ ?_⟩; focus intro wx; first | (go_simp; rfl) | rfl)); clear hK K
    refine reg_p (i := 16) rfl (by kernel_rfl) (fun _ _ _ _ h => h) HH.out (fun K hK => ?_)
    go_simp
    (first | refine hK _ ?_ | (apply Exists.intro; refine ⟨?_, hK _ ?_⟩; focus intro wx; first | (go_simp; rfl) | rfl)); clear hK K
    refine reg_p (i := 17) rfl (by kernel_rfl) (fun _ _ _ _ h => h) HH.out (fun K hK => ?_)
    go_simp
    (first | refine hK _ ?_ | (apply Exists.intro; refine ⟨?_, hK _ ?_⟩; focus intro wx; first | (go_simp; rfl) | rfl)); clear hK K
    refine mixk_q (i := 18) rfl (by kernel_rfl) (fun _ _ _ _ h => h) HH.out (fun K hK => ?_)
    go_simp
    (first | refine hK _ ?_ | (apply Exists.intro; refine ⟨?_, hK _ ?_⟩; focus intro wx hx; have x1_ := hx.cells; have x2_ := hx.r2.cells; have x3_ := hx.r3.cells; first | (go_simp; first | rfl | exact ⟨rfl, rfl⟩) | rfl | exact ⟨rfl, rfl⟩)); clear hK K
    refine reg_l (some 21) (i := 19) rfl (by kernel_rfl) (fun wn hk K hK => ?_)
    replace HH := Lib.hid (hk _ _ HH.out)
    clear hk
    go_simp
    refine (refWait_c wn s.st ((mm : Int) - 1) s.c.probe hmI.out).mono ?_
    rw [hwt.out]
    rintro e wm ⟨rfl, hbel⟩
    replace HH := Lib.hid ((by first | exact .same hbel | exact .drew hbel | exact .below hbel : Kp wn wm) _ _ HH.out)
    clear hbel
    refine hK _ _ _ HH.out (.inr ⟨rfl, fun _ h => h⟩) ?_
    clear hK K
    refine reg_p (i := 20) rfl (by kernel_rfl) (fun _ _ _ _ h => h) HH.out (fun K hK => ?_)
    go_simp
    (first | refine hK _ ?_ | (apply Exists.intro; refine ⟨?_, hK _ ?_⟩; focus intro wx; first | (go_simp; rfl) | rfl)); clear hK K
    refine reg_l none (i := 21) rfl (by kernel_rfl) (fun wn hk K hK => ?_)
    replace HH := Lib.hid (hk _ _ HH.out)
    clear hk
    have hx := HH.out
    have x1_ := hx.cells
    have x2_ := hx.r2.cells
    have x3_ := hx.r3.cells
    go_simp
    replace HH := Lib.hid (HH.out.r3.set 9 (.int .u64 wt))
    simp only [List.setIfInBounds_toArray, List.set_cons_succ, List.set_cons_zero] at HH
    generalize wn.setCell ⟨sb, 9, none⟩ (.int .u64 wt) = wm at *
    clear hx x1_ x2_ x3_
    refine hK _ _ _ HH.out (.inl (by kernel_rfl)) ?_
    clear hK K
    refine mixk_done (by kernel_rfl) (fun w6_ hk => ?_) _
    replace HH := Lib.hid (hk _ _ HH.out)
    clear hk
    clear hw1 hw2
    have H3 := Own.rcyc_mk ε _ _ yb mm q1.out q2.out q3.out q4.out ((Own.pm (HH.out) (by with_reducible repeat (first | exact .refl _ | exact .nil _ | refine .here ?_ | refine .at2 ?_ | refine .at3 ?_ | refine .at4 ?_ | refine .at5 ?_ | refine .at6 ?_ | refine .at7 ?_ | refine .at8 ?_ | refine .skip ?_))) : Own ε _ (pts yb (.cells #[.slice (some ⟨og, 0, none⟩) mm ocap] 118 (0, 0)) :: slc 119 1 (.slice (some ⟨og, 0, none⟩) mm ocap) vs :: own64 y1 l1 :: own64 y0 l0 :: pts b (.cells #[.int .u64 s.c.mss, .int .u64 s.c.init, .int .u64 s.c.reorder, .int .u64 s.c.window, .int .u64 s.c.probe, .int .u64 s.c.loss, .int .i64 s.st, .int .u64 s.since, .int .u64 s.rounds, .int .u64 m.win, .bool m.least, .int .u64 m.now, v, .pointer (some ⟨yb, 0, none⟩), .int .u64 s.k.mark, .int .u64 s.k.n, .int .u64 s.p.best, .int .i64 s.p.n, .int .u64 s.bd.hi, .int .u64 s.bd.lo, .int .u64 s.bd.bw, .int .u64 s.acked, .int .u64 s.lost, .int .u64 s.cwnd, .int .u64 s.kept, .int .u64 s.ended] 76 (0, 0)) :: pts sb (.cells #[.bool (decide (3 ≤ s.p.n)), .bool ov, .bool lz, .bool st8, .int .u64 x.fl, .int .u64 hd, .int .u64 rm, .int .u64 s.rounds, .int .u64 el, .int .u64 wt] 136 (0, 0)) :: pts g (.cells #[.int .u64 x.now, .int .u64 x.sd, .int .u64 x.si, .int .u64 x.sr, .int .u64 x.rtt, .bool x.slim, .bool x.some, .int .u64 x.deliv, .int .u64 x.acked, .int .u64 x.lost, .int .u64 x.fl] 41 (0, 0)) :: slc 151 2 v (encs encR m.l) :: R))
    clear HH q1 q2 q3 q4
    have HH := Lib.hid ((Own.pm (H3) (by with_reducible repeat (first | exact .refl _ | exact .nil _ | refine .here ?_ | refine .at2 ?_ | refine .at3 ?_ | refine .at4 ?_ | refine .at5 ?_ | refine .at6 ?_ | refine .at7 ?_ | refine .at8 ?_ | refine .skip ?_))) : Own ε _ (pts b (.cells #[.int .u64 s.c.mss, .int .u64 s.c.init, .int .u64 s.c.reorder, .int .u64 s.c.window, .int .u64 s.c.probe, .int .u64 s.c.loss, .int .i64 s.st, .int .u64 s.since, .int .u64 s.rounds, .int .u64 m.win, .bool m.least, .int .u64 m.now, v, .pointer (some ⟨yb, 0, none⟩), .int .u64 s.k.mark, .int .u64 s.k.n, .int .u64 s.p.best, .int .i64 s.p.n, .int .u64 s.bd.hi, .int .u64 s.bd.lo, .int .u64 s.bd.bw, .int .u64 s.acked, .int .u64 s.lost, .int .u64 s.cwnd, .int .u64 s.kept, .int .u64 s.ended] 76 (0, 0)) :: slc 151 2 v (encs encR m.l) :: rcyc yb mm l1 l0 :: pts g (.cells #[.int .u64 x.now, .int .u64 x.sd, .int .u64 x.si, .int .u64 x.sr, .int .u64 x.rtt, .bool x.slim, .bool x.some, .int .u64 x.deliv, .int .u64 x.acked, .int .u64 x.lost, .int .u64 x.fl] 41 (0, 0)) :: pts sb (.cells #[.bool (decide (3 ≤ s.p.n)), .bool ov, .bool lz, .bool st8, .int .u64 x.fl, .int .u64 hd, .int .u64 rm, .int .u64 s.rounds, .int .u64 el, .int .u64 wt] 136 (0, 0)) :: R))
    clear H3
    (try clear cc1_); (try clear cc2_); (try clear cc3_); (try clear cc4_); (try clear cc5_); (try clear cc6_); (try clear cc7_)
    have cc1_ := HH.out.cells
    have cc5_ := HH.out.r5.cells
    go_wp2_with fail
    go_wp2_with fail
    refine wp_region_reg none HH.out (by kernel_rfl) ?_
    intro wm H9_
    replace HH := Lib.hid H9_
    clear H9_
    refine reg_p (i := 0) rfl (by kernel_rfl) (fun _ _ _ _ h => h) HH.out (fun K hK => ?_)
    go_simp
    (first | refine hK _ ?_ | (apply Exists.intro; refine ⟨?_, hK _ ?_⟩; focus intro wx; first | (go_simp; rfl) | rfl)); clear hK K
    refine reg_p (i := 1) rfl (by kernel_rfl) (fun _ _ _ _ h => h) HH.out (fun K hK => ?_)
    go_simp
    (first | refine hK _ ?_ | (apply Exists.intro; refine ⟨?_, hK _ ?_⟩; focus intro wx; first | (go_simp; rfl) | rfl)); clear hK K
    refine reg_p (i := 2) rfl (by kernel_rfl) (fun _ _ _ _ h => h) HH.out (fun K hK => ?_)
    go_simp
    (first | refine hK _ ?_ | (apply Exists.intro; refine ⟨?_, hK _ ?_⟩; focus intro wx; first | (go_simp; rfl) | rfl)); clear hK K
    refine mixk_q (i := 3) rfl (by kernel_rfl) (fun _ _ _ _ h => h) HH.out (fun K hK => ?_)
    go_simp
    (first | refine hK _ ?_ | (apply Exists.intro; refine ⟨?_, hK _ ?_⟩; focus intro wx hx; have x1_ := hx.cells; have x5_ := hx.r5.cells; first | (go_simp; first | rfl | exact ⟨rfl, rfl⟩) | rfl | exact ⟨rfl, rfl⟩)); clear hK K
    refine mixk_q (i := 4) rfl (by kernel_rfl) (fun _ _ _ _ h => h) HH.out (fun K hK => ?_)
    go_simp
    (first | refine hK _ ?_ | (apply Exists.intro; refine ⟨?_, hK _ ?_⟩; focus intro wx hx; have x1_ := hx.cells; have x5_ := hx.r5.cells; first | (go_simp; first | rfl | exact ⟨rfl, rfl⟩) | rfl | exact ⟨rfl, rfl⟩)); clear hK K
    refine mixk_q (i := 5) rfl (by kernel_rfl) (fun _ _ _ _ h => h) HH.out (fun K hK => ?_)
    go_simp
    (first | refine hK _ ?_ | (apply Exists.intro; refine ⟨?_, hK _ ?_⟩; focus intro wx hx; first | (first | (go_at_call 101; refine (refNext_c wx s.st ⟨decide (3 ≤ s.p.n), ov, lz, st8, x.fl, hd, rm, s.rounds, el, wt⟩ hsg.out).mono ?_; rw [hnx.out]; rintro e wy ⟨rfl, hbel⟩; exact ⟨rfl, (by first | exact .same hbel | exact .drew hbel | exact .below hbel : Kp wx wy)⟩)) | (go_simp; first | rfl | exact ⟨rfl, rfl⟩) | rfl | exact ⟨rfl, rfl⟩)); clear hK K
    refine reg_p (i := 6) rfl (by kernel_rfl) (fun _ _ _ _ h => h) HH.out (fun K hK => ?_)
    go_simp
    (first | refine hK _ ?_ | (apply Exists.intro; refine ⟨?_, hK _ ?_⟩; focus intro wx; first | (go_simp; rfl) | rfl)); clear hK K
    refine mixk_done (by kernel_rfl) (fun w7_ hk => ?_) _
    replace HH := Lib.hid (hk _ _ HH.out)
    clear hk
    (try clear cc1_); (try clear cc2_); (try clear cc3_); (try clear cc4_); (try clear cc5_); (try clear cc6_); (try clear cc7_)
    have cc1_ := HH.out.cells
    have cc4_ := HH.out.r4.cells
    by_cases hn : nx = s.st
    · have bn : (nx == s.st) = true := by simpa using hn
      replace hn := Lib.hid hn
      (try clear cc1_); (try clear cc2_); (try clear cc3_); (try clear cc4_); (try clear cc5_); (try clear cc6_); (try clear cc7_)
      have cc1_ := HH.out.cells
      go_wp2_with fail
      first | go_end0 | ((try simp only [Exit.inBlock, Exit.then]); refine bodyPost_ret (results_none rfl _ _ _) rfl ?_)
      obtain rfl : tg = s := by rw [← htg.out, if_pos hn.out]
      exact ⟨mm, l1, l0, v, hR.out.keep hto.out rfl rfl rfl hR.out.rd (Nat.le_succ _), rfl, (Own.pm (HH.out) (by with_reducible repeat (first | exact .refl _ | exact .nil _ | refine .here ?_ | refine .at2 ?_ | refine .at3 ?_ | refine .at4 ?_ | refine .at5 ?_ | refine .at6 ?_ | refine .at7 ?_ | refine .at8 ?_ | refine .skip ?_)))⟩
    · have bn : (nx == s.st) = false := by simpa using hn
      replace hn := Lib.hid hn
      by_cases h6 : s.st = 6
      · have b6 : (s.st == 6) = true := by simpa using h6
        replace h6 := Lib.hid h6
        have h5 : ¬ s.st = 5 := fun h => absurd (h.symm.trans h6.out) (by decide)
        have b5 : (s.st == 5) = false := by simpa using h5
        replace h5 := Lib.hid h5
        by_cases h4 : nx = 4
        · have b4 : (nx == 4) = true := by simpa using h4
          replace h4 := Lib.hid h4
          have hk : ¬ nx = 6 := fun h => hn.out (h.trans h6.out.symm)
          have bk : (nx == 6) = false := by simpa using hk
          replace hk := Lib.hid hk
          (try clear cc1_); (try clear cc2_); (try clear cc3_); (try clear cc4_); (try clear cc5_); (try clear cc6_); (try clear cc7_)
          have cc1_ := HH.out.cells
          have cc4_ := HH.out.r4.cells
          go_wp2_with (with_reducible refine stop_st ?_)
          refine Stop.go ?_
          refine wpList_storek_own (k := 18) (#[.int .u64 s.bd.hi, .int .u64 18446744073709551615, .int .u64 18446744073709551615]) rfl rfl HH.out (by kernel_rfl) (by simp) (by repeat (first | (refine List.forall_mem_cons.2 ⟨(by first | with_reducible assumption | rfl), ?_⟩) | exact fun _ h => absurd h List.not_mem_nil)) ?_
          intro w8_ H9_
          replace HH := Lib.hid (show Own _ _ ((pts b (.cells #[.int .u64 s.c.mss, .int .u64 s.c.init, .int .u64 s.c.reorder, .int .u64 s.c.window, .int .u64 s.c.probe, .int .u64 s.c.loss, .int .i64 s.st, .int .u64 s.since, .int .u64 s.rounds, .int .u64 m.win, .bool m.least, .int .u64 m.now, v, .pointer (some ⟨yb, 0, none⟩), .int .u64 s.k.mark, .int .u64 s.k.n, .int .u64 s.p.best, .int .i64 s.p.n, .int .u64 s.bd.short.hi, .int .u64 s.bd.short.lo, .int .u64 s.bd.short.bw, .int .u64 s.acked, .int .u64 s.lost, .int .u64 s.cwnd, .int .u64 s.kept, .int .u64 s.ended] 76 (0, 0)) :: slc 151 2 v (encs encR m.l) :: rcyc yb mm l1 l0 :: pts g (.cells #[.int .u64 x.now, .int .u64 x.sd, .int .u64 x.si, .int .u64 x.sr, .int .u64 x.rtt, .bool x.slim, .bool x.some, .int .u64 x.deliv, .int .u64 x.acked, .int .u64 x.lost, .int .u64 x.fl] 41 (0, 0)) :: pts sb (.cells #[.bool (decide (3 ≤ s.p.n)), .bool ov, .bool lz, .bool st8, .int .u64 x.fl, .int .u64 hd, .int .u64 rm, .int .u64 s.rounds, .int .u64 el, .int .u64 wt] 136 (0, 0)) :: R)) from H9_)
          clear H9_
          (try clear cc1_); (try clear cc2_); (try clear cc3_); (try clear cc4_); (try clear cc5_); (try clear cc6_); (try clear cc7_)
          have cc1_ := HH.out.cells
          have cc4_ := HH.out.r4.cells
          go_wp2_with (with_reducible refine stop_st ?_)
          refine Stop.go ?_
          refine wpList_store1_own (v := .int .u64 x.now) (k := 25) rfl rfl HH.out (by kernel_rfl) (by simp) (by first | rfl | assumption) ?_
          intro w9_ H9_
          replace HH := Lib.hid H9_
          clear H9_
          simp only [List.setIfInBounds_toArray, List.set_cons_succ, List.set_cons_zero] at HH
          (try clear cc1_); (try clear cc2_); (try clear cc3_); (try clear cc4_); (try clear cc5_); (try clear cc6_); (try clear cc7_)
          have cc1_ := HH.out.cells
          have cc4_ := HH.out.r4.cells
          go_wp2_with fail
          go_wp2_with fail
          refine wp_region_reg (some 12) HH.out (by kernel_rfl) ?_
          intro wm H9_
          replace HH := Lib.hid H9_
          clear H9_
          refine reg_p (i := 0) rfl (by kernel_rfl) (fun _ _ _ _ h => h) HH.out (fun K hK => ?_)
          go_simp
          (first | refine hK _ ?_ | (apply Exists.intro; refine ⟨?_, hK _ ?_⟩; focus intro wx; first | (go_simp; rfl) | rfl)); clear hK K
          refine reg_p (i := 1) rfl (by kernel_rfl) (fun _ _ _ _ h => h) HH.out (fun K hK => ?_)
          go_simp
          (first | refine hK _ ?_ | (apply Exists.intro; refine ⟨?_, hK _ ?_⟩; focus intro wx; first | (go_simp; rfl) | rfl)); clear hK K
          refine reg_p (i := 2) rfl (by kernel_rfl) (fun _ _ _ _ h => h) HH.out (fun K hK => ?_)
          go_simp
          (first | refine hK _ ?_ | (apply Exists.intro; refine ⟨?_, hK _ ?_⟩; focus intro wx; first | (go_simp; rfl) | rfl)); clear hK K
          refine reg_p (i := 3) rfl (by kernel_rfl) (fun _ _ _ _ h => h) HH.out (fun K hK => ?_)
          go_simp
          (first | refine hK _ ?_ | (apply Exists.intro; refine ⟨?_, hK _ ?_⟩; focus intro wx; first | (go_simp; rfl) | rfl)); clear hK K
          refine mixk_q (i := 4) rfl (by kernel_rfl) (fun _ _ _ _ h => h) HH.out (fun K hK => ?_)
          go_simp
          (first | refine hK _ ?_ | (apply Exists.intro; refine ⟨?_, hK _ ?_⟩; focus intro wx hx; have x1_ := hx.cells; first | (go_simp; first | rfl | exact ⟨rfl, rfl⟩) | rfl | exact ⟨rfl, rfl⟩)); clear hK K
          refine reg_p (i := 5) rfl (by kernel_rfl) (fun _ _ _ _ h => h) HH.out (fun K hK => ?_)
          go_simp
          (first | refine hK _ ?_ | (apply Exists.intro; refine ⟨?_, hK _ ?_⟩; focus intro wx; first | (go_simp; rfl) | rfl)); clear hK K
          refine reg_p (i := 6) rfl (by kernel_rfl) (fun _ _ _ _ h => h) HH.out (fun K hK => ?_)
          go_simp
          (first | refine hK _ ?_ | (apply Exists.intro; refine ⟨?_, hK _ ?_⟩; focus intro wx; first | (go_simp; rfl) | rfl)); clear hK K
          refine reg_p (i := 7) rfl (by kernel_rfl) (fun _ _ _ _ h => h) HH.out (fun K hK => ?_)
          go_simp
          (first | refine hK _ ?_ | (apply Exists.intro; refine ⟨?_, hK _ ?_⟩; focus intro wx; first | (go_simp; rfl) | rfl)); clear hK K
          refine mixk_q (i := 8) rfl (by kernel_rfl) (fun _ _ _ _ h => h) HH.out (fun K hK => ?_)
          go_simp
          (first | refine hK _ ?_ | (apply Exists.intro; refine ⟨?_, hK _ ?_⟩; focus intro wx hx; have x1_ := hx.cells; first | (go_simp; first | rfl | exact ⟨rfl, rfl⟩) | rfl | exact ⟨rfl, rfl⟩)); clear hK K
          refine reg_p (i := 9) rfl (by kernel_rfl) (fun _ _ _ _ h => h) HH.out (fun K hK => ?_)
          go_simp
          (first | refine hK _ ?_ | (apply Exists.intro; refine ⟨?_, hK _ ?_⟩; focus intro wx; first | (go_simp; rfl) | rfl)); clear hK K
          refine reg_p (i := 10) rfl (by kernel_rfl) (fun _ _ _ _ h => h) HH.out (fun K hK => ?_)
          go_simp
          (first | refine hK _ ?_ | (apply Exists.intro; refine ⟨?_, hK _ ?_⟩; focus intro wx; first | (go_simp; rfl) | rfl)); clear hK K
          refine reg_p (i := 11) rfl (by kernel_rfl) (fun _ _ _ _ h => h) HH.out (fun K hK => ?_)
          go_simp
          (first | refine hK _ ?_ | (apply Exists.intro; refine ⟨?_, hK _ ?_⟩; focus intro wx; first | (go_simp; rfl) | rfl)); clear hK K
          refine reg_l none (i := 12) rfl (by kernel_rfl) (fun wn hk K hK => ?_)
          replace HH := Lib.hid (hk _ _ HH.out)
          clear hk
          have hx := HH.out
          have x1_ := hx.cells
          go_simp
          replace HH := Lib.hid (HH.out.set 23 (.int .u64 (max s.cwnd s.kept)))
          simp only [List.setIfInBounds_toArray, List.set_cons_succ, List.set_cons_zero] at HH
          generalize wn.setCell ⟨b, 23, none⟩ (.int .u64 (max s.cwnd s.kept)) = wm at *
          clear hx x1_
          refine hK _ _ _ HH.out (.inl (by kernel_rfl)) ?_
          clear hK K
          refine mixk_done (by kernel_rfl) (fun w10_ hk => ?_) _
          replace HH := Lib.hid (hk _ _ HH.out)
          clear hk
          replace HH := Lib.hid ((Own.pm (HH.out) (by with_reducible repeat (first | exact .refl _ | exact .nil _ | refine .here ?_ | refine .at2 ?_ | refine .at3 ?_ | refine .at4 ?_ | refine .at5 ?_ | refine .at6 ?_ | refine .at7 ?_ | refine .at8 ?_ | refine .skip ?_))) : Own _ _ (pts b (.cells #[.int .u64 s.c.mss, .int .u64 s.c.init, .int .u64 s.c.reorder, .int .u64 s.c.window, .int .u64 s.c.probe, .int .u64 s.c.loss, .int .i64 s.st, .int .u64 s.since, .int .u64 s.rounds, .int .u64 m.win, .bool m.least, .int .u64 m.now, v, .pointer (some ⟨yb, 0, none⟩), .int .u64 s.k.mark, .int .u64 s.k.n, .int .u64 s.p.best, .int .i64 s.p.n, .int .u64 s.bd.short.hi, .int .u64 s.bd.short.lo, .int .u64 s.bd.short.bw, .int .u64 s.acked, .int .u64 s.lost, .int .u64 (max s.cwnd s.kept), .int .u64 s.kept, .int .u64 x.now] 76 (0, 0)) :: slc 151 2 v (encs encR m.l) :: rcyc yb mm l1 l0 :: pts g (.cells #[.int .u64 x.now, .int .u64 x.sd, .int .u64 x.si, .int .u64 x.sr, .int .u64 x.rtt, .bool x.slim, .bool x.some, .int .u64 x.deliv, .int .u64 x.acked, .int .u64 x.lost, .int .u64 x.fl] 41 (0, 0)) :: pts sb (.cells #[.bool (decide (3 ≤ s.p.n)), .bool ov, .bool lz, .bool st8, .int .u64 x.fl, .int .u64 hd, .int .u64 rm, .int .u64 s.rounds, .int .u64 el, .int .u64 wt] 136 (0, 0)) :: R))
          (try clear cc1_); (try clear cc2_); (try clear cc3_); (try clear cc4_); (try clear cc5_); (try clear cc6_); (try clear cc7_)
          have cc1_ := HH.out.cells
          have cc4_ := HH.out.r4.cells
          go_wp2_with (with_reducible refine stop_st ?_)
          refine Stop.go ?_
          refine wpList_store1_own (v := .int .i64 nx) (k := 6) rfl rfl HH.out (by kernel_rfl) (by simp) (by first | rfl | assumption) ?_
          intro w11_ H9_
          replace HH := Lib.hid H9_
          clear H9_
          simp only [List.setIfInBounds_toArray, List.set_cons_succ, List.set_cons_zero] at HH
          (try clear cc1_); (try clear cc2_); (try clear cc3_); (try clear cc4_); (try clear cc5_); (try clear cc6_); (try clear cc7_)
          have cc1_ := HH.out.cells
          have cc4_ := HH.out.r4.cells
          go_wp2_with (with_reducible refine stop_st ?_)
          refine Stop.go ?_
          refine wpList_store1_own (v := .int .u64 x.now) (k := 7) rfl rfl HH.out (by kernel_rfl) (by simp) (by first | rfl | assumption) ?_
          intro w12_ H9_
          replace HH := Lib.hid H9_
          clear H9_
          simp only [List.setIfInBounds_toArray, List.set_cons_succ, List.set_cons_zero] at HH
          (try clear cc1_); (try clear cc2_); (try clear cc3_); (try clear cc4_); (try clear cc5_); (try clear cc6_); (try clear cc7_)
          have cc1_ := HH.out.cells
          have cc4_ := HH.out.r4.cells
          go_wp2_with (with_reducible refine stop_st ?_)
          refine Stop.go ?_
          refine wpList_store1_own (v := .int .u64 0) (k := 8) rfl rfl HH.out (by kernel_rfl) (by simp) (by first | rfl | assumption) ?_
          intro w13_ H9_
          replace HH := Lib.hid H9_
          clear H9_
          simp only [List.setIfInBounds_toArray, List.set_cons_succ, List.set_cons_zero] at HH
          go_wp2_with fail
          first | go_end0 | ((try simp only [Exit.inBlock, Exit.then]); refine bodyPost_ret (results_none rfl _ _ _) rfl ?_)
          obtain rfl : tg = { s with bd := s.bd.short, ended := x.now, cwnd := (max s.cwnd s.kept), st := nx, since := x.now, rounds := 0 } := by have := h6.out; have := h4.out; have := hk.out; rw [← htg.out, if_neg hn.out]; simp [Eng.leave, Eng.enter, Eng.comes, *]
          exact ⟨mm, l1, l0, v, hR.out.keep hto.out rfl rfl rfl (Int.natCast_nonneg _) (Nat.le_succ _), rfl, ((Own.pm (HH.out) (by with_reducible repeat (first | exact .refl _ | exact .nil _ | refine .here ?_ | refine .at2 ?_ | refine .at3 ?_ | refine .at4 ?_ | refine .at5 ?_ | refine .at6 ?_ | refine .at7 ?_ | refine .at8 ?_ | refine .skip ?_))) : Own ε _ (pts b (.cells #[.int .u64 s.c.mss, .int .u64 s.c.init, .int .u64 s.c.reorder, .int .u64 s.c.window, .int .u64 s.c.probe, .int .u64 s.c.loss, .int .i64 nx, .int .u64 x.now, .int .u64 0, .int .u64 m.win, .bool m.least, .int .u64 m.now, v, .pointer (some ⟨yb, 0, none⟩), .int .u64 s.k.mark, .int .u64 s.k.n, .int .u64 s.p.best, .int .i64 s.p.n, .int .u64 s.bd.short.hi, .int .u64 s.bd.short.lo, .int .u64 s.bd.short.bw, .int .u64 s.acked, .int .u64 s.lost, .int .u64 (max s.cwnd s.kept), .int .u64 s.kept, .int .u64 x.now] 76 (0, 0)) :: slc 151 2 v (encs encR m.l) :: rcyc yb mm l1 l0 :: R))⟩
        · have b4 : (nx == 4) = false := by simpa using h4
          replace h4 := Lib.hid h4
          have hk : ¬ nx = 6 := fun h => hn.out (h.trans h6.out.symm)
          have bk : (nx == 6) = false := by simpa using hk
          replace hk := Lib.hid hk
          (try clear cc1_); (try clear cc2_); (try clear cc3_); (try clear cc4_); (try clear cc5_); (try clear cc6_); (try clear cc7_)
          have cc1_ := HH.out.cells
          have cc4_ := HH.out.r4.cells
          go_wp2_with (with_reducible refine stop_st ?_)
          refine Stop.go ?_
          refine wpList_store1_own (v := .int .u64 x.now) (k := 25) rfl rfl HH.out (by kernel_rfl) (by simp) (by first | rfl | assumption) ?_
          intro w14_ H9_
          replace HH := Lib.hid H9_
          clear H9_
          simp only [List.setIfInBounds_toArray, List.set_cons_succ, List.set_cons_zero] at HH
          (try clear cc1_); (try clear cc2_); (try clear cc3_); (try clear cc4_); (try clear cc5_); (try clear cc6_); (try clear cc7_)
          have cc1_ := HH.out.cells
          have cc4_ := HH.out.r4.cells
          go_wp2_with fail
          go_wp2_with fail
          refine wp_region_reg (some 12) HH.out (by kernel_rfl) ?_
          intro wm H9_
          replace HH := Lib.hid H9_
          clear H9_
          refine reg_p (i := 0) rfl (by kernel_rfl) (fun _ _ _ _ h => h) HH.out (fun K hK => ?_)
          go_simp
          (first | refine hK _ ?_ | (apply Exists.intro; refine ⟨?_, hK _ ?_⟩; focus intro wx; first | (go_simp; rfl) | rfl)); clear hK K
          refine reg_p (i := 1) rfl (by kernel_rfl) (fun _ _ _ _ h => h) HH.out (fun K hK => ?_)
          go_simp
          (first | refine hK _ ?_ | (apply Exists.intro; refine ⟨?_, hK _ ?_⟩; focus intro wx; first | (go_simp; rfl) | rfl)); clear hK K
          refine reg_p (i := 2) rfl (by kernel_rfl) (fun _ _ _ _ h => h) HH.out (fun K hK => ?_)
          go_simp
          (first | refine hK _ ?_ | (apply Exists.intro; refine ⟨?_, hK _ ?_⟩; focus intro wx; first | (go_simp; rfl) | rfl)); clear hK K
          refine reg_p (i := 3) rfl (by kernel_rfl) (fun _ _ _ _ h => h) HH.out (fun K hK => ?_)
          go_simp
          (first | refine hK _ ?_ | (apply Exists.intro; refine ⟨?_, hK _ ?_⟩; focus intro wx; first | (go_simp; rfl) | rfl)); clear hK K
          refine mixk_q (i := 4) rfl (by kernel_rfl) (fun _ _ _ _ h => h) HH.out (fun K hK => ?_)
          go_simp
          (first | refine hK _ ?_ | (apply Exists.intro; refine ⟨?_, hK _ ?_⟩; focus intro wx hx; have x1_ := hx.cells; first | (go_simp; first | rfl | exact ⟨rfl, rfl⟩) | rfl | exact ⟨rfl, rfl⟩)); clear hK K
          refine reg_p (i := 5) rfl (by kernel_rfl) (fun _ _ _ _ h => h) HH.out (fun K hK => ?_)
          go_simp
          (first | refine hK _ ?_ | (apply Exists.intro; refine ⟨?_, hK _ ?_⟩; focus intro wx; first | (go_simp; rfl) | rfl)); clear hK K
          refine reg_p (i := 6) rfl (by kernel_rfl) (fun _ _ _ _ h => h) HH.out (fun K hK => ?_)
          go_simp
          (first | refine hK _ ?_ | (apply Exists.intro; refine ⟨?_, hK _ ?_⟩; focus intro wx; first | (go_simp; rfl) | rfl)); clear hK K
          refine reg_p (i := 7) rfl (by kernel_rfl) (fun _ _ _ _ h => h) HH.out (fun K hK => ?_)
          go_simp
          (first | refine hK _ ?_ | (apply Exists.intro; refine ⟨?_, hK _ ?_⟩; focus intro wx; first | (go_simp; rfl) | rfl)); clear hK K
          refine mixk_q (i := 8) rfl (by kernel_rfl) (fun _ _ _ _ h => h) HH.out (fun K hK => ?_)
          go_simp
          (first | refine hK _ ?_ | (apply Exists.intro; refine ⟨?_, hK _ ?_⟩; focus intro wx hx; have x1_ := hx.cells; first | (go_simp; first | rfl | exact ⟨rfl, rfl⟩) | rfl | exact ⟨rfl, rfl⟩)); clear hK K
          refine reg_p (i := 9) rfl (by kernel_rfl) (fun _ _ _ _ h => h) HH.out (fun K hK => ?_)
          go_simp
          (first | refine hK _ ?_ | (apply Exists.intro; refine ⟨?_, hK _ ?_⟩; focus intro wx; first | (go_simp; rfl) | rfl)); clear hK K
          refine reg_p (i := 10) rfl (by kernel_rfl) (fun _ _ _ _ h => h) HH.out (fun K hK => ?_)
          go_simp
          (first | refine hK _ ?_ | (apply Exists.intro; refine ⟨?_, hK _ ?_⟩; focus intro wx; first | (go_simp; rfl) | rfl)); clear hK K
          refine reg_p (i := 11) rfl (by kernel_rfl) (fun _ _ _ _ h => h) HH.out (fun K hK => ?_)
          go_simp
          (first | refine hK _ ?_ | (apply Exists.intro; refine ⟨?_, hK _ ?_⟩; focus intro wx; first | (go_simp; rfl) | rfl)); clear hK K
          refine reg_l none (i := 12) rfl (by kernel_rfl) (fun wn hk K hK => ?_)
          replace HH := Lib.hid (hk _ _ HH.out)
          clear hk
          have hx := HH.out
          have x1_ := hx.cells
          go_simp
          replace HH := Lib.hid (HH.out.set 23 (.int .u64 (max s.cwnd s.kept)))
          simp only [List.setIfInBounds_toArray, List.set_cons_succ, List.set_cons_zero] at HH
          generalize wn.setCell ⟨b, 23, none⟩ (.int .u64 (max s.cwnd s.kept)) = wm at *
          clear hx x1_
          refine hK _ _ _ HH.out (.inl (by kernel_rfl)) ?_
          clear hK K
          refine mixk_done (by kernel_rfl) (fun w15_ hk => ?_) _
          replace HH := Lib.hid (hk _ _ HH.out)
          clear hk
          replace HH := Lib.hid ((Own.pm (HH.out) (by with_reducible repeat (first | exact .refl _ | exact .nil _ | refine .here ?_ | refine .at2 ?_ | refine .at3 ?_ | refine .at4 ?_ | refine .at5 ?_ | refine .at6 ?_ | refine .at7 ?_ | refine .at8 ?_ | refine .skip ?_))) : Own _ _ (pts b (.cells #[.int .u64 s.c.mss, .int .u64 s.c.init, .int .u64 s.c.reorder, .int .u64 s.c.window, .int .u64 s.c.probe, .int .u64 s.c.loss, .int .i64 s.st, .int .u64 s.since, .int .u64 s.rounds, .int .u64 m.win, .bool m.least, .int .u64 m.now, v, .pointer (some ⟨yb, 0, none⟩), .int .u64 s.k.mark, .int .u64 s.k.n, .int .u64 s.p.best, .int .i64 s.p.n, .int .u64 s.bd.hi, .int .u64 s.bd.lo, .int .u64 s.bd.bw, .int .u64 s.acked, .int .u64 s.lost, .int .u64 (max s.cwnd s.kept), .int .u64 s.kept, .int .u64 x.now] 76 (0, 0)) :: slc 151 2 v (encs encR m.l) :: rcyc yb mm l1 l0 :: pts g (.cells #[.int .u64 x.now, .int .u64 x.sd, .int .u64 x.si, .int .u64 x.sr, .int .u64 x.rtt, .bool x.slim, .bool x.some, .int .u64 x.deliv, .int .u64 x.acked, .int .u64 x.lost, .int .u64 x.fl] 41 (0, 0)) :: pts sb (.cells #[.bool (decide (3 ≤ s.p.n)), .bool ov, .bool lz, .bool st8, .int .u64 x.fl, .int .u64 hd, .int .u64 rm, .int .u64 s.rounds, .int .u64 el, .int .u64 wt] 136 (0, 0)) :: R))
          (try clear cc1_); (try clear cc2_); (try clear cc3_); (try clear cc4_); (try clear cc5_); (try clear cc6_); (try clear cc7_)
          have cc1_ := HH.out.cells
          have cc4_ := HH.out.r4.cells
          go_wp2_with (with_reducible refine stop_st ?_)
          refine Stop.go ?_
          refine wpList_store1_own (v := .int .i64 nx) (k := 6) rfl rfl HH.out (by kernel_rfl) (by simp) (by first | rfl | assumption) ?_
          intro w16_ H9_
          replace HH := Lib.hid H9_
          clear H9_
          simp only [List.setIfInBounds_toArray, List.set_cons_succ, List.set_cons_zero] at HH
          (try clear cc1_); (try clear cc2_); (try clear cc3_); (try clear cc4_); (try clear cc5_); (try clear cc6_); (try clear cc7_)
          have cc1_ := HH.out.cells
          have cc4_ := HH.out.r4.cells
          go_wp2_with (with_reducible refine stop_st ?_)
          refine Stop.go ?_
          refine wpList_store1_own (v := .int .u64 x.now) (k := 7) rfl rfl HH.out (by kernel_rfl) (by simp) (by first | rfl | assumption) ?_
          intro w17_ H9_
          replace HH := Lib.hid H9_
          clear H9_
          simp only [List.setIfInBounds_toArray, List.set_cons_succ, List.set_cons_zero] at HH
          (try clear cc1_); (try clear cc2_); (try clear cc3_); (try clear cc4_); (try clear cc5_); (try clear cc6_); (try clear cc7_)
          have cc1_ := HH.out.cells
          have cc4_ := HH.out.r4.cells
          go_wp2_with (with_reducible refine stop_st ?_)
          refine Stop.go ?_
          refine wpList_store1_own (v := .int .u64 0) (k := 8) rfl rfl HH.out (by kernel_rfl) (by simp) (by first | rfl | assumption) ?_
          intro w18_ H9_
          replace HH := Lib.hid H9_
          clear H9_
          simp only [List.setIfInBounds_toArray, List.set_cons_succ, List.set_cons_zero] at HH
          go_wp2_with fail
          first | go_end0 | ((try simp only [Exit.inBlock, Exit.then]); refine bodyPost_ret (results_none rfl _ _ _) rfl ?_)
          obtain rfl : tg = { s with ended := x.now, cwnd := (max s.cwnd s.kept), st := nx, since := x.now, rounds := 0 } := by have := h6.out; have := h4.out; have := hk.out; rw [← htg.out, if_neg hn.out]; simp [Eng.leave, Eng.enter, Eng.comes, *]
          exact ⟨mm, l1, l0, v, hR.out.keep hto.out rfl rfl rfl (Int.natCast_nonneg _) (Nat.le_succ _), rfl, ((Own.pm (HH.out) (by with_reducible repeat (first | exact .refl _ | exact .nil _ | refine .here ?_ | refine .at2 ?_ | refine .at3 ?_ | refine .at4 ?_ | refine .at5 ?_ | refine .at6 ?_ | refine .at7 ?_ | refine .at8 ?_ | refine .skip ?_))) : Own ε _ (pts b (.cells #[.int .u64 s.c.mss, .int .u64 s.c.init, .int .u64 s.c.reorder, .int .u64 s.c.window, .int .u64 s.c.probe, .int .u64 s.c.loss, .int .i64 nx, .int .u64 x.now, .int .u64 0, .int .u64 m.win, .bool m.least, .int .u64 m.now, v, .pointer (some ⟨yb, 0, none⟩), .int .u64 s.k.mark, .int .u64 s.k.n, .int .u64 s.p.best, .int .i64 s.p.n, .int .u64 s.bd.hi, .int .u64 s.bd.lo, .int .u64 s.bd.bw, .int .u64 s.acked, .int .u64 s.lost, .int .u64 (max s.cwnd s.kept), .int .u64 s.kept, .int .u64 x.now] 76 (0, 0)) :: slc 151 2 v (encs encR m.l) :: rcyc yb mm l1 l0 :: R))⟩
      · have b6 : (s.st == 6) = false := by simpa using h6
        replace h6 := Lib.hid h6
        by_cases h5 : s.st = 5
        · have b5 : (s.st == 5) = true := by simpa using h5
          replace h5 := Lib.hid h5
          by_cases h2 : nx = 2
          · have b2 : (nx == 2) = true := by simpa using h2
            replace h2 := Lib.hid h2
            (try clear cc1_); (try clear cc2_); (try clear cc3_); (try clear cc4_); (try clear cc5_); (try clear cc6_); (try clear cc7_)
            have cc1_ := HH.out.cells
            go_wp2_with fail
            refine (rcycNext_c ε _ _ yb mm l1 l0 hmb.out HH.out.r3).mono ?_
            rintro e w19_ ⟨rfl, H9_⟩
            replace HH := Lib.hid H9_
            clear H9_
            replace HH := Lib.hid ((Own.pm (HH.out) (by with_reducible repeat (first | exact .refl _ | exact .nil _ | refine .here ?_ | refine .at2 ?_ | refine .at3 ?_ | refine .at4 ?_ | refine .at5 ?_ | refine .at6 ?_ | refine .at7 ?_ | refine .at8 ?_ | refine .skip ?_))) : Own ε _ (pts b (.cells #[.int .u64 s.c.mss, .int .u64 s.c.init, .int .u64 s.c.reorder, .int .u64 s.c.window, .int .u64 s.c.probe, .int .u64 s.c.loss, .int .i64 s.st, .int .u64 s.since, .int .u64 s.rounds, .int .u64 m.win, .bool m.least, .int .u64 m.now, v, .pointer (some ⟨yb, 0, none⟩), .int .u64 s.k.mark, .int .u64 s.k.n, .int .u64 s.p.best, .int .i64 s.p.n, .int .u64 s.bd.hi, .int .u64 s.bd.lo, .int .u64 s.bd.bw, .int .u64 s.acked, .int .u64 s.lost, .int .u64 s.cwnd, .int .u64 s.kept, .int .u64 s.ended] 76 (0, 0)) :: slc 151 2 v (encs encR m.l) :: rcyc yb (mm + 1) l0 [] :: pts g (.cells #[.int .u64 x.now, .int .u64 x.sd, .int .u64 x.si, .int .u64 x.sr, .int .u64 x.rtt, .bool x.slim, .bool x.some, .int .u64 x.deliv, .int .u64 x.acked, .int .u64 x.lost, .int .u64 x.fl] 41 (0, 0)) :: pts sb (.cells #[.bool (decide (3 ≤ s.p.n)), .bool ov, .bool lz, .bool st8, .int .u64 x.fl, .int .u64 hd, .int .u64 rm, .int .u64 s.rounds, .int .u64 el, .int .u64 wt] 136 (0, 0)) :: R))
            have h4 : ¬ nx = 4 := fun h => absurd (h.symm.trans h2.out) (by decide)
            have b4 : (nx == 4) = false := by simpa using h4
            replace h4 := Lib.hid h4
            have hk : ¬ nx = 6 := fun h => absurd (h.symm.trans h2.out) (by decide)
            have bk : (nx == 6) = false := by simpa using hk
            replace hk := Lib.hid hk
            (try clear cc1_); (try clear cc2_); (try clear cc3_); (try clear cc4_); (try clear cc5_); (try clear cc6_); (try clear cc7_)
            have cc1_ := HH.out.cells
            have cc4_ := HH.out.r4.cells
            go_wp2_with (with_reducible refine stop_st ?_)
            refine Stop.go ?_
            refine wpList_store1_own (v := .int .i64 nx) (k := 6) rfl rfl HH.out (by kernel_rfl) (by simp) (by first | rfl | assumption) ?_
            intro w20_ H9_
            replace HH := Lib.hid H9_
            clear H9_
            simp only [List.setIfInBounds_toArray, List.set_cons_succ, List.set_cons_zero] at HH
            (try clear cc1_); (try clear cc2_); (try clear cc3_); (try clear cc4_); (try clear cc5_); (try clear cc6_); (try clear cc7_)
            have cc1_ := HH.out.cells
            have cc4_ := HH.out.r4.cells
            go_wp2_with (with_reducible refine stop_st ?_)
            refine Stop.go ?_
            refine wpList_store1_own (v := .int .u64 x.now) (k := 7) rfl rfl HH.out (by kernel_rfl) (by simp) (by first | rfl | assumption) ?_
            intro w21_ H9_
            replace HH := Lib.hid H9_
            clear H9_
            simp only [List.setIfInBounds_toArray, List.set_cons_succ, List.set_cons_zero] at HH
            (try clear cc1_); (try clear cc2_); (try clear cc3_); (try clear cc4_); (try clear cc5_); (try clear cc6_); (try clear cc7_)
            have cc1_ := HH.out.cells
            have cc4_ := HH.out.r4.cells
            go_wp2_with (with_reducible refine stop_st ?_)
            refine Stop.go ?_
            refine wpList_store1_own (v := .int .u64 0) (k := 8) rfl rfl HH.out (by kernel_rfl) (by simp) (by first | rfl | assumption) ?_
            intro w22_ H9_
            replace HH := Lib.hid H9_
            clear H9_
            simp only [List.setIfInBounds_toArray, List.set_cons_succ, List.set_cons_zero] at HH
            go_wp2_with fail
            first | go_end0 | ((try simp only [Exit.inBlock, Exit.then]); refine bodyPost_ret (results_none rfl _ _ _) rfl ?_)
            obtain rfl : tg = { s with r := s.r.next, st := nx, since := x.now, rounds := 0 } := by have := h6.out; have := h5.out; have := h2.out; have := h4.out; have := hk.out; rw [← htg.out, if_neg hn.out]; simp [Eng.leave, Eng.enter, Eng.comes, *]
            exact ⟨(mm + 1), l0, [], v, hR.out.next hK hto.out rfl rfl rfl (Int.natCast_nonneg _), rfl, ((Own.pm (HH.out) (by with_reducible repeat (first | exact .refl _ | exact .nil _ | refine .here ?_ | refine .at2 ?_ | refine .at3 ?_ | refine .at4 ?_ | refine .at5 ?_ | refine .at6 ?_ | refine .at7 ?_ | refine .at8 ?_ | refine .skip ?_))) : Own ε _ (pts b (.cells #[.int .u64 s.c.mss, .int .u64 s.c.init, .int .u64 s.c.reorder, .int .u64 s.c.window, .int .u64 s.c.probe, .int .u64 s.c.loss, .int .i64 nx, .int .u64 x.now, .int .u64 0, .int .u64 m.win, .bool m.least, .int .u64 m.now, v, .pointer (some ⟨yb, 0, none⟩), .int .u64 s.k.mark, .int .u64 s.k.n, .int .u64 s.p.best, .int .i64 s.p.n, .int .u64 s.bd.hi, .int .u64 s.bd.lo, .int .u64 s.bd.bw, .int .u64 s.acked, .int .u64 s.lost, .int .u64 s.cwnd, .int .u64 s.kept, .int .u64 s.ended] 76 (0, 0)) :: slc 151 2 v (encs encR m.l) :: rcyc yb (mm + 1) l0 [] :: R))⟩
          · have b2 : (nx == 2) = false := by simpa using h2
            replace h2 := Lib.hid h2
            by_cases h4 : nx = 4
            · have b4 : (nx == 4) = true := by simpa using h4
              replace h4 := Lib.hid h4
              have hk : ¬ nx = 6 := fun h => absurd (h.symm.trans h4.out) (by decide)
              have bk : (nx == 6) = false := by simpa using hk
              replace hk := Lib.hid hk
              (try clear cc1_); (try clear cc2_); (try clear cc3_); (try clear cc4_); (try clear cc5_); (try clear cc6_); (try clear cc7_)
              have cc1_ := HH.out.cells
              have cc4_ := HH.out.r4.cells
              go_wp2_with (with_reducible refine stop_st ?_)
              refine Stop.go ?_
              refine wpList_storek_own (k := 18) (#[.int .u64 s.bd.hi, .int .u64 18446744073709551615, .int .u64 18446744073709551615]) rfl rfl HH.out (by kernel_rfl) (by simp) (by repeat (first | (refine List.forall_mem_cons.2 ⟨(by first | with_reducible assumption | rfl), ?_⟩) | exact fun _ h => absurd h List.not_mem_nil)) ?_
              intro w23_ H9_
              replace HH := Lib.hid (show Own _ _ ((pts b (.cells #[.int .u64 s.c.mss, .int .u64 s.c.init, .int .u64 s.c.reorder, .int .u64 s.c.window, .int .u64 s.c.probe, .int .u64 s.c.loss, .int .i64 s.st, .int .u64 s.since, .int .u64 s.rounds, .int .u64 m.win, .bool m.least, .int .u64 m.now, v, .pointer (some ⟨yb, 0, none⟩), .int .u64 s.k.mark, .int .u64 s.k.n, .int .u64 s.p.best, .int .i64 s.p.n, .int .u64 s.bd.short.hi, .int .u64 s.bd.short.lo, .int .u64 s.bd.short.bw, .int .u64 s.acked, .int .u64 s.lost, .int .u64 s.cwnd, .int .u64 s.kept, .int .u64 s.ended] 76 (0, 0)) :: slc 151 2 v (encs encR m.l) :: rcyc yb mm l1 l0 :: pts g (.cells #[.int .u64 x.now, .int .u64 x.sd, .int .u64 x.si, .int .u64 x.sr, .int .u64 x.rtt, .bool x.slim, .bool x.some, .int .u64 x.deliv, .int .u64 x.acked, .int .u64 x.lost, .int .u64 x.fl] 41 (0, 0)) :: pts sb (.cells #[.bool (decide (3 ≤ s.p.n)), .bool ov, .bool lz, .bool st8, .int .u64 x.fl, .int .u64 hd, .int .u64 rm, .int .u64 s.rounds, .int .u64 el, .int .u64 wt] 136 (0, 0)) :: R)) from H9_)
              clear H9_
              (try clear cc1_); (try clear cc2_); (try clear cc3_); (try clear cc4_); (try clear cc5_); (try clear cc6_); (try clear cc7_)
              have cc1_ := HH.out.cells
              have cc4_ := HH.out.r4.cells
              go_wp2_with (with_reducible refine stop_st ?_)
              refine Stop.go ?_
              refine wpList_store1_own (v := .int .i64 nx) (k := 6) rfl rfl HH.out (by kernel_rfl) (by simp) (by first | rfl | assumption) ?_
              intro w24_ H9_
              replace HH := Lib.hid H9_
              clear H9_
              simp only [List.setIfInBounds_toArray, List.set_cons_succ, List.set_cons_zero] at HH
              (try clear cc1_); (try clear cc2_); (try clear cc3_); (try clear cc4_); (try clear cc5_); (try clear cc6_); (try clear cc7_)
              have cc1_ := HH.out.cells
              have cc4_ := HH.out.r4.cells
              go_wp2_with (with_reducible refine stop_st ?_)
              refine Stop.go ?_
              refine wpList_store1_own (v := .int .u64 x.now) (k := 7) rfl rfl HH.out (by kernel_rfl) (by simp) (by first | rfl | assumption) ?_
              intro w25_ H9_
              replace HH := Lib.hid H9_
              clear H9_
              simp only [List.setIfInBounds_toArray, List.set_cons_succ, List.set_cons_zero] at HH
              (try clear cc1_); (try clear cc2_); (try clear cc3_); (try clear cc4_); (try clear cc5_); (try clear cc6_); (try clear cc7_)
              have cc1_ := HH.out.cells
              have cc4_ := HH.out.r4.cells
              go_wp2_with (with_reducible refine stop_st ?_)
              refine Stop.go ?_
              refine wpList_store1_own (v := .int .u64 0) (k := 8) rfl rfl HH.out (by kernel_rfl) (by simp) (by first | rfl | assumption) ?_
              intro w26_ H9_
              replace HH := Lib.hid H9_
              clear H9_
              simp only [List.setIfInBounds_toArray, List.set_cons_succ, List.set_cons_zero] at HH
              go_wp2_with fail
              first | go_end0 | ((try simp only [Exit.inBlock, Exit.then]); refine bodyPost_ret (results_none rfl _ _ _) rfl ?_)
              obtain rfl : tg = { s with bd := s.bd.short, st := nx, since := x.now, rounds := 0 } := by have := h6.out; have := h5.out; have := h2.out; have := h4.out; have := hk.out; rw [← htg.out, if_neg hn.out]; simp [Eng.leave, Eng.enter, Eng.comes, *]
              exact ⟨mm, l1, l0, v, hR.out.keep hto.out rfl rfl rfl (Int.natCast_nonneg _) (Nat.le_succ _), rfl, ((Own.pm (HH.out) (by with_reducible repeat (first | exact .refl _ | exact .nil _ | refine .here ?_ | refine .at2 ?_ | refine .at3 ?_ | refine .at4 ?_ | refine .at5 ?_ | refine .at6 ?_ | refine .at7 ?_ | refine .at8 ?_ | refine .skip ?_))) : Own ε _ (pts b (.cells #[.int .u64 s.c.mss, .int .u64 s.c.init, .int .u64 s.c.reorder, .int .u64 s.c.window, .int .u64 s.c.probe, .int .u64 s.c.loss, .int .i64 nx, .int .u64 x.now, .int .u64 0, .int .u64 m.win, .bool m.least, .int .u64 m.now, v, .pointer (some ⟨yb, 0, none⟩), .int .u64 s.k.mark, .int .u64 s.k.n, .int .u64 s.p.best, .int .i64 s.p.n, .int .u64 s.bd.short.hi, .int .u64 s.bd.short.lo, .int .u64 s.bd.short.bw, .int .u64 s.acked, .int .u64 s.lost, .int .u64 s.cwnd, .int .u64 s.kept, .int .u64 s.ended] 76 (0, 0)) :: slc 151 2 v (encs encR m.l) :: rcyc yb mm l1 l0 :: R))⟩
            · have b4 : (nx == 4) = false := by simpa using h4
              replace h4 := Lib.hid h4
              by_cases hk : nx = 6
              · have bk : (nx == 6) = true := by simpa using hk
                replace hk := Lib.hid hk
                (try clear cc1_); (try clear cc2_); (try clear cc3_); (try clear cc4_); (try clear cc5_); (try clear cc6_); (try clear cc7_)
                have cc1_ := HH.out.cells
                have cc4_ := HH.out.r4.cells
                go_wp2_with (with_reducible refine stop_st ?_)
                refine Stop.go ?_
                refine wpList_store1_own (v := .int .u64 s.cwnd) (k := 24) rfl rfl HH.out (by kernel_rfl) (by simp) (by first | rfl | assumption) ?_
                intro w27_ H9_
                replace HH := Lib.hid H9_
                clear H9_
                simp only [List.setIfInBounds_toArray, List.set_cons_succ, List.set_cons_zero] at HH
                (try clear cc1_); (try clear cc2_); (try clear cc3_); (try clear cc4_); (try clear cc5_); (try clear cc6_); (try clear cc7_)
                have cc1_ := HH.out.cells
                have cc4_ := HH.out.r4.cells
                go_wp2_with (with_reducible refine stop_st ?_)
                refine Stop.go ?_
                refine wpList_store1_own (v := .int .i64 nx) (k := 6) rfl rfl HH.out (by kernel_rfl) (by simp) (by first | rfl | assumption) ?_
                intro w28_ H9_
                replace HH := Lib.hid H9_
                clear H9_
                simp only [List.setIfInBounds_toArray, List.set_cons_succ, List.set_cons_zero] at HH
                (try clear cc1_); (try clear cc2_); (try clear cc3_); (try clear cc4_); (try clear cc5_); (try clear cc6_); (try clear cc7_)
                have cc1_ := HH.out.cells
                have cc4_ := HH.out.r4.cells
                go_wp2_with (with_reducible refine stop_st ?_)
                refine Stop.go ?_
                refine wpList_store1_own (v := .int .u64 x.now) (k := 7) rfl rfl HH.out (by kernel_rfl) (by simp) (by first | rfl | assumption) ?_
                intro w29_ H9_
                replace HH := Lib.hid H9_
                clear H9_
                simp only [List.setIfInBounds_toArray, List.set_cons_succ, List.set_cons_zero] at HH
                (try clear cc1_); (try clear cc2_); (try clear cc3_); (try clear cc4_); (try clear cc5_); (try clear cc6_); (try clear cc7_)
                have cc1_ := HH.out.cells
                have cc4_ := HH.out.r4.cells
                go_wp2_with (with_reducible refine stop_st ?_)
                refine Stop.go ?_
                refine wpList_store1_own (v := .int .u64 0) (k := 8) rfl rfl HH.out (by kernel_rfl) (by simp) (by first | rfl | assumption) ?_
                intro w30_ H9_
                replace HH := Lib.hid H9_
                clear H9_
                simp only [List.setIfInBounds_toArray, List.set_cons_succ, List.set_cons_zero] at HH
                go_wp2_with fail
                first | go_end0 | ((try simp only [Exit.inBlock, Exit.then]); refine bodyPost_ret (results_none rfl _ _ _) rfl ?_)
                obtain rfl : tg = { s with kept := s.cwnd, st := nx, since := x.now, rounds := 0 } := by have := h6.out; have := h5.out; have := h2.out; have := h4.out; have := hk.out; rw [← htg.out, if_neg hn.out]; simp [Eng.leave, Eng.enter, Eng.comes, *]
                exact ⟨mm, l1, l0, v, hR.out.keep hto.out rfl rfl rfl (Int.natCast_nonneg _) (Nat.le_succ _), rfl, ((Own.pm (HH.out) (by with_reducible repeat (first | exact .refl _ | exact .nil _ | refine .here ?_ | refine .at2 ?_ | refine .at3 ?_ | refine .at4 ?_ | refine .at5 ?_ | refine .at6 ?_ | refine .at7 ?_ | refine .at8 ?_ | refine .skip ?_))) : Own ε _ (pts b (.cells #[.int .u64 s.c.mss, .int .u64 s.c.init, .int .u64 s.c.reorder, .int .u64 s.c.window, .int .u64 s.c.probe, .int .u64 s.c.loss, .int .i64 nx, .int .u64 x.now, .int .u64 0, .int .u64 m.win, .bool m.least, .int .u64 m.now, v, .pointer (some ⟨yb, 0, none⟩), .int .u64 s.k.mark, .int .u64 s.k.n, .int .u64 s.p.best, .int .i64 s.p.n, .int .u64 s.bd.hi, .int .u64 s.bd.lo, .int .u64 s.bd.bw, .int .u64 s.acked, .int .u64 s.lost, .int .u64 s.cwnd, .int .u64 s.cwnd, .int .u64 s.ended] 76 (0, 0)) :: slc 151 2 v (encs encR m.l) :: rcyc yb mm l1 l0 :: R))⟩
              · have bk : (nx == 6) = false := by simpa using hk
                replace hk := Lib.hid hk
                (try clear cc1_); (try clear cc2_); (try clear cc3_); (try clear cc4_); (try clear cc5_); (try clear cc6_); (try clear cc7_)
                have cc1_ := HH.out.cells
                have cc4_ := HH.out.r4.cells
                go_wp2_with (with_reducible refine stop_st ?_)
                refine Stop.go ?_
                refine wpList_store1_own (v := .int .i64 nx) (k := 6) rfl rfl HH.out (by kernel_rfl) (by simp) (by first | rfl | assumption) ?_
                intro w31_ H9_
                replace HH := Lib.hid H9_
                clear H9_
                simp only [List.setIfInBounds_toArray, List.set_cons_succ, List.set_cons_zero] at HH
                (try clear cc1_); (try clear cc2_); (try clear cc3_); (try clear cc4_); (try clear cc5_); (try clear cc6_); (try clear cc7_)
                have cc1_ := HH.out.cells
                have cc4_ := HH.out.r4.cells
                go_wp2_with (with_reducible refine stop_st ?_)
                refine Stop.go ?_
                refine wpList_store1_own (v := .int .u64 x.now) (k := 7) rfl rfl HH.out (by kernel_rfl) (by simp) (by first | rfl | assumption) ?_
                intro w32_ H9_
                replace HH := Lib.hid H9_
                clear H9_
                simp only [List.setIfInBounds_toArray, List.set_cons_succ, List.set_cons_zero] at HH
                (try clear cc1_); (try clear cc2_); (try clear cc3_); (try clear cc4_); (try clear cc5_); (try clear cc6_); (try clear cc7_)
                have cc1_ := HH.out.cells
                have cc4_ := HH.out.r4.cells
                go_wp2_with (with_reducible refine stop_st ?_)
                refine Stop.go ?_
                refine wpList_store1_own (v := .int .u64 0) (k := 8) rfl rfl HH.out (by kernel_rfl) (by simp) (by first | rfl | assumption) ?_
                intro w33_ H9_
                replace HH := Lib.hid H9_
                clear H9_
                simp only [List.setIfInBounds_toArray, List.set_cons_succ, List.set_cons_zero] at HH
                go_wp2_with fail
                first | go_end0 | ((try simp only [Exit.inBlock, Exit.then]); refine bodyPost_ret (results_none rfl _ _ _) rfl ?_)
                obtain rfl : tg = { s with st := nx, since := x.now, rounds := 0 } := by have := h6.out; have := h5.out; have := h2.out; have := h4.out; have := hk.out; rw [← htg.out, if_neg hn.out]; simp [Eng.leave, Eng.enter, Eng.comes, *]
                exact ⟨mm, l1, l0, v, hR.out.keep hto.out rfl rfl rfl (Int.natCast_nonneg _) (Nat.le_succ _), rfl, ((Own.pm (HH.out) (by with_reducible repeat (first | exact .refl _ | exact .nil _ | refine .here ?_ | refine .at2 ?_ | refine .at3 ?_ | refine .at4 ?_ | refine .at5 ?_ | refine .at6 ?_ | refine .at7 ?_ | refine .at8 ?_ | refine .skip ?_))) : Own ε _ (pts b (.cells #[.int .u64 s.c.mss, .int .u64 s.c.init, .int .u64 s.c.reorder, .int .u64 s.c.window, .int .u64 s.c.probe, .int .u64 s.c.loss, .int .i64 nx, .int .u64 x.now, .int .u64 0, .int .u64 m.win, .bool m.least, .int .u64 m.now, v, .pointer (some ⟨yb, 0, none⟩), .int .u64 s.k.mark, .int .u64 s.k.n, .int .u64 s.p.best, .int .i64 s.p.n, .int .u64 s.bd.hi, .int .u64 s.bd.lo, .int .u64 s.bd.bw, .int .u64 s.acked, .int .u64 s.lost, .int .u64 s.cwnd, .int .u64 s.kept, .int .u64 s.ended] 76 (0, 0)) :: slc 151 2 v (encs encR m.l) :: rcyc yb mm l1 l0 :: R))⟩
        · have b5 : (s.st == 5) = false := by simpa using h5
          replace h5 := Lib.hid h5
          by_cases h4 : nx = 4
          · have b4 : (nx == 4) = true := by simpa using h4
            replace h4 := Lib.hid h4
            have hk : ¬ nx = 6 := fun h => absurd (h.symm.trans h4.out) (by decide)
            have bk : (nx == 6) = false := by simpa using hk
            replace hk := Lib.hid hk
            (try clear cc1_); (try clear cc2_); (try clear cc3_); (try clear cc4_); (try clear cc5_); (try clear cc6_); (try clear cc7_)
            have cc1_ := HH.out.cells
            have cc4_ := HH.out.r4.cells
            go_wp2_with (with_reducible refine stop_st ?_)
            refine Stop.go ?_
            refine wpList_storek_own (k := 18) (#[.int .u64 s.bd.hi, .int .u64 18446744073709551615, .int .u64 18446744073709551615]) rfl rfl HH.out (by kernel_rfl) (by simp) (by repeat (first | (refine List.forall_mem_cons.2 ⟨(by first | with_reducible assumption | rfl), ?_⟩) | exact fun _ h => absurd h List.not_mem_nil)) ?_
            intro w34_ H9_
            replace HH := Lib.hid (show Own _ _ ((pts b (.cells #[.int .u64 s.c.mss, .int .u64 s.c.init, .int .u64 s.c.reorder, .int .u64 s.c.window, .int .u64 s.c.probe, .int .u64 s.c.loss, .int .i64 s.st, .int .u64 s.since, .int .u64 s.rounds, .int .u64 m.win, .bool m.least, .int .u64 m.now, v, .pointer (some ⟨yb, 0, none⟩), .int .u64 s.k.mark, .int .u64 s.k.n, .int .u64 s.p.best, .int .i64 s.p.n, .int .u64 s.bd.short.hi, .int .u64 s.bd.short.lo, .int .u64 s.bd.short.bw, .int .u64 s.acked, .int .u64 s.lost, .int .u64 s.cwnd, .int .u64 s.kept, .int .u64 s.ended] 76 (0, 0)) :: slc 151 2 v (encs encR m.l) :: rcyc yb mm l1 l0 :: pts g (.cells #[.int .u64 x.now, .int .u64 x.sd, .int .u64 x.si, .int .u64 x.sr, .int .u64 x.rtt, .bool x.slim, .bool x.some, .int .u64 x.deliv, .int .u64 x.acked, .int .u64 x.lost, .int .u64 x.fl] 41 (0, 0)) :: pts sb (.cells #[.bool (decide (3 ≤ s.p.n)), .bool ov, .bool lz, .bool st8, .int .u64 x.fl, .int .u64 hd, .int .u64 rm, .int .u64 s.rounds, .int .u64 el, .int .u64 wt] 136 (0, 0)) :: R)) from H9_)
            clear H9_
            (try clear cc1_); (try clear cc2_); (try clear cc3_); (try clear cc4_); (try clear cc5_); (try clear cc6_); (try clear cc7_)
            have cc1_ := HH.out.cells
            have cc4_ := HH.out.r4.cells
            go_wp2_with (with_reducible refine stop_st ?_)
            refine Stop.go ?_
            refine wpList_store1_own (v := .int .i64 nx) (k := 6) rfl rfl HH.out (by kernel_rfl) (by simp) (by first | rfl | assumption) ?_
            intro w35_ H9_
            replace HH := Lib.hid H9_
            clear H9_
            simp only [List.setIfInBounds_toArray, List.set_cons_succ, List.set_cons_zero] at HH
            (try clear cc1_); (try clear cc2_); (try clear cc3_); (try clear cc4_); (try clear cc5_); (try clear cc6_); (try clear cc7_)
            have cc1_ := HH.out.cells
            have cc4_ := HH.out.r4.cells
            go_wp2_with (with_reducible refine stop_st ?_)
            refine Stop.go ?_
            refine wpList_store1_own (v := .int .u64 x.now) (k := 7) rfl rfl HH.out (by kernel_rfl) (by simp) (by first | rfl | assumption) ?_
            intro w36_ H9_
            replace HH := Lib.hid H9_
            clear H9_
            simp only [List.setIfInBounds_toArray, List.set_cons_succ, List.set_cons_zero] at HH
            (try clear cc1_); (try clear cc2_); (try clear cc3_); (try clear cc4_); (try clear cc5_); (try clear cc6_); (try clear cc7_)
            have cc1_ := HH.out.cells
            have cc4_ := HH.out.r4.cells
            go_wp2_with (with_reducible refine stop_st ?_)
            refine Stop.go ?_
            refine wpList_store1_own (v := .int .u64 0) (k := 8) rfl rfl HH.out (by kernel_rfl) (by simp) (by first | rfl | assumption) ?_
            intro w37_ H9_
            replace HH := Lib.hid H9_
            clear H9_
            simp only [List.setIfInBounds_toArray, List.set_cons_succ, List.set_cons_zero] at HH
            go_wp2_with fail
            first | go_end0 | ((try simp only [Exit.inBlock, Exit.then]); refine bodyPost_ret (results_none rfl _ _ _) rfl ?_)
            obtain rfl : tg = { s with bd := s.bd.short, st := nx, since := x.now, rounds := 0 } := by have := h6.out; have := h5.out; have := h4.out; have := hk.out; rw [← htg.out, if_neg hn.out]; simp [Eng.leave, Eng.enter, Eng.comes, *]
            exact ⟨mm, l1, l0, v, hR.out.keep hto.out rfl rfl rfl (Int.natCast_nonneg _) (Nat.le_succ _), rfl, ((Own.pm (HH.out) (by with_reducible repeat (first | exact .refl _ | exact .nil _ | refine .here ?_ | refine .at2 ?_ | refine .at3 ?_ | refine .at4 ?_ | refine .at5 ?_ | refine .at6 ?_ | refine .at7 ?_ | refine .at8 ?_ | refine .skip ?_))) : Own ε _ (pts b (.cells #[.int .u64 s.c.mss, .int .u64 s.c.init, .int .u64 s.c.reorder, .int .u64 s.c.window, .int .u64 s.c.probe, .int .u64 s.c.loss, .int .i64 nx, .int .u64 x.now, .int .u64 0, .int .u64 m.win, .bool m.least, .int .u64 m.now, v, .pointer (some ⟨yb, 0, none⟩), .int .u64 s.k.mark, .int .u64 s.k.n, .int .u64 s.p.best, .int .i64 s.p.n, .int .u64 s.bd.short.hi, .int .u64 s.bd.short.lo, .int .u64 s.bd.short.bw, .int .u64 s.acked, .int .u64 s.lost, .int .u64 s.cwnd, .int .u64 s.kept, .int .u64 s.ended] 76 (0, 0)) :: slc 151 2 v (encs encR m.l) :: rcyc yb mm l1 l0 :: R))⟩
          · have b4 : (nx == 4) = false := by simpa using h4
            replace h4 := Lib.hid h4
            by_cases hk : nx = 6
            · have bk : (nx == 6) = true := by simpa using hk
              replace hk := Lib.hid hk
              (try clear cc1_); (try clear cc2_); (try clear cc3_); (try clear cc4_); (try clear cc5_); (try clear cc6_); (try clear cc7_)
              have cc1_ := HH.out.cells
              have cc4_ := HH.out.r4.cells
              go_wp2_with (with_reducible refine stop_st ?_)
              refine Stop.go ?_
              refine wpList_store1_own (v := .int .u64 s.cwnd) (k := 24) rfl rfl HH.out (by kernel_rfl) (by simp) (by first | rfl | assumption) ?_
              intro w38_ H9_
              replace HH := Lib.hid H9_
              clear H9_
              simp only [List.setIfInBounds_toArray, List.set_cons_succ, List.set_cons_zero] at HH
              (try clear cc1_); (try clear cc2_); (try clear cc3_); (try clear cc4_); (try clear cc5_); (try clear cc6_); (try clear cc7_)
              have cc1_ := HH.out.cells
              have cc4_ := HH.out.r4.cells
              go_wp2_with (with_reducible refine stop_st ?_)
              refine Stop.go ?_
              refine wpList_store1_own (v := .int .i64 nx) (k := 6) rfl rfl HH.out (by kernel_rfl) (by simp) (by first | rfl | assumption) ?_
              intro w39_ H9_
              replace HH := Lib.hid H9_
              clear H9_
              simp only [List.setIfInBounds_toArray, List.set_cons_succ, List.set_cons_zero] at HH
              (try clear cc1_); (try clear cc2_); (try clear cc3_); (try clear cc4_); (try clear cc5_); (try clear cc6_); (try clear cc7_)
              have cc1_ := HH.out.cells
              have cc4_ := HH.out.r4.cells
              go_wp2_with (with_reducible refine stop_st ?_)
              refine Stop.go ?_
              refine wpList_store1_own (v := .int .u64 x.now) (k := 7) rfl rfl HH.out (by kernel_rfl) (by simp) (by first | rfl | assumption) ?_
              intro w40_ H9_
              replace HH := Lib.hid H9_
              clear H9_
              simp only [List.setIfInBounds_toArray, List.set_cons_succ, List.set_cons_zero] at HH
              (try clear cc1_); (try clear cc2_); (try clear cc3_); (try clear cc4_); (try clear cc5_); (try clear cc6_); (try clear cc7_)
              have cc1_ := HH.out.cells
              have cc4_ := HH.out.r4.cells
              go_wp2_with (with_reducible refine stop_st ?_)
              refine Stop.go ?_
              refine wpList_store1_own (v := .int .u64 0) (k := 8) rfl rfl HH.out (by kernel_rfl) (by simp) (by first | rfl | assumption) ?_
              intro w41_ H9_
              replace HH := Lib.hid H9_
              clear H9_
              simp only [List.setIfInBounds_toArray, List.set_cons_succ, List.set_cons_zero] at HH
              go_wp2_with fail
              first | go_end0 | ((try simp only [Exit.inBlock, Exit.then]); refine bodyPost_ret (results_none rfl _ _ _) rfl ?_)
              obtain rfl : tg = { s with kept := s.cwnd, st := nx, since := x.now, rounds := 0 } := by have := h6.out; have := h5.out; have := h4.out; have := hk.out; rw [← htg.out, if_neg hn.out]; simp [Eng.leave, Eng.enter, Eng.comes, *]
              exact ⟨mm, l1, l0, v, hR.out.keep hto.out rfl rfl rfl (Int.natCast_nonneg _) (Nat.le_succ _), rfl, ((Own.pm (HH.out) (by with_reducible repeat (first | exact .refl _ | exact .nil _ | refine .here ?_ | refine .at2 ?_ | refine .at3 ?_ | refine .at4 ?_ | refine .at5 ?_ | refine .at6 ?_ | refine .at7 ?_ | refine .at8 ?_ | refine .skip ?_))) : Own ε _ (pts b (.cells #[.int .u64 s.c.mss, .int .u64 s.c.init, .int .u64 s.c.reorder, .int .u64 s.c.window, .int .u64 s.c.probe, .int .u64 s.c.loss, .int .i64 nx, .int .u64 x.now, .int .u64 0, .int .u64 m.win, .bool m.least, .int .u64 m.now, v, .pointer (some ⟨yb, 0, none⟩), .int .u64 s.k.mark, .int .u64 s.k.n, .int .u64 s.p.best, .int .i64 s.p.n, .int .u64 s.bd.hi, .int .u64 s.bd.lo, .int .u64 s.bd.bw, .int .u64 s.acked, .int .u64 s.lost, .int .u64 s.cwnd, .int .u64 s.cwnd, .int .u64 s.ended] 76 (0, 0)) :: slc 151 2 v (encs encR m.l) :: rcyc yb mm l1 l0 :: R))⟩
            · have bk : (nx == 6) = false := by simpa using hk
              replace hk := Lib.hid hk
              (try clear cc1_); (try clear cc2_); (try clear cc3_); (try clear cc4_); (try clear cc5_); (try clear cc6_); (try clear cc7_)
              have cc1_ := HH.out.cells
              have cc4_ := HH.out.r4.cells
              go_wp2_with (with_reducible refine stop_st ?_)
              refine Stop.go ?_
              refine wpList_store1_own (v := .int .i64 nx) (k := 6) rfl rfl HH.out (by kernel_rfl) (by simp) (by first | rfl | assumption) ?_
              intro w42_ H9_
              replace HH := Lib.hid H9_
              clear H9_
              simp only [List.setIfInBounds_toArray, List.set_cons_succ, List.set_cons_zero] at HH
              (try clear cc1_); (try clear cc2_); (try clear cc3_); (try clear cc4_); (try clear cc5_); (try clear cc6_); (try clear cc7_)
              have cc1_ := HH.out.cells
              have cc4_ := HH.out.r4.cells
              go_wp2_with (with_reducible refine stop_st ?_)
              refine Stop.go ?_
              refine wpList_store1_own (v := .int .u64 x.now) (k := 7) rfl rfl HH.out (by kernel_rfl) (by simp) (by first | rfl | assumption) ?_
              intro w43_ H9_
              replace HH := Lib.hid H9_
              clear H9_
              simp only [List.setIfInBounds_toArray, List.set_cons_succ, List.set_cons_zero] at HH
              (try clear cc1_); (try clear cc2_); (try clear cc3_); (try clear cc4_); (try clear cc5_); (try clear cc6_); (try clear cc7_)
              have cc1_ := HH.out.cells
              have cc4_ := HH.out.r4.cells
              go_wp2_with (with_reducible refine stop_st ?_)
              refine Stop.go ?_
              refine wpList_store1_own (v := .int .u64 0) (k := 8) rfl rfl HH.out (by kernel_rfl) (by simp) (by first | rfl | assumption) ?_
              intro w44_ H9_
              replace HH := Lib.hid H9_
              clear H9_
              simp only [List.setIfInBounds_toArray, List.set_cons_succ, List.set_cons_zero] at HH
              go_wp2_with fail
              first | go_end0 | ((try simp only [Exit.inBlock, Exit.then]); refine bodyPost_ret (results_none rfl _ _ _) rfl ?_)
              obtain rfl : tg = { s with st := nx, since := x.now, rounds := 0 } := by have := h6.out; have := h5.out; have := h4.out; have := hk.out; rw [← htg.out, if_neg hn.out]; simp [Eng.leave, Eng.enter, Eng.comes, *]
              exact ⟨mm, l1, l0, v, hR.out.keep hto.out rfl rfl rfl (Int.natCast_nonneg _) (Nat.le_succ _), rfl, ((Own.pm (HH.out) (by with_reducible repeat (first | exact .refl _ | exact .nil _ | refine .here ?_ | refine .at2 ?_ | refine .at3 ?_ | refine .at4 ?_ | refine .at5 ?_ | refine .at6 ?_ | refine .at7 ?_ | refine .at8 ?_ | refine .skip ?_))) : Own ε _ (pts b (.cells #[.int .u64 s.c.mss, .int .u64 s.c.init, .int .u64 s.c.reorder, .int .u64 s.c.window, .int .u64 s.c.probe, .int .u64 s.c.loss, .int .i64 nx, .int .u64 x.now, .int .u64 0, .int .u64 m.win, .bool m.least, .int .u64 m.now, v, .pointer (some ⟨yb, 0, none⟩), .int .u64 s.k.mark, .int .u64 s.k.n, .int .u64 s.p.best, .int .i64 s.p.n, .int .u64 s.bd.hi, .int .u64 s.bd.lo, .int .u64 s.bd.bw, .int .u64 s.acked, .int .u64 s.lost, .int .u64 s.cwnd, .int .u64 s.kept, .int .u64 s.ended] 76 (0, 0)) :: slc 151 2 v (encs encR m.l) :: rcyc yb mm l1 l0 :: R))⟩
end
end Go.Proofs.YtpfbbpiidhhkbaaGreat
