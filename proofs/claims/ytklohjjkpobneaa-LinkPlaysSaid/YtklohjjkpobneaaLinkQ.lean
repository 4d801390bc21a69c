/- link: the document's own answer, with its counts. -/
import Derived.Test.YtklohjjkpobneaaLinkP
namespace Go.Proofs.Ytklohjjkpobneaa
open Go.RowKit
/-- goitref21's link. -/
def rl21 (b : Nat) (s : Lnk) : Asn := exA fun rb : Nat => sep (pts b (.cells #[.pointer (some ⟨rb, 0, none⟩), .int .u64 s.came, .int .u64 s.served, .int .u64 s.deliv] 111 (0, 0))) (rlk rb s)
theorem slc_itE {ε wx : World} {R : List Asn} {A : Option Addr} {n cap : Nat} {l : List Du} (H : Own ε wx (slcE (.slice A n cap) l :: R)) : itAt Du.cells 8 wx A n l := by
  obtain ⟨_, _, _, e, _, _, h⟩ := H.slc_it Du.len (by decide)
  cases e
  exact h
theorem slc_pk {ε wx : World} {R : List Asn} {A : Option Addr} {n cap : Nat} {l : List Pk} (H : Own ε wx (slcP (.slice A n cap) l :: R)) : pkAt wx A n l := by
  obtain ⟨_, _, _, e, _, _, h⟩ := H.slcP_val
  cases e
  exact h
theorem serveN_taken (n : Nat) (ch : List Int) (s : Lnk) : ∃ m, m ≤ s.q.l.length ∧ (Lnk.serveN n ch s).q.l = s.q.l.drop m ∧ (Lnk.serveN n ch s).served = sumF s.served (s.q.l.take m) ∧ (Lnk.serveN n ch s).came = s.came ∧ (Lnk.serveN n ch s).deliv = s.deliv := by
  induction n generalizing ch s with
  | zero => exact ⟨0, Nat.zero_le _, rfl, rfl, rfl, rfl⟩
  | succ n ih =>
    cases hq : s.q.l with
    | nil => rw [serveN_none hq]; exact ⟨0, Nat.zero_le _, hq, rfl, rfl, rfl⟩
    | cons p l =>
      rw [serveN_step hq]
      split
      · obtain ⟨m, h1, h2, h3, h4, h5⟩ := ih ch.tail (s.serve1 p (ch.headD 0))
        have r1 : (s.serve1 p (ch.headD 0)).q.l = l := by show s.q.l.drop 1 = _; rw [hq]; rfl
        rw [r1] at h1 h2 h3
        exact ⟨m + 1, by simp; omega, h2, h3, h4, h5⟩
      · exact ⟨0, Nat.zero_le _, hq, rfl, rfl, rfl⟩
theorem tick_counts (s : Lnk) (t w : Int) (ch : List Int) : ∃ m, m ≤ s.q.l.length ∧ (s.tick t w ch).q.l.length = s.q.l.length - m ∧ (s.tick t w ch).served = sumF s.served (s.q.l.take m) ∧ (s.tick t w ch).came = s.came ∧ (s.tick t w ch).deliv = sumF s.deliv (s.outs t w ch) := by
  obtain ⟨m, h1, h2, h3, h4, h5⟩ := serveN_taken (s.begin t).q.l.length ch (s.begin t)
  have e : (s.mid t w ch).q = ((s.begin t).serve ch).q ∧ (s.mid t w ch).served = ((s.begin t).serve ch).served ∧ (s.mid t w ch).came = ((s.begin t).serve ch).came ∧ (s.mid t w ch).deliv = ((s.begin t).serve ch).deliv := by
    unfold Lnk.mid Lnk.spill; split <;> exact ⟨rfl, rfl, rfl, rfl⟩
  obtain ⟨e1, e2, e3, e4⟩ := e
  refine ⟨m, h1, ?_, ?_, ?_, ?_⟩
  · show (s.mid t w ch).q.l.length = _
    rw [e1]
    show (Lnk.serveN _ ch (s.begin t)).q.l.length = _
    rw [h2, List.length_drop]; rfl
  · show (s.mid t w ch).served = _
    rw [e2]; exact h3
  · show (s.mid t w ch).came = _
    rw [e3]; exact h4
  · show sumF (s.mid t w ch).deliv _ = _
    rw [e4]
    have : ((s.begin t).serve ch).deliv = s.deliv := h5
    rw [this]; rfl
section
variable (ε w : World) (R : List Asn) (b : Nat)
theorem Own.rl21_open {s : Lnk} (H : Own ε w (rl21 b s :: R)) : ∃ rb, Own ε w (pts b (.cells #[.pointer (some ⟨rb, 0, none⟩), .int .u64 s.came, .int .u64 s.served, .int .u64 s.deliv] 111 (0, 0)) :: rlk rb s :: R) := by
  obtain ⟨rb, H⟩ := H.ex
  exact ⟨rb, H.split⟩
theorem Own.rl21_mk {s : Lnk} {rb : Nat} (H : Own ε w (pts b (.cells #[.pointer (some ⟨rb, 0, none⟩), .int .u64 s.came, .int .u64 s.served, .int .u64 s.deliv] 111 (0, 0)) :: rlk rb s :: R)) : Own ε w (rl21 b s :: R) := Own.ex_mk rb H.join
set_option maxHeartbeats 1600000 in
theorem ref18New_c (p1 p2 p3 p4 : Int) (hr : rightB p1 p2 p3 p4 = true) (H : Own ε w R) :
    Calls Try.prog 111 #[.agg #[.int .u64 p1, .int .u64 p2, .int .u64 p3, .int .u64 p4]] w fun e w' => ∃ b, e = .returned (.tuple #[.pointer (some ⟨b, 0, none⟩), .bool true]) ∧ Own ε w' (rlk b (Lnk.new p1 p2 p3 p4) :: R) := by
  have HH := Lib.hid H; clear H
  go_enter Try.func111, Try.ntmps111
  go_wp2_with (with_reducible refine stop_bx ?_)
  refine Stop.go ?_
  refine wpList_box_own HH.out [_, _, _, _] rfl ?_
  intro g w1_ H9_
  replace HH := Lib.hid H9_
  clear H9_
  (try clear cc1_); (try clear cc2_); (try clear cc3_); (try clear cc4_); (try clear cc5_); (try clear cc6_); (try clear cc7_)
  have cc1_ := HH.out.cells
  go_wp2_with fail
  refine (right18_c ε _ _ p1 p2 p3 p4 HH.out).mono ?_
  rw [hr]
  rintro e w2_ ⟨rfl, H9_⟩
  replace HH := Lib.hid H9_
  clear H9_
  (try clear cc1_); (try clear cc2_); (try clear cc3_); (try clear cc4_); (try clear cc5_); (try clear cc6_); (try clear cc7_)
  have cc1_ := HH.out.cells
  go_wp2_with (with_reducible refine stop_bx ?_)
  refine Stop.go ?_
  refine wpList_box_own HH.out [_, _, _, _, _, _, _, _, _, _, _, _] rfl ?_
  intro lb w3_ H9_
  replace HH := Lib.hid H9_
  clear H9_
  have H1 : Own ε _ (slcP (.slice none 0 0) [] :: slcE (.slice none 0 0) [] :: pts lb (.cells #[.int .u64 p1, .int .u64 0, .int .u64 0, .int .u64 0, .int .u64 p4, .slice none 0 0, .int .u64 0, .int .u64 0, .int .u64 p2, .int .u64 p3, .slice none 0 0, .int .u64 0] 108 (0, 0)) :: pts g _ :: R) := Own.slc_none (Own.slc_none HH.out)
  replace HH := Lib.hid H1
  clear H1
  go_wp2_with fail
  go_ret2
  have H2 := ((Own.pm (HH.out) (by repeat (first | with_reducible exact Pm.refl _ | with_reducible exact Pm.nil _ | with_reducible refine Pm.here ?_ | with_reducible refine Pm.at2 ?_ | with_reducible refine Pm.at3 ?_ | with_reducible refine Pm.at4 ?_ | with_reducible refine Pm.at5 ?_ | with_reducible refine Pm.at6 ?_ | with_reducible refine Pm.at7 ?_ | with_reducible refine Pm.at8 ?_ | with_reducible refine Pm.skip ?_))) : Own ε _ (pts lb _ :: slcP (.slice none 0 0) [] :: slcE (.slice none 0 0) [] :: R))
  exact ⟨_, rfl, Own.rlk_mk ε _ R lb (s := Lnk.new p1 p2 p3 p4) (v1 := .slice none 0 0) (v2 := .slice none 0 0) H2⟩
set_option maxHeartbeats 1600000 in
theorem ref18New_no (p1 p2 p3 p4 : Int) (hr : rightB p1 p2 p3 p4 = false) (H : Own ε w R) :
    Calls Try.prog 111 #[.agg #[.int .u64 p1, .int .u64 p2, .int .u64 p3, .int .u64 p4]] w fun e w' => e = .returned (.tuple #[.pointer none, .bool false]) ∧ Own ε w' R := by
  have HH := Lib.hid H; clear H
  go_enter Try.func111, Try.ntmps111
  go_wp2_with (with_reducible refine stop_bx ?_)
  refine Stop.go ?_
  refine wpList_box_own HH.out [_, _, _, _] rfl ?_
  intro g w4_ H9_
  replace HH := Lib.hid H9_
  clear H9_
  (try clear cc1_); (try clear cc2_); (try clear cc3_); (try clear cc4_); (try clear cc5_); (try clear cc6_); (try clear cc7_)
  have cc1_ := HH.out.cells
  go_wp2_with fail
  refine (right18_c ε _ _ p1 p2 p3 p4 HH.out).mono ?_
  rw [hr]
  rintro e w5_ ⟨rfl, H9_⟩
  replace HH := Lib.hid H9_
  clear H9_
  go_wp2_with fail
  go_ret2
  exact ⟨rfl, HH.out.tail⟩
set_option maxHeartbeats 1600000 in
theorem ref21New_c (p1 p2 p3 p4 : Int) (hr : rightB p1 p2 p3 p4 = true) (H : Own ε w R) :
    Calls Try.prog 52 #[.agg #[.int .u64 p1, .int .u64 p2, .int .u64 p3, .int .u64 p4]] w fun e w' => ∃ b, e = .returned (.tuple #[.pointer (some ⟨b, 0, none⟩), .bool true]) ∧ Own ε w' (rl21 b (Lnk.new p1 p2 p3 p4) :: R) := by
  have HH := Lib.hid H; clear H
  go_enter Try.func52, Try.ntmps52
  go_wp2_with (with_reducible refine stop_bx ?_)
  refine Stop.go ?_
  refine wpList_box_own HH.out [_, _, _, _] rfl ?_
  intro g w6_ H9_
  replace HH := Lib.hid H9_
  clear H9_
  (try clear cc1_); (try clear cc2_); (try clear cc3_); (try clear cc4_); (try clear cc5_); (try clear cc6_); (try clear cc7_)
  have cc1_ := HH.out.cells
  go_wp2_with fail
  refine (ref18New_c ε _ _ p1 p2 p3 p4 hr HH.out).mono ?_
  rintro e w7_ ⟨rb, rfl, H9_⟩
  replace HH := Lib.hid H9_
  clear H9_
  go_wp2_with (with_reducible refine stop_bx ?_)
  refine Stop.go ?_
  refine wpList_box_own HH.out [_, _, _, _] rfl ?_
  intro lb w8_ H9_
  replace HH := Lib.hid H9_
  clear H9_
  go_wp2_with fail
  go_ret2
  have H2 := ((Own.pm (HH.out) (by repeat (first | with_reducible exact Pm.refl _ | with_reducible exact Pm.nil _ | with_reducible refine Pm.here ?_ | with_reducible refine Pm.at2 ?_ | with_reducible refine Pm.at3 ?_ | with_reducible refine Pm.at4 ?_ | with_reducible refine Pm.at5 ?_ | with_reducible refine Pm.at6 ?_ | with_reducible refine Pm.at7 ?_ | with_reducible refine Pm.at8 ?_ | with_reducible refine Pm.skip ?_))) : Own ε _ (pts lb _ :: rlk rb (Lnk.new p1 p2 p3 p4) :: R))
  exact ⟨_, rfl, Own.rl21_mk ε _ R lb (s := Lnk.new p1 p2 p3 p4) H2⟩
set_option maxHeartbeats 1600000 in
theorem ref21New_no (p1 p2 p3 p4 : Int) (hr : rightB p1 p2 p3 p4 = false) (H : Own ε w R) :
    Calls Try.prog 52 #[.agg #[.int .u64 p1, .int .u64 p2, .int .u64 p3, .int .u64 p4]] w fun e w' => e = .returned (.tuple #[.pointer none, .bool false]) ∧ Own ε w' R := by
  have HH := Lib.hid H; clear H
  go_enter Try.func52, Try.ntmps52
  go_wp2_with (with_reducible refine stop_bx ?_)
  refine Stop.go ?_
  refine wpList_box_own HH.out [_, _, _, _] rfl ?_
  intro g w9_ H9_
  replace HH := Lib.hid H9_
  clear H9_
  (try clear cc1_); (try clear cc2_); (try clear cc3_); (try clear cc4_); (try clear cc5_); (try clear cc6_); (try clear cc7_)
  have cc1_ := HH.out.cells
  go_wp2_with fail
  refine (ref18New_no ε _ _ p1 p2 p3 p4 hr HH.out).mono ?_
  rintro e w10_ ⟨rfl, H9_⟩
  replace HH := Lib.hid H9_
  clear H9_
  go_wp2_with fail
  go_ret2
  exact ⟨rfl, HH.out.tail⟩
set_option maxHeartbeats 3200000 in
theorem rl21Send_c (s : Lnk) (hs : s.Ok) (A : Option Addr) (n cap : Nat) (ps : List Pk) (hps : ∀ p ∈ ps, p.Ok) (hA : ∀ wx, Own ε wx R → pkAt wx A n ps) (hl : s.len + n ≤ 1000000) (H : Own ε w (rl21 b s :: R)) :
    Calls Try.prog 57 #[.pointer (some ⟨b, 0, none⟩), .slice A n cap] w fun e w' => e = .returned (.int .i64 ((s.send ps).2 : Nat)) ∧ Own ε w' (rl21 b (s.send ps).1 :: R) := by
  have hn := (hA w H.tail).1
  have HH := Lib.hid H; clear H
  replace hA := Lib.hid hA
  replace hps := Lib.hid hps
  replace hs := Lib.hid hs
  have hn2 : n ≤ 1000000 := by omega
  replace hl := Lib.hid hl
  go_enter Try.func57, Try.ntmps57
  go_wp2_with fail
  go_loopw [5, 6] (fun nv i wr => ∃ k : Nat, k ≤ n ∧ i = .int .i64 k ∧ nv = .int .i64 ((s.send (ps.take k)).2 : Nat) ∧ Own ε wr (rl21 b (s.send (ps.take k)).1 :: R)) (fun _ i _ => n - (intOf i).toNat)
  case atStart => exact ⟨0, Nat.zero_le _, rfl, rfl, HH.out⟩
  case round =>
    clear HH
    obtain ⟨k, hk, rfl, rfl, HR⟩ := hrel
    have HH := Lib.hid HR
    clear HR
    by_cases hlt : k < n
    · obtain ⟨g, off, p, rfl, hpk, _⟩ := (hA.out _ HH.out.tail).cells hlt
      have hcs : ∀ wx, Own ε wx R → (wx.cell? ⟨g, off + k * 7, none⟩ = some (.int .u64 p.n) ∧ wx.cell? ⟨g, off + k * 7 + 1, none⟩ = some (.int .u64 p.size) ∧ wx.cell? ⟨g, off + k * 7 + 2, none⟩ = some (.int .u64 p.sent) ∧ wx.cell? ⟨g, off + k * 7 + 3, none⟩ = some (.int .u64 p.first) ∧ wx.cell? ⟨g, off + k * 7 + 4, none⟩ = some (.int .u64 p.deliv) ∧ wx.cell? ⟨g, off + k * 7 + 5, none⟩ = some (.int .u64 p.at') ∧ wx.cell? ⟨g, off + k * 7 + 6, none⟩ = some (.bool p.lim)) := fun wx Hx => by
        obtain ⟨g', off', p', e, hpk', hc⟩ := (hA.out wx Hx).cells hlt
        cases e
        rw [hpk] at hpk'
        cases hpk'
        exact hc
      have hst := send_step (s := s) hpk
      have hok : (s.send (ps.take k)).1.Ok := Lnk.ok_send hs.out fun p hp => hps.out p (List.mem_of_mem_take hp)
      have hlen : (s.send (ps.take k)).1.len ≤ 1000000 := by
        have h1 := sendF_len (s, 0) (ps.take k)
        have h2 : (ps.take k).length ≤ k := by rw [List.length_take]; omega
        have h3 := hl.out
        unfold Lnk.send
        simp only at h1
        omega
      have hcnt : (s.send (ps.take k)).2 ≤ k := by
        have h1 := sendF_cnt (s, 0) (ps.take k)
        have h2 : (ps.take k).length ≤ k := by rw [List.length_take]; omega
        unfold Lnk.send
        simp only at h1
        omega
      have hpo := hps.out p (List.mem_of_getElem? hpk)
      clear hpk
      generalize s.send (ps.take k) = a at hst hok hlen hcnt HH ⊢
      obtain ⟨st, m⟩ := a
      simp only at hok hlen hcnt HH ⊢
      obtain ⟨rb, H2⟩ := HH.out.rl21_open
      replace HH := Lib.hid H2
      clear H2
      obtain ⟨⟨okp, q2⟩, hpu⟩ : ∃ r, st.q.put p = r := ⟨_, rfl⟩
      have hst2 : s.send (ps.take (k + 1)) = ({ st with came := sadd st.came p.size, q := q2 }, if okp then m + 1 else m) := by rw [hst]; unfold sendF Lnk.send1; rw [hpu]
      have hql : st.q.l.length ≤ 1000000 := by unfold Lnk.len at hlen; omega
      clear hst hlen
      replace hst2 := Lib.hid hst2
      replace hpu := Lib.hid hpu
      replace hql := Lib.hid hql
      have hca := Lib.hid hok.came
      have hsz := Lib.hid hpo.2.1
      replace hpo := Lib.hid hpo
      replace hok := Lib.hid hok
      obtain ⟨pn, ps', p3, p4, p5, p6, p7⟩ := p
      simp only at hcs hsz hst2
      replace hcs := Lib.hid hcs
      go_wp2_with fail
      go_wp2_with fail
      refine wp_region_reg (some 13) HH.out (by kernel_rfl) ?_
      intro wm H9_
      replace HH := Lib.hid H9_
      clear H9_
      refine reg_p (i := 0) rfl (by kernel_rfl) (fun _ _ _ _ h => h) HH.out (fun K hK => ?_)
      go_simp
      first | (refine hK _ ?_; clear hK K) | (apply Exists.intro; refine ⟨?_, hK _ ?_⟩; (focus (intro wx; first | (go_simp; first | rfl) | rfl)); clear hK K)
      refine reg_p (i := 1) rfl (by kernel_rfl) (fun _ _ _ _ h => h) HH.out (fun K hK => ?_)
      go_simp
      first | (refine hK _ ?_; clear hK K) | (apply Exists.intro; refine ⟨?_, hK _ ?_⟩; (focus (intro wx; first | (go_simp; first | rfl) | rfl)); clear hK K)
      refine reg_p (i := 2) rfl (by kernel_rfl) (fun _ _ _ _ h => h) HH.out (fun K hK => ?_)
      go_simp
      first | (refine hK _ ?_; clear hK K) | (apply Exists.intro; refine ⟨?_, hK _ ?_⟩; (focus (intro wx; first | (go_simp; first | rfl) | rfl)); clear hK K)
      refine reg_p (i := 3) rfl (by kernel_rfl) (fun _ _ _ _ h => h) HH.out (fun K hK => ?_)
      go_simp
      first | (refine hK _ ?_; clear hK K) | (apply Exists.intro; refine ⟨?_, hK _ ?_⟩; (focus (intro wx; first | (go_simp; first | rfl) | rfl)); clear hK K)
      refine mixk_q (i := 4) rfl (by kernel_rfl) (fun _ _ _ _ h => h) HH.out (fun K hK => ?_)
      go_simp
      first | (refine hK _ ?_; clear hK K) | (apply Exists.intro; refine ⟨?_, hK _ ?_⟩; (focus (intro wx hx; have x1_ := hx.cells; have y1_ := (hcs.out _ hx.tail.tail).2.1; first | (first | (go_at_call 54; refine (refAdd_c wx st.came ps' hca.out hsz.out).mono ?_; rintro e wy ⟨rfl, hbel⟩; exact ⟨rfl, (by first | exact Kp.same hbel | exact Kp.drew hbel | exact Kp.below hbel : Kp wx wy)⟩)) | (go_simp; first | rfl | exact ⟨rfl, rfl⟩) | rfl | exact ⟨rfl, rfl⟩)); clear hK K)
      refine reg_p (i := 5) rfl (by kernel_rfl) (fun _ _ _ _ h => h) HH.out (fun K hK => ?_)
      go_simp
      first | (refine hK _ ?_; clear hK K) | (apply Exists.intro; refine ⟨?_, hK _ ?_⟩; (focus (intro wx; first | (go_simp; first | rfl) | rfl)); clear hK K)
      refine reg_p (i := 6) rfl (by kernel_rfl) (fun _ _ _ _ h => h) HH.out (fun K hK => ?_)
      go_simp
      first | (refine hK _ ?_; clear hK K) | (apply Exists.intro; refine ⟨?_, hK _ ?_⟩; (focus (intro wx; first | (go_simp; first | rfl) | rfl)); clear hK K)
      refine reg_p (i := 7) rfl (by kernel_rfl) (fun _ _ _ _ h => h) HH.out (fun K hK => ?_)
      go_simp
      first | (refine hK _ ?_; clear hK K) | (apply Exists.intro; refine ⟨?_, hK _ ?_⟩; (focus (intro wx; first | (go_simp; first | rfl) | rfl)); clear hK K)
      refine reg_p (i := 8) rfl (by kernel_rfl) (fun _ _ _ _ h => h) HH.out (fun K hK => ?_)
      go_simp
      first | (refine hK _ ?_; clear hK K) | (apply Exists.intro; refine ⟨?_, hK _ ?_⟩; (focus (intro wx; first | (go_simp; first | rfl) | rfl)); clear hK K)
      refine mixk_q (i := 9) rfl (by kernel_rfl) (fun _ _ _ _ h => h) HH.out (fun K hK => ?_)
      go_simp
      first | (refine hK _ ?_; clear hK K) | (apply Exists.intro; refine ⟨?_, hK _ ?_⟩; (focus (intro wx hx; have x1_ := hx.cells; have y1_ := (hcs.out _ hx.tail.tail).2.1; first | (first | (go_at_call 54; refine (refAdd_c wx st.came ps' hca.out hsz.out).mono ?_; rintro e wy ⟨rfl, hbel⟩; exact ⟨rfl, (by first | exact Kp.same hbel | exact Kp.drew hbel | exact Kp.below hbel : Kp wx wy)⟩)) | (go_simp; first | rfl | exact ⟨rfl, rfl⟩) | rfl | exact ⟨rfl, rfl⟩)); clear hK K)
      refine mixk_q (i := 10) rfl (by kernel_rfl) (fun _ _ _ _ h => h) HH.out (fun K hK => ?_)
      go_simp
      first | (refine hK _ ?_; clear hK K) | (apply Exists.intro; refine ⟨?_, hK _ ?_⟩; (focus (intro wx hx; have x1_ := hx.cells; have y1_ := (hcs.out _ hx.tail.tail).2.1; first | (first | (go_at_call 54; refine (refAdd_c wx st.came ps' hca.out hsz.out).mono ?_; rintro e wy ⟨rfl, hbel⟩; exact ⟨rfl, (by first | exact Kp.same hbel | exact Kp.drew hbel | exact Kp.below hbel : Kp wx wy)⟩)) | (go_simp; first | rfl | exact ⟨rfl, rfl⟩) | rfl | exact ⟨rfl, rfl⟩)); clear hK K)
      refine reg_p (i := 11) rfl (by kernel_rfl) (fun _ _ _ _ h => h) HH.out (fun K hK => ?_)
      go_simp
      first | (refine hK _ ?_; clear hK K) | (apply Exists.intro; refine ⟨?_, hK _ ?_⟩; (focus (intro wx; first | (go_simp; first | rfl) | rfl)); clear hK K)
      refine reg_p (i := 12) rfl (by kernel_rfl) (fun _ _ _ _ h => h) HH.out (fun K hK => ?_)
      go_simp
      first | (refine hK _ ?_; clear hK K) | (apply Exists.intro; refine ⟨?_, hK _ ?_⟩; (focus (intro wx; first | (go_simp; first | rfl) | rfl)); clear hK K)
      refine reg_l none (i := 13) rfl (by kernel_rfl) (fun wn hk K hK => ?_)
      replace HH := Lib.hid (hk _ _ HH.out)
      clear hk
      have hx := HH.out
      have x1_ := hx.cells
      have y1_ := (hcs.out _ hx.tail.tail).2.1
      go_simp
      replace HH := Lib.hid (HH.out.set 1 (.int .u64 (sadd st.came ps')))
      simp only [List.setIfInBounds_toArray, List.set_cons_succ, List.set_cons_zero] at HH
      generalize wn.setCell ⟨b, 1, none⟩ (.int .u64 (sadd st.came ps')) = wm at *
      clear hx x1_
      refine hK _ _ _ HH.out (.inl (by kernel_rfl)) ?_
      clear hK K
      refine mixk_done (by kernel_rfl) (fun w11_ hk => ?_) _
      replace HH := Lib.hid (hk _ _ HH.out)
      clear hk
      replace HH := Lib.hid ((Own.pm (HH.out) (by repeat (first | with_reducible exact Pm.refl _ | with_reducible exact Pm.nil _ | with_reducible refine Pm.here ?_ | with_reducible refine Pm.at2 ?_ | with_reducible refine Pm.at3 ?_ | with_reducible refine Pm.at4 ?_ | with_reducible refine Pm.at5 ?_ | with_reducible refine Pm.at6 ?_ | with_reducible refine Pm.at7 ?_ | with_reducible refine Pm.at8 ?_ | with_reducible refine Pm.skip ?_))) : Own _ _ (pts b _ :: rlk rb st :: R))
      go_wp2_with fail
      go_wp2_with fail
      refine wp_region_reg (some 10) HH.out (by kernel_rfl) ?_
      intro wm H9_
      replace HH := Lib.hid H9_
      clear H9_
      refine reg_p (i := 0) rfl (by kernel_rfl) (fun _ _ _ _ h => h) HH.out (fun K hK => ?_)
      go_simp
      first | (refine hK _ ?_; clear hK K) | (apply Exists.intro; refine ⟨?_, hK _ ?_⟩; (focus (intro wx; first | (go_simp; first | rfl) | rfl)); clear hK K)
      refine reg_p (i := 1) rfl (by kernel_rfl) (fun _ _ _ _ h => h) HH.out (fun K hK => ?_)
      go_simp
      first | (refine hK _ ?_; clear hK K) | (apply Exists.intro; refine ⟨?_, hK _ ?_⟩; (focus (intro wx; first | (go_simp; first | rfl) | rfl)); clear hK K)
      refine reg_p (i := 2) rfl (by kernel_rfl) (fun _ _ _ _ h => h) HH.out (fun K hK => ?_)
      go_simp
      first | (refine hK _ ?_; clear hK K) | (apply Exists.intro; refine ⟨?_, hK _ ?_⟩; (focus (intro wx; first | (go_simp; first | rfl) | rfl)); clear hK K)
      refine mixk_q (i := 3) rfl (by kernel_rfl) (fun _ _ _ _ h => h) HH.out (fun K hK => ?_)
      go_simp
      first | (refine hK _ ?_; clear hK K) | (apply Exists.intro; refine ⟨?_, hK _ ?_⟩; (focus (intro wx hx; have x1_ := hx.cells; obtain ⟨y0_, y1_, y2_, y3_, y4_, y5_, y6_⟩ := hcs.out _ hx.tail.tail; first | (go_simp; first | rfl | exact ⟨rfl, rfl⟩) | rfl | exact ⟨rfl, rfl⟩)); clear hK K)
      refine reg_p (i := 4) rfl (by kernel_rfl) (fun _ _ _ _ h => h) HH.out (fun K hK => ?_)
      go_simp
      first | (refine hK _ ?_; clear hK K) | (apply Exists.intro; refine ⟨?_, hK _ ?_⟩; (focus (intro wx; first | (go_simp; first | rfl) | rfl)); clear hK K)
      refine reg_p (i := 5) rfl (by kernel_rfl) (fun _ _ _ _ h => h) HH.out (fun K hK => ?_)
      go_simp
      first | (refine hK _ ?_; clear hK K) | (apply Exists.intro; refine ⟨?_, hK _ ?_⟩; (focus (intro wx; first | (go_simp; first | rfl) | rfl)); clear hK K)
      refine reg_p (i := 6) rfl (by kernel_rfl) (fun _ _ _ _ h => h) HH.out (fun K hK => ?_)
      go_simp
      first | (refine hK _ ?_; clear hK K) | (apply Exists.intro; refine ⟨?_, hK _ ?_⟩; (focus (intro wx; first | (go_simp; first | rfl) | rfl)); clear hK K)
      refine reg_p (i := 7) rfl (by kernel_rfl) (fun _ _ _ _ h => h) HH.out (fun K hK => ?_)
      go_simp
      first | (refine hK _ ?_; clear hK K) | (apply Exists.intro; refine ⟨?_, hK _ ?_⟩; (focus (intro wx; first | (go_simp; first | rfl) | rfl)); clear hK K)
      refine reg_p (i := 8) rfl (by kernel_rfl) (fun _ _ _ _ h => h) HH.out (fun K hK => ?_)
      go_simp
      first | (refine hK _ ?_; clear hK K) | (apply Exists.intro; refine ⟨?_, hK _ ?_⟩; (focus (intro wx; first | (go_simp; first | rfl) | rfl)); clear hK K)
      refine mixk_q (i := 9) rfl (by kernel_rfl) (fun _ _ _ _ h => h) HH.out (fun K hK => ?_)
      go_simp
      first | (refine hK _ ?_; clear hK K) | (apply Exists.intro; refine ⟨?_, hK _ ?_⟩; (focus (intro wx hx; have x1_ := hx.cells; obtain ⟨y0_, y1_, y2_, y3_, y4_, y5_, y6_⟩ := hcs.out _ hx.tail.tail; first | (go_simp; first | rfl | exact ⟨rfl, rfl⟩) | rfl | exact ⟨rfl, rfl⟩)); clear hK K)
      refine reg_l none (i := 10) rfl (by kernel_rfl) (fun wn hk K hK => ?_)
      replace HH := Lib.hid (hk _ _ HH.out)
      clear hk
      go_simp
      refine (rlkPut_c ε wn _ rb st ⟨pn, ps', p3, p4, p5, p6, p7⟩ hok.out hpo.out hql.out HH.out.r2).mono ?_
      rw [hpu.out]
      rintro e wm ⟨rfl, H9_⟩
      replace HH := Lib.hid H9_
      clear H9_
      refine hK _ _ _ HH.out (.inl (by kernel_rfl)) ?_
      clear hK K
      refine reg_p (i := 11) rfl (by kernel_rfl) (fun _ _ _ _ h => h) HH.out (fun K hK => ?_)
      go_simp
      first | (refine hK _ ?_; clear hK K) | (apply Exists.intro; refine ⟨?_, hK _ ?_⟩; (focus (intro wx; first | (go_simp; first | rfl) | rfl)); clear hK K)
      refine mixk_done (by kernel_rfl) (fun w12_ hk => ?_) _
      replace HH := Lib.hid (hk _ _ HH.out)
      clear hk
      have H9 := ((Own.pm (HH.out) (by repeat (first | with_reducible exact Pm.refl _ | with_reducible exact Pm.nil _ | with_reducible refine Pm.here ?_ | with_reducible refine Pm.at2 ?_ | with_reducible refine Pm.at3 ?_ | with_reducible refine Pm.at4 ?_ | with_reducible refine Pm.at5 ?_ | with_reducible refine Pm.at6 ?_ | with_reducible refine Pm.at7 ?_ | with_reducible refine Pm.at8 ?_ | with_reducible refine Pm.skip ?_))) : Own ε _ (pts b _ :: rlk rb { st with q := q2 } :: R))
      have H8 := Lib.hid (Own.rl21_mk ε _ R b (s := { st with came := sadd st.came ps', q := q2 }) (rb := rb) H9)
      clear H9
      cases okp
      all_goals
        go_wp2_with fail
        go_roundw
        case rel =>
          refine ⟨k + 1, by omega, by go_num, by rw [hst2.out]; first | rfl | go_num, ?_⟩
          rw [hst2.out]
          exact H8.out
        case measure => simp [intOf]; omega
    · have hkn : k = n := by omega
      subst hkn
      rw [List.take_of_length_le (show ps.length ≤ k by omega)] at HH ⊢
      go_wp2_with fail
      go_ret
      exact ⟨rfl, HH.out⟩
set_option maxHeartbeats 3200000 in
theorem rl21Under_c (s : Lnk) (hs : s.Ok) (H : Own ε w (rl21 b s :: R)) :
    Calls Try.prog 115 #[.pointer (some ⟨b, 0, none⟩)] w fun e w' => e = .returned (.int .u64 s.under) ∧ w = w' := by
  obtain ⟨rb, H⟩ := H.rl21_open
  obtain ⟨v1, v2, H2⟩ := H.r2.rlk_open
  obtain ⟨A, n, cap, rfl, _, hcap, hit⟩ := H2.r3.slc_it Du.len (by decide)
  have k1 := H.cells
  have k2 := H2.cells
  have hps : ∀ d ∈ s.x.l, d.p.Ok := hs.ps
  have hn := hit.1
  have hm : n ≤ 9223372036854775807 := by unfold maxLen at hcap; omega
  have hun : s.under = sumF 0 (s.x.l.map Du.p) := rfl
  rw [hun]
  clear H H2 hs hun hcap
  replace hit := Lib.hid hit
  replace hps := Lib.hid hps
  go_enter Try.func115, Try.ntmps115
  go_wp2_with fail
  go_loopw [3, 4] (fun v i wr => ∃ k : Nat, k ≤ n ∧ i = .int .i64 k ∧ v = .int .u64 (sumF 0 ((s.x.l.map Du.p).take k)) ∧ wr = w) (fun _ i _ => n - (intOf i).toNat)
  case atStart => exact ⟨0, Nat.zero_le _, rfl, rfl, rfl⟩
  case round =>
    obtain ⟨k, hk, rfl, rfl, rfl⟩ := hrel
    by_cases hlt : k < n
    · obtain ⟨g, off, d, rfl, hd, hc⟩ := hit.out.get hlt
      have hp : (s.x.l.map Du.p)[k]? = some d.p := by rw [List.getElem?_map, hd]; rfl
      have hst := sumF_step (n := 0) hp
      have hU : U (sumF 0 ((s.x.l.map Du.p).take k)) := U_sumF U_zero fun q hq => by
        obtain ⟨d', hd', rfl⟩ := List.mem_map.1 (List.mem_of_mem_take hq)
        exact hps.out d' hd'
      have hsz := (hps.out d (List.mem_of_getElem? hd)).2.1
      have c1 := hc 1 _ rfl
      clear hc hd hp
      generalize sumF 0 ((s.x.l.map Du.p).take k) = acc at *
      obtain ⟨⟨pn, ps, p3, p4, p5, p6, p7⟩, dt⟩ := d
      simp only at hst hsz c1
      replace hst := Lib.hid hst
      replace hU := Lib.hid hU
      replace hsz := Lib.hid hsz
      go_wp2_with fail
      refine (refAdd_c _ _ _ hU.out hsz.out).mono ?_
      rintro e w' ⟨rfl, rfl⟩
      clear c1
      go_wp2_with fail
      go_roundw
      case rel => exact ⟨k + 1, by omega, by go_num, by rw [hst.out], by first | rfl | trivial⟩
      case measure => simp [intOf]; omega
    · have hkn : k = n := by omega
      subst hkn
      go_wp2_with fail
      go_ret
      exact ⟨congrArg (fun x => Ending.returned (Value.int .u64 (sumF 0 x))) (List.take_of_length_le (by rw [List.length_map]; omega)), rfl⟩
end
end Go.Proofs.Ytklohjjkpobneaa
