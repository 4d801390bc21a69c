/- ledger: lost, in flight, what is told. -/
import Derived.Test.YtlhncdbigjgmnaaLed8
namespace Go.Proofs.Ytlhncdbigjgmnaa
open Go.RowKit
/-- The bytes of packets. -/
def bytesP (l : List Pk) : Int := l.foldl (fun n p => sadd n p.size) 0
theorem bytesP_next {l : List Pk} {i : Nat} {p : Pk} (h : l[i]? = some p) : bytesP (l.take (i + 1)) = sadd (bytesP (l.take i)) p.size := by
  rw [take_next h]
  unfold bytesP
  rw [List.foldl_append]
  rfl
theorem outs_ok {l : List En} (h : ∀ e ∈ l, e.p.Ok) : ∀ p ∈ outs l, p.Ok := by
  intro p hp
  obtain ⟨e, he, rfl⟩ := List.mem_map.1 hp
  exact h e ((List.mem_filter.1 he).1)
section
variable (ε w : World) (R : List Asn) (b : Nat)
set_option maxRecDepth 100000 in
set_option maxHeartbeats 1600000 in
theorem ledLost_c (s : Led) (hn : s.row.length ≤ 1000000) (hok : ∀ e ∈ s.row, e.p.Ok) (now delay limit : Int) (h1 : U delay) (h2 : U limit) (h3 : U s.re) (H : Own ε w (led b s :: R)) :
    Calls Try.prog 17 #[.pointer (some ⟨b, 0, none⟩), .int .u64 now, .int .u64 delay, .int .u64 limit] w fun e w' => ∃ v, e = .returned v ∧ Own ε w' (slcP v (s.lost now delay limit).1 :: led b (s.lost now delay limit).2 :: R) := by
  obtain ⟨tk, htk⟩ : ∃ tk, tk = (s.lost now delay limit).1 := ⟨_, rfl⟩
  obtain ⟨s2, hs2⟩ : ∃ s2, s2 = (s.lost now delay limit).2 := ⟨_, rfl⟩
  rw [← htk, ← hs2]
  replace htk := Lib.hid htk
  replace hs2 := Lib.hid hs2
  have HH := Lib.hid H; clear H
  replace hok := Lib.hid hok
  replace hn := Lib.hid hn
  go_enter Try.func17, Try.ntmps17
  go_wp2_with (with_reducible refine stop_bx ?_)
  refine Stop.go ?_
  refine wpList_box_own HH.out [_] rfl ?_
  intro gb w1_ H9_
  replace HH := Lib.hid H9_
  clear H9_
  go_wp2_with (with_reducible refine stop_bx ?_)
  refine Stop.go ?_
  refine wpList_box_own HH.out [_] rfl ?_
  intro nb w2_ H9_
  replace HH := Lib.hid H9_
  clear H9_
  go_wp2_with (with_reducible refine stop_bx ?_)
  refine Stop.go ?_
  refine wpList_box_own HH.out [_] rfl ?_
  intro db w3_ H9_
  replace HH := Lib.hid H9_
  clear H9_
  go_wp2_with (with_reducible refine stop_bx ?_)
  refine Stop.go ?_
  refine wpList_box_own HH.out [_] rfl ?_
  intro lb w4_ H9_
  replace HH := Lib.hid H9_
  clear H9_
  have H1 := show Own ε _ (pts lb (.cells #[.int .u64 limit] 29 (0, 0)) :: pts db (.cells #[.int .u64 delay] 29 (0, 0)) :: pts nb (.cells #[.int .u64 now] 29 (0, 0)) :: pts gb (.cells #[.pointer (some ⟨b, 0, none⟩)] 37 (0, 0)) :: led b s :: R) from HH.out
  have cc4_ := H1.r4.cells
  obtain ⟨rb, H2⟩ := ((Own.pm (H1) (by repeat (first | with_reducible exact Pm.refl _ | with_reducible exact Pm.nil _ | with_reducible refine Pm.here ?_ | with_reducible refine Pm.at2 ?_ | with_reducible refine Pm.at3 ?_ | with_reducible refine Pm.at4 ?_ | with_reducible refine Pm.at5 ?_ | with_reducible refine Pm.at6 ?_ | with_reducible refine Pm.at7 ?_ | with_reducible refine Pm.at8 ?_ | with_reducible refine Pm.skip ?_))) : Own ε _ (led b s :: pts lb _ :: pts nb _ :: pts db _ :: pts gb _ :: R)).led_open
  have H3 := show Own ε _ (capX lb nb gb db b now delay limit :: _) from ((Own.pm (H2) (by repeat (first | with_reducible exact Pm.refl _ | with_reducible exact Pm.nil _ | with_reducible refine Pm.here ?_ | with_reducible refine Pm.at2 ?_ | with_reducible refine Pm.at3 ?_ | with_reducible refine Pm.at4 ?_ | with_reducible refine Pm.at5 ?_ | with_reducible refine Pm.at6 ?_ | with_reducible refine Pm.at7 ?_ | with_reducible refine Pm.at8 ?_ | with_reducible refine Pm.skip ?_))) : Own ε _ (pts lb _ :: pts nb _ :: pts db _ :: pts gb _ :: ledN b rb s :: ringL rb (blks s.row) :: ents s.row :: R)).capX_mk
  replace HH := Lib.hid ((Own.pm (H3) (by repeat (first | with_reducible exact Pm.refl _ | with_reducible exact Pm.nil _ | with_reducible refine Pm.here ?_ | with_reducible refine Pm.at2 ?_ | with_reducible refine Pm.at3 ?_ | with_reducible refine Pm.at4 ?_ | with_reducible refine Pm.at5 ?_ | with_reducible refine Pm.at6 ?_ | with_reducible refine Pm.at7 ?_ | with_reducible refine Pm.at8 ?_ | with_reducible refine Pm.skip ?_))) : Own ε _ (ledN b rb s :: ringL rb (blks s.row) :: ents s.row :: capX lb nb gb db b now delay limit :: R))
  clear H1 H2 H3
  go_wp2_with fail
  refine (takeL_c ε _ _ b rb 0 s hn.out hok.out lb nb gb db now delay limit h1 h2 h3 HH.out).mono ?_
  rintro e w5_ ⟨v, rfl, H9_⟩
  replace HH := Lib.hid H9_
  clear H9_
  go_wp2_with fail
  go_ret
  refine ⟨_, rfl, ?_⟩
  rw [htk.out, hs2.out]
  exact (Own.led_mk (s := (s.lost now delay limit).2) ((Own.pm (HH.out) (by repeat (first | with_reducible exact Pm.refl _ | with_reducible exact Pm.nil _ | with_reducible refine Pm.here ?_ | with_reducible refine Pm.at2 ?_ | with_reducible refine Pm.at3 ?_ | with_reducible refine Pm.at4 ?_ | with_reducible refine Pm.at5 ?_ | with_reducible refine Pm.at6 ?_ | with_reducible refine Pm.at7 ?_ | with_reducible refine Pm.at8 ?_ | with_reducible refine Pm.skip ?_))) : Own ε _ (ledN b rb s :: ringL rb (blks (s.take (lostB s.re s.top s.some now delay limit)).row) :: ents (s.take (lostB s.re s.top s.some now delay limit)).row :: slcP v (taken (lostB s.re s.top s.some now delay limit) s.row) :: R))).l2
theorem ledNext_c (s : Led) (H : Own ε w (led b s :: R)) :
    Calls Try.prog 25 #[.pointer (some ⟨b, 0, none⟩)] w fun e w' => e = .returned (.int .u64 s.next) ∧ w = w' := by
  obtain ⟨rb, H⟩ := H.led_open
  have k1 := H.cells
  clear H
  go_enter Try.func25, Try.ntmps25
  go_wp2_with fail
  go_ret
  exact ⟨rfl, rfl⟩
theorem ledTop_c (s : Led) (H : Own ε w (led b s :: R)) :
    Calls Try.prog 23 #[.pointer (some ⟨b, 0, none⟩)] w fun e w' => e = .returned (.tuple #[.int .u64 s.top, .bool s.some]) ∧ ∃ m, w' = w.drewN m := by
  obtain ⟨rb, H⟩ := H.led_open
  have k1 := H.cells
  clear H
  go_enter Try.func23, Try.ntmps23
  go_wp2_with fail
  go_quiet (fail)
  go_wp2_with fail
  go_ret2
  exact ⟨rfl, _, rfl⟩
theorem ledNext_nil : Calls Try.prog 25 #[.pointer none] w fun e w' => e = .returned (.int .u64 0) ∧ w = w' := by
  go_enter Try.func25, Try.ntmps25
  go_wp2_with fail
  go_ret
  exact ⟨rfl, rfl⟩
theorem ledTop_nil : Calls Try.prog 23 #[.pointer none] w fun e w' => e = .returned (.tuple #[.int .u64 0, .bool false]) ∧ w = w' := by
  go_enter Try.func23, Try.ntmps23
  go_wp2_with fail
  go_ret2
  exact ⟨rfl, rfl⟩
theorem ledOut_nil : Calls Try.prog 18 #[.pointer none] w fun e w' => e = .returned (.slice none 0 0) ∧ w = w' := by
  go_enter Try.func18, Try.ntmps18
  go_wp2_with fail
  go_ret
  exact ⟨rfl, rfl⟩
theorem ledAck_nil (A : Option Addr) (n cap : Nat) : Calls Try.prog 16 #[.pointer none, .slice A n cap] w fun e w' => e = .returned (.tuple #[.slice none 0 0, .int .i64 1]) ∧ w = w' := by
  go_enter Try.func16, Try.ntmps16
  go_wp2_with fail
  go_ret2
  exact ⟨rfl, rfl⟩
theorem ledLost_nil (now delay limit : Int) (H : Own ε w R) : Calls Try.prog 17 #[.pointer none, .int .u64 now, .int .u64 delay, .int .u64 limit] w fun e w' => e = .returned (.slice none 0 0) ∧ Own ε w' R := by
  have HH := Lib.hid H; clear H
  go_enter Try.func17, Try.ntmps17
  go_wp2_with (with_reducible refine stop_bx ?_)
  refine Stop.go ?_
  refine wpList_box_own HH.out [_] rfl ?_
  intro gb w6_ H9_
  replace HH := Lib.hid H9_
  clear H9_
  go_wp2_with (with_reducible refine stop_bx ?_)
  refine Stop.go ?_
  refine wpList_box_own HH.out [_] rfl ?_
  intro nb w7_ H9_
  replace HH := Lib.hid H9_
  clear H9_
  go_wp2_with (with_reducible refine stop_bx ?_)
  refine Stop.go ?_
  refine wpList_box_own HH.out [_] rfl ?_
  intro db w8_ H9_
  replace HH := Lib.hid H9_
  clear H9_
  go_wp2_with (with_reducible refine stop_bx ?_)
  refine Stop.go ?_
  refine wpList_box_own HH.out [_] rfl ?_
  intro lb w9_ H9_
  replace HH := Lib.hid H9_
  clear H9_
  have H1 := show Own ε _ (pts lb (.cells #[.int .u64 limit] 29 (0, 0)) :: pts db (.cells #[.int .u64 delay] 29 (0, 0)) :: pts nb (.cells #[.int .u64 now] 29 (0, 0)) :: pts gb (.cells #[.pointer none] 37 (0, 0)) :: R) from HH.out
  have cc4_ := H1.r4.cells
  clear HH
  go_wp2_with fail
  go_ret
  exact ⟨rfl, (Own.pm (H1) (by repeat (first | with_reducible exact Pm.refl _ | with_reducible exact Pm.nil _ | with_reducible refine Pm.here ?_ | with_reducible refine Pm.at2 ?_ | with_reducible refine Pm.at3 ?_ | with_reducible refine Pm.at4 ?_ | with_reducible refine Pm.at5 ?_ | with_reducible refine Pm.at6 ?_ | with_reducible refine Pm.at7 ?_ | with_reducible refine Pm.at8 ?_ | with_reducible refine Pm.skip ?_)))⟩
theorem ledInFlight_nil : Calls Try.prog 24 #[.pointer none] w fun e w' => e = .returned (.int .u64 0) ∧ w = w' := by
  go_enter Try.func24, Try.ntmps24
  go_wp2_with fail
  refine (ledOut_nil w).mono ?_
  rintro e w' ⟨rfl, rfl⟩
  go_wp2_with fail
  go_loopw [3, 9] (fun n i wr => wr = w ∧ n = .int .u64 0 ∧ i = .int .i64 0) (fun _ _ _ => 0)
  case atStart => exact ⟨rfl, rfl, rfl⟩
  case round =>
    obtain ⟨rfl, rfl, rfl⟩ := hrel
    go_wp2_with fail
    go_ret
    exact ⟨rfl, rfl⟩
set_option maxRecDepth 100000 in
set_option maxHeartbeats 1600000 in
theorem ledInFlight_c (s : Led) (hn : s.row.length ≤ 1000000) (hok : ∀ e ∈ s.row, e.p.Ok) (H : Own ε w (led b s :: R)) :
    Calls Try.prog 24 #[.pointer (some ⟨b, 0, none⟩)] w fun e w' => e = .returned (.int .u64 (bytesP (outs s.row))) ∧ Own ε w' (led b s :: R) := by
  have HH := Lib.hid H; clear H
  have hlen := outs_len s.row
  have hpo := outs_ok hok
  have hlen2 : (outs s.row).length ≤ 1000000 := Nat.le_trans hlen hn
  clear hlen hok
  replace hlen2 := Lib.hid hlen2
  replace hn := Lib.hid hn
  go_enter Try.func24, Try.ntmps24
  go_wp2_with fail
  refine (ledOut_c ε _ _ b 0 s hn.out HH.out).mono ?_
  rintro e w10_ ⟨v, rfl, H9_⟩
  replace HH := Lib.hid H9_
  clear H9_
  obtain ⟨l, hl⟩ : ∃ l, l = outs s.row := ⟨_, rfl⟩
  have hlen := hlen2.out
  rw [← hl] at HH hlen hpo
  replace hl := Lib.hid hl
  obtain ⟨A, n, c, rfl, _, _, hpk⟩ := HH.out.slcP_val
  have hln : l.length = n := hpk.1
  clear hpk
  replace hpo := Lib.hid hpo
  have hn2 : n ≤ 1000000 := by omega
  replace hln := Lib.hid hln
  clear hlen hlen2
  replace hn2 := Lib.hid hn2
  go_wp2_with fail
  go_loopw [3, 9] (fun t i wr => ∃ k : Nat, k ≤ n ∧ i = .int .i64 k ∧ t = .int .u64 (bytesP (l.take k)) ∧ U (bytesP (l.take k)) ∧ Own ε wr (slcP (.slice A n c) l :: led b s :: R)) (fun _ i _ => n - (intOf i).toNat)
  case atStart => exact ⟨0, Nat.zero_le _, rfl, rfl, U_zero, HH.out⟩
  case round =>
    clear HH
    obtain ⟨k, hk, rfl, rfl, hu, HR⟩ := hrel
    have HH := Lib.hid HR
    clear HR
    by_cases hlt : k < n
    · obtain ⟨_, _, _, e, _, _, hpk⟩ := HH.out.slcP_val
      cases e
      obtain ⟨g, off, p, rfl, hp, y0_, y1_, y2_, y3_, y4_, y5_, y6_⟩ := hpk.cells hlt
      clear hpk
      have hps := (hpo.out p (List.mem_of_getElem? hp)).2.1
      have e1 := bytesP_next hp
      obtain ⟨t, ht⟩ : ∃ t, t = bytesP (l.take k) := ⟨_, rfl⟩
      rw [← ht] at e1 hu ⊢
      clear ht
      obtain ⟨pn, ps, p3, p4, p5, p6, p7⟩ := p
      replace hp := Lib.hid hp
      replace e1 := Lib.hid e1
      have hk9 : k ≤ 1000000 := Nat.le_trans hk hn2.out
      have hlti : (k : Int) < (n : Int) := by omega
      go_wp2_with (with_reducible refine stop_al ?_)
      refine Stop.go ?_
      refine wpList_alloc_own HH.out [.int .u64 0, .int .u64 0, .int .u64 0, .int .u64 0, .int .u64 0, .int .u64 0, .bool false] (by kernel_rfl) ?_
      intro pb w11_ H9_
      replace HH := Lib.hid H9_
      clear H9_
      go_wp2_with (with_reducible refine stop_st ?_)
      refine Stop.go ?_
      refine wpList_store_own _ #[_, _, _, _, _, _, _] rfl rfl HH.out (by kernel_rfl) rfl (by repeat (first | (refine List.forall_mem_cons.2 ⟨(by first | with_reducible assumption | rfl), ?_⟩) | exact fun _ h => absurd h List.not_mem_nil)) ?_
      intro w12_ H9_
      replace HH := Lib.hid H9_
      clear H9_
      clear y0_ y1_ y2_ y3_ y4_ y5_ y6_
      (try clear cc1_); (try clear cc2_); (try clear cc3_); (try clear cc4_); (try clear cc5_); (try clear cc6_); (try clear cc7_)
      have cc1_ := HH.out.cells
      go_wp2_with (with_reducible refine stop_bs ?_)
      refine Stop.go ?_
      refine wpList_bsv_own HH.out [.int .u64 t, .int .u64 ps] 1 8 [.int .u64 0] Try.underlying104 (by kernel_rfl) (by kernel_rfl) (by decide) (by decide) (by kernel_rfl) ?_
      intro g1 w13_ H9_
      replace HH := Lib.hid H9_
      clear H9_
      go_wp2_with fail
      refine (fixAdd2_c _ g1 t ps hu hps (HH.out.cells.1 0) (HH.out.cells.1 1)).mono ?_
      rintro e w14_ ⟨rfl, hbel⟩
      replace HH := Lib.hid ((by first | exact Kp.same hbel | exact Kp.drew hbel | exact Kp.below hbel : Kp _ w14_) _ _ (by first | exact HH.out | exact HH.out.drewN _ | exact (HH.out.alloc _).tail | exact ((HH.out.alloc _).drewN _).tail | exact ((HH.out.alloc _).alloc _).tail.tail))
      clear hbel
      go_wp2_with fail
      go_roundw
      case rel => exact ⟨k + 1, by omega, by go_num, by rw [e1.out], by rw [e1.out]; exact U_sadd hu hps, (Own.pm (HH.out) (by repeat (first | with_reducible exact Pm.refl _ | with_reducible exact Pm.nil _ | with_reducible refine Pm.here ?_ | with_reducible refine Pm.at2 ?_ | with_reducible refine Pm.at3 ?_ | with_reducible refine Pm.at4 ?_ | with_reducible refine Pm.at5 ?_ | with_reducible refine Pm.at6 ?_ | with_reducible refine Pm.at7 ?_ | with_reducible refine Pm.at8 ?_ | with_reducible refine Pm.skip ?_)))⟩
      case measure => simp [intOf]; omega
    · have hkn : ¬ (k : Int) < (n : Int) := by omega
      obtain rfl : k = n := by omega
      have e9 : bytesP (l.take k) = bytesP (outs s.row) := by rw [← hln.out, List.take_length, hl.out]
      replace e9 := Lib.hid e9
      go_wp2_with fail
      go_ret
      exact ⟨by rw [← e9.out]; rfl, HH.out.tail⟩
end
end Go.Proofs.Ytlhncdbigjgmnaa
