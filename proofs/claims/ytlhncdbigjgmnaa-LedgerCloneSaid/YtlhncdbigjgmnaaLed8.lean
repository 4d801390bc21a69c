/- ledger: acknowledged, lost, what is told. -/
import Derived.Test.YtlhncdbigjgmnaaLed7
namespace Go.Proofs.Ytlhncdbigjgmnaa
open Go.RowKit
theorem sqIn_nil (n : Nat) : SqIn [] n := ⟨apart_nil, fun _ hr => absurd hr List.not_mem_nil, Nat.zero_le _⟩
theorem putsL_in : ∀ (xs l : List Rg) (n : Nat), SqIn l n → (∀ x ∈ xs, U x.1 ∧ U x.2) → xs.any badR = false → SqIn (putsL l xs) (n + xs.length)
  | [], l, n, h, _, _ => h
  | x :: xs, l, n, h, hU, hb => by
    simp only [List.any_cons, Bool.or_eq_false_iff] at hb
    have hx := hU x (List.mem_cons_self ..)
    have h2 := putsL_in xs (putL x l) (n + 1) (h.put hb.1 hx.1.1 hx.2).1 (fun y hy => hU y (List.mem_cons_of_mem _ hy)) hb.2
    rw [show n + (x :: xs).length = n + 1 + xs.length by simp; omega]
    exact h2
/-- The top, behind those that were acknowledged. -/
def Led.ackTop (s : Led) (out : List Pk) : Led := match out.getLast? with
  | .none => s
  | .some p => { s with top := max s.top p.n, some := true }
def Led.ack (s : Led) (xs : List Rg) : List Pk × Int × Led :=
  if xs.any badR then ([], 1, s) else (taken (ackB (putsL [] xs)) s.row, 0, (s.take (ackB (putsL [] xs))).ackTop (taken (ackB (putsL [] xs)) s.row))
def Led.lost (s : Led) (now delay limit : Int) : List Pk × Led := (taken (lostB s.re s.top s.some now delay limit) s.row, s.take (lostB s.re s.top s.some now delay limit))
theorem pk_n {ε w : World} {R : List Asn} {g off n cap i : Nat} {l : List Pk} {p : Pk} (H : Own ε w (slcP (.slice (some ⟨g, off, none⟩) n cap) l :: R)) (hp : l[i]? = some p) : w.cell? ⟨g, off + i * 7, none⟩ = some (.int .u64 p.n) := by
  obtain ⟨_, _, _, e, _, _, h⟩ := H.slcP_val
  cases e
  obtain ⟨hi, rfl⟩ := List.getElem?_eq_some_iff.1 hp
  obtain ⟨g', off', e, hc⟩ := h.2 i hi
  cases e
  exact hc 0 _ rfl
section
variable (ε w : World) (R : List Asn) (b : Nat)
set_option maxRecDepth 100000 in
set_option maxHeartbeats 3200000 in
theorem ledAck_c (s : Led) (hn : s.row.length ≤ 1000000) (hok : ∀ e ∈ s.row, e.p.Ok) (xs : List Rg) (hU : ∀ x ∈ xs, U x.1 ∧ U x.2) (A : Option Addr) (len cap : Nat) (hA : ∀ wx, Own ε wx R → itAt encRg 2 wx A len xs) (hm : len ≤ 999999) (H : Own ε w (led b s :: R)) :
    Calls Try.prog 16 #[.pointer (some ⟨b, 0, none⟩), .slice A len cap] w fun e w' => ∃ v, e = .returned (.tuple #[v, .int .i64 (s.ack xs).2.1]) ∧ Own ε w' (slcP v (s.ack xs).1 :: led b (s.ack xs).2.2 :: R) := by
  have HH := Lib.hid H; clear H
  have hlen : xs.length = len := (hA w HH.out.tail).1
  replace hA := Lib.hid hA
  replace hU := Lib.hid hU
  replace hok := Lib.hid hok
  cases hb : xs.any badR with
  | true =>
    rw [show s.ack xs = ([], 1, s) from if_pos hb]
    replace hb := Lib.hid hb
    replace hlen := Lib.hid hlen
    go_enter Try.func16, Try.ntmps16
    go_wp2_with fail
    refine (seqNew_c ε _ _ HH.out).mono ?_
    rintro e w1_ ⟨sb, rfl, H9_⟩
    replace HH := Lib.hid H9_
    clear H9_
    go_wp2_with (with_reducible refine stop_al ?_)
    refine Stop.go ?_
    refine wpList_alloc_own HH.out [.pointer none] (by kernel_rfl) ?_
    intro gb w2_ H9_
    replace HH := Lib.hid H9_
    clear H9_
    go_wp2_with (with_reducible refine stop_st ?_)
    refine Stop.go ?_
    refine wpList_store1_own (v := .pointer (some ⟨sb, 0, none⟩)) (k := 0) rfl rfl HH.out (by kernel_rfl) (by simp) (by first | rfl | assumption) ?_
    intro w3_ H9_
    replace HH := Lib.hid H9_
    clear H9_
    simp only [List.setIfInBounds_toArray, List.set_cons_zero] at HH
    (try clear cc1_); (try clear cc2_); (try clear cc3_); (try clear cc4_); (try clear cc5_); (try clear cc6_); (try clear cc7_)
    have cc1_ := HH.out.cells
    go_wp2_with fail
    refine (seqPut_bad ε _ _ sb [] xs (fun x hx => (hU.out x hx).2) A len cap (fun wx Hx => hA.out wx (Hx.tail.tail.tail)) (by omega) hb.out HH.out.r2).mono ?_
    rintro e w4_ ⟨rfl, H9_⟩
    replace HH := Lib.hid H9_
    clear H9_
    go_wp2_with fail
    go_ret2
    exact ⟨_, rfl, HH.out.tail.tail.slc_none⟩
  | false =>
    have hin := putsL_in xs [] 0 (sqIn_nil 0) hU.out hb
    rw [Nat.zero_add, hlen] at hin
    obtain ⟨q, hq⟩ : ∃ q, q = putsL [] xs := ⟨_, rfl⟩
    rw [show s.ack xs = (taken (ackB q) s.row, 0, (s.take (ackB q)).ackTop (taken (ackB q) s.row)) by rw [hq]; exact if_neg (by rw [hb]; decide)]
    rw [← hq] at hin
    obtain ⟨tk, htk⟩ : ∃ tk, tk = taken (ackB q) s.row := ⟨_, rfl⟩
    rw [← htk] at ⊢
    have htl : tk.length ≤ 1000000 := by
      have := taken_len (ackB q) s.row
      rw [← htk] at this
      omega
    replace htk := Lib.hid htk
    obtain ⟨s2, hs2⟩ : ∃ s2, s2 = s.take (ackB q) := ⟨_, rfl⟩
    rw [← hs2] at ⊢
    replace hs2 := Lib.hid hs2
    replace hq := Lib.hid hq
    replace hb := Lib.hid hb
    replace hin := Lib.hid hin
    replace hlen := Lib.hid hlen
    go_enter Try.func16, Try.ntmps16
    go_wp2_with fail
    refine (seqNew_c ε _ _ HH.out).mono ?_
    rintro e w5_ ⟨sb, rfl, H9_⟩
    replace HH := Lib.hid H9_
    clear H9_
    go_wp2_with (with_reducible refine stop_al ?_)
    refine Stop.go ?_
    refine wpList_alloc_own HH.out [.pointer none] (by kernel_rfl) ?_
    intro gb w6_ H9_
    replace HH := Lib.hid H9_
    clear H9_
    go_wp2_with (with_reducible refine stop_st ?_)
    refine Stop.go ?_
    refine wpList_store1_own (v := .pointer (some ⟨sb, 0, none⟩)) (k := 0) rfl rfl HH.out (by kernel_rfl) (by simp) (by first | rfl | assumption) ?_
    intro w7_ H9_
    replace HH := Lib.hid H9_
    clear H9_
    simp only [List.setIfInBounds_toArray, List.set_cons_zero] at HH
    (try clear cc1_); (try clear cc2_); (try clear cc3_); (try clear cc4_); (try clear cc5_); (try clear cc6_); (try clear cc7_)
    have cc1_ := HH.out.cells
    go_wp2_with fail
    refine (seqPut_c ε _ _ sb [] xs 0 (sqIn_nil 0) hU.out A len cap (fun _ wx Hx => hA.out wx (Hx.tail.tail.tail)) (by omega) hb.out HH.out.r2).mono ?_
    rintro e w8_ ⟨rfl, H9_⟩
    replace HH := Lib.hid H9_
    clear H9_
    rw [← hq.out] at HH
    obtain ⟨rb, H2⟩ := ((Own.pm (HH.out) (by repeat (first | with_reducible exact Pm.refl _ | with_reducible exact Pm.nil _ | with_reducible refine Pm.here ?_ | with_reducible refine Pm.at2 ?_ | with_reducible refine Pm.at3 ?_ | with_reducible refine Pm.at4 ?_ | with_reducible refine Pm.at5 ?_ | with_reducible refine Pm.at6 ?_ | with_reducible refine Pm.at7 ?_ | with_reducible refine Pm.at8 ?_ | with_reducible refine Pm.skip ?_))) : Own ε _ (led b s :: pts gb _ :: sqs sb q :: R)).led_open
    have H3 := show Own ε _ (capA gb sb q :: _) from ((Own.pm (H2) (by repeat (first | with_reducible exact Pm.refl _ | with_reducible exact Pm.nil _ | with_reducible refine Pm.here ?_ | with_reducible refine Pm.at2 ?_ | with_reducible refine Pm.at3 ?_ | with_reducible refine Pm.at4 ?_ | with_reducible refine Pm.at5 ?_ | with_reducible refine Pm.at6 ?_ | with_reducible refine Pm.at7 ?_ | with_reducible refine Pm.at8 ?_ | with_reducible refine Pm.skip ?_))) : Own ε _ (pts gb _ :: sqs sb q :: ledN b rb s :: ringL rb (blks s.row) :: ents s.row :: R)).join
    replace HH := Lib.hid ((Own.pm (H3) (by repeat (first | with_reducible exact Pm.refl _ | with_reducible exact Pm.nil _ | with_reducible refine Pm.here ?_ | with_reducible refine Pm.at2 ?_ | with_reducible refine Pm.at3 ?_ | with_reducible refine Pm.at4 ?_ | with_reducible refine Pm.at5 ?_ | with_reducible refine Pm.at6 ?_ | with_reducible refine Pm.at7 ?_ | with_reducible refine Pm.at8 ?_ | with_reducible refine Pm.skip ?_))) : Own ε _ (ledN b rb s :: ringL rb (blks s.row) :: ents s.row :: capA gb sb q :: R))
    clear H2 H3
    go_wp2_with fail
    refine (takeA_c ε _ _ b rb 0 s hn hok.out gb sb q len hin.out hm HH.out).mono ?_
    rintro e w9_ ⟨v, rfl, H9_⟩
    replace HH := Lib.hid H9_
    clear H9_
    rw [← htk.out, ← hs2.out] at HH
    rw [show ledN b rb s = ledN b rb s2 by rw [hs2.out]; rfl] at HH
    clear hs2
    obtain ⟨A2, n2, c2, rfl, hc1, hc2, hpk⟩ := HH.out.slcP_val
    replace hpk := Lib.hid hpk
    obtain ⟨re, next, top, sm, row⟩ := s2
    by_cases h0 : n2 = 0
    · subst h0
      have e0 : tk = [] := List.eq_nil_of_length_eq_zero hpk.out.1
      subst e0
      go_wp2_with fail
      go_ret2
      refine ⟨_, rfl, ?_⟩
      have H9 := Own.led_mk (s := ⟨re, next, top, sm, row⟩) ((Own.pm (HH.out) (by repeat (first | with_reducible exact Pm.refl _ | with_reducible exact Pm.nil _ | with_reducible refine Pm.here ?_ | with_reducible refine Pm.at2 ?_ | with_reducible refine Pm.at3 ?_ | with_reducible refine Pm.at4 ?_ | with_reducible refine Pm.at5 ?_ | with_reducible refine Pm.at6 ?_ | with_reducible refine Pm.at7 ?_ | with_reducible refine Pm.at8 ?_ | with_reducible refine Pm.skip ?_))) : Own ε _ (ledN b rb ⟨re, next, top, sm, row⟩ :: ringL rb (blks row) :: ents row :: slcP _ [] :: R))
      exact H9.l2
    · obtain ⟨g, off, p, rfl, hp, _⟩ := hpk.out.cells (i := n2 - 1) (by omega)
      have hl : tk.getLast? = some p := by rw [List.getLast?_eq_getElem?, hpk.out.1]; exact hp
      have ea : Led.ackTop ⟨re, next, top, sm, row⟩ tk = ⟨re, next, max top p.n, true, row⟩ := by unfold Led.ackTop; rw [hl]
      clear hl
      have im := ite_max
      have hn2 : n2 ≤ 1000000 := by have := hpk.out.1; omega
      have hn3 : (0 : Int) < (n2 : Int) := by omega
      have hw : IntKind.i64.wrap ((n2 : Int) - 1) = ((n2 - 1 : Nat) : Int) := by rw [IntKind.wrap_i64]; omega
      obtain ⟨k, hk⟩ : ∃ k, n2 = k + 1 := ⟨n2 - 1, by omega⟩
      rw [show n2 - 1 = k by omega] at hw hp
      have hk2 : (k : Int) < (n2 : Int) := by omega
      replace hk := Lib.hid hk
      replace hp := Lib.hid hp
      replace ea := Lib.hid ea
      go_wp2_with fail
      refine wp_region_reg (some 15) HH.out (by kernel_rfl) ?_
      intro wm H9_
      replace HH := Lib.hid H9_
      clear H9_
      refine reg_p (i := 0) rfl (by kernel_rfl) (fun _ _ _ _ h => h) HH.out (fun K hK => ?_)
      go_simp
      first | (refine hK _ ?_; clear hK K) | (apply Exists.intro; refine ⟨?_, hK _ ?_⟩; (focus (intro wx; first | (go_simp; first | rfl) | rfl)); clear hK K)
      refine reg_p (i := 1) rfl (by kernel_rfl) (fun _ _ _ _ h => h) HH.out (fun K hK => ?_)
      go_simp
      first | (refine hK _ ?_; clear hK K) | (apply Exists.intro; refine ⟨?_, hK _ ?_⟩; (focus (intro wx; first | (go_simp; first | rfl) | rfl)); clear hK K)
      refine reg_p (i := 2) rfl (by kernel_rfl) (fun _ _ _ _ h => h) HH.out (fun K hK => ?_)
      go_simp
      first | (refine hK _ ?_; clear hK K) | (apply Exists.intro; refine ⟨?_, hK _ ?_⟩; (focus (intro wx; first | (go_simp; first | rfl) | rfl)); clear hK K)
      refine reg_p (i := 3) rfl (by kernel_rfl) (fun _ _ _ _ h => h) HH.out (fun K hK => ?_)
      go_simp
      first | (refine hK _ ?_; clear hK K) | (apply Exists.intro; refine ⟨?_, hK _ ?_⟩; (focus (intro wx; first | (go_simp; first | rfl) | rfl)); clear hK K)
      refine reg_p (i := 4) rfl (by kernel_rfl) (fun _ _ _ _ h => h) HH.out (fun K hK => ?_)
      go_simp
      first | (refine hK _ ?_; clear hK K) | (apply Exists.intro; refine ⟨?_, hK _ ?_⟩; (focus (intro wx; first | (go_simp; first | rfl) | rfl)); clear hK K)
      refine mixk_q (i := 5) rfl (by kernel_rfl) (fun _ _ _ _ h => h) HH.out (fun K hK => ?_)
      go_simp
      first | (refine hK _ ?_; clear hK K) | (apply Exists.intro; refine ⟨?_, hK _ ?_⟩; (focus (intro wx hx; have x2_ := hx.r2.cells; have y0_ := pk_n ((Own.pm (hx) (by repeat (first | with_reducible exact Pm.refl _ | with_reducible exact Pm.nil _ | with_reducible refine Pm.here ?_ | with_reducible refine Pm.at2 ?_ | with_reducible refine Pm.at3 ?_ | with_reducible refine Pm.at4 ?_ | with_reducible refine Pm.at5 ?_ | with_reducible refine Pm.at6 ?_ | with_reducible refine Pm.at7 ?_ | with_reducible refine Pm.at8 ?_ | with_reducible refine Pm.skip ?_))) : Own ε _ (slcP (.slice (some ⟨g, off, none⟩) n2 c2) tk :: R)) hp.out; first | (go_simp; first | rfl | exact ⟨rfl, rfl⟩) | rfl | exact ⟨rfl, rfl⟩)); clear hK K)
      refine reg_p (i := 6) rfl (by kernel_rfl) (fun _ _ _ _ h => h) HH.out (fun K hK => ?_)
      go_simp
      first | (refine hK _ ?_; clear hK K) | (apply Exists.intro; refine ⟨?_, hK _ ?_⟩; (focus (intro wx; first | (go_simp; first | rfl) | rfl)); clear hK K)
      refine reg_p (i := 7) rfl (by kernel_rfl) (fun _ _ _ _ h => h) HH.out (fun K hK => ?_)
      go_simp
      first | (refine hK _ ?_; clear hK K) | (apply Exists.intro; refine ⟨?_, hK _ ?_⟩; (focus (intro wx; first | (go_simp; first | rfl) | rfl)); clear hK K)
      refine reg_p (i := 8) rfl (by kernel_rfl) (fun _ _ _ _ h => h) HH.out (fun K hK => ?_)
      go_simp
      first | (refine hK _ ?_; clear hK K) | (apply Exists.intro; refine ⟨?_, hK _ ?_⟩; (focus (intro wx; first | (go_simp; first | rfl) | rfl)); clear hK K)
      refine reg_p (i := 9) rfl (by kernel_rfl) (fun _ _ _ _ h => h) HH.out (fun K hK => ?_)
      go_simp
      first | (refine hK _ ?_; clear hK K) | (apply Exists.intro; refine ⟨?_, hK _ ?_⟩; (focus (intro wx; first | (go_simp; first | rfl) | rfl)); clear hK K)
      refine reg_p (i := 10) rfl (by kernel_rfl) (fun _ _ _ _ h => h) HH.out (fun K hK => ?_)
      go_simp
      first | (refine hK _ ?_; clear hK K) | (apply Exists.intro; refine ⟨?_, hK _ ?_⟩; (focus (intro wx; first | (go_simp; first | rfl) | rfl)); clear hK K)
      refine mixk_q (i := 11) rfl (by kernel_rfl) (fun _ _ _ _ h => h) HH.out (fun K hK => ?_)
      go_simp
      first | (refine hK _ ?_; clear hK K) | (apply Exists.intro; refine ⟨?_, hK _ ?_⟩; (focus (intro wx hx; have x2_ := hx.r2.cells; have y0_ := pk_n ((Own.pm (hx) (by repeat (first | with_reducible exact Pm.refl _ | with_reducible exact Pm.nil _ | with_reducible refine Pm.here ?_ | with_reducible refine Pm.at2 ?_ | with_reducible refine Pm.at3 ?_ | with_reducible refine Pm.at4 ?_ | with_reducible refine Pm.at5 ?_ | with_reducible refine Pm.at6 ?_ | with_reducible refine Pm.at7 ?_ | with_reducible refine Pm.at8 ?_ | with_reducible refine Pm.skip ?_))) : Own ε _ (slcP (.slice (some ⟨g, off, none⟩) n2 c2) tk :: R)) hp.out; first | (go_simp; first | rfl | exact ⟨rfl, rfl⟩) | rfl | exact ⟨rfl, rfl⟩)); clear hK K)
      refine reg_p (i := 12) rfl (by kernel_rfl) (fun _ _ _ _ h => h) HH.out (fun K hK => ?_)
      go_simp
      first | (refine hK _ ?_; clear hK K) | (apply Exists.intro; refine ⟨?_, hK _ ?_⟩; (focus (intro wx; first | (go_simp; first | rfl) | rfl)); clear hK K)
      refine reg_p (i := 13) rfl (by kernel_rfl) (fun _ _ _ _ h => h) HH.out (fun K hK => ?_)
      go_simp
      first | (refine hK _ ?_; clear hK K) | (apply Exists.intro; refine ⟨?_, hK _ ?_⟩; (focus (intro wx; first | (go_simp; first | rfl) | rfl)); clear hK K)
      refine reg_p (i := 14) rfl (by kernel_rfl) (fun _ _ _ _ h => h) HH.out (fun K hK => ?_)
      go_simp
      first | (refine hK _ ?_; clear hK K) | (apply Exists.intro; refine ⟨?_, hK _ ?_⟩; (focus (intro wx; first | (go_simp; first | rfl) | rfl)); clear hK K)
      refine reg_l (some 18) (i := 15) rfl (by kernel_rfl) (fun wn hk K hK => ?_)
      replace HH := Lib.hid (hk _ _ HH.out)
      clear hk
      have hx := HH.out
      have x2_ := hx.r2.cells
      have y0_ := pk_n ((Own.pm (hx) (by repeat (first | with_reducible exact Pm.refl _ | with_reducible exact Pm.nil _ | with_reducible refine Pm.here ?_ | with_reducible refine Pm.at2 ?_ | with_reducible refine Pm.at3 ?_ | with_reducible refine Pm.at4 ?_ | with_reducible refine Pm.at5 ?_ | with_reducible refine Pm.at6 ?_ | with_reducible refine Pm.at7 ?_ | with_reducible refine Pm.at8 ?_ | with_reducible refine Pm.skip ?_))) : Own ε _ (slcP (.slice (some ⟨g, off, none⟩) n2 c2) tk :: R)) hp.out
      go_simp
      replace HH := Lib.hid (HH.out.r2.set 3 (.int .u64 (max top p.n)))
      simp only [List.setIfInBounds_toArray, List.set_cons_succ, List.set_cons_zero] at HH
      generalize wn.setCell ⟨b, 3, none⟩ (.int .u64 (max top p.n)) = wm at *
      clear hx x2_
      refine hK _ _ _ HH.out (.inl (by kernel_rfl)) ?_
      clear hK K
      refine reg_p (i := 16) rfl (by kernel_rfl) (fun _ _ _ _ h => h) HH.out (fun K hK => ?_)
      go_simp
      first | (refine hK _ ?_; clear hK K) | (apply Exists.intro; refine ⟨?_, hK _ ?_⟩; (focus (intro wx; first | (go_simp; first | rfl) | rfl)); clear hK K)
      refine reg_p (i := 17) rfl (by kernel_rfl) (fun _ _ _ _ h => h) HH.out (fun K hK => ?_)
      go_simp
      first | (refine hK _ ?_; clear hK K) | (apply Exists.intro; refine ⟨?_, hK _ ?_⟩; (focus (intro wx; first | (go_simp; first | rfl) | rfl)); clear hK K)
      refine reg_l none (i := 18) rfl (by kernel_rfl) (fun wn hk K hK => ?_)
      replace HH := Lib.hid (hk _ _ HH.out)
      clear hk
      have hx := HH.out
      have x2_ := hx.cells
      have y0_ := pk_n ((Own.pm (hx) (by repeat (first | with_reducible exact Pm.refl _ | with_reducible exact Pm.nil _ | with_reducible refine Pm.here ?_ | with_reducible refine Pm.at2 ?_ | with_reducible refine Pm.at3 ?_ | with_reducible refine Pm.at4 ?_ | with_reducible refine Pm.at5 ?_ | with_reducible refine Pm.at6 ?_ | with_reducible refine Pm.at7 ?_ | with_reducible refine Pm.at8 ?_ | with_reducible refine Pm.skip ?_))) : Own ε _ (slcP (.slice (some ⟨g, off, none⟩) n2 c2) tk :: R)) hp.out
      go_simp
      replace HH := Lib.hid (HH.out.set 4 (.bool true))
      simp only [List.setIfInBounds_toArray, List.set_cons_succ, List.set_cons_zero] at HH
      generalize wn.setCell ⟨b, 4, none⟩ (.bool true) = wm at *
      clear hx x2_
      refine hK _ _ _ HH.out (.inl (by kernel_rfl)) ?_
      clear hK K
      refine mixk_done (by kernel_rfl) (fun w10_ hk => ?_) _
      replace HH := Lib.hid (hk _ _ HH.out)
      clear hk
      replace HH := Lib.hid ((Own.pm (HH.out) (by repeat (first | with_reducible exact Pm.refl _ | with_reducible exact Pm.nil _ | with_reducible refine Pm.here ?_ | with_reducible refine Pm.at2 ?_ | with_reducible refine Pm.at3 ?_ | with_reducible refine Pm.at4 ?_ | with_reducible refine Pm.at5 ?_ | with_reducible refine Pm.at6 ?_ | with_reducible refine Pm.at7 ?_ | with_reducible refine Pm.at8 ?_ | with_reducible refine Pm.skip ?_))) : Own _ _ (slcP (.slice (some ⟨g, off, none⟩) n2 c2) tk :: pts b _ :: ringL rb (blks row) :: ents row :: R))
      go_wp2_with fail
      go_ret2
      refine ⟨_, rfl, ?_⟩
      rw [ea.out]
      have H9 := Own.led_mk (s := ⟨re, next, max top p.n, true, row⟩) ((Own.pm (HH.out) (by repeat (first | with_reducible exact Pm.refl _ | with_reducible exact Pm.nil _ | with_reducible refine Pm.here ?_ | with_reducible refine Pm.at2 ?_ | with_reducible refine Pm.at3 ?_ | with_reducible refine Pm.at4 ?_ | with_reducible refine Pm.at5 ?_ | with_reducible refine Pm.at6 ?_ | with_reducible refine Pm.at7 ?_ | with_reducible refine Pm.at8 ?_ | with_reducible refine Pm.skip ?_))) : Own ε _ (pts b _ :: ringL rb (blks row) :: ents row :: slcP (.slice (some ⟨g, off, none⟩) n2 c2) tk :: R))
      exact H9.l2
end
end Go.Proofs.Ytlhncdbigjgmnaa
