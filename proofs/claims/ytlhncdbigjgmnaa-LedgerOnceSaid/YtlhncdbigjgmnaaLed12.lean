/- ledger: LedgerOnce. -/
import Derived.Test.YtlhncdbigjgmnaaLed11
import Derived.Deep.CutBlock
import Derived.Deep.Cut
import Derived.Deep.LoopGhost
namespace Go.Proofs.Ytlhncdbigjgmnaa
open Go.RowKit
/-- Rows of bools, as cells. -/
def bls (l : List Bool) : List Value := l.map Value.bool
theorem bls_len (l : List Bool) : (bls l).length = l.length := List.length_map ..
theorem bls_at {l : List Bool} {i : Nat} {x : Bool} (h : l[i]? = some x) : (bls l)[i]? = some (.bool x) := by unfold bls; rw [List.getElem?_map, h]; rfl
theorem bls_set (l : List Bool) (i : Nat) (x : Bool) : (bls l).set i (.bool x) = bls (l.set i x) := by unfold bls; rw [List.map_set]
theorem setsG_next {l : List Pk} {g : List Bool} {j : Nat} {p : Pk} (h : l[j]? = some p) : setsG g (l.take (j + 1)) = (setsG g (l.take j)).set p.n.toNat true := by
  rw [take_next h]
  unfold setsG
  rw [List.foldl_append]
  rfl
/-- A row of bools that is there. -/
theorem bls_there {ε w : World} {R : List Asn} {v : Value} {l : List Bool} (H : Own ε w (slc 4 1 v (bls l) :: R)) : ∃ A c, v = .slice A l.length c ∧ ∀ i x, l[i]? = some x → ∃ g, A = some ⟨g, 0, none⟩ ∧ w.cell? ⟨g, i, none⟩ = some (.bool x) ∧ w.frozen? ⟨g, i, none⟩ = false := by
  rcases H.slc_val with ⟨rfl, h⟩ | ⟨g, n, c, rfl, _, _, h3, h4, h5⟩
  · have hl : l.length = 0 := by rw [← bls_len, h]; rfl
    rw [hl]
    refine ⟨none, 0, rfl, fun i x hx => ?_⟩
    have := (List.getElem?_eq_some_iff.1 hx).1
    omega
  · have hl : l.length = n := by rw [← bls_len]; omega
    subst hl
    exact ⟨_, c, rfl, fun i x hx => ⟨g, rfl, h4 i _ (bls_at hx), h5 i⟩⟩
section
variable (w : World)
set_option maxRecDepth 100000 in
set_option maxHeartbeats 12800000 in
theorem ledgerOnce_c (r : Int) (hr0 : (Lit.int .u64 r).wf = true) (A : Option Addr) (len cap : Nat) (xs : List ActT) (hr : rdSlice rdActT 6 w [.slice A len cap] xs) :
    Calls Try.prog 4 #[.int .u64 r, .slice A len cap] w fun e w' => e = .returned (.bool true) ∧ Own w w' [old w] := by
  have HH := Lib.hid (Own.init w)
  have hrU := U_of_wf hr0
  obtain ⟨hlen, hm, hacts⟩ := acts_rd hr
  clear hr hr0
  generalize xs.map ActT.act = acts at hlen hacts
  have hfit := fits08_c w A len cap (fun k => (acts.getD k ⟨0, 0, 0, [], 0, 0⟩).r.length) hm (fun k hk => by
    have hk2 : k < acts.length := by omega
    have e : acts.getD k ⟨0, 0, 0, [], 0, 0⟩ = acts[k] := by simp [List.getD, hk2]
    have ha := hacts k acts[k] (List.getElem?_eq_getElem hk2)
    obtain ⟨ab, off, A', cp, h1, _, _, _, _, h2, _⟩ := ha.cells
    exact ⟨ab, off, A', cp, h1, by simp only [e]; exact ha.big, by simp only [e]; exact h2⟩)
  replace hacts := Lib.hid hacts
  replace hlen := Lib.hid hlen
  replace hfit := Lib.hid hfit
  replace hrU := Lib.hid hrU
  go_enter Try.func4, Try.ntmps4
  go_wp2_with fail
  refine hfit.out.mono ?_
  rintro e w9 ⟨bl, rfl, rfl, hbl⟩
  clear hfit
  cases bl with
  | false =>
    clear hbl
    go_wp2_with fail
    refine (alive08_c w _ _ HH.out).mono ?_
    rintro e w1_ ⟨rfl, H9_⟩
    replace HH := Lib.hid H9_
    clear H9_
    go_wp2_with fail
    go_ret
    exact ⟨rfl, HH.out⟩
  | true =>
    obtain ⟨hl100, hf100⟩ := hbl rfl
    clear hbl
    replace hf100 := Lib.hid hf100
    go_wp2_with fail
    refine (ledNew_c w _ _ r HH.out).mono ?_
    rintro e w2_ ⟨b, rfl, H9_⟩
    replace HH := Lib.hid H9_
    clear H9_
    replace HH := Lib.hid (show Own w _ (slc 4 1 (.slice none 0 0) (bls []) :: _) from HH.out.slc_none)
    go_wp2_with fail
    go_loopg [7, 8, 9] len (fun k' gv nv iv wr => ∃ (k n : Nat) (s : Led) (gone : List Bool), k + k' = len ∧ iv = .int .i64 k ∧ nv = .int .i64 n ∧ gone.length ≤ k ∧ s.re = r ∧ Once s gone n ∧ Own w wr (slc 4 1 gv (bls gone) :: led b s :: [old w]))
    case atStart => exact ⟨0, 0, ⟨r, 0, 0, false, []⟩, [], by omega, rfl, rfl, Nat.le_refl _, rfl, Once.none r, HH.out⟩
    case round =>
      clear HH
      obtain ⟨k, n, s, gone, hk, rfl, rfl, hgk, hre, hO, HR⟩ := hrel
      have HH := Lib.hid HR
      clear HR
      have hol := hO.len
      replace hO := Lib.hid hO
      replace hre := Lib.hid hre
      replace hol := Lib.hid hol
      by_cases hlt : k < len
      · have hlti : (k : Int) < (len : Int) := by omega
        have hk2 : k < acts.length := by rw [hlen.out]; exact hlt
        have ha := hacts.out k acts[k] (List.getElem?_eq_getElem hk2)
        have hf : acts[k].r.length ≤ 100 := by
          have := hf100.out k hlt
          simpa [List.getD, hk2] using this
        obtain ⟨a, haeq⟩ : ∃ a, a = acts[k] := ⟨_, rfl⟩
        rw [← haeq] at ha hf
        clear haeq
        obtain ⟨⟨kd, size, at', xr, delay, limit⟩, ha⟩ : ∃ a', a' = a ∧ ActIn w A k a' := ⟨a, rfl, ha⟩
        obtain ⟨ha0, ha⟩ := ha
        rw [← ha0] at hf
        clear ha0
        obtain ⟨⟨hk0, hk1⟩, ⟨u1, u2, u3, u4⟩, hru, _, ab, off, A', cp, rfl, hit, c0, c1, c2, c3, c4, c5⟩ := ha
        simp only at hk0 hk1 u1 u2 u3 u4 hru hit c0 c1 c2 c3 c4 c5 hf
        have o0 := ((Own.pm (HH.out) (by repeat (first | with_reducible exact Pm.refl _ | with_reducible exact Pm.nil _ | with_reducible refine Pm.here ?_ | with_reducible refine Pm.at2 ?_ | with_reducible refine Pm.at3 ?_ | with_reducible refine Pm.at4 ?_ | with_reducible refine Pm.at5 ?_ | with_reducible refine Pm.at6 ?_ | with_reducible refine Pm.at7 ?_ | with_reducible refine Pm.at8 ?_ | with_reducible refine Pm.skip ?_))) : Own w _ [old w]).old_cell c0
        replace u1 := Lib.hid u1
        replace u2 := Lib.hid u2
        replace u3 := Lib.hid u3
        replace u4 := Lib.hid u4
        replace hru := Lib.hid hru
        replace hit := Lib.hid hit
        replace hf := Lib.hid hf
        replace hgk := Lib.hid hgk
        replace hl100 := Lib.hid hl100
        obtain ⟨kq, h3⟩ : ∃ kq, kd % 3 = kq := ⟨_, rfl⟩
        have hkq : kq = 0 ∨ kq = 1 ∨ kq = 2 := by omega
        replace hkq := Lib.hid hkq
        go_upto_block 2 with (fail)
        rw [h3]
        clear h3
        go_cut [7, 10] from 151 (fun gx sx wc => ∃ (gv sv : Value) (s2 : Led) (gone2 : List Bool) (tk : List Pk), gv = gx ∧ sv = sx ∧ gone2.length ≤ k + 1 ∧ s2.re = r ∧ Mid s2 gone2 n tk ∧ Own w wc (slcP sv tk :: slc 4 1 gv (bls gone2) :: led b s2 :: [old w]))
        case first =>
          rcases hkq.out with rfl | rfl | rfl
          · have hgl := (bls_len gone)
            have hg9 : gone.length ≤ 100 := Nat.le_trans hgk.out (by have := hl100.out; omega)
            clear o0
            go_wp2_with fail
            refine wp_region_reg (some 12) HH.out (by kernel_rfl) ?_
            intro wm H9_
            replace HH := Lib.hid H9_
            clear H9_
            refine reg_p (i := 0) rfl (by kernel_rfl) (fun _ _ _ _ h => h) HH.out (fun K hK => ?_)
            go_simp
            first | (refine hK _ ?_; clear hK K) | (apply Exists.intro; refine ⟨?_, hK _ ?_⟩; (focus (intro wx; first | (go_simp; first | rfl) | rfl)); clear hK K)
            refine reg_p (i := 1) rfl (by kernel_rfl) (fun _ _ _ _ h => h) HH.out (fun K hK => ?_)
            go_simp
            first | (refine hK _ ?_; clear hK K) | (apply Exists.intro; refine ⟨?_, hK _ ?_⟩; (focus (intro wx; first | (go_simp; first | rfl) | rfl)); clear hK K)
            refine reg_p (i := 2) rfl (by kernel_rfl) (fun _ _ _ _ h => h) HH.out (fun K hK => ?_)
            go_simp
            first | (refine hK _ ?_; clear hK K) | (apply Exists.intro; refine ⟨?_, hK _ ?_⟩; (focus (intro wx; first | (go_simp; first | rfl) | rfl)); clear hK K)
            refine reg_p (i := 3) rfl (by kernel_rfl) (fun _ _ _ _ h => h) HH.out (fun K hK => ?_)
            go_simp
            first | (refine hK _ ?_; clear hK K) | (apply Exists.intro; refine ⟨?_, hK _ ?_⟩; (focus (intro wx; first | (go_simp; first | rfl) | rfl)); clear hK K)
            refine reg_p (i := 4) rfl (by kernel_rfl) (fun _ _ _ _ h => h) HH.out (fun K hK => ?_)
            go_simp
            first | (refine hK _ ?_; clear hK K) | (apply Exists.intro; refine ⟨?_, hK _ ?_⟩; (focus (intro wx; first | (go_simp; first | rfl) | rfl)); clear hK K)
            refine mixk_q (i := 5) rfl (by kernel_rfl) (fun _ _ _ _ h => h) HH.out (fun K hK => ?_)
            go_simp
            first | (refine hK _ ?_; clear hK K) | (apply Exists.intro; refine ⟨?_, hK _ ?_⟩; (focus (intro wx hx; have y1_ := hx.r3.old_cell c1; have y2_ := hx.r3.old_cell c2; first | (go_simp; first | rfl | exact ⟨rfl, rfl⟩) | rfl | exact ⟨rfl, rfl⟩)); clear hK K)
            refine reg_p (i := 6) rfl (by kernel_rfl) (fun _ _ _ _ h => h) HH.out (fun K hK => ?_)
            go_simp
            first | (refine hK _ ?_; clear hK K) | (apply Exists.intro; refine ⟨?_, hK _ ?_⟩; (focus (intro wx; first | (go_simp; first | rfl) | rfl)); clear hK K)
            refine reg_p (i := 7) rfl (by kernel_rfl) (fun _ _ _ _ h => h) HH.out (fun K hK => ?_)
            go_simp
            first | (refine hK _ ?_; clear hK K) | (apply Exists.intro; refine ⟨?_, hK _ ?_⟩; (focus (intro wx; first | (go_simp; first | rfl) | rfl)); clear hK K)
            refine reg_p (i := 8) rfl (by kernel_rfl) (fun _ _ _ _ h => h) HH.out (fun K hK => ?_)
            go_simp
            first | (refine hK _ ?_; clear hK K) | (apply Exists.intro; refine ⟨?_, hK _ ?_⟩; (focus (intro wx; first | (go_simp; first | rfl) | rfl)); clear hK K)
            refine reg_p (i := 9) rfl (by kernel_rfl) (fun _ _ _ _ h => h) HH.out (fun K hK => ?_)
            go_simp
            first | (refine hK _ ?_; clear hK K) | (apply Exists.intro; refine ⟨?_, hK _ ?_⟩; (focus (intro wx; first | (go_simp; first | rfl) | rfl)); clear hK K)
            refine mixk_q (i := 10) rfl (by kernel_rfl) (fun _ _ _ _ h => h) HH.out (fun K hK => ?_)
            go_simp
            first | (refine hK _ ?_; clear hK K) | (apply Exists.intro; refine ⟨?_, hK _ ?_⟩; (focus (intro wx hx; have y1_ := hx.r3.old_cell c1; have y2_ := hx.r3.old_cell c2; first | (go_simp; first | rfl | exact ⟨rfl, rfl⟩) | rfl | exact ⟨rfl, rfl⟩)); clear hK K)
            refine reg_p (i := 11) rfl (by kernel_rfl) (fun _ _ _ _ h => h) HH.out (fun K hK => ?_)
            go_simp
            first | (refine hK _ ?_; clear hK K) | (apply Exists.intro; refine ⟨?_, hK _ ?_⟩; (focus (intro wx; first | (go_simp; first | rfl) | rfl)); clear hK K)
            refine reg_l none (i := 12) rfl (by kernel_rfl) (fun wn hk K hK => ?_)
            replace HH := Lib.hid (hk _ _ HH.out)
            clear hk
            go_simp
            refine (ledSend_c w wn _ b s size at' 0 0 0 false (by have := hol.out; have := hgk.out; have := hl100.out; omega) (by rw [hO.out.next]; omega) (by have := hO.out.next; have := hgk.out; have := hl100.out; omega) HH.out.r2).mono ?_
            rintro e wm ⟨eb, rfl, H9_⟩
            replace HH := Lib.hid H9_
            clear H9_
            refine hK _ _ _ HH.out (.inl (by kernel_rfl)) ?_
            clear hK K
            refine mixk_done (by kernel_rfl) (fun w3_ hk => ?_) _
            replace HH := Lib.hid (hk _ _ HH.out)
            clear hk
            replace HH := Lib.hid HH.out.r2
            go_wp2_with (with_reducible refine stop_bs ?_)
            refine Stop.go ?_
            refine wpList_bs1_own HH.out #[_] 1 1 Try.underlying39 (by kernel_rfl) (by decide) (by decide) rfl rfl ?_
            intro g_ w4_ H9_
            replace HH := Lib.hid H9_
            clear H9_
            go_wp2_with (with_reducible refine stop_app ?_)
            refine Stop.go ?_
            refine wpList_app1_own rfl _ _ 39 rfl 4 1 1 Try.underlying39 (by kernel_rfl) (by decide) (gone.length) rfl rfl HH.out ((by simpa using hgl)) rfl (by repeat (first | (refine List.forall_mem_cons.2 ⟨(by first | with_reducible assumption | rfl), ?_⟩) | exact fun _ h => absurd h List.not_mem_nil)) (by simp only [maxLen]; omega) (by omega) ?_
            intro v1 w5_ H9_
            obtain ⟨A_v1, n_v1, c_v1, rfl⟩ := H9_.slc_isv
            replace HH := Lib.hid H9_
            clear H9_
            go_wp2_with fail
            go_meet
            case rel =>
              refine ⟨_, _, { s with next := s.next + 1, row := s.row ++ [⟨eb, ⟨s.next, size, at', 0, 0, 0, false⟩, true⟩] }, gone ++ [false], [], rfl, rfl, by simp [hgk.out], hre.out, Mid.of_none (hO.out.send (by have := hgk.out; have := hl100.out; omega) eb size at' u1.out u2.out), ?_⟩
              have H9 := show Own w _ (slc 4 1 _ (bls gone ++ [Value.bool false]) :: _) from HH.out
              rw [show bls gone ++ [Value.bool false] = bls (gone ++ [false]) by simp [bls]] at H9
              exact ((Own.pm (H9) (by repeat (first | with_reducible exact Pm.refl _ | with_reducible exact Pm.nil _ | with_reducible refine Pm.here ?_ | with_reducible refine Pm.at2 ?_ | with_reducible refine Pm.at3 ?_ | with_reducible refine Pm.at4 ?_ | with_reducible refine Pm.at5 ?_ | with_reducible refine Pm.at6 ?_ | with_reducible refine Pm.at7 ?_ | with_reducible refine Pm.at8 ?_ | with_reducible refine Pm.skip ?_))) : Own w _ (slc 4 1 _ (bls (gone ++ [false])) :: led b _ :: [old w])).slc_none
          · have o3 := ((Own.pm (HH.out) (by repeat (first | with_reducible exact Pm.refl _ | with_reducible exact Pm.nil _ | with_reducible refine Pm.here ?_ | with_reducible refine Pm.at2 ?_ | with_reducible refine Pm.at3 ?_ | with_reducible refine Pm.at4 ?_ | with_reducible refine Pm.at5 ?_ | with_reducible refine Pm.at6 ?_ | with_reducible refine Pm.at7 ?_ | with_reducible refine Pm.at8 ?_ | with_reducible refine Pm.skip ?_))) : Own w _ [old w]).old_cell c3
            go_wp2_with fail
            refine (ledAck_c w _ _ b s (by have := hol.out; have := hgk.out; have := hl100.out; omega) hO.out.ok xr hru.out A' xr.length cp (fun wx Hx => itAt.old hit.out (Own.pm (Hx) (by repeat (first | with_reducible exact Pm.refl _ | with_reducible exact Pm.nil _ | with_reducible refine Pm.here ?_ | with_reducible refine Pm.at2 ?_ | with_reducible refine Pm.at3 ?_ | with_reducible refine Pm.at4 ?_ | with_reducible refine Pm.at5 ?_ | with_reducible refine Pm.at6 ?_ | with_reducible refine Pm.at7 ?_ | with_reducible refine Pm.at8 ?_ | with_reducible refine Pm.skip ?_)))) (by have := hf.out; omega) HH.out.r2).mono ?_
            rintro e w6_ ⟨v, rfl, H9_⟩
            replace HH := Lib.hid H9_
            clear H9_
            go_wp2_with fail
            go_meet
            case rel => exact ⟨_, _, _, gone, _, rfl, rfl, by have := hgk.out; omega, by rw [ack_re]; exact hre.out, Mid.ack hO.out xr, (Own.pm (HH.out) (by repeat (first | with_reducible exact Pm.refl _ | with_reducible exact Pm.nil _ | with_reducible refine Pm.here ?_ | with_reducible refine Pm.at2 ?_ | with_reducible refine Pm.at3 ?_ | with_reducible refine Pm.at4 ?_ | with_reducible refine Pm.at5 ?_ | with_reducible refine Pm.at6 ?_ | with_reducible refine Pm.at7 ?_ | with_reducible refine Pm.at8 ?_ | with_reducible refine Pm.skip ?_)))⟩
          · go_wp2_with fail
            clear o0
            go_wp2_with fail
            refine wp_region_reg (some 16) HH.out (by kernel_rfl) ?_
            intro wm H9_
            replace HH := Lib.hid H9_
            clear H9_
            refine reg_p (i := 0) rfl (by kernel_rfl) (fun _ _ _ _ h => h) HH.out (fun K hK => ?_)
            go_simp
            first | (refine hK _ ?_; clear hK K) | (apply Exists.intro; refine ⟨?_, hK _ ?_⟩; (focus (intro wx; first | (go_simp; first | rfl) | rfl)); clear hK K)
            refine reg_p (i := 1) rfl (by kernel_rfl) (fun _ _ _ _ h => h) HH.out (fun K hK => ?_)
            go_simp
            first | (refine hK _ ?_; clear hK K) | (apply Exists.intro; refine ⟨?_, hK _ ?_⟩; (focus (intro wx; first | (go_simp; first | rfl) | rfl)); clear hK K)
            refine reg_p (i := 2) rfl (by kernel_rfl) (fun _ _ _ _ h => h) HH.out (fun K hK => ?_)
            go_simp
            first | (refine hK _ ?_; clear hK K) | (apply Exists.intro; refine ⟨?_, hK _ ?_⟩; (focus (intro wx; first | (go_simp; first | rfl) | rfl)); clear hK K)
            refine reg_p (i := 3) rfl (by kernel_rfl) (fun _ _ _ _ h => h) HH.out (fun K hK => ?_)
            go_simp
            first | (refine hK _ ?_; clear hK K) | (apply Exists.intro; refine ⟨?_, hK _ ?_⟩; (focus (intro wx; first | (go_simp; first | rfl) | rfl)); clear hK K)
            refine reg_p (i := 4) rfl (by kernel_rfl) (fun _ _ _ _ h => h) HH.out (fun K hK => ?_)
            go_simp
            first | (refine hK _ ?_; clear hK K) | (apply Exists.intro; refine ⟨?_, hK _ ?_⟩; (focus (intro wx; first | (go_simp; first | rfl) | rfl)); clear hK K)
            refine mixk_q (i := 5) rfl (by kernel_rfl) (fun _ _ _ _ h => h) HH.out (fun K hK => ?_)
            go_simp
            first | (refine hK _ ?_; clear hK K) | (apply Exists.intro; refine ⟨?_, hK _ ?_⟩; (focus (intro wx hx; have y2_ := hx.r3.old_cell c2; have y4_ := hx.r3.old_cell c4; have y5_ := hx.r3.old_cell c5; first | (go_simp; first | rfl | exact ⟨rfl, rfl⟩) | rfl | exact ⟨rfl, rfl⟩)); clear hK K)
            refine reg_p (i := 6) rfl (by kernel_rfl) (fun _ _ _ _ h => h) HH.out (fun K hK => ?_)
            go_simp
            first | (refine hK _ ?_; clear hK K) | (apply Exists.intro; refine ⟨?_, hK _ ?_⟩; (focus (intro wx; first | (go_simp; first | rfl) | rfl)); clear hK K)
            refine reg_p (i := 7) rfl (by kernel_rfl) (fun _ _ _ _ h => h) HH.out (fun K hK => ?_)
            go_simp
            first | (refine hK _ ?_; clear hK K) | (apply Exists.intro; refine ⟨?_, hK _ ?_⟩; (focus (intro wx; first | (go_simp; first | rfl) | rfl)); clear hK K)
            refine reg_p (i := 8) rfl (by kernel_rfl) (fun _ _ _ _ h => h) HH.out (fun K hK => ?_)
            go_simp
            first | (refine hK _ ?_; clear hK K) | (apply Exists.intro; refine ⟨?_, hK _ ?_⟩; (focus (intro wx; first | (go_simp; first | rfl) | rfl)); clear hK K)
            refine reg_p (i := 9) rfl (by kernel_rfl) (fun _ _ _ _ h => h) HH.out (fun K hK => ?_)
            go_simp
            first | (refine hK _ ?_; clear hK K) | (apply Exists.intro; refine ⟨?_, hK _ ?_⟩; (focus (intro wx; first | (go_simp; first | rfl) | rfl)); clear hK K)
            refine mixk_q (i := 10) rfl (by kernel_rfl) (fun _ _ _ _ h => h) HH.out (fun K hK => ?_)
            go_simp
            first | (refine hK _ ?_; clear hK K) | (apply Exists.intro; refine ⟨?_, hK _ ?_⟩; (focus (intro wx hx; have y2_ := hx.r3.old_cell c2; have y4_ := hx.r3.old_cell c4; have y5_ := hx.r3.old_cell c5; first | (go_simp; first | rfl | exact ⟨rfl, rfl⟩) | rfl | exact ⟨rfl, rfl⟩)); clear hK K)
            refine reg_p (i := 11) rfl (by kernel_rfl) (fun _ _ _ _ h => h) HH.out (fun K hK => ?_)
            go_simp
            first | (refine hK _ ?_; clear hK K) | (apply Exists.intro; refine ⟨?_, hK _ ?_⟩; (focus (intro wx; first | (go_simp; first | rfl) | rfl)); clear hK K)
            refine reg_p (i := 12) rfl (by kernel_rfl) (fun _ _ _ _ h => h) HH.out (fun K hK => ?_)
            go_simp
            first | (refine hK _ ?_; clear hK K) | (apply Exists.intro; refine ⟨?_, hK _ ?_⟩; (focus (intro wx; first | (go_simp; first | rfl) | rfl)); clear hK K)
            refine reg_p (i := 13) rfl (by kernel_rfl) (fun _ _ _ _ h => h) HH.out (fun K hK => ?_)
            go_simp
            first | (refine hK _ ?_; clear hK K) | (apply Exists.intro; refine ⟨?_, hK _ ?_⟩; (focus (intro wx; first | (go_simp; first | rfl) | rfl)); clear hK K)
            refine reg_p (i := 14) rfl (by kernel_rfl) (fun _ _ _ _ h => h) HH.out (fun K hK => ?_)
            go_simp
            first | (refine hK _ ?_; clear hK K) | (apply Exists.intro; refine ⟨?_, hK _ ?_⟩; (focus (intro wx; first | (go_simp; first | rfl) | rfl)); clear hK K)
            refine mixk_q (i := 15) rfl (by kernel_rfl) (fun _ _ _ _ h => h) HH.out (fun K hK => ?_)
            go_simp
            first | (refine hK _ ?_; clear hK K) | (apply Exists.intro; refine ⟨?_, hK _ ?_⟩; (focus (intro wx hx; have y2_ := hx.r3.old_cell c2; have y4_ := hx.r3.old_cell c4; have y5_ := hx.r3.old_cell c5; first | (go_simp; first | rfl | exact ⟨rfl, rfl⟩) | rfl | exact ⟨rfl, rfl⟩)); clear hK K)
            refine reg_l none (i := 16) rfl (by kernel_rfl) (fun wn hk K hK => ?_)
            replace HH := Lib.hid (hk _ _ HH.out)
            clear hk
            go_simp
            refine (ledLost_c w wn _ b s (by have := hol.out; have := hgk.out; have := hl100.out; omega) hO.out.ok at' delay limit u3.out u4.out (by rw [hre.out]; exact hrU.out) HH.out.r2).mono ?_
            rintro e wm ⟨v, rfl, H9_⟩
            replace HH := Lib.hid H9_
            clear H9_
            refine hK _ _ _ HH.out (.inl (by kernel_rfl)) ?_
            clear hK K
            refine reg_p (i := 17) rfl (by kernel_rfl) (fun _ _ _ _ h => h) HH.out (fun K hK => ?_)
            go_simp
            first | (refine hK _ ?_; clear hK K) | (apply Exists.intro; refine ⟨?_, hK _ ?_⟩; (focus (intro wx; first | (go_simp; first | rfl) | rfl)); clear hK K)
            refine mixk_done (by kernel_rfl) (fun w7_ hk => ?_) _
            replace HH := Lib.hid (hk _ _ HH.out)
            clear hk
            go_wp2_with fail
            go_meet
            case rel => exact ⟨_, _, (s.lost at' delay limit).2, gone, _, rfl, rfl, by have := hgk.out; omega, hre.out, Mid.lost hO.out at' delay limit, (Own.pm (HH.out) (by repeat (first | with_reducible exact Pm.refl _ | with_reducible exact Pm.nil _ | with_reducible refine Pm.here ?_ | with_reducible refine Pm.at2 ?_ | with_reducible refine Pm.at3 ?_ | with_reducible refine Pm.at4 ?_ | with_reducible refine Pm.at5 ?_ | with_reducible refine Pm.at6 ?_ | with_reducible refine Pm.at7 ?_ | with_reducible refine Pm.at8 ?_ | with_reducible refine Pm.skip ?_)))⟩
        case rest =>
          clear HH o0
          obtain ⟨gv, sv, s2, gone2, tk, rfl, rfl, hg2, hre2, hM, HR⟩ := hcut
          have HH := Lib.hid HR
          clear HR
          have hnn : n ≤ 100 := by have := hol.out.2; have := hgk.out; have := hl100.out; omega
          have hg9 : gone2.length ≤ 101 := by have := hl100.out; omega
          have htn : tk.length ≤ 101 := by
            have h1 := hM.once.num
            rw [setsG_len] at h1
            omega
          replace hM := Lib.hid hM
          clear hO hol hgk hit hru u1 u2 u3 u4 c0 c1 c2 c3 c4 c5 hkq hf
          go_wp2_with fail
          go_loopw [8, 11] (fun nv kv wr => ∃ j : Nat, j ≤ tk.length ∧ kv = .int .i64 j ∧ nv = .int .i64 ((n + j : Nat) : Int) ∧ Own w wr (slcP sv tk :: slc 4 1 gv (bls (setsG gone2 (tk.take j))) :: led b s2 :: [old w])) (fun _ kv _ => tk.length - (intOf kv).toNat)
          case atStart => exact ⟨0, Nat.zero_le _, rfl, rfl, HH.out⟩
          case round =>
            clear HH
            obtain ⟨j, hj, rfl, rfl, HR⟩ := hrel
            have HH := Lib.hid HR
            clear HR
            obtain ⟨A1, n1, cap1, rfl, _, _, hpk⟩ := HH.out.slcP_val
            obtain rfl : n1 = tk.length := hpk.1.symm
            obtain ⟨A2, cap2, rfl, hbl⟩ := bls_there HH.out.r2
            rw [setsG_len] at *
            by_cases hjt : j < tk.length
            · obtain ⟨g1, o1, p, rfl, hp, y0_, _⟩ := hpk.cells hjt
              obtain ⟨q, hq, hq2, hq3⟩ := hM.out.new j p hp
              obtain ⟨g2, rfl, z0, z1⟩ := hbl q false hq3
              rw [hq] at y0_
              have hji : (j : Int) < (tk.length : Int) := by omega
              have hqi : (q : Int) < (gone2.length : Int) := by omega
              have hqn : ¬ (gone2.length : Int) ≤ (q : Int) := by omega
              have hwc : IntKind.u64.wrap ((gone2.length : Nat) : Int) = ((gone2.length : Nat) : Int) := by rw [IntKind.wrap_u64]; omega
              have hw1 : IntKind.i64.wrap (((n + j : Nat) : Int) + 1) = ((n + (j + 1) : Nat) : Int) := by rw [IntKind.wrap_i64]; omega
              have hw2 : IntKind.i64.wrap ((j : Int) + 1) = ((j + 1 : Nat) : Int) := by rw [IntKind.wrap_i64]; omega
              have hnx := setsG_next (g := gone2) hp
              rw [hq, Int.toNat_natCast] at hnx
              have HB := Own.slc_set HH.out.r2 q (.bool true)
              rw [bls_set, ← hnx] at HB
              replace HB := Lib.hid HB
              replace hnx := Lib.hid hnx
              replace hp := Lib.hid hp
              replace hq := Lib.hid hq
              replace hq3 := Lib.hid hq3
              replace hpk := Lib.hid hpk
              replace hbl := Lib.hid hbl
              go_wp2_with (with_reducible refine stop_st ?_)
              refine Stop.go ?_
              go_step
              go_simp
              have H9 := Lib.hid (HB.out)
              generalize wr.setCell ⟨g2, q, none⟩ (.bool true) = w9 at *
              go_wp2_with fail
              go_roundw
              case rel => exact ⟨j + 1, by omega, by go_num, by go_num, (Own.pm (H9.out) (by repeat (first | with_reducible exact Pm.refl _ | with_reducible exact Pm.nil _ | with_reducible refine Pm.here ?_ | with_reducible refine Pm.at2 ?_ | with_reducible refine Pm.at3 ?_ | with_reducible refine Pm.at4 ?_ | with_reducible refine Pm.at5 ?_ | with_reducible refine Pm.at6 ?_ | with_reducible refine Pm.at7 ?_ | with_reducible refine Pm.at8 ?_ | with_reducible refine Pm.skip ?_)))⟩
              case measure => simp [intOf]; omega
            · have hjt2 : ¬ (j : Int) < (tk.length : Int) := by omega
              obtain rfl : j = tk.length := by omega
              have hO2 := hM.out.once
              rw [List.take_length] at HH
              have hlen9 := setsG_len tk gone2
              replace hpk := Lib.hid hpk
              replace hbl := Lib.hid hbl
              replace hO2 := Lib.hid hO2
              have hw3 : IntKind.i64.wrap ((k : Int) + 1) = ((k + 1 : Nat) : Int) := by rw [IntKind.wrap_i64]; omega
              go_wp2_with fail
              go_roundg (len - (k + 1))
              case measure => omega
              case rel => exact ⟨k + 1, n + tk.length, s2, setsG gone2 tk, by omega, by go_num, rfl, by omega, hre2, hO2.out, HH.out.tail⟩
      · have hkl : ¬ (k : Int) < (len : Int) := by omega
        have hn9 : n ≤ 100 := by have := hol.out.2; omega
        have hg9 : gone.length ≤ 100 := by omega
        have hr9 : s.row.length ≤ 1000000 := by have := hol.out.1; omega
        clear hacts hf100
        go_wp2_with fail
        refine (ledOut_c w _ _ b 0 s hr9 HH.out.r2).mono ?_
        rintro e w8_ ⟨v, rfl, H9_⟩
        replace HH := Lib.hid H9_
        clear H9_
        obtain ⟨A1, m, cap1, rfl, _, _, hpk⟩ := HH.out.slcP_val
        have hm9 : m = (outs s.row).length := hpk.1.symm
        clear hpk
        have hnum := hO.out.num
        rw [← hm9] at hnum
        have ho9 : m ≤ 100 := by omega
        obtain ⟨A2, cap2, hgv, hbl⟩ := bls_there HH.out.r3
        subst hgv
        clear hbl
        replace HH := Lib.hid ((Own.pm (HH.out) (by repeat (first | with_reducible exact Pm.refl _ | with_reducible exact Pm.nil _ | with_reducible refine Pm.here ?_ | with_reducible refine Pm.at2 ?_ | with_reducible refine Pm.at3 ?_ | with_reducible refine Pm.at4 ?_ | with_reducible refine Pm.at5 ?_ | with_reducible refine Pm.at6 ?_ | with_reducible refine Pm.at7 ?_ | with_reducible refine Pm.at8 ?_ | with_reducible refine Pm.skip ?_))) : Own w _ (slcP (.slice A1 m cap1) (outs s.row) :: slc 4 1 (.slice A2 gone.length cap2) (bls gone) :: led b s :: [old w]))
        replace hm9 := Lib.hid hm9
        go_wp2_with fail
        go_loopw [13] (fun kv wr => ∃ j : Nat, j ≤ m ∧ kv = .int .i64 j ∧ Own w wr (slcP (.slice A1 m cap1) (outs s.row) :: slc 4 1 (.slice A2 gone.length cap2) (bls gone) :: led b s :: [old w])) (fun kv _ => m - (intOf kv).toNat)
        case atStart => exact ⟨0, Nat.zero_le _, rfl, HH.out⟩
        case round =>
          clear HH
          obtain ⟨j, hj, rfl, HR⟩ := hrel
          have HH := Lib.hid HR
          clear HR
          by_cases hjt : j < m
          · obtain ⟨_, _, _, e, _, _, hpk⟩ := HH.out.slcP_val
            cases e
            obtain ⟨g1, o1, p, rfl, hp, y0_, _⟩ := hpk.cells hjt
            obtain ⟨q, hq, hq2, hq3⟩ := hO.out.left j p hp
            obtain ⟨_, _, e, hbl⟩ := bls_there HH.out.r2
            cases e
            obtain ⟨g2, rfl, z0, z1⟩ := hbl q false hq3
            rw [hq] at y0_
            have hji : (j : Int) < (m : Int) := by omega
            have hqi : (q : Int) < (gone.length : Int) := by omega
            have hqn : ¬ (gone.length : Int) ≤ (q : Int) := by omega
            have hwc : IntKind.u64.wrap ((gone.length : Nat) : Int) = ((gone.length : Nat) : Int) := by rw [IntKind.wrap_u64]; omega
            have hw2 : IntKind.i64.wrap ((j : Int) + 1) = ((j + 1 : Nat) : Int) := by rw [IntKind.wrap_i64]; omega
            replace hp := Lib.hid hp
            replace hq := Lib.hid hq
            replace hq3 := Lib.hid hq3
            replace hpk := Lib.hid hpk
            replace hbl := Lib.hid hbl
            go_wp2_with fail
            go_roundw
            case rel => exact ⟨j + 1, by omega, by go_num, HH.out⟩
            case measure => simp [intOf]; omega
          · have hjt2 : ¬ (j : Int) < (m : Int) := by omega
            have hw3 : IntKind.i64.wrap ((m : Int) + (n : Int)) = ((gone.length : Nat) : Int) := by rw [IntKind.wrap_i64]; omega
            go_wp2_with fail
            refine (alive08_c w _ _ HH.out).mono ?_
            rintro e w9_ ⟨rfl, H9_⟩
            replace HH := Lib.hid H9_
            clear H9_
            go_wp2_with fail
            go_ret
            exact ⟨rfl, (Own.pm (HH.out) (by repeat (first | with_reducible exact Pm.refl _ | with_reducible exact Pm.nil _ | with_reducible refine Pm.here ?_ | with_reducible refine Pm.at2 ?_ | with_reducible refine Pm.at3 ?_ | with_reducible refine Pm.at4 ?_ | with_reducible refine Pm.at5 ?_ | with_reducible refine Pm.at6 ?_ | with_reducible refine Pm.at7 ?_ | with_reducible refine Pm.at8 ?_ | with_reducible refine Pm.skip ?_)))⟩
end
end Go.Proofs.Ytlhncdbigjgmnaa
