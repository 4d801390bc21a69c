/- ledger: the iterator over those that are out. -/
import Derived.Test.YtlhncdbigjgmnaaLed2
import Derived.Sort.LoopGhostIn
import Derived.Shelf.Abstract
namespace Go.Proofs.Ytlhncdbigjgmnaa
open Go.RowKit Go.Shelf
section
variable (ε w : World) (A : List Asn)
theorem atP_in {l : List Nat} {k x : Nat} (h : l[k]? = some x) : atP l (k : Int) = (some ⟨x, 0, none⟩, true) := by
  obtain ⟨hk, rfl⟩ := List.getElem?_eq_some_iff.1 h
  rw [atP, if_pos (by omega)]
  simp [hk]
theorem atP_out {l : List Nat} {k : Nat} (h : l.length ≤ k) : atP l (k : Int) = (none, false) := if_neg (by omega)
set_option maxHeartbeats 1600000 in
theorem ledIter_c (m l bb b rb : Nat) (s : Led) (bs : List Nat) (es : Nat → List En) (Fr : Nat → Asn) (hm : bs.length ≤ 1000000)
    (hB : ∀ i, i < bs.length → ∃ e, (es i)[i]? = some e ∧ bs[i]? = some e.b)
    (hN : ∀ i e, (es i)[i]? = some e → e.o = false → es (i + 1) = es i ∧ Fr (i + 1) = Fr i)
    (hY : ∀ i e W, (es i)[i]? = some e → e.o = true → Own ε W (capL bb b :: ledN b rb s :: ringL rb bs :: ents (es i) :: Fr i :: A) → YieldAt Fence.wide m Try.prog l #[.pointer (some ⟨e.b, 0, none⟩)] W fun e' W' => e' = .returned (.bool true) ∧ Own ε W' (capL bb b :: ledN b rb s :: ringL rb bs :: ents (es (i + 1)) :: Fr (i + 1) :: A))
    (H : Own ε w (capL bb b :: ledN b rb s :: ringL rb bs :: ents (es 0) :: Fr 0 :: A)) :
    Calls Try.prog 58 #[.func (.yield l) #[] #[], .pointer (some ⟨bb, 0, none⟩)] w fun e w' => (∃ v, e = .returned v) ∧ Own ε w' (capL bb b :: ledN b rb s :: ringL rb bs :: ents (es bs.length) :: Fr bs.length :: A) := by
  have HH := Lib.hid H; clear H
  replace hY := Lib.hid hY
  replace hN := Lib.hid hN
  replace hB := Lib.hid hB
  go_enter Try.func58, Try.ntmps58
  (try clear cc1_); (try clear cc2_); (try clear cc3_); (try clear cc4_); (try clear cc5_); (try clear cc6_); (try clear cc7_)
  have cc1_ := HH.out.cells
  have cc2_ := HH.out.r2.cells
  go_wp2_with fail
  refine (rlLen_c ε _ _ rb bs HH.out.r3).mono ?_
  rintro e w1_ ⟨rfl, hbel⟩
  replace HH := Lib.hid ((by first | exact Kp.same hbel | exact Kp.drew hbel | exact Kp.below hbel : Kp _ w1_) _ _ (by first | exact HH.out | exact HH.out.drewN _ | exact (HH.out.alloc _).tail | exact ((HH.out.alloc _).drewN _).tail | exact ((HH.out.alloc _).alloc _).tail.tail))
  clear hbel
  obtain ⟨n, hn⟩ : ∃ n, n = bs.length := ⟨_, rfl⟩
  rw [← hn] at hm ⊢
  replace hn := Lib.hid hn
  go_wp2_with fail
  go_loopg [11] n (fun k i wr => ∃ j : Nat, j + k = n ∧ i = .int .i64 j ∧ Own ε wr (capL bb b :: ledN b rb s :: ringL rb bs :: ents (es j) :: Fr j :: A))
  case atStart => exact ⟨0, by omega, rfl, HH.out⟩
  case round =>
    clear HH
    obtain ⟨j, hk, rfl, HR⟩ := hrel
    have HH := Lib.hid HR
    clear HR
    by_cases hj : j < n
    · have hji : (j : Int) < n := by omega
      obtain ⟨e, he, heb⟩ := hB.out j (by rw [← hn.out]; exact hj)
      have hat := atP_in heb
      replace hk := Lib.hid hk
      replace he := Lib.hid he
      replace heb := Lib.hid heb
      replace hat := Lib.hid hat
      obtain ⟨eb, ⟨pn, ps, p3, p4, p5, p6, p7⟩, o⟩ := e
      (try clear cc1_); (try clear cc2_); (try clear cc3_); (try clear cc4_); (try clear cc5_); (try clear cc6_); (try clear cc7_)
      have cc1_ := HH.out.cells
      have cc2_ := HH.out.r2.cells
      go_wp2_with fail
      refine (rlAt_c ε _ _ rb bs (j : Int) (by simp only [Lit.wf, IntKind.min, IntKind.max, IntKind.signed, IntKind.bits]; simp; omega) HH.out.r3).mono ?_
      rw [hat.out]
      rintro e w2_ ⟨rfl, nd, hnd⟩
      replace HH := Lib.hid (HH.out.drewN nd)
      rw [← hnd] at HH
      clear hnd
      clear hat
      have x1_ := (HH.out.r4.ents_at he.out).cells
      (try clear cc1_); (try clear cc2_); (try clear cc3_); (try clear cc4_); (try clear cc5_); (try clear cc6_); (try clear cc7_)
      have cc1_ := HH.out.cells
      have cc2_ := HH.out.r2.cells
      cases o with
      | true =>
        try dsimp only
        repeat (first | (with_reducible refine stop_rs 4 ?_) | (with_reducible refine stop_rg 4 ?_) | go_values | go_skip | go_guarded | go_step | go_upon | go_back)
        refine Stop.go ?_
        obtain ⟨fn, tmps, assign, body, hy, hR⟩ := hY.out j _ _ he.out rfl HH.out
        refine (wpIn_wide (n := m + 1)).1 ?_
        gi_wp2
        refine hR.mono ?_
        clear hy hR x1_
        rintro e w10 ⟨rfl, H10⟩
        replace HH := Lib.hid H10
        clear H10
        gi_wp2
        go_wp2_with fail
        go_roundg (n - (j + 1))
        case measure => have := hk.out; omega
        case rel => exact ⟨j + 1, by omega, by go_num, HH.out⟩
      | false =>
        go_wp2_with fail
        go_roundg (n - (j + 1))
        case measure => have := hk.out; omega
        case rel => exact ⟨j + 1, by omega, by go_num, by have := hN.out j _ he.out rfl; rw [this.1, this.2]; exact HH.out⟩
    · have hjn : ¬ (j : Int) < n := by omega
      obtain rfl : j = n := by omega
      go_wp2_with fail
      first | go_end0 | ((try simp only [Exit.inBlock, Exit.then]); refine bodyPost_ret (results_none rfl _ _ _) rfl ?_)
      exact ⟨⟨_, rfl⟩, by rw [← hn.out]; exact HH.out⟩
end
end Go.Proofs.Ytlhncdbigjgmnaa
