/- link: acts as they are read, packets, the live question. -/
import Derived.Test.YtklohjjkpobneaaLink2
import Derived.Test.YtklohjjkpobneaaLinkF
import Derived.Test.YtklohjjkpobneaaRow
import Derived.Outline
namespace Go.Proofs.Ytklohjjkpobneaa
open Go.RowKit
abbrev LActT := Bool × List Int × Int × Int × List Int × Unit
def rdLAct : Rd LActT := rdPair rdBool (rdPair (rdSlice (rdInt .u64) 1) (rdPair (rdInt .u64) (rdPair (rdInt .u64) (rdPair (rdSlice (rdInt .u64) 1) rdUnit))))
def LActT.a (x : LActT) : LAct := ⟨x.1, x.2.1, x.2.2.1, x.2.2.2.1, x.2.2.2.2.1⟩
abbrev PathT := Int × Int × Int × Int × Unit
def rdPath : Rd PathT := rdPair (rdInt .u64) (rdPair (rdInt .u64) (rdPair (rdInt .u64) (rdPair (rdInt .u64) rdUnit)))
theorem rdPath_open {w : World} {c : List Value} {x : PathT} (h : rdPath w c x) : c = [.int .u64 x.1, .int .u64 x.2.1, .int .u64 x.2.2.1, .int .u64 x.2.2.2.1] ∧ U x.1 ∧ U x.2.1 ∧ U x.2.2.1 ∧ U x.2.2.2.1 := by
  obtain ⟨c1, d1, rfl, ⟨rfl, h1⟩, c2, d2, rfl, ⟨rfl, h2⟩, c3, d3, rfl, ⟨rfl, h3⟩, c4, d4, rfl, ⟨rfl, h4⟩, rfl⟩ := h
  exact ⟨rfl, U_of_wf h1, U_of_wf h2, U_of_wf h3, U_of_wf h4⟩
theorem rdNs {w : World} {A : Option Addr} {n cap : Nat} {l : List Int} (h : rdSlice (rdInt .u64) 1 w [.slice A n cap] l) : nsAt w A n l ∧ n ≤ 9223372036854775807 ∧ n ≤ cap ∧ ∀ x ∈ l, U x := by
  obtain ⟨h1, h2⟩ := itAt_rd (enc := fun x : Int => [Value.int .u64 x]) (sz := 1) (fun x : Int => x) (fun c x hc => hc.1) h
  rw [List.map_id'] at h1
  obtain ⟨_, _, _, e, hl, hc, _, hx⟩ := h
  cases e
  refine ⟨h1, h2, hc, fun x hm => ?_⟩
  obtain ⟨i, hi, rfl⟩ := List.getElem_of_mem hm
  obtain ⟨_, _, _, c, _, _, hR⟩ := hx i hi
  exact U_of_wf hR.2
/-- An act, as it stands in a world. -/
def lactAt (w : World) (A : Option Addr) (k : Nat) (a : LAct) : Prop := ∃ ab off As ns cs Ac nc cc, A = some ⟨ab, off, none⟩ ∧ w.cell? ⟨ab, off + k * 5, none⟩ = some (.bool a.tick) ∧ w.cell? ⟨ab, off + k * 5 + 1, none⟩ = some (.slice As ns cs) ∧ w.cell? ⟨ab, off + k * 5 + 2, none⟩ = some (.int .u64 a.after) ∧ w.cell? ⟨ab, off + k * 5 + 3, none⟩ = some (.int .u64 a.waste) ∧ w.cell? ⟨ab, off + k * 5 + 4, none⟩ = some (.slice Ac nc cc) ∧
  nsAt w As ns a.sizes ∧ nsAt w Ac nc a.ch ∧ ns ≤ 9223372036854775807 ∧ nc ≤ 9223372036854775807 ∧ nc ≤ cc
def lactsAt (w : World) (A : Option Addr) (n : Nat) (l : List LAct) : Prop := l.length = n ∧ ∀ k a, l[k]? = some a → lactAt w A k a
theorem lactAt.old {ε w wx : World} {R : List Asn} {A : Option Addr} {k : Nat} {a : LAct} (h : lactAt w A k a) (H : Own ε wx (old w :: R)) : lactAt wx A k a := by
  obtain ⟨ab, off, As, ns, cs, Ac, nc, cc, rfl, c0, c1, c2, c3, c4, h1, h2, h3⟩ := h
  exact ⟨ab, off, As, ns, cs, Ac, nc, cc, rfl, H.old_cell c0, H.old_cell c1, H.old_cell c2, H.old_cell c3, H.old_cell c4, h1.old H, h2.old H, h3⟩
theorem lactsAt.old {ε w wx : World} {R : List Asn} {A : Option Addr} {n : Nat} {l : List LAct} (h : lactsAt w A n l) (H : Own ε wx (old w :: R)) : lactsAt wx A n l := ⟨h.1, fun k a hk => (h.2 k a hk).old H⟩
theorem lacts_rd {w : World} {A : Option Addr} {len cap : Nat} {xs : List LActT} (hr : rdSlice rdLAct 5 w [.slice A len cap] xs) : lactsAt w A len (xs.map LActT.a) ∧ len ≤ 9223372036854775807 ∧ ∀ a ∈ xs.map LActT.a, a.Ok := by
  obtain ⟨hlen, hm, hx⟩ := rdSlice_cases hr
  have key : ∀ i, ∀ h : i < xs.length, lactAt w A i (xs[i].a) ∧ (xs[i].a).Ok := by
    intro i hi
    rcases hx with hz | ⟨ab, off, rfl, hx⟩
    · omega
    · obtain ⟨c, _, hcell, hR⟩ := hx i hi
      generalize xs[i] = x at hR
      obtain ⟨c1, d1, rfl, rfl, c2, d2, rfl, h2, c3, d3, rfl, ⟨rfl, h3⟩, c4, d4, rfl, ⟨rfl, h4⟩, c5, d5, rfl, h5, rfl⟩ := hR
      obtain ⟨As, ns, cs, rfl, _⟩ := id h2
      obtain ⟨Ac, nc, cc, rfl, _⟩ := id h5
      obtain ⟨p1, p2, p3, p4⟩ := rdNs h2
      obtain ⟨q1, q2, q3, q4⟩ := rdNs h5
      exact ⟨⟨ab, off, As, ns, cs, Ac, nc, cc, rfl, hcell 0 _ rfl, hcell 1 _ rfl, hcell 2 _ rfl, hcell 3 _ rfl, hcell 4 _ rfl, p1, q1, p2, q2, q3⟩, U_of_wf h3, U_of_wf h4, p4, q4⟩
  refine ⟨⟨by simpa using hlen, fun k a hk => ?_⟩, hm, fun a ha => ?_⟩
  · rw [List.getElem?_map] at hk
    have hk2 : k < xs.length := by
      rcases Nat.lt_or_ge k xs.length with q | q
      · exact q
      · rw [List.getElem?_eq_none q] at hk; cases hk
    rw [List.getElem?_eq_getElem hk2] at hk
    cases hk
    exact (key k hk2).1
  · obtain ⟨x, hm, rfl⟩ := List.mem_map.1 ha
    obtain ⟨i, hi, rfl⟩ := List.getElem_of_mem hm
    exact (key i hi).2
theorem lactsAt.get {w : World} {A : Option Addr} {n k : Nat} {l : List LAct} (h : lactsAt w A n l) (hk : k < n) : ∃ a, l[k]? = some a ∧ a ∈ l ∧ lactAt w A k a := by
  have hk2 : k < l.length := by rw [h.1]; exact hk
  exact ⟨l[k], List.getElem?_eq_getElem hk2, List.getElem_mem hk2, h.2 k _ (List.getElem?_eq_getElem hk2)⟩
def FitsP (l : List LAct) (w : World) (e : Ending) (w' : World) : Prop := ∃ bl, e = .returned (.bool bl) ∧ w = w' ∧ (bl = true → l.length ≤ 60 ∧ ∀ a ∈ l, a.few)
theorem FitsP.no {l : List LAct} {w : World} {e : Ending} (h : e = .returned (.bool false)) : FitsP l w e w := ⟨_, h, rfl, fun h => by cases h⟩
theorem FitsP.yes {l : List LAct} {w : World} {e : Ending} (h : e = .returned (.bool true)) (h1 : l.length ≤ 60) (h2 : ∀ a ∈ l, a.few) : FitsP l w e w := ⟨_, h, rfl, fun _ => ⟨h1, h2⟩⟩
def SmallP (ε : World) (R : List Asn) (rate : Int) (l : List LAct) (e : Ending) (w' : World) : Prop := ∃ bl, e = .returned (.bool bl) ∧ Own ε w' R ∧ (bl = true → ∀ a ∈ l, a.small ∧ rate ≤ 1048576)
theorem SmallP.no {ε w' : World} {R : List Asn} {rate : Int} {l : List LAct} {e : Ending} (h : e = .returned (.bool false)) (H : Own ε w' R) : SmallP ε R rate l e w' := ⟨_, h, H, fun h => by cases h⟩
theorem SmallP.yes {ε w' : World} {R : List Asn} {rate : Int} {l : List LAct} {e : Ending} (h : e = .returned (.bool true)) (H : Own ε w' R) (h2 : ∀ a ∈ l, a.small ∧ rate ≤ 1048576) : SmallP ε R rate l e w' := ⟨_, h, H, fun _ => h2⟩
theorem few_take {l : List LAct} {p : LAct → Prop} {k : Nat} {a : LAct} (h : ∀ x ∈ l.take k, p x) (hk : l[k]? = some a) (ha : p a) : ∀ x ∈ l.take (k + 1), p x := by
  intro x hx
  rw [List.take_add_one, hk] at hx
  rcases List.mem_append.1 hx with hx | hx
  · exact h x hx
  · have : x = a := by simpa using hx
    rw [this]; exact ha
theorem ns_get {w : World} {A : Option Addr} {n k : Nat} {l : List Int} (h : nsAt w A n l) (hk : k < n) : ∃ g off x, A = some ⟨g, off, none⟩ ∧ l[k]? = some x ∧ w.cell? ⟨g, off + k, none⟩ = some (.int .u64 x) := by
  obtain ⟨g, off, x, e, h1, h2⟩ := h.get hk
  exact ⟨g, off, x, e, h1, by have := h2 0 _ rfl; simpa using this⟩
section
variable (ε w : World) (R : List Asn) (b : Nat)
set_option maxHeartbeats 3200000 in
theorem fits21_c (A : Option Addr) (len cap : Nat) (l : List LAct) (hm : len ≤ 9223372036854775807) (hc : lactsAt w A len l) :
    Calls Try.prog 41 #[.slice A len cap] w (FitsP l w) := by
  have hln := hc.1
  replace hc := Lib.hid hc
  go_enter Try.func41, Try.ntmps41
  go_wp2_with fail
  go_loopw [3] (fun i wr => ∃ k : Nat, k ≤ len ∧ k ≤ 61 ∧ i = .int .i64 k ∧ wr = w ∧ ∀ a ∈ l.take k, a.few) (fun i _ => len - (intOf i).toNat)
  case atStart => refine ⟨0, Nat.zero_le _, by decide, ?_⟩; simp
  case round =>
    obtain ⟨k, hk, hk2, rfl, rfl, hj⟩ := hrel
    replace hj := Lib.hid hj
    by_cases hlt : k < len
    · obtain ⟨a, hka, _, ab, off, As, ns, cs, Ac, nc, cc, rfl, c0, c1, c2, c3, c4, h1, h2, h3, h4, h5⟩ := hc.out.get hlt
      have n1 := h1.1
      have n2 := h2.1
      replace hka := Lib.hid hka
      clear h1 h2 c0 c2 c3
      by_cases hk3 : k ≤ 60
      · have hk4 : (k : Int) ≤ 60 := by omega
        by_cases hb1 : 60 < ns
        · have hb2 : (60 : Int) < (ns : Int) := by omega
          go_wp2_with fail
          go_ret
          exact FitsP.no rfl
        · have hb2 : ¬ (60 : Int) < (ns : Int) := by omega
          by_cases hb3 : 60 < nc
          · have hb4 : (60 : Int) < (nc : Int) := by omega
            go_wp2_with fail
            go_ret
            exact FitsP.no rfl
          · have hb4 : ¬ (60 : Int) < (nc : Int) := by omega
            go_wp2_with fail
            go_roundw
            case rel =>
              refine ⟨k + 1, by omega, by omega, by go_num, ?_⟩
              simp only [true_and]
              exact few_take hj.out hka.out ⟨by omega, by omega⟩
            case measure => simp [intOf]; omega
      · have hk4 : ¬ (k : Int) ≤ 60 := by omega
        have hl2 : ¬ (len : Int) ≤ 60 := by omega
        go_wp2_with fail
        go_ret
        exact FitsP.no rfl
    · have hkl : k = len := by omega
      subst hkl
      by_cases hl2 : (k : Int) ≤ 60
      · go_wp2_with fail
        go_ret
        refine FitsP.yes rfl (by omega) ?_
        have := hj.out
        rwa [List.take_of_length_le (by omega)] at this
      · go_wp2_with fail
        go_ret
        exact FitsP.no rfl
set_option maxHeartbeats 3200000 in
theorem packets21_c (frm : Nat) (A : Option Addr) (n cap : Nat) (l : List Int) (hA : ∀ wx, Own ε wx R → nsAt wx A n l) (hf : frm + n ≤ 1000000) (H : Own ε w R) :
    Calls Try.prog 48 #[.int .i64 frm, .slice A n cap] w fun e w' => ∃ v, e = .returned v ∧ Own ε w' (slcP v (mkPks frm l) :: R) := by
  have hn := (hA w H).1
  have HH := Lib.hid H; clear H
  replace hA := Lib.hid hA
  replace HH := Lib.hid (show Own ε w (slcP (.slice none 0 0) (mkPks frm (l.take 0)) :: R) from HH.out.slc_none)
  go_enter Try.func48, Try.ntmps48
  go_wp2_with fail
  go_loopw [5, 6] (fun v i wr => ∃ k : Nat, k ≤ n ∧ i = .int .i64 k ∧ Own ε wr (slcP v (mkPks frm (l.take k)) :: R)) (fun _ i _ => n - (intOf i).toNat)
  case atStart => exact ⟨0, Nat.zero_le _, rfl, HH.out⟩
  case round =>
    clear HH
    obtain ⟨k, hk, rfl, HR⟩ := hrel
    have HH := Lib.hid HR
    clear HR
    by_cases hlt : k < n
    · obtain ⟨g, off, x, rfl, hx, c0⟩ := ns_get (hA.out _ HH.out.tail) hlt
      have hst := mkPks_step (f := frm) hx
      have hlk : (pks (mkPks frm (l.take k))).flatten.length = k * 7 := by rw [flat_pks_len, mkPks_len, List.length_take, Nat.min_eq_left (by omega)]
      have hw9 : IntKind.u64.wrap ((frm : Int) + k) = (frm : Int) + k := by rw [IntKind.wrap_u64]; omega
      have hw8 : IntKind.i64.wrap ((frm : Int) + k) = (frm : Int) + k := by rw [IntKind.wrap_i64]; omega
      clear hx
      generalize mkPks frm (l.take k) = pl at *
      replace hst := Lib.hid hst
      replace hlk := Lib.hid hlk
      go_wp2_with (with_reducible refine stop_bs ?_)
      refine Stop.go ?_
      refine wpList_bs1_own HH.out #[_, _, _, _, _, _, _] 7 56 Try.underlying28 (by kernel_rfl) (by decide) (by decide) rfl rfl ?_
      intro g_ w1_ H9_
      replace HH := Lib.hid H9_
      clear H9_
      go_wp2_with (with_reducible refine stop_app ?_)
      refine Stop.go ?_
      refine wpList_app1_own rfl _ _ 28 rfl 42 7 56 Try.underlying28 (by kernel_rfl) (by decide) (k) rfl rfl HH.out (hlk.out) rfl (by repeat (first | (refine List.forall_mem_cons.2 ⟨(by first | with_reducible assumption | rfl), ?_⟩) | exact fun _ h => absurd h List.not_mem_nil)) (by simp only [maxLen]; omega) (by omega) ?_
      intro v5 w2_ H9_
      obtain ⟨A_v5, n_v5, c_v5, rfl⟩ := H9_.slc_isv
      replace HH := Lib.hid H9_
      clear H9_
      clear c0
      go_wp2_with fail
      go_roundw
      case rel =>
        refine ⟨k + 1, by omega, by go_num, ?_⟩
        rw [hst.out]
        have e9 : slcP (.slice A_v5 n_v5 c_v5) (pl ++ [Pk.bare ((frm + k : Nat) : Int) x]) = slc 42 7 (.slice A_v5 n_v5 c_v5) ((pks pl).flatten ++ [.int .u64 ((frm : Int) + k), .int .u64 x, .int .u64 0, .int .u64 0, .int .u64 0, .int .u64 0, .bool false]) := by
          unfold slcP
          rw [flat_pks_snoc]
          rfl
        rw [e9]
        exact HH.out
      case measure => simp [intOf]; omega
    · have hkn : k = n := by omega
      subst hkn
      rw [List.take_of_length_le (show l.length ≤ k by omega)] at HH
      go_wp2_with fail
      go_ret
      exact ⟨_, rfl, HH.out⟩
set_option maxHeartbeats 6400000 in
theorem small21_c (p1 p2 p3 p4 : Int) (A : Option Addr) (len cap : Nat) (l : List LAct) (hm : len ≤ 9223372036854775807) (hc : ∀ wx, Own ε wx R → lactsAt wx A len l) (H : Own ε w R) :
    Calls Try.prog 43 #[.agg #[.int .u64 p1, .int .u64 p2, .int .u64 p3, .int .u64 p4], .slice A len cap] w (SmallP ε R p1 l) := by
  have hln := (hc w H).1
  have HH := Lib.hid H; clear H
  replace hc := Lib.hid hc
  go_enter Try.func43, Try.ntmps43
  go_wp2_with (with_reducible refine stop_bx ?_)
  refine Stop.go ?_
  refine wpList_box_own HH.out [_, _, _, _] rfl ?_
  intro g w3_ H9_
  replace HH := Lib.hid H9_
  clear H9_
  go_wp2_with fail
  go_loopw [5] (fun i wr => ∃ k : Nat, k ≤ len ∧ i = .int .i64 k ∧ Own ε wr (pts g (.cells #[.int .u64 p1, .int .u64 p2, .int .u64 p3, .int .u64 p4] 78 (0, 0)) :: R) ∧ ∀ a ∈ l.take k, a.small ∧ p1 ≤ 1048576) (fun i _ => len - (intOf i).toNat)
  case atStart => exact ⟨0, Nat.zero_le _, rfl, HH.out, by simp⟩
  case round =>
    clear HH
    obtain ⟨k, hk, rfl, HR, hj⟩ := hrel
    have HH := Lib.hid HR
    clear HR
    replace hj := Lib.hid hj
    by_cases hlt : k < len
    · obtain ⟨a, hka, _, ab, off, As, ns, cs, Ac, nc, cc, rfl, c0, c1, c2, c3, c4, h1, h2, h3, h4, h5⟩ := (hc.out _ HH.out.tail).get hlt
      have n1 := h1.1
      replace h1 := Lib.hid h1
      replace hka := Lib.hid hka
      clear h2 c0 c3 c4 hc
      (try clear cc1_); (try clear cc2_); (try clear cc3_); (try clear cc4_); (try clear cc5_); (try clear cc6_); (try clear cc7_)
      have cc1_ := HH.out.cells
      by_cases hb1 : 1073741824 < a.after
      · go_wp2_with fail
        go_ret
        exact SmallP.no rfl HH.out.tail
      · by_cases hb2 : 1048576 < p1
        · go_wp2_with fail
          go_ret
          exact SmallP.no rfl HH.out.tail
        · go_wp2_with fail
          go_loopw [6] (fun i w2 => ∃ j : Nat, j ≤ ns ∧ i = .int .i64 j ∧ w2 = wr ∧ ∀ x ∈ a.sizes.take j, x ≤ 1073741824) (fun i _ => ns - (intOf i).toNat)
          case atStart => refine ⟨0, Nat.zero_le _, rfl, rfl, ?_⟩; simp
          case round =>
            obtain ⟨j, hjn, rfl, rfl, hjj⟩ := hrel
            replace hjj := Lib.hid hjj
            by_cases hlt2 : j < ns
            · obtain ⟨g2, off2, x, rfl, hx, d0⟩ := ns_get h1.out hlt2
              replace hx := Lib.hid hx
              by_cases hb3 : 1073741824 < x
              · go_wp2_with fail
                go_ret
                exact SmallP.no rfl HH.out.tail
              · go_wp2_with fail
                go_roundw
                case rel =>
                  refine ⟨j + 1, by omega, by go_num, by first | rfl | trivial, fun y hy => ?_⟩
                  rw [List.take_add_one, hx.out] at hy
                  rcases List.mem_append.1 hy with hy | hy
                  · exact hjj.out y hy
                  · have : y = x := by simpa using hy
                    omega
                case measure => simp [intOf]; omega
            · have hjn2 : j = ns := by omega
              have hall : ∀ x ∈ a.sizes, x ≤ 1073741824 := by have := hjj.out; rwa [List.take_of_length_le (by omega)] at this
              replace hall := Lib.hid hall
              subst hjn2
              go_wp2_with fail
              go_roundw
              case rel => exact ⟨k + 1, by omega, by go_num, HH.out, few_take hj.out hka.out ⟨⟨by omega, hall.out⟩, by omega⟩⟩
              case measure => simp [intOf]; omega
    · have hkl : k = len := by omega
      subst hkl
      go_wp2_with fail
      go_ret
      refine SmallP.yes rfl HH.out.tail ?_
      have := hj.out
      rwa [List.take_of_length_le (by omega)] at this
def rightR (rate delay jit buf : Int) : Bool := decide (1 ≤ rate) && decide (rate ≤ 1099511627776) && decide (delay ≤ 4398046511104) && decide (jit ≤ 4398046511104) && decide (1 ≤ buf) && decide (buf ≤ 72057594037927936)
theorem right_eq (rate delay jit buf : Int) : rightR rate delay jit buf = rightB rate delay jit buf := by
  unfold rightR rightB
  have : decide (max delay jit ≤ 4398046511104) = (decide (delay ≤ 4398046511104) && decide (jit ≤ 4398046511104)) := by
    rw [← Bool.decide_and]; congr 1; simp only [eq_iff_iff]; omega
  rw [this]
  simp only [Bool.and_assoc]
set_option maxHeartbeats 3200000 in
theorem right18_c (p1 p2 p3 p4 : Int) (H : Own ε w R) :
    Calls Try.prog 42 #[.agg #[.int .u64 p1, .int .u64 p2, .int .u64 p3, .int .u64 p4]] w fun e w' => e = .returned (.bool (rightB p1 p2 p3 p4)) ∧ Own ε w' R := by
  rw [← right_eq]
  have HH := Lib.hid H; clear H
  unfold rightR
  by_cases h1 : 1 ≤ p1
  case' pos =>
    by_cases h2 : p1 ≤ 1099511627776
    case' pos =>
      by_cases h3 : p2 ≤ 4398046511104
      case' pos =>
        by_cases h6 : p3 ≤ 4398046511104
        case' pos =>
          by_cases h4 : 1 ≤ p4
          case' pos =>
            by_cases h5 : p4 ≤ 72057594037927936
  all_goals
    go_enter Try.func42, Try.ntmps42
    go_wp2_with (with_reducible refine stop_bx ?_)
    refine Stop.go ?_
    refine wpList_box_own HH.out [_, _, _, _] rfl ?_
    intro g w4_ H9_
    replace HH := Lib.hid H9_
    clear H9_
    (try clear cc1_); (try clear cc2_); (try clear cc3_); (try clear cc4_); (try clear cc5_); (try clear cc6_); (try clear cc7_)
    have cc1_ := HH.out.cells
    go_wp2_with fail
    go_ret
    refine ⟨?_, HH.out.tail⟩
    simp [*] <;> (intros; omega)
theorem linkTime_nil : Calls Try.prog 47 #[.pointer none] w fun e w' => e = .returned (.int .u64 0) ∧ w = w' := by
  go_enter Try.func47, Try.ntmps47
  go_wp2_with fail
  go_ret
  exact ⟨rfl, rfl⟩
theorem linkTokens_nil : Calls Try.prog 59 #[.pointer none] w fun e w' => e = .returned (.tuple #[.int .u64 0, .int .u64 0]) ∧ w = w' := by
  go_enter Try.func59, Try.ntmps59
  go_wp2_with fail
  go_ret2
  exact ⟨rfl, rfl⟩
theorem linkNext_nil : Calls Try.prog 60 #[.pointer none] w fun e w' => e = .returned (.tuple #[.int .u64 0, .bool false]) ∧ w = w' := by
  go_enter Try.func60, Try.ntmps60
  go_wp2_with fail
  go_ret2
  exact ⟨rfl, rfl⟩
theorem linkSend_nil (v : Value) : Calls Try.prog 49 #[.pointer none, v] w fun e w' => e = .returned (.int .i64 0) ∧ w = w' := by
  go_enter Try.func49, Try.ntmps49
  go_wp2_with fail
  go_ret
  exact ⟨rfl, rfl⟩
theorem linkTick_nil (t x : Int) (v : Value) : Calls Try.prog 46 #[.pointer none, .int .u64 t, .int .u64 x, v] w fun e w' => e = .returned (.tuple #[.slice none 0 0, .int .i64 1]) ∧ w = w' := by
  go_enter Try.func46, Try.ntmps46
  go_wp2_with fail
  go_ret2
  exact ⟨rfl, rfl⟩
theorem linkTick_late (s : Lnk) (t x : Int) (v : Value) (hlt : t < s.now) (H : Own ε w (lnk b s :: R)) : Calls Try.prog 46 #[.pointer (some ⟨b, 0, none⟩), .int .u64 t, .int .u64 x, v] w fun e w' => e = .returned (.tuple #[.slice none 0 0, .int .i64 2]) ∧ w = w' := by
  obtain ⟨bb, qb, xb, H⟩ := H.lnk_open
  obtain ⟨c0, _⟩ := H.cells
  clear H
  go_enter Try.func46, Try.ntmps46
  go_wp2_with fail
  go_ret2
  exact ⟨rfl, rfl⟩
theorem linkCount_nil (H : Own ε w R) : Calls Try.prog 50 #[.pointer none] w fun e w' => e = .returned (.agg #[.int .u64 0, .int .u64 0, .int .u64 0, .int .u64 0, .int .u64 0, .int .u64 0]) ∧ Own ε w' R := by
  have HH := Lib.hid H; clear H
  go_enter Try.func50, Try.ntmps50
  go_wp2_with (with_reducible refine stop_al ?_)
  refine Stop.go ?_
  refine wpList_alloc_own HH.out [.int .u64 0, .int .u64 0, .int .u64 0, .int .u64 0, .int .u64 0, .int .u64 0] (by kernel_rfl) ?_
  intro rt w5_ H9_
  replace HH := Lib.hid H9_
  clear H9_
  go_wp2_with (with_reducible refine stop_st ?_)
  refine Stop.go ?_
  refine wpList_store_own _ #[_, _, _, _, _, _] rfl rfl HH.out (by kernel_rfl) rfl (by repeat (first | (refine List.forall_mem_cons.2 ⟨(by first | with_reducible assumption | rfl), ?_⟩) | exact fun _ h => absurd h List.not_mem_nil)) ?_
  intro w6_ H9_
  replace HH := Lib.hid H9_
  clear H9_
  go_wp2_with fail
  refine bodyPost_ret (results_cell_row rfl _ _ _ _ _ _ _ rfl HH.out.blk Try.underlying93 rfl (by kernel_rfl)) rfl (⟨rfl, HH.out.tail⟩)
end
end Go.Proofs.Ytklohjjkpobneaa
