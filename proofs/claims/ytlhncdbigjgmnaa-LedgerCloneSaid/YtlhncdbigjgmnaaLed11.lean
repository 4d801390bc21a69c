/- ledger: acts that are read, and the live question. -/
import Derived.Test.YtlhncdbigjgmnaaLed10
namespace Go.Proofs.Ytlhncdbigjgmnaa
open Go.RowKit
def Fits08 (len : Nat) (f : Nat → Nat) (w : World) (e : Ending) (w' : World) : Prop := ∃ bl, e = .returned (.bool bl) ∧ w = w' ∧ (bl = true → len ≤ 100 ∧ ∀ k, k < len → f k ≤ 100)
theorem Fits08.no {len : Nat} {f : Nat → Nat} {w : World} {e : Ending} (h : e = .returned (.bool false)) : Fits08 len f w e w := ⟨_, h, rfl, fun h => by cases h⟩
theorem Fits08.yes {len : Nat} {f : Nat → Nat} {w : World} {e : Ending} (h : e = .returned (.bool true)) (h1 : len ≤ 100) (h2 : ∀ k, k < len → f k ≤ 100) : Fits08 len f w e w := ⟨_, h, rfl, fun _ => ⟨h1, h2⟩⟩
abbrev RgT := Int × Int × Unit
def rdRg : Rd RgT := rdPair (rdInt .u64) (rdPair (rdInt .u64) rdUnit)
def RgT.r (x : RgT) : Rg := (x.1, x.2.1)
theorem rdRg_open {w : World} {c : List Value} {x : RgT} (h : rdRg w c x) : c = encRg x.r ∧ U x.r.1 ∧ U x.r.2 := by
  obtain ⟨c1, d1, rfl, ⟨rfl, h1⟩, c2, d2, rfl, ⟨rfl, h2⟩, rfl⟩ := h
  exact ⟨rfl, U_of_wf h1, U_of_wf h2⟩
theorem rgs_rd {w : World} {A : Option Addr} {n cap : Nat} {xs : List RgT} (h : rdSlice rdRg 2 w [.slice A n cap] xs) : itAt encRg 2 w A n (xs.map RgT.r) ∧ n ≤ 9223372036854775807 ∧ ∀ x ∈ xs.map RgT.r, U x.1 ∧ U x.2 := by
  obtain ⟨h1, h2⟩ := itAt_rd (enc := encRg) (sz := 2) RgT.r (fun _ _ hc => (rdRg_open hc).1) h
  refine ⟨h1, h2, fun x hm => ?_⟩
  obtain ⟨t, ht, rfl⟩ := List.mem_map.1 hm
  obtain ⟨i, hi, rfl⟩ := List.getElem_of_mem ht
  obtain ⟨_, _, hx⟩ := rdSlice_cases h
  rcases hx with hz | ⟨ab, off, rfl, hx⟩
  · omega
  · obtain ⟨c, _, _, hR⟩ := hx i hi
    exact (rdRg_open hR).2
abbrev ActT := Int × Int × Int × List RgT × Int × Int × Unit
def rdActT : Rd ActT := rdPair (rdInt .u8) (rdPair (rdInt .u64) (rdPair (rdInt .u64) (rdPair (rdSlice rdRg 2) (rdPair (rdInt .u64) (rdPair (rdInt .u64) rdUnit)))))
theorem rdActT_open {w : World} {c : List Value} {x : ActT} (h : rdActT w c x) : ∃ A n cap, c = [.int .u8 x.1, .int .u64 x.2.1, .int .u64 x.2.2.1, .slice A n cap, .int .u64 x.2.2.2.2.1, .int .u64 x.2.2.2.2.2.1] ∧ 0 ≤ x.1 ∧ x.1 < 256 ∧ U x.2.1 ∧ U x.2.2.1 ∧ U x.2.2.2.2.1 ∧ U x.2.2.2.2.2.1 ∧ n = x.2.2.2.1.length ∧ rdSlice rdRg 2 w [.slice A n cap] x.2.2.2.1 := by
  obtain ⟨c1, d1, rfl, ⟨rfl, h1⟩, c2, d2, rfl, ⟨rfl, h2⟩, c3, d3, rfl, ⟨rfl, h3⟩, c4, d4, rfl, h4, c5, d5, rfl, ⟨rfl, h5⟩, c6, d6, rfl, ⟨rfl, h6⟩, rfl⟩ := h
  obtain ⟨A, n, cap, rfl, hl, _⟩ := id h4
  have h7 := h1
  simp [Lit.wf, IntKind.min, IntKind.max, IntKind.signed, IntKind.bits] at h7
  exact ⟨A, n, cap, rfl, by omega, by omega, U_of_wf h2, U_of_wf h3, U_of_wf h5, U_of_wf h6, hl.symm, h4⟩
/-- An act, as it is read. -/
structure Act where
  kd : Int
  size : Int
  at' : Int
  r : List Rg
  delay : Int
  limit : Int
def ActT.act (x : ActT) : Act := ⟨x.1, x.2.1, x.2.2.1, x.2.2.2.1.map RgT.r, x.2.2.2.2.1, x.2.2.2.2.2.1⟩
/-- An act that stands in memory. -/
structure ActIn (w : World) (A : Option Addr) (k : Nat) (a : Act) : Prop where
  kd : 0 ≤ a.kd ∧ a.kd < 256
  u : U a.size ∧ U a.at' ∧ U a.delay ∧ U a.limit
  ru : ∀ x ∈ a.r, U x.1 ∧ U x.2
  big : a.r.length ≤ 9223372036854775807
  cells : ∃ ab off A' cp, A = some ⟨ab, off, none⟩ ∧ itAt encRg 2 w A' a.r.length a.r ∧ w.cell? ⟨ab, off + k * 6, none⟩ = some (.int .u8 a.kd) ∧ w.cell? ⟨ab, off + k * 6 + 1, none⟩ = some (.int .u64 a.size) ∧ w.cell? ⟨ab, off + k * 6 + 2, none⟩ = some (.int .u64 a.at') ∧
    w.cell? ⟨ab, off + k * 6 + 3, none⟩ = some (.slice A' a.r.length cp) ∧ w.cell? ⟨ab, off + k * 6 + 4, none⟩ = some (.int .u64 a.delay) ∧ w.cell? ⟨ab, off + k * 6 + 5, none⟩ = some (.int .u64 a.limit)
theorem acts_rd {w : World} {A : Option Addr} {len cap : Nat} {xs : List ActT} (h : rdSlice rdActT 6 w [.slice A len cap] xs) : (xs.map ActT.act).length = len ∧ len ≤ 9223372036854775807 ∧ ∀ k a, (xs.map ActT.act)[k]? = some a → ActIn w A k a := by
  obtain ⟨hlen, hm, hx⟩ := rdSlice_cases h
  refine ⟨by simpa using hlen, hm, fun k a ha => ?_⟩
  rw [List.getElem?_map] at ha
  obtain ⟨x, hxk, rfl⟩ := Option.map_eq_some_iff.1 ha
  obtain ⟨hk, rfl⟩ := List.getElem?_eq_some_iff.1 hxk
  rcases hx with hz | ⟨ab, off, rfl, hx⟩
  · omega
  · obtain ⟨c, _, hcell, hR⟩ := hx k hk
    obtain ⟨A', n', cp, rfl, h1, h2, h3, h4, h5, h6, h7, h8⟩ := rdActT_open hR
    obtain ⟨h9, h10, h11⟩ := rgs_rd h8
    have e : n' = (ActT.act xs[k]).r.length := by rw [h7]; simp [ActT.act]
    subst e
    exact ⟨⟨h1, h2⟩, ⟨h3, h4, h5, h6⟩, h11, h10, ab, off, A', cp, rfl, h9, hcell 0 _ rfl, hcell 1 _ rfl, hcell 2 _ rfl, hcell 3 _ rfl, hcell 4 _ rfl, hcell 5 _ rfl⟩
def live8 : List (Pk × Bool) := [(⟨0, 100, 0, 0, 0, 0, false⟩, true), (⟨1, 100, 10, 0, 0, 0, false⟩, true), (⟨2, 100, 20, 0, 0, 0, false⟩, true), (⟨3, 100, 30, 0, 0, 0, false⟩, true)]
theorem live8_at {k : Nat} (hk : k < 4) : live8[k]? = some (⟨(k : Int), 100, 10 * (k : Int), 0, 0, 0, false⟩, true) := by
  match k, hk with
  | 0, _ => rfl
  | 1, _ => rfl
  | 2, _ => rfl
  | 3, _ => rfl
theorem live8_row {row : List En} (h : row.map (fun e => (e.p, e.o)) = live8) : ∃ b0 b1 b2 b3, row = [⟨b0, ⟨0, 100, 0, 0, 0, 0, false⟩, true⟩, ⟨b1, ⟨1, 100, 10, 0, 0, 0, false⟩, true⟩, ⟨b2, ⟨2, 100, 20, 0, 0, 0, false⟩, true⟩, ⟨b3, ⟨3, 100, 30, 0, 0, 0, false⟩, true⟩] := by
  have hl : row.length = 4 := by have := congrArg List.length h; simpa [live8] using this
  match row, hl with
  | [e0, e1, e2, e3], _ =>
    simp only [live8, List.map_cons, List.map_nil, List.cons.injEq, Prod.mk.injEq, and_true] at h
    obtain ⟨⟨h1, h2⟩, ⟨h3, h4⟩, ⟨h5, h6⟩, h7, h8⟩ := h
    obtain ⟨b0, p0, o0⟩ := e0
    obtain ⟨b1, p1, o1⟩ := e1
    obtain ⟨b2, p2, o2⟩ := e2
    obtain ⟨b3, p3, o3⟩ := e3
    simp only at h1 h2 h3 h4 h5 h6 h7 h8
    subst h1 h2 h3 h4 h5 h6 h7 h8
    exact ⟨b0, b1, b2, b3, rfl⟩
theorem live8_ack (b0 b1 b2 b3 : Nat) : (⟨2, 4, 0, false, [⟨b0, ⟨0, 100, 0, 0, 0, 0, false⟩, true⟩, ⟨b1, ⟨1, 100, 10, 0, 0, 0, false⟩, true⟩, ⟨b2, ⟨2, 100, 20, 0, 0, 0, false⟩, true⟩, ⟨b3, ⟨3, 100, 30, 0, 0, 0, false⟩, true⟩]⟩ : Led).ack [(3, 9)] =
    ([⟨3, 100, 30, 0, 0, 0, false⟩], 0, ⟨2, 4, 3, true, [⟨b0, ⟨0, 100, 0, 0, 0, 0, false⟩, true⟩, ⟨b1, ⟨1, 100, 10, 0, 0, 0, false⟩, true⟩, ⟨b2, ⟨2, 100, 20, 0, 0, 0, false⟩, true⟩, ⟨b3, ⟨3, 100, 30, 0, 0, 0, false⟩, false⟩]⟩) := rfl
theorem live8_lost (b0 b1 b2 b3 : Nat) : (⟨2, 4, 3, true, [⟨b0, ⟨0, 100, 0, 0, 0, 0, false⟩, true⟩, ⟨b1, ⟨1, 100, 10, 0, 0, 0, false⟩, true⟩, ⟨b2, ⟨2, 100, 20, 0, 0, 0, false⟩, true⟩, ⟨b3, ⟨3, 100, 30, 0, 0, 0, false⟩, false⟩]⟩ : Led).lost 25 15 1000 =
    ([⟨0, 100, 0, 0, 0, 0, false⟩, ⟨1, 100, 10, 0, 0, 0, false⟩], ⟨2, 4, 3, true, [⟨b2, ⟨2, 100, 20, 0, 0, 0, false⟩, true⟩, ⟨b3, ⟨3, 100, 30, 0, 0, 0, false⟩, false⟩]⟩) := rfl
section
variable (ε w : World) (R : List Asn)
set_option maxHeartbeats 1600000 in
theorem fits08_c (A : Option Addr) (len cap : Nat) (f : Nat → Nat) (hlen : len ≤ 9223372036854775807) (hc : ∀ k, k < len → ∃ ab off A' cp, A = some ⟨ab, off, none⟩ ∧ f k ≤ 9223372036854775807 ∧ w.cell? ⟨ab, off + k * 6 + 3, none⟩ = some (.slice A' (f k) cp)) :
    Calls Try.prog 12 #[.slice A len cap] w (Fits08 len f w) := by
  replace hc := Lib.hid hc
  replace hlen := Lib.hid hlen
  go_enter Try.func12, Try.ntmps12
  go_wp2_with fail
  go_loopw [3] (fun i wr => ∃ k : Nat, k ≤ len ∧ k ≤ 101 ∧ i = .int .i64 k ∧ wr = w ∧ ∀ j, j < k → f j ≤ 100) (fun i _ => len - (intOf i).toNat)
  case atStart => refine ⟨0, Nat.zero_le _, by decide, ?_⟩; simp
  case round =>
    obtain ⟨k, hk, hk2, rfl, rfl, hj⟩ := hrel
    replace hj := Lib.hid hj
    by_cases hlt : k < len
    · obtain ⟨ab, off, A', cp, rfl, hf, c0⟩ := hc.out k hlt
      by_cases hk3 : k ≤ 100
      · have hk4 : (k : Int) ≤ 100 := by omega
        by_cases hbig : 100 < f k
        · have hb2 : (100 : Int) < (f k : Int) := by omega
          replace hf := Lib.hid hf
          go_wp2_with fail
          go_ret
          exact Fits08.no rfl
        · have hb2 : ¬ (100 : Int) < (f k : Int) := by omega
          replace hf := Lib.hid hf
          go_wp2_with fail
          go_roundw
          case rel =>
            refine ⟨k + 1, by omega, by omega, by go_num, ?_⟩
            simp only [true_and]
            intro j hjk
            rcases Nat.lt_or_ge j k with h | h
            · exact hj.out j h
            · obtain rfl : j = k := by omega
              omega
          case measure => simp [intOf]; omega
      · have hk4 : ¬ (k : Int) ≤ 100 := by omega
        have hl2 : ¬ (len : Int) ≤ 100 := by omega
        go_wp2_with fail
        go_ret
        exact Fits08.no rfl
    · have hkl : k = len := by omega
      subst hkl
      by_cases hl2 : (k : Int) ≤ 100
      · go_wp2_with fail
        go_ret
        exact Fits08.yes rfl (by omega) hj.out
      · go_wp2_with fail
        go_ret
        exact Fits08.no rfl
set_option maxRecDepth 100000 in
set_option maxHeartbeats 6400000 in
theorem alive08_c (H : Own ε w R) : Calls Try.prog 13 #[] w fun e w' => e = .returned (.bool true) ∧ Own ε w' R := by
  have HH := Lib.hid H; clear H
  go_enter Try.func13, Try.ntmps13
  go_wp2_with fail
  refine (ledNew_c ε _ _ 2 HH.out).mono ?_
  rintro e w1_ ⟨b, rfl, H9_⟩
  replace HH := Lib.hid H9_
  clear H9_
  go_wp2_with fail
  go_loopw [2] (fun i wr => ∃ (k : Nat) (row : List En), k ≤ 4 ∧ i = .int .u64 k ∧ row.map (fun e => (e.p, e.o)) = live8.take k ∧ row.length = k ∧ Own ε wr (led b ⟨2, k, 0, false, row⟩ :: R)) (fun i _ => 4 - (intOf i).toNat)
  case atStart => exact ⟨0, [], Nat.zero_le _, rfl, rfl, rfl, HH.out⟩
  case round =>
    clear HH
    obtain ⟨k, row, hk, rfl, hrow, hrl, HR⟩ := hrel
    have HH := Lib.hid HR
    clear HR
    replace hrow := Lib.hid hrow
    replace hrl := Lib.hid hrl
    by_cases hlt : k < 4
    · have hw1 : IntKind.u64.wrap (10 * (k : Int)) = 10 * (k : Int) := by rw [IntKind.wrap_u64]; omega
      have hw2 : IntKind.u64.wrap ((k : Int) + 1) = (k : Int) + 1 := by rw [IntKind.wrap_u64]; omega
      have hlti : (k : Int) < 4 := by omega
      have h9 := Lib.hid (live8_at hlt)
      go_wp2_with fail
      refine (ledSend_c ε _ _ b ⟨2, k, 0, false, row⟩ 100 (10 * (k : Int)) 0 0 0 false (by simp only; rw [hrl.out]; omega) (by simp only; omega) (by simp only; omega) HH.out).mono ?_
      rintro e w2_ ⟨eb, rfl, H9_⟩
      replace HH := Lib.hid H9_
      clear H9_
      go_wp2_with fail
      go_roundw
      case rel =>
        refine ⟨k + 1, row ++ [⟨eb, ⟨k, 100, 10 * (k : Int), 0, 0, 0, false⟩, true⟩], by omega, by go_num, ?_, by simp [hrl.out], by rw [show ((k + 1 : Nat) : Int) = (k : Int) + 1 by omega]; exact HH.out⟩
        rw [take_next h9.out, List.map_append, hrow.out]
        rfl
      case measure => simp [intOf]; omega
    · have hk4 : ¬ (k : Int) < 4 := by omega
      obtain rfl : k = 4 := by omega
      obtain ⟨b0, b1, b2, b3, rfl⟩ := live8_row hrow.out
      clear hrow hrl hk hlt hk4
      have p1 := Lib.hid (live8_ack b0 b1 b2 b3)
      have p2 := Lib.hid (live8_lost b0 b1 b2 b3)
      replace HH := Lib.hid (show Own ε _ (led b ⟨2, 4, 0, false, [⟨b0, ⟨0, 100, 0, 0, 0, 0, false⟩, true⟩, ⟨b1, ⟨1, 100, 10, 0, 0, 0, false⟩, true⟩, ⟨b2, ⟨2, 100, 20, 0, 0, 0, false⟩, true⟩, ⟨b3, ⟨3, 100, 30, 0, 0, 0, false⟩, true⟩]⟩ :: R) from HH.out)
      go_wp2_with (with_reducible refine stop_bs ?_)
      refine Stop.go ?_
      refine wpList_bsv_own HH.out [.int .u64 3, .int .u64 9] 2 16 [.int .u64 0, .int .u64 0] Try.underlying22 (by kernel_rfl) (by kernel_rfl) (by decide) (by decide) (by kernel_rfl) ?_
      intro g1 w3_ H9_
      replace HH := Lib.hid H9_
      clear H9_
      replace HH := Lib.hid (HH.out.slc_all (sz := 2) (n := 1) (by decide) rfl).r2
      go_wp2_with fail
      refine (ledAck_c ε _ _ b ⟨2, 4, 0, false, [⟨b0, ⟨0, 100, 0, 0, 0, 0, false⟩, true⟩, ⟨b1, ⟨1, 100, 10, 0, 0, 0, false⟩, true⟩, ⟨b2, ⟨2, 100, 20, 0, 0, 0, false⟩, true⟩, ⟨b3, ⟨3, 100, 30, 0, 0, 0, false⟩, true⟩]⟩ (by simp) (by intro e he; simp only [List.mem_cons, List.not_mem_nil, or_false] at he; rcases he with rfl | rfl | rfl | rfl <;> (simp only; decide)) [(3, 9)] (by intro x hx; rw [List.mem_singleton.1 hx]; decide) (some ⟨g1, 0, none⟩) 1 1 (fun wx Hx => slc_rdS (l := [(3, 9)]) encRg_len (by decide) Hx) (by decide) HH.out).mono ?_
      rw [p1.out]
      rintro e w4_ ⟨v, rfl, H9_⟩
      replace HH := Lib.hid H9_
      clear H9_
      replace HH := Lib.hid (show Own ε _ (slcP v [⟨3, 100, 30, 0, 0, 0, false⟩] :: led b ⟨2, 4, 3, true, [⟨b0, ⟨0, 100, 0, 0, 0, 0, false⟩, true⟩, ⟨b1, ⟨1, 100, 10, 0, 0, 0, false⟩, true⟩, ⟨b2, ⟨2, 100, 20, 0, 0, 0, false⟩, true⟩, ⟨b3, ⟨3, 100, 30, 0, 0, 0, false⟩, false⟩]⟩ :: R) from (Own.pm (HH.out) (by repeat (first | with_reducible exact Pm.refl _ | with_reducible exact Pm.nil _ | with_reducible refine Pm.here ?_ | with_reducible refine Pm.at2 ?_ | with_reducible refine Pm.at3 ?_ | with_reducible refine Pm.at4 ?_ | with_reducible refine Pm.at5 ?_ | with_reducible refine Pm.at6 ?_ | with_reducible refine Pm.at7 ?_ | with_reducible refine Pm.at8 ?_ | with_reducible refine Pm.skip ?_))))
      obtain ⟨A1, n1, c1, rfl, _, _, hp1⟩ := HH.out.slcP_val
      obtain rfl : n1 = 1 := hp1.1.symm
      obtain ⟨gA, oA, _, rfl, _, _⟩ := hp1.cells (i := 0) (by decide)
      clear hp1
      go_wp2_with fail
      refine (ledLost_c ε _ _ b ⟨2, 4, 3, true, [⟨b0, ⟨0, 100, 0, 0, 0, 0, false⟩, true⟩, ⟨b1, ⟨1, 100, 10, 0, 0, 0, false⟩, true⟩, ⟨b2, ⟨2, 100, 20, 0, 0, 0, false⟩, true⟩, ⟨b3, ⟨3, 100, 30, 0, 0, 0, false⟩, false⟩]⟩ (by simp) (by intro e he; simp only [List.mem_cons, List.not_mem_nil, or_false] at he; rcases he with rfl | rfl | rfl | rfl <;> (simp only; decide)) 25 15 1000 (by decide) (by decide) (show U 2 by decide) HH.out.r2).mono ?_
      rw [p2.out]
      rintro e w5_ ⟨v2, rfl, H9_⟩
      replace HH := Lib.hid H9_
      clear H9_
      replace HH := Lib.hid (show Own ε _ (slcP v2 [⟨0, 100, 0, 0, 0, 0, false⟩, ⟨1, 100, 10, 0, 0, 0, false⟩] :: led b ⟨2, 4, 3, true, [⟨b2, ⟨2, 100, 20, 0, 0, 0, false⟩, true⟩, ⟨b3, ⟨3, 100, 30, 0, 0, 0, false⟩, false⟩]⟩ :: slcP (.slice (some ⟨gA, oA, none⟩) 1 c1) [⟨3, 100, 30, 0, 0, 0, false⟩] :: R) from HH.out)
      obtain ⟨A2, n2, c2, rfl, _, _, hp1⟩ := HH.out.slcP_val
      obtain rfl : n2 = 2 := hp1.1.symm
      obtain ⟨gB, oB, _, rfl, _, _⟩ := hp1.cells (i := 0) (by decide)
      clear hp1
      go_wp2_with fail
      refine (ledInFlight_c ε _ _ b ⟨2, 4, 3, true, [⟨b2, ⟨2, 100, 20, 0, 0, 0, false⟩, true⟩, ⟨b3, ⟨3, 100, 30, 0, 0, 0, false⟩, false⟩]⟩ (by simp) (by intro e he; simp only [List.mem_cons, List.not_mem_nil, or_false] at he; rcases he with rfl | rfl <;> (simp only; decide)) HH.out.r2).mono ?_
      rw [show bytesP (outs [⟨b2, ⟨2, 100, 20, 0, 0, 0, false⟩, true⟩, ⟨b3, ⟨3, 100, 30, 0, 0, 0, false⟩, false⟩]) = 100 from by first | rfl | decide]
      rintro e w6_ ⟨rfl, H9_⟩
      replace HH := Lib.hid H9_
      clear H9_
      go_wp2_with fail
      refine (ledTop_c ε _ _ b ⟨2, 4, 3, true, [⟨b2, ⟨2, 100, 20, 0, 0, 0, false⟩, true⟩, ⟨b3, ⟨3, 100, 30, 0, 0, 0, false⟩, false⟩]⟩ HH.out).mono ?_
      rintro e w7_ ⟨rfl, nd, hnd⟩
      replace HH := Lib.hid (HH.out.drewN nd)
      rw [← hnd] at HH
      clear hnd
      have y1 := pk_n (i := 0) ((Own.pm (HH.out) (by repeat (first | with_reducible exact Pm.refl _ | with_reducible exact Pm.nil _ | with_reducible refine Pm.here ?_ | with_reducible refine Pm.at2 ?_ | with_reducible refine Pm.at3 ?_ | with_reducible refine Pm.at4 ?_ | with_reducible refine Pm.at5 ?_ | with_reducible refine Pm.at6 ?_ | with_reducible refine Pm.at7 ?_ | with_reducible refine Pm.at8 ?_ | with_reducible refine Pm.skip ?_))) : Own ε _ (slcP (.slice (some ⟨gA, oA, none⟩) 1 c1) [⟨3, 100, 30, 0, 0, 0, false⟩] :: R)) rfl
      have y2 := pk_n (i := 1) ((Own.pm (HH.out) (by repeat (first | with_reducible exact Pm.refl _ | with_reducible exact Pm.nil _ | with_reducible refine Pm.here ?_ | with_reducible refine Pm.at2 ?_ | with_reducible refine Pm.at3 ?_ | with_reducible refine Pm.at4 ?_ | with_reducible refine Pm.at5 ?_ | with_reducible refine Pm.at6 ?_ | with_reducible refine Pm.at7 ?_ | with_reducible refine Pm.at8 ?_ | with_reducible refine Pm.skip ?_))) : Own ε _ (slcP (.slice (some ⟨gB, oB, none⟩) 2 c2) [⟨0, 100, 0, 0, 0, 0, false⟩, ⟨1, 100, 10, 0, 0, 0, false⟩] :: R)) rfl
      simp only [Nat.zero_mul, Nat.add_zero, Nat.one_mul] at y1 y2
      go_wp2_with fail
      refine (ledNext_c ε _ _ b ⟨2, 4, 3, true, [⟨b2, ⟨2, 100, 20, 0, 0, 0, false⟩, true⟩, ⟨b3, ⟨3, 100, 30, 0, 0, 0, false⟩, false⟩]⟩ HH.out).mono ?_
      rintro e w8_ ⟨rfl, hbel⟩
      replace HH := Lib.hid ((by first | exact Kp.same hbel | exact Kp.drew hbel | exact Kp.below hbel : Kp _ w8_) _ _ (by first | exact HH.out | exact HH.out.drewN _ | exact (HH.out.alloc _).tail | exact ((HH.out.alloc _).drewN _).tail | exact ((HH.out.alloc _).alloc _).tail.tail))
      clear hbel
      go_wp2_with fail
      go_ret
      exact ⟨rfl, (Own.pm (HH.out) (by repeat (first | with_reducible exact Pm.refl _ | with_reducible exact Pm.nil _ | with_reducible refine Pm.here ?_ | with_reducible refine Pm.at2 ?_ | with_reducible refine Pm.at3 ?_ | with_reducible refine Pm.at4 ?_ | with_reducible refine Pm.at5 ?_ | with_reducible refine Pm.at6 ?_ | with_reducible refine Pm.at7 ?_ | with_reducible refine Pm.at8 ?_ | with_reducible refine Pm.skip ?_)))⟩
end
end Go.Proofs.Ytlhncdbigjgmnaa
