/- rate: the live question, and RateSlow. -/
import Derived.Test.YtklohjjkpobneaaRate3
import Derived.Test.YtklohjjkpobneaaRdU
import Derived.Outline
namespace Go.Proofs.Ytklohjjkpobneaa
open Go.RowKit
theorem pk_rd {ε w : World} {R : List Asn} {A : Option Addr} {n cap : Nat} {l : List Pk} (H : Own ε w (slcP (.slice A n cap) l :: R)) : pkAt w A n l := by
  obtain ⟨_, _, _, e, _, _, h⟩ := H.slcP_val
  cases e
  exact h
theorem share_back {d iv : Int} (hd : U d) (h0 : 0 < iv) (hr : sshare d 1000000 iv < 18446744073709551615) : sshare (sshare d 1000000 iv) iv 1000000 ≤ d := by
  have h1 : hi64 d 1000000 < iv := by
    rcases Int.lt_or_le (hi64 d 1000000) iv with h | h
    · exact h
    · unfold sshare at hr; rw [if_pos h] at hr; omega
  have e1 : sshare d 1000000 iv = d * 1000000 / iv := by unfold sshare; rw [if_neg (by omega)]
  rw [e1]
  obtain ⟨h2, _⟩ := mul_div_le (d * 1000000) iv h0
  have hq : 0 ≤ d * 1000000 / iv := Int.ediv_nonneg (by unfold U at hd; omega) (by omega)
  generalize d * 1000000 / iv = q at *
  have h3 : q * iv / 1000000 ≤ d := Int.ediv_le_of_le_mul (by decide) (by omega)
  unfold sshare
  split
  · rename_i h4
    have h5 : ¬ hi64 q iv < 1000000 := by omega
    rw [hi_lt] at h5
    unfold U at hd
    omega
  · exact h3
theorem Spl.good {d now : Int} {x : Pk} (hd : U d) (hn : U now) (hx : x.Ok) : (Spl.of d now x).d ≤ d ∧ (Spl.of d now x).rtt ≤ now ∧ ((Spl.of d now x).rate < 18446744073709551615 → sshare (Spl.of d now x).rate (Spl.of d now x).iv 1000000 ≤ (Spl.of d now x).d) ∧ U (Spl.of d now x).rate ∧ U (Spl.of d now x).iv := by
  obtain ⟨_, _, u3, u4, u5, u6⟩ := hx
  have a1 := U_ssub u3 u4
  have a2 := U_ssub hn u6
  have a3 := U_ssub hd u5
  have b1 : ssub d x.deliv ≤ d := by unfold ssub; unfold U at *; split <;> omega
  have b2 : ssub now x.sent ≤ now := by unfold ssub; unfold U at *; split <;> omega
  have hiv : U (max (ssub x.sent x.first) (ssub now x.at')) := by unfold U at *; omega
  unfold Spl.of
  simp only
  generalize max (ssub x.sent x.first) (ssub now x.at') = iv at *
  refine ⟨b1, b2, ?_, ?_, hiv⟩
  · intro hr
    split
    · rename_i h0
      rw [if_pos h0] at hr
      exact share_back a3 h0 hr
    · have e0 : iv = 0 := by unfold U at hiv; omega
      rw [e0]
      unfold U at a3
      have : sshare 0 0 1000000 = 0 := by decide
      omega
  · split
    · rename_i h0
      unfold sshare
      split
      · decide
      · exact (quo_U a3 (by decide) (by omega)).1
    · exact U_zero
def Fits10 (len : Nat) (f : Nat → Nat) (w : World) (e : Ending) (w' : World) : Prop := ∃ bl, e = .returned (.bool bl) ∧ w = w' ∧ (bl = true → len ≤ 100 ∧ ∀ k, k < len → f k ≤ 100)
theorem Fits10.no {len : Nat} {f : Nat → Nat} {w : World} {e : Ending} (h : e = .returned (.bool false)) : Fits10 len f w e w := ⟨_, h, rfl, fun h => by cases h⟩
theorem Fits10.yes {len : Nat} {f : Nat → Nat} {w : World} {e : Ending} (h : e = .returned (.bool true)) (h1 : len ≤ 100) (h2 : ∀ k, k < len → f k ≤ 100) : Fits10 len f w e w := ⟨_, h, rfl, fun _ => ⟨h1, h2⟩⟩
section
variable (ε w : World) (R : List Asn) (b : Nat)
theorem rateAck_any (s : Smp) (hs : s.Ok) (now : Int) (h1 : U now) (A : Option Addr) (n cap : Nat) (l : List Pk) (hl : ∀ p ∈ l, p.Ok) (hln : l.length = n) (hn2 : n ≤ 1000000) :
    ∃ (x : Spl) (bl : Bool) (s' : Smp), s'.Ok ∧ x.rtt ≤ now ∧ x.d ≤ s'.d ∧ (x.rate < 18446744073709551615 → sshare x.rate x.iv 1000000 ≤ x.d) ∧ U x.rate ∧ U x.iv ∧ ∀ w R, (∀ wx, Own ε wx R → pkAt wx A n l) → Own ε w (smp b s :: R) →
      Calls Try.prog 18 #[.pointer (some ⟨b, 0, none⟩), .int .u64 now, .slice A n cap] w fun e w' => e = .returned (.tuple #[.agg x.cells.toArray, .bool bl]) ∧ Own ε w' (smp b s' :: R) := by
  cases l with
  | nil =>
    obtain rfl : n = 0 := hln.symm
    exact ⟨⟨0, 0, 0, 0, false⟩, false, s, hs, h1.1, hs.d.1, fun _ => by decide, U_zero, U_zero, fun w R _ H => rateAck_none ε w R b s now A cap H⟩
  | cons p0 l =>
    obtain ⟨hx, hn⟩ := newestL_ok (hl p0 (List.mem_cons_self ..)) hl
    have hd := U_sadd hs.d hn
    obtain ⟨g1, g2, g3, g4, g5⟩ := Spl.good hd h1 hx
    refine ⟨Spl.of (sadd s.d (newestL p0 (p0 :: l)).2) now (newestL p0 (p0 :: l)).1, true, s.ack now (newestL p0 (p0 :: l)).1 (newestL p0 (p0 :: l)).2, Smp.ok_ack hs h1 hx hn, g2, g1, g3, g4, g5, fun w R hA H => ?_⟩
    refine (rateAck_c ε w R b s hs now h1 A n cap (p0 :: l) hl hA (by rw [← hln]; simp) hn2 H).mono ?_
    rintro e w' ⟨q, hq, rfl, HO⟩
    have hq : some p0 = some q := hq
    cases hq
    exact ⟨rfl, HO⟩
theorem run_eql_spl0 (w : World) : (binOp .eql 36 (.agg #[.int .u64 0, .int .u64 0, .int .u64 0, .int .u64 0, .bool false]) (.agg #[.int .u64 0, .int .u64 0, .int .u64 0, .int .u64 0, .bool false])).run Try.prog w = .ok (.bool true) w := by kernel_rfl
theorem run_eql_spl1 (w : World) : (binOp .eql 36 (.agg #[.int .u64 1000, .int .u64 10000, .int .u64 100000, .int .u64 9000, .bool false]) (.agg #[.int .u64 1000, .int .u64 10000, .int .u64 100000, .int .u64 9000, .bool false])).run Try.prog w = .ok (.bool true) w := by kernel_rfl
theorem run_eql_stp0 (w : World) : (binOp .eql 32 (.agg #[.int .u64 0, .int .u64 0, .int .u64 0, .int .u64 0, .bool false]) (.agg #[.int .u64 0, .int .u64 0, .int .u64 0, .int .u64 0, .bool false])).run Try.prog w = .ok (.bool true) w := by kernel_rfl
set_option maxHeartbeats 1600000 in
theorem fits10_c (A : Option Addr) (len cap : Nat) (f : Nat → Nat) (hlen : len ≤ 9223372036854775807) (hc : ∀ k, k < len → ∃ ab off A' cp, A = some ⟨ab, off, none⟩ ∧ f k ≤ 9223372036854775807 ∧ w.cell? ⟨ab, off + k * 4 + 3, none⟩ = some (.slice A' (f k) cp)) :
    Calls Try.prog 13 #[.slice A len cap] w (Fits10 len f w) := by
  replace hc := Lib.hid hc
  replace hlen := Lib.hid hlen
  go_enter Try.func13, Try.ntmps13
  go_wp2_with fail
  go_loopw [3] (fun i wr => ∃ k : Nat, k ≤ len ∧ k ≤ 101 ∧ i = .int .i64 k ∧ wr = w ∧ ∀ j, j < k → f j ≤ 100) (fun i _ => len - (intOf i).toNat)
  case atStart => refine ⟨0, Nat.zero_le _, by decide, ?_⟩; simp
  case round =>
    obtain ⟨k, hk, hk2, rfl, rfl, hj⟩ := hrel
    replace hj := Lib.hid hj
    by_cases hlt : k < len
    · obtain ⟨ab, off, A', cp, rfl, hf, c0⟩ := hc.out k hlt
      by_cases hk3 : k ≤ 100
      · have hk4 : (k : Int) ≤ 100 := by omega
        by_cases hbig : 100 < f k
        · have hb2 : (100 : Int) < (f k : Int) := by omega
          replace hf := Lib.hid hf
          go_wp2_with fail
          go_ret
          exact Fits10.no rfl
        · have hb2 : ¬ (100 : Int) < (f k : Int) := by omega
          replace hf := Lib.hid hf
          go_wp2_with fail
          go_roundw
          case rel =>
            refine ⟨k + 1, by omega, by omega, by go_num, ?_⟩
            simp only [true_and]
            intro j hjk
            rcases Nat.lt_or_ge j k with h | h
            · exact hj.out j h
            · obtain rfl : j = k := by omega
              omega
          case measure => simp [intOf]; omega
      · have hk4 : ¬ (k : Int) ≤ 100 := by omega
        have hl2 : ¬ (len : Int) ≤ 100 := by omega
        go_wp2_with fail
        go_ret
        exact Fits10.no rfl
    · have hkl : k = len := by omega
      subst hkl
      by_cases hl2 : (k : Int) ≤ 100
      · go_wp2_with fail
        go_ret
        exact Fits10.yes rfl (by omega) hj.out
      · go_wp2_with fail
        go_ret
        exact Fits10.no rfl
set_option maxRecDepth 100000 in
set_option maxHeartbeats 6400000 in
theorem alive10_k : Calls Try.prog 14 #[] w fun e w' => e = .returned (.bool true) ∧ Below w.heap.size w w' := by
  have HH := Lib.hid (Own.init w)
  have hok : ∀ p ∈ [(⟨0, 500, 1000, 1000, 0, 1000, false⟩ : Pk), ⟨1, 500, 2000, 1000, 0, 1000, false⟩], p.Ok := by
    intro p hp
    simp only [List.mem_cons, List.not_mem_nil, or_false] at hp
    rcases hp with rfl | rfl <;> decide
  have hs1 : (Smp.mk 0 1000 1000 1000).Ok := ⟨by decide, by decide, by decide, by decide⟩
  have hs0 : (Smp.mk 0 1000 1000 0).Ok := ⟨by decide, by decide, by decide, by decide⟩
  have hn : newestL ⟨0, 500, 1000, 1000, 0, 1000, false⟩ [(⟨0, 500, 1000, 1000, 0, 1000, false⟩ : Pk), ⟨1, 500, 2000, 1000, 0, 1000, false⟩] = (⟨1, 500, 2000, 1000, 0, 1000, false⟩, 1000) := by decide
  have hx : Spl.of (sadd 0 1000) 11000 ⟨1, 500, 2000, 1000, 0, 1000, false⟩ = ⟨1000, 10000, 100000, 9000, false⟩ := by rfl
  have hq1 := run_eql_spl1
  replace hok := Lib.hid hok
  replace hs1 := Lib.hid hs1
  replace hs0 := Lib.hid hs0
  replace hn := Lib.hid hn
  replace hx := Lib.hid hx
  go_enter Try.func14, Try.ntmps14
  go_wp2_with fail
  refine (rateNew_c w _ _ HH.out).mono ?_
  rintro e w1_ ⟨b, rfl, H9_⟩
  replace HH := Lib.hid H9_
  clear H9_
  go_wp2_with fail
  refine (rateStamp_c w _ _ b Smp.zero 1000 0 HH.out).mono ?_
  rw [show Smp.zero.stamp 1000 0 = ⟨0, 1000, 1000, 0⟩ from by first | rfl | decide]
  rintro e w2_ ⟨rfl, H9_⟩
  replace HH := Lib.hid H9_
  clear H9_
  go_wp2_with (with_reducible refine stop_al ?_)
  refine Stop.go ?_
  refine wpList_alloc_own HH.out [.int .u64 0, .int .u64 0, .int .u64 0, .int .u64 0, .bool false] (by kernel_rfl) ?_
  intro x1 w3_ H9_
  replace HH := Lib.hid H9_
  clear H9_
  go_wp2_with (with_reducible refine stop_st ?_)
  refine Stop.go ?_
  refine wpList_store_own _ #[_, _, _, _, _] rfl rfl HH.out (by kernel_rfl) rfl (by repeat (first | (refine List.forall_mem_cons.2 ⟨(by first | with_reducible assumption | rfl), ?_⟩) | exact fun _ h => absurd h List.not_mem_nil)) ?_
  intro w4_ H9_
  replace HH := Lib.hid H9_
  clear H9_
  go_wp2_with fail
  refine (rateStamp_c w _ _ b ⟨0, 1000, 1000, 0⟩ 2000 500 HH.out.r2).mono ?_
  rw [show (⟨0, 1000, 1000, 0⟩ : Smp).stamp 2000 500 = ⟨0, 1000, 1000, 0⟩ from by first | rfl | decide]
  rintro e w5_ ⟨rfl, H9_⟩
  replace HH := Lib.hid H9_
  clear H9_
  go_wp2_with (with_reducible refine stop_al ?_)
  refine Stop.go ?_
  refine wpList_alloc_own HH.out [.int .u64 0, .int .u64 0, .int .u64 0, .int .u64 0, .bool false] (by kernel_rfl) ?_
  intro x2 w6_ H9_
  replace HH := Lib.hid H9_
  clear H9_
  go_wp2_with (with_reducible refine stop_st ?_)
  refine Stop.go ?_
  refine wpList_store_own _ #[_, _, _, _, _] rfl rfl HH.out (by kernel_rfl) rfl (by repeat (first | (refine List.forall_mem_cons.2 ⟨(by first | with_reducible assumption | rfl), ?_⟩) | exact fun _ h => absurd h List.not_mem_nil)) ?_
  intro w7_ H9_
  replace HH := Lib.hid H9_
  clear H9_
  go_wp2_with fail
  refine (rateLimit_c w _ _ b ⟨0, 1000, 1000, 0⟩ hs0.out 1000 (by decide) HH.out.r2).mono ?_
  rw [show (⟨0, 1000, 1000, 0⟩ : Smp).limit 1000 = ⟨0, 1000, 1000, 1000⟩ from by first | rfl | decide]
  rintro e w8_ ⟨rfl, H9_⟩
  replace HH := Lib.hid H9_
  clear H9_
  replace HH := Lib.hid ((Own.pm (HH.out) (by repeat (first | with_reducible exact Pm.refl _ | with_reducible exact Pm.nil _ | with_reducible refine Pm.here ?_ | with_reducible refine Pm.at2 ?_ | with_reducible refine Pm.at3 ?_ | with_reducible refine Pm.at4 ?_ | with_reducible refine Pm.at5 ?_ | with_reducible refine Pm.at6 ?_ | with_reducible refine Pm.at7 ?_ | with_reducible refine Pm.at8 ?_ | with_reducible refine Pm.skip ?_))) : Own w _ (smp b ⟨0, 1000, 1000, 1000⟩ :: pts x1 _ :: pts x2 _ :: [old w]))
  (try clear cc1_); (try clear cc2_); (try clear cc3_); (try clear cc4_); (try clear cc5_); (try clear cc6_); (try clear cc7_)
  have cc2_ := HH.out.r2.cells
  have cc3_ := HH.out.r3.cells
  go_wp2_with (with_reducible refine stop_bs ?_)
  refine Stop.go ?_
  refine wpList_bsv_own HH.out [.int .u64 0, .int .u64 500, .int .u64 1000, .int .u64 1000, .int .u64 0, .int .u64 1000, .bool false, .int .u64 1, .int .u64 500, .int .u64 2000, .int .u64 1000, .int .u64 0, .int .u64 1000, .bool false] 7 56 [.int .u64 0, .int .u64 0, .int .u64 0, .int .u64 0, .int .u64 0, .int .u64 0, .bool false] Try.underlying28 (by kernel_rfl) (by kernel_rfl) (by decide) (by decide) (by kernel_rfl) ?_
  intro g w9_ H9_
  replace HH := Lib.hid H9_
  clear H9_
  (try clear cc1_); (try clear cc2_); (try clear cc3_); (try clear cc4_); (try clear cc5_); (try clear cc6_); (try clear cc7_)
  replace HH := Lib.hid (show Own w _ (slcP (.slice (some ⟨g, 0, none⟩) 2 2) [⟨0, 500, 1000, 1000, 0, 1000, false⟩, ⟨1, 500, 2000, 1000, 0, 1000, false⟩] :: _) from HH.out.slc_all (sz := 7) (n := 2) (by decide) rfl)
  go_wp2_with fail
  refine (rateAck_c w _ _ b ⟨0, 1000, 1000, 1000⟩ hs1.out 11000 (by decide) (some ⟨g, 0, none⟩) 2 2 [⟨0, 500, 1000, 1000, 0, 1000, false⟩, ⟨1, 500, 2000, 1000, 0, 1000, false⟩] hok.out (fun wx Hx => pk_rd Hx) (by decide) (by decide) HH.out.r2).mono ?_
  rintro e w9 ⟨p0, hp0, rfl, H9⟩
  have hp0 := Option.some.inj hp0
  subst hp0
  rw [hn.out] at H9 ⊢
  simp only at H9 ⊢
  rw [hx.out]
  replace HH := Lib.hid (show Own w w9 (smp b ⟨1000, 11000, 2000, 1000⟩ :: _) from H9)
  clear H9
  go_wp2_with (with_reducible refine stop_al ?_)
  refine Stop.go ?_
  refine wpList_alloc_own HH.out [.int .u64 0, .int .u64 0, .int .u64 0, .int .u64 0, .bool false] (by kernel_rfl) ?_
  intro x4 w10_ H9_
  replace HH := Lib.hid H9_
  clear H9_
  go_wp2_with (with_reducible refine stop_st ?_)
  refine Stop.go ?_
  refine wpList_store_own _ #[_, _, _, _, _] rfl rfl HH.out (by kernel_rfl) rfl (by repeat (first | (refine List.forall_mem_cons.2 ⟨(by first | with_reducible assumption | rfl), ?_⟩) | exact fun _ h => absurd h List.not_mem_nil)) ?_
  intro w11_ H9_
  replace HH := Lib.hid H9_
  clear H9_
  go_wp2_with fail
  refine (rateAck_none w _ _ b ⟨1000, 11000, 2000, 1000⟩ 12000 none 0 HH.out.r2).mono ?_
  rintro e w12_ ⟨rfl, H9_⟩
  replace HH := Lib.hid H9_
  clear H9_
  go_wp2_with (with_reducible refine stop_al ?_)
  refine Stop.go ?_
  refine wpList_alloc_own HH.out [.int .u64 0, .int .u64 0, .int .u64 0, .int .u64 0, .bool false] (by kernel_rfl) ?_
  intro x6 w13_ H9_
  replace HH := Lib.hid H9_
  clear H9_
  go_wp2_with (with_reducible refine stop_st ?_)
  refine Stop.go ?_
  refine wpList_store_own _ #[_, _, _, _, _] rfl rfl HH.out (by kernel_rfl) rfl (by repeat (first | (refine List.forall_mem_cons.2 ⟨(by first | with_reducible assumption | rfl), ?_⟩) | exact fun _ h => absurd h List.not_mem_nil)) ?_
  intro w14_ H9_
  replace HH := Lib.hid H9_
  clear H9_
  go_wp2_with fail
  refine (rateStamp_c w _ _ b ⟨1000, 11000, 2000, 1000⟩ 12000 9 HH.out.r2).mono ?_
  rw [show (⟨1000, 11000, 2000, 1000⟩ : Smp).stamp 12000 9 = ⟨1000, 11000, 2000, 1000⟩ from by first | rfl | decide]
  rintro e w15_ ⟨rfl, H9_⟩
  replace HH := Lib.hid H9_
  clear H9_
  go_wp2_with (with_reducible refine stop_al ?_)
  refine Stop.go ?_
  refine wpList_alloc_own HH.out [.int .u64 0, .int .u64 0, .int .u64 0, .int .u64 0, .bool false] (by kernel_rfl) ?_
  intro x8 w16_ H9_
  replace HH := Lib.hid H9_
  clear H9_
  go_wp2_with (with_reducible refine stop_st ?_)
  refine Stop.go ?_
  refine wpList_store_own _ #[_, _, _, _, _] rfl rfl HH.out (by kernel_rfl) rfl (by repeat (first | (refine List.forall_mem_cons.2 ⟨(by first | with_reducible assumption | rfl), ?_⟩) | exact fun _ h => absurd h List.not_mem_nil)) ?_
  intro w17_ H9_
  replace HH := Lib.hid H9_
  clear H9_
  (try clear cc1_); (try clear cc2_); (try clear cc3_); (try clear cc4_); (try clear cc5_); (try clear cc6_); (try clear cc7_)
  have cc1_ := HH.out.cells
  have cc4_ := HH.out.r4.cells
  go_wp2_with fail
  refine (rateDelivered_c w _ _ b ⟨1000, 11000, 2000, 1000⟩ HH.out.r2).mono ?_
  rintro e w18_ ⟨rfl, hbel⟩
  replace HH := Lib.hid ((by first | exact Kp.same hbel | exact Kp.drew hbel | exact Kp.below hbel : Kp _ w18_) _ _ (by first | exact HH.out | exact HH.out.drewN _ | exact (HH.out.alloc _).tail | exact ((HH.out.alloc _).drewN _).tail | exact ((HH.out.alloc _).alloc _).tail.tail))
  clear hbel
  go_wp2_with fail
  go_ret
  exact ⟨rfl, ((Own.pm (HH.out) (by repeat (first | with_reducible exact Pm.refl _ | with_reducible exact Pm.nil _ | with_reducible refine Pm.here ?_ | with_reducible refine Pm.at2 ?_ | with_reducible refine Pm.at3 ?_ | with_reducible refine Pm.at4 ?_ | with_reducible refine Pm.at5 ?_ | with_reducible refine Pm.at6 ?_ | with_reducible refine Pm.at7 ?_ | with_reducible refine Pm.at8 ?_ | with_reducible refine Pm.skip ?_))) : Own w _ [old w]).old_below⟩
abbrev StR := Int × Int × Int × Int × Bool × Unit
abbrev PkR := Int × Int × StR × Unit
def rdStR : Rd StR := rdPair (rdInt .u64) (rdPair (rdInt .u64) (rdPair (rdInt .u64) (rdPair (rdInt .u64) (rdPair rdBool rdUnit))))
def rdPkR : Rd PkR := rdPair (rdInt .u64) (rdPair (rdInt .u64) (rdPair rdStR rdUnit))
def PkR.pk (x : PkR) : Pk := ⟨x.1, x.2.1, x.2.2.1.1, x.2.2.1.2.1, x.2.2.1.2.2.1, x.2.2.1.2.2.2.1, x.2.2.1.2.2.2.2.1⟩
theorem rdPkR_open {w : World} {c : List Value} {x : PkR} (h : rdPkR w c x) : c = x.pk.cells ∧ x.pk.Ok := by
  obtain ⟨c1, d1, rfl, ⟨rfl, h1⟩, c2, d2, rfl, ⟨rfl, h2⟩, c3, d3, rfl, ⟨e1, f1, rfl, ⟨rfl, h3⟩, e2, f2, rfl, ⟨rfl, h4⟩, e3, f3, rfl, ⟨rfl, h5⟩, e4, f4, rfl, ⟨rfl, h6⟩, e5, f5, rfl, rfl, rfl⟩, rfl⟩ := h
  exact ⟨rfl, U_of_wf h1, U_of_wf h2, U_of_wf h3, U_of_wf h4, U_of_wf h5, U_of_wf h6⟩
theorem rdPks {w : World} {A : Option Addr} {n cap : Nat} {l : List PkR} (h : rdSlice rdPkR 7 w [.slice A n cap] l) : pkAt w A n (l.map PkR.pk) ∧ n ≤ 9223372036854775807 ∧ ∀ p ∈ l.map PkR.pk, p.Ok := by
  obtain ⟨h1, h2⟩ := itAt_rd (enc := Pk.cells) (sz := 7) PkR.pk (fun c x hc => (rdPkR_open hc).1) h
  refine ⟨h1, h2, ?_⟩
  intro p hp
  obtain ⟨x, hx, rfl⟩ := List.mem_map.1 hp
  obtain ⟨i, hi, rfl⟩ := List.getElem_of_mem hx
  obtain ⟨_, _, _, e, hlen, _, _, hr⟩ := h
  obtain ⟨_, _, _, c, _, _, hR⟩ := hr i hi
  exact (rdPkR_open hR).2
abbrev ActR := Int × Int × Int × List PkR × Unit
def rdActR : Rd ActR := rdPair (rdInt .u8) (rdPair (rdInt .u64) (rdPair (rdInt .u64) (rdPair (rdSlice rdPkR 7) rdUnit)))
theorem rdActR_open {w : World} {c : List Value} {x : ActR} (h : rdActR w c x) : ∃ A n cap, c = [.int .u8 x.1, .int .u64 x.2.1, .int .u64 x.2.2.1, .slice A n cap] ∧ 0 ≤ x.1 ∧ x.1 < 256 ∧ U x.2.1 ∧ U x.2.2.1 ∧ n = x.2.2.2.1.length ∧ rdSlice rdPkR 7 w [.slice A n cap] x.2.2.2.1 := by
  obtain ⟨c1, d1, rfl, ⟨rfl, h1⟩, c2, d2, rfl, ⟨rfl, h2⟩, c3, d3, rfl, ⟨rfl, h3⟩, c4, d4, rfl, h4, rfl⟩ := h
  obtain ⟨A, n, cap, rfl, hl, _⟩ := id h4
  have h5 := h1
  simp [Lit.wf, IntKind.min, IntKind.max, IntKind.signed, IntKind.bits] at h5
  exact ⟨A, n, cap, rfl, by omega, by omega, U_of_wf h2, U_of_wf h3, hl.symm, h4⟩
end
end Go.Proofs.Ytklohjjkpobneaa
