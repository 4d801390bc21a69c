/- math/bits.Div64: a number of 128 bits, divided by one of 64. -/
import Derived.Test.YtmkcpnlbicijoaaGreatLen
import Derived.Laws.Bits64b
import Derived.Deep.LoopGhost
namespace Go.Proofs.YtmkcpnlbicijoaaGreat
open Go.RowKit
namespace Dv
theorem rest_of (u d q Y : Nat) (hq : q = (u * 4294967296 + d) / Y) (hY0 : 0 < Y) (hY : Y ≤ 18446744073709551615) :
  IntKind.u64.wrap (IntKind.u64.wrap (IntKind.u64.wrap ((u : Int) * 4294967296) + (d : Int)) - IntKind.u64.wrap ((q : Int) * (Y : Int))) = (((u * 4294967296 + d) % Y : Nat) : Int) := by
 have h1 := Nat.div_add_mod' (u * 4294967296 + d) Y
 have h2 := Nat.mod_lt (u * 4294967296 + d) hY0
 rw [← hq] at h1
 rw [M64.mulN q Y]
 obtain ⟨p, hp⟩ : ∃ p, q * Y = p := ⟨_, rfl⟩
 obtain ⟨r, hr⟩ : ∃ r, (u * 4294967296 + d) % Y = r := ⟨_, rfl⟩
 rw [hp, hr] at h1
 rw [hr] at h2
 rw [hp, hr]
 simp only [IntKind.wrap_u64]
 omega
theorem or_of (a s b : Nat) (ha : a * 2 ^ s < 18446744073709551616) (hs : s < 64) (hb : b < 2 ^ s) : bits .or .u64 ((a * 2 ^ s : Nat) : Int) (b : Int) = ((a * 2 ^ s + b : Nat) : Int) := by
 have h64 : 2 ^ s ≤ 2 ^ 63 := Nat.pow_le_pow_right (by omega) (by omega)
 have h := bits_or_u64_nat (a * 2 ^ s) b ha (by omega)
 have e : a * 2 ^ s ||| b = a * 2 ^ s + b := by
  rw [← Nat.shiftLeft_eq, Nat.shiftLeft_add_eq_or_of_lt hb]
 rw [e] at h
 exact h
theorem Try.cases {u d y1 y0 q r : Nat} (h : Try u d y1 y0 q r) (hu : u < y1 * 4294967296 + y0) (hd : d < 4294967296) (hy : y0 < 4294967296) (hq : q ≤ 4294967297) :
  (∃ q', q = q' + 1 ∧ Try u d y1 y0 q' (r + y1) ∧ r + y1 < 4294967296 ∧ (4294967296 ≤ q' + 1 ∨ q' + 1 < 4294967296 ∧ 4294967296 * r + d < (q' + 1) * y0)) ∨
  (∃ q', q = q' + 1 ∧ q' = (u * 4294967296 + d) / (y1 * 4294967296 + y0) ∧ 4294967296 ≤ r + y1 ∧ (4294967296 ≤ q' + 1 ∨ q' + 1 < 4294967296 ∧ 4294967296 * r + d < (q' + 1) * y0)) ∨
  (q < 4294967296 ∧ q * y0 ≤ 4294967296 * r + d ∧ q = (u * 4294967296 + d) / (y1 * 4294967296 + y0)) := by
 by_cases hc : 4294967296 ≤ q ∨ q < 4294967296 ∧ 4294967296 * r + d < q * y0
 ·obtain ⟨h0, hn⟩ := h.next hu hd (by rcases hc with hc | hc; · exact .inl hc
                                      exact .inr hc.2)
  obtain ⟨q', rfl⟩ : ∃ q', q = q' + 1 := ⟨q - 1, by omega⟩
  rw [Nat.add_sub_cancel] at hn
  rcases Nat.lt_or_ge (r + y1) 4294967296 with hb | hb
  ·exact .inl ⟨q', rfl, hn, hb, hc⟩
  ·exact .inr (.inl ⟨q', rfl, hn.out hu (by omega) hy hb, hb, hc⟩)
 ·have h1 : q < 4294967296 := by omega
  have h2 : q * y0 ≤ 4294967296 * r + d := by
   rcases Nat.lt_or_ge (4294967296 * r + d) (q * y0) with h3 | h3
   ·exact absurd (.inr ⟨h1, h3⟩) hc
   ·exact h3
  exact .inr (.inr ⟨h1, h2, h.done hu h2⟩)
theorem prod_small {q y0 : Nat} (hq : q < 4294967296) (hy : y0 < 4294967296) : q * y0 < 18446744073709551616 := by
 have : q * y0 ≤ 4294967295 * 4294967295 := Nat.mul_le_mul (by omega) (by omega)
 omega
end Dv
set_option maxRecDepth 100000 in
set_option maxHeartbeats 4000000 in
theorem div64_nat (w : World) (hi lo y : Nat) (hlo : lo < 18446744073709551616) (hy : y < 18446744073709551616) (h : hi < y) :
  Calls Tryz.prog 151 #[.int .u64 hi, .int .u64 lo, .int .u64 y] w fun e w' => e = .returned (.tuple #[.int .u64 ((hi * 18446744073709551616 + lo) / y : Nat), .int .u64 ((hi * 18446744073709551616 + lo) % y : Nat)]) ∧ ∃ n, w' = w.drewN n := by
 by_cases hz : hi = 0
 ·subst hz
  rw [Nat.zero_mul, Nat.zero_add]
  have hl1 := M64.wrapN (lo / y) (Nat.lt_of_le_of_lt (Nat.div_le_self _ _) hlo)
  have hl2 := M64.wrapN (lo % y) (Nat.lt_of_le_of_lt (Nat.mod_le _ _) hlo)
  have e1 : (lo : Int) / (y : Int) = ((lo / y : Nat) : Int) := (Int.natCast_ediv lo y).symm
  have e2 : (lo : Int) % (y : Int) = ((lo % y : Nat) : Int) := (Int.natCast_emod lo y).symm
  obtain ⟨Q0, hQ0⟩ : ∃ Q0, lo / y = Q0 := ⟨_, rfl⟩
  obtain ⟨R0, hR0⟩ : ∃ R0, lo % y = R0 := ⟨_, rfl⟩
  rw [hQ0] at e1 hl1
  rw [hR0] at e2 hl2
  rw [hQ0, hR0]
  clear hQ0 hR0
  have hy0 : ¬ y = 0 := by omega
  go_enter Tryz.func151, Tryz.ntmps151
  go_wp2
  go_quiet (fail)
  go_wp2
  go_ret2
  refine ⟨?_, _, rfl⟩
  show Ending.returned (.tuple #[.int .u64 (Q0 : Int), .int .u64 ((lo : Int) % (y : Int))]) = _
  rw [e2]
 ·obtain ⟨s, hs, hs64, hpr, hn1, hn2⟩ := lead_pow y (by omega) (by omega)
  have hlz := leadingZeros64_c w y (by omega) (by omega)
  rw [hs] at hlz
  obtain ⟨hsh, hult⟩ := Dv.shifted hpr hlo h
  obtain ⟨p, hp⟩ : ∃ p, 2 ^ s = p := ⟨_, rfl⟩
  obtain ⟨Y, hY⟩ : ∃ Y, y * 2 ^ s = Y := ⟨_, rfl⟩
  have hAlt : hi * 2 ^ s < 18446744073709551616 := Nat.lt_of_le_of_lt (Nat.mul_le_mul_right _ (by omega)) hn2
  have hblt : lo / 2 ^ (64 - s) < 2 ^ s := Dv.dlt _ _ _ (by rw [hpr]; exact hlo)
  rw [hY] at hn1 hn2 hult
  have e1 : IntKind.u64.wrap ((y : Int) * 2 ^ s) = (Y : Int) := by
   rw [← hY]; rw [show ((y : Int) * 2 ^ s) = ((y * 2 ^ s : Nat) : Int) by simp, hY, M64.wrapN _ hn2]
  have e2 := M64.divN Y
  have e3 := M64.maskN Y hn2
  have e4 : IntKind.u64.wrap ((hi : Int) * 2 ^ s) = ((hi * 2 ^ s : Nat) : Int) := by
   rw [show ((hi : Int) * 2 ^ s) = ((hi * 2 ^ s : Nat) : Int) by simp, M64.wrapN _ hAlt]
  have e5 : bits .or .u64 ((hi * 2 ^ s : Nat) : Int) ((lo : Int) / 2 ^ (64 - s)) = ((hi * 2 ^ s + lo / 2 ^ (64 - s) : Nat) : Int) := by
   rw [show ((lo : Int) / 2 ^ (64 - s)) = ((lo / 2 ^ (64 - s) : Nat) : Int) by simp, Dv.or_of _ _ _ hAlt hs64 hblt]
  obtain ⟨u, hu⟩ : ∃ u, hi * 2 ^ s + lo / 2 ^ (64 - s) = u := ⟨_, rfl⟩
  obtain ⟨L, hL⟩ : ∃ L, lo * 2 ^ s % 18446744073709551616 = L := ⟨_, rfl⟩
  obtain ⟨A, hA⟩ : ∃ A, hi * 2 ^ s = A := ⟨_, rfl⟩
  have hLlt : L < 18446744073709551616 := by rw [← hL]; exact Nat.mod_lt _ (by omega)
  have e6 : IntKind.u64.wrap ((lo : Int) * 2 ^ s) = (L : Int) := by
   rw [show ((lo : Int) * 2 ^ s) = ((lo * 2 ^ s : Nat) : Int) by simp, M64.wrapM, hL]
  have e7 := M64.divN L
  have e8 := M64.maskN L hLlt
  rw [hu] at e5 hult hsh
  rw [hL] at hsh
  rw [hA] at e4 e5
  obtain ⟨d1, hd1⟩ : ∃ d1, L / 4294967296 = d1 := ⟨_, rfl⟩
  obtain ⟨d0, hd0⟩ : ∃ d0, L % 4294967296 = d0 := ⟨_, rfl⟩
  have hd1l : d1 < 4294967296 := by omega
  have hd0l : d0 < 4294967296 := by omega
  have hLd : L = d1 * 4294967296 + d0 := by omega
  rw [hd1] at e7
  rw [hd0] at e8
  obtain ⟨y1, hy1⟩ : ∃ y1, Y / 4294967296 = y1 := ⟨_, rfl⟩
  obtain ⟨y0, hy0⟩ : ∃ y0, Y % 4294967296 = y0 := ⟨_, rfl⟩
  rw [hy1] at e2
  rw [hy0] at e3
  have hb1 : 2147483648 ≤ y1 := by omega
  have hb0 : y0 < 4294967296 := by omega
  have hyy : Y = y1 * 4294967296 + y0 := by omega
  have T0 := Dv.Try.first (u := u) (d := d1) (y1 := y1) (y0 := y0) (by omega) hd1l
  have qam := Dv.Try.most hb1 hb0 (by rw [← hyy]; exact hult)
  have hul : u < 18446744073709551616 := by omega
  have e9 : IntKind.u64.wrap ((u : Int) / (y1 : Int)) = ((u / y1 : Nat) : Int) := by rw [← Int.natCast_ediv, M64.wrapN _ (by omega)]
  have hqy : u / y1 * y1 ≤ u := Nat.div_mul_le_self _ _
  have e10 : IntKind.u64.wrap ((u : Int) - IntKind.u64.wrap (((u / y1 : Nat) : Int) * (y1 : Int))) = ((u % y1 : Nat) : Int) := by
   rw [M64.mulN, M64.wrapN _ (by omega)]
   have := Nat.div_add_mod' u y1
   rw [IntKind.wrap_u64]
   omega
  obtain ⟨qa, hqa⟩ : ∃ qa, u / y1 = qa := ⟨_, rfl⟩
  obtain ⟨ra, hra⟩ : ∃ ra, u % y1 = ra := ⟨_, rfl⟩
  have ral : ra < 4294967296 := by have := Nat.mod_lt u (show 0 < y1 by omega); omega
  rw [hqa] at e9 T0 qam e10
  rw [hra] at T0 e10
  have hyp : 0 < p := by rw [← hp]; exact Nat.two_pow_pos _
  have HF := Dv.two_steps (N := hi * 18446744073709551616 + lo) (y := y) (p := 2 ^ s) (u := u) (d1 := d1) (d0 := d0) (Nat.two_pow_pos _) (by omega) (by rw [hsh, hLd]; omega)
  rw [hY] at HF
  obtain ⟨NQ, hNQ⟩ : ∃ NQ, (hi * 18446744073709551616 + lo) / y = NQ := ⟨_, rfl⟩
  obtain ⟨NR, hNR⟩ : ∃ NR, (hi * 18446744073709551616 + lo) % y = NR := ⟨_, rfl⟩
  rw [hNQ, hNR] at HF
  rw [hNQ, hNR]
  clear hNQ hNR
  clear hsh hblt hAlt hqa hra hqy
  replace HF := Lib.hid HF
  replace hpr := Lib.hid hpr
  replace hyy := Lib.hid hyy
  replace hLd := Lib.hid hLd
  replace hY := Lib.hid hY
  replace hp := Lib.hid hp
  replace T0 := Lib.hid T0
  replace hult := Lib.hid hult
  clear hy1 hy0 hd1 hd0 hL hA hu
  have hz1 : ¬ y1 = 0 := by omega
  have HBD := Lib.hid (And.intro hlo (And.intro hy (And.intro hn2 (And.intro hn1 (And.intro hLlt (And.intro hd1l (And.intro hd0l (And.intro hb1 (And.intro hb0 (And.intro hul (And.intro ral qam)))))))))))
  clear hlo hy hn2 hn1 hLlt hd1l hd0l hb1 hb0 hul ral qam
  go_enter Tryz.func151, Tryz.ntmps151
  go_wp2_with fail
  refine (hlz).mono ?_
  rintro e w' ⟨rfl, rfl⟩
  go_wp2
  go_loop [15, 16] (fun a b => ∃ q r : Nat, a = .int .u64 q ∧ b = .int .u64 r ∧ Hid (Dv.Try u d1 y1 y0 q r) ∧ r < 4294967296 ∧ q ≤ 4294967297) (fun a _ => (intOf a).toNat)
  case atStart => obtain ⟨hlo, hy, hn2, hn1, hLlt, hd1l, hd0l, hb1, hb0, hul, ral, qam⟩ := HBD.out; exact ⟨qa, ra, rfl, rfl, T0, ral, qam⟩
  case round =>
   obtain ⟨q, r, rfl, rfl, hT, hr, hq⟩ := hrel
   clear T0
   obtain ⟨hlo, hy, hn2, hn1, hLlt, hd1l, hd0l, hb1, hb0, hul, ral, qam⟩ := HBD.out
   rcases hT.out.cases (by rw [← hyy.out]; exact hult.out) hd1l hb0 hq with ⟨q', hqq, hT', hrb, hc⟩ | ⟨q', hqq, hQ, hrb, hc⟩ | ⟨hq1, hc, hQ⟩
   ·replace hT' := Lib.hid hT'
    clear hT
    have f1 : IntKind.u64.wrap ((q : Int) - 1) = (q' : Int) := by rw [IntKind.wrap_u64]; omega
    have f2 : IntKind.u64.wrap ((r : Int) + (y1 : Int)) = ((r + y1 : Nat) : Int) := by rw [IntKind.wrap_u64]; omega
    have f3 : ¬ (4294967296 : Int) ≤ ((r + y1 : Nat) : Int) := by omega
    have HR := Lib.hid hrb
    have HQ := Lib.hid hqq
    have HB := Lib.hid hq
    obtain ⟨r', hr'⟩ : ∃ r', r + y1 = r' := ⟨_, rfl⟩
    rw [hr'] at f2 f3 HR hT'
    have f4 : (r : Int) + (y1 : Int) = (r' : Int) := by omega
    rw [← hqq] at hc
    clear hr' hrb hq hqq
    rcases hc with hc | ⟨hq1, hc⟩
    ·have g1 : (4294967296 : Int) ≤ (q : Int) := by omega
     clear hc hr
     clear hlo hy hn2 hn1 hLlt hd1l hd0l hb1 hb0 hul ral qam
     go_wp2
     go_round
     case rel => exact ⟨q', r', rfl, rfl, hT', HR.out, by have := HQ.out; have := HB.out; omega⟩
     case measure => have := HQ.out; simp [intOf]; omega
    ·have g1 : ¬ (4294967296 : Int) ≤ (q : Int) := by omega
     obtain ⟨m, hm⟩ : ∃ m, q * y0 = m := ⟨_, rfl⟩
     have g2 : IntKind.u64.wrap ((q : Int) * (y0 : Int)) = (m : Int) := by rw [M64.mulN, hm, M64.wrapN _ (by rw [← hm]; exact Dv.prod_small hq1 hb0)]
     have g3 : IntKind.u64.wrap (4294967296 * (r : Int)) = 4294967296 * (r : Int) := by rw [IntKind.wrap_u64]; omega
     obtain ⟨n, hn⟩ : ∃ n, 4294967296 * r + d1 = n := ⟨_, rfl⟩
     have g4 : IntKind.u64.wrap (n : Int) = (n : Int) := by rw [IntKind.wrap_u64]; omega
     have g5 : 4294967296 * (r : Int) + (d1 : Int) = (n : Int) := by omega
     rw [hm, hn] at hc
     have g6 : n < m := by omega
     clear hc hm hn hq1
     clear hr
     clear hlo hy hn2 hn1 hLlt hd1l hd0l hb1 hb0 hul ral qam
     go_wp2
     go_round
     case rel => exact ⟨q', r', rfl, rfl, hT', HR.out, by have := HQ.out; have := HB.out; omega⟩
     case measure => have := HQ.out; simp [intOf]; omega
   ·clear hT
    have f1 : IntKind.u64.wrap ((q : Int) - 1) = (q' : Int) := by rw [IntKind.wrap_u64]; omega
    have f2 : IntKind.u64.wrap ((r : Int) + (y1 : Int)) = ((r + y1 : Nat) : Int) := by rw [IntKind.wrap_u64]; omega
    have f3 : (4294967296 : Int) ≤ ((r + y1 : Nat) : Int) := by omega
    obtain ⟨R, hR⟩ : ∃ R : Int, ((r + y1 : Nat) : Int) = R := ⟨_, rfl⟩
    have f5 : IntKind.u64.wrap R = R := by rw [← hR, M64.wrapN _ (by omega)]
    rw [hR] at f2 f3
    have f4 : (r : Int) + (y1 : Int) = R := by omega
    rw [← hqq] at hc
    rw [← hyy.out] at hQ
    clear hR hrb hq hqq
    obtain ⟨v, hv⟩ : ∃ v, (u * 4294967296 + d1) % Y = v := ⟨_, rfl⟩
    have e11 : IntKind.u64.wrap (IntKind.u64.wrap (IntKind.u64.wrap ((u : Int) * 4294967296) + (d1 : Int)) - IntKind.u64.wrap ((q' : Int) * (Y : Int))) = (v : Int) := by rw [Dv.rest_of u d1 q' Y hQ (by omega) (by omega), hv]
    obtain ⟨W1, e14⟩ : ∃ W1, IntKind.u64.wrap ((u : Int) * 4294967296) = W1 := ⟨_, rfl⟩
    rw [e14] at e11
    obtain ⟨W2, e15⟩ : ∃ W2, IntKind.u64.wrap (W1 + (d1 : Int)) = W2 := ⟨_, rfl⟩
    rw [e15] at e11
    obtain ⟨W3, e16⟩ : ∃ W3, IntKind.u64.wrap ((q' : Int) * (Y : Int)) = W3 := ⟨_, rfl⟩
    rw [e16] at e11
    have hvlt : v < Y := by rw [← hv]; exact Nat.mod_lt _ (by omega)
    have hQlt : Hid (q' < 4294967296) := Lib.hid (by rw [hQ, hyy.out]; exact Dv.Try.lt (by rw [← hyy.out]; exact hult.out) hd1l)
    have hQ1 : Hid (q' = (u * 4294967296 + d1) / Y) := Lib.hid hQ
    replace hv := Lib.hid hv
    have T1 := Dv.Try.first (u := v) (d := d0) (y1 := y1) (y0 := y0) (by omega) hd0l
    have qbm := Dv.Try.most hb1 hb0 (by rw [← hyy.out]; exact hvlt)
    have e12 : IntKind.u64.wrap ((v : Int) / (y1 : Int)) = ((v / y1 : Nat) : Int) := by rw [← Int.natCast_ediv, M64.wrapN _ (by omega)]
    have hqy2 : v / y1 * y1 ≤ v := Nat.div_mul_le_self _ _
    have e13 : IntKind.u64.wrap ((v : Int) - IntKind.u64.wrap (((v / y1 : Nat) : Int) * (y1 : Int))) = ((v % y1 : Nat) : Int) := by
     rw [M64.mulN, M64.wrapN _ (by omega)]
     have := Nat.div_add_mod' v y1
     rw [IntKind.wrap_u64]
     omega
    have rbl : v % y1 < 4294967296 := by have := Nat.mod_lt v (show 0 < y1 by omega); omega
    obtain ⟨qb, hqb⟩ : ∃ qb, v / y1 = qb := ⟨_, rfl⟩
    obtain ⟨rb, hrb2⟩ : ∃ rb, v % y1 = rb := ⟨_, rfl⟩
    rw [hqb] at e12 T1 qbm e13
    rw [hrb2] at T1 e13 rbl
    replace T1 := Lib.hid T1
    replace hvlt := Lib.hid hvlt
    clear hqb hrb2 hqy2 hQ
    have HB2 := Lib.hid (And.intro qbm rbl)
    clear qbm rbl
    rcases hc with hc | ⟨hq1, hc⟩
    ·have g1 : (4294967296 : Int) ≤ (q : Int) := by omega
     clear hc hr
     clear hlo hy hn2 hn1 hLlt hd1l hd0l hb1 hb0 hul ral qam
     go_wp2
     (try clear f1); (try clear f2); (try clear f3); (try clear f4); (try clear f5); (try clear g1); (try clear g2); (try clear g3); (try clear g5); (try clear g4); (try clear g6)
     go_loop [16, 18] (fun b a => ∃ z x : Nat, a = .int .u64 z ∧ b = .int .u64 x ∧ Hid (Dv.Try v d0 y1 y0 z x) ∧ x < 4294967296 ∧ z ≤ 4294967297) (fun _ a => (intOf a).toNat)
     case atStart => exact ⟨qb, rb, rfl, rfl, T1, HB2.out.2, HB2.out.1⟩
     case round =>
      obtain ⟨z, x, rfl, rfl, hT, hx, hz'⟩ := hrel
      clear T1
      obtain ⟨hlo, hy, hn2, hn1, hLlt, hd1l, hd0l, hb1, hb0, hul, ral, qam⟩ := HBD.out
      rcases hT.out.cases (by rw [← hyy.out]; exact hvlt.out) hd0l hb0 hz' with ⟨z', hzz, hT', hrb, hc⟩ | ⟨z', hzz, hQ, hrb, hc⟩ | ⟨hz1', hc, hQ⟩
      ·replace hT' := Lib.hid hT'
       clear hT
       have f1 : IntKind.u64.wrap ((z : Int) - 1) = (z' : Int) := by rw [IntKind.wrap_u64]; omega
       have f2 : IntKind.u64.wrap ((x : Int) + (y1 : Int)) = ((x + y1 : Nat) : Int) := by rw [IntKind.wrap_u64]; omega
       have f3 : ¬ (4294967296 : Int) ≤ ((x + y1 : Nat) : Int) := by omega
       have HR := Lib.hid hrb
       have HQ := Lib.hid hzz
       have HB := Lib.hid hz'
       obtain ⟨x', hx'⟩ : ∃ x', x + y1 = x' := ⟨_, rfl⟩
       rw [hx'] at f2 f3 HR hT'
       have f4 : (x : Int) + (y1 : Int) = (x' : Int) := by omega
       rw [← hzz] at hc
       clear hx' hrb hz' hzz
       rcases hc with hc | ⟨hz1', hc⟩
       ·have g1 : (4294967296 : Int) ≤ (z : Int) := by omega
        clear hc hx
        clear hlo hy hn2 hn1 hLlt hd1l hd0l hb1 hb0 hul ral qam
        go_wp2
        go_round
        case rel => exact ⟨z', x', rfl, rfl, hT', HR.out, by have := HQ.out; have := HB.out; omega⟩
        case measure => have := HQ.out; simp [intOf]; omega
       ·have g1 : ¬ (4294967296 : Int) ≤ (z : Int) := by omega
        obtain ⟨m, hm⟩ : ∃ m, z * y0 = m := ⟨_, rfl⟩
        have g2 : IntKind.u64.wrap ((z : Int) * (y0 : Int)) = (m : Int) := by rw [M64.mulN, hm, M64.wrapN _ (by rw [← hm]; exact Dv.prod_small hz1' hb0)]
        have g3 : IntKind.u64.wrap (4294967296 * (x : Int)) = 4294967296 * (x : Int) := by rw [IntKind.wrap_u64]; omega
        obtain ⟨n, hn⟩ : ∃ n, 4294967296 * x + d0 = n := ⟨_, rfl⟩
        have g4 : IntKind.u64.wrap (n : Int) = (n : Int) := by rw [IntKind.wrap_u64]; omega
        have g5 : 4294967296 * (x : Int) + (d0 : Int) = (n : Int) := by omega
        rw [hm, hn] at hc
        have g6 : n < m := by omega
        clear hc hm hn hz1'
        clear hx
        clear hlo hy hn2 hn1 hLlt hd1l hd0l hb1 hb0 hul ral qam
        go_wp2
        go_round
        case rel => exact ⟨z', x', rfl, rfl, hT', HR.out, by have := HQ.out; have := HB.out; omega⟩
        case measure => have := HQ.out; simp [intOf]; omega
      ·clear hT
       have f1 : IntKind.u64.wrap ((z : Int) - 1) = (z' : Int) := by rw [IntKind.wrap_u64]; omega
       have f2 : IntKind.u64.wrap ((x : Int) + (y1 : Int)) = ((x + y1 : Nat) : Int) := by rw [IntKind.wrap_u64]; omega
       have f3 : (4294967296 : Int) ≤ ((x + y1 : Nat) : Int) := by omega
       obtain ⟨R2, hR⟩ : ∃ R2 : Int, ((x + y1 : Nat) : Int) = R2 := ⟨_, rfl⟩
       have f5 : IntKind.u64.wrap R2 = R2 := by rw [← hR, M64.wrapN _ (by omega)]
       rw [hR] at f2 f3
       have f4 : (x : Int) + (y1 : Int) = R2 := by omega
       rw [← hzz] at hc
       rw [← hyy.out] at hQ
       clear hR hrb hz' hzz
       have k1 : IntKind.u64.wrap (IntKind.u64.wrap (IntKind.u64.wrap ((v : Int) * 4294967296) + (d0 : Int)) - IntKind.u64.wrap ((z' : Int) * (Y : Int))) = (((v * 4294967296 + d0) % Y : Nat) : Int) := Dv.rest_of v d0 z' Y hQ (by omega) (by omega)
       have k2 := HF.out.1
       rw [hv.out, ← hQ, ← hQ1.out] at k2
       have k3 : IntKind.u64.wrap (IntKind.u64.wrap ((q' : Int) * 4294967296) + (z' : Int)) = (NQ : Int) := by
        have hz2 : z' < 4294967296 := by rw [hQ, hyy.out]; exact Dv.Try.lt (by rw [← hyy.out]; exact hvlt.out) hd0l
        have := hQlt.out
        rw [k2, IntKind.wrap_u64, IntKind.wrap_u64]
        omega
       clear k2
       have k4 := HF.out.2
       rw [hv.out] at k4
       rw [← k4] at k1
       have k5 : ((NR * 2 ^ s : Nat) : Int) / 2 ^ s = (NR : Int) := by
        rw [show (2 : Int) ^ s = ((2 ^ s : Nat) : Int) by simp, ← Int.natCast_ediv, Nat.mul_div_cancel _ (Nat.two_pow_pos _)]
       obtain ⟨NP, hNP⟩ : ∃ NP, NR * 2 ^ s = NP := ⟨_, rfl⟩
       rw [hNP] at k1 k5
       clear hNP k4 hQ
       obtain ⟨V1, k14⟩ : ∃ V1, IntKind.u64.wrap ((v : Int) * 4294967296) = V1 := ⟨_, rfl⟩
       rw [k14] at k1
       obtain ⟨V2, k15⟩ : ∃ V2, IntKind.u64.wrap (V1 + (d0 : Int)) = V2 := ⟨_, rfl⟩
       rw [k15] at k1
       obtain ⟨V3, k16⟩ : ∃ V3, IntKind.u64.wrap ((z' : Int) * (Y : Int)) = V3 := ⟨_, rfl⟩
       rw [k16] at k1
       obtain ⟨V4, k17⟩ : ∃ V4, IntKind.u64.wrap ((q' : Int) * 4294967296) = V4 := ⟨_, rfl⟩
       rw [k17] at k3
       rcases hc with hc | ⟨hz1', hc⟩
       ·have g1 : (4294967296 : Int) ≤ (z : Int) := by omega
        clear hc hx
        clear hlo hy hn2 hn1 hLlt hd1l hd0l hb1 hb0 hul ral qam
        go_wp2
        go_ret2
        exact ⟨rfl, 0, rfl⟩
       ·have g1 : ¬ (4294967296 : Int) ≤ (z : Int) := by omega
        obtain ⟨m, hm⟩ : ∃ m, z * y0 = m := ⟨_, rfl⟩
        have g2 : IntKind.u64.wrap ((z : Int) * (y0 : Int)) = (m : Int) := by rw [M64.mulN, hm, M64.wrapN _ (by rw [← hm]; exact Dv.prod_small hz1' hb0)]
        have g3 : IntKind.u64.wrap (4294967296 * (x : Int)) = 4294967296 * (x : Int) := by rw [IntKind.wrap_u64]; omega
        obtain ⟨n, hn⟩ : ∃ n, 4294967296 * x + d0 = n := ⟨_, rfl⟩
        have g4 : IntKind.u64.wrap (n : Int) = (n : Int) := by rw [IntKind.wrap_u64]; omega
        have g5 : 4294967296 * (x : Int) + (d0 : Int) = (n : Int) := by omega
        rw [hm, hn] at hc
        have g6 : n < m := by omega
        clear hc hm hn hz1'
        clear hx
        clear hlo hy hn2 hn1 hLlt hd1l hd0l hb1 hb0 hul ral qam
        go_wp2
        go_ret2
        exact ⟨rfl, 0, rfl⟩
      ·clear hT
       rw [← hyy.out] at hQ
       clear hz'
       have k1 : IntKind.u64.wrap (IntKind.u64.wrap (IntKind.u64.wrap ((v : Int) * 4294967296) + (d0 : Int)) - IntKind.u64.wrap ((z : Int) * (Y : Int))) = (((v * 4294967296 + d0) % Y : Nat) : Int) := Dv.rest_of v d0 z Y hQ (by omega) (by omega)
       have k2 := HF.out.1
       rw [hv.out, ← hQ, ← hQ1.out] at k2
       have k3 : IntKind.u64.wrap (IntKind.u64.wrap ((q' : Int) * 4294967296) + (z : Int)) = (NQ : Int) := by
        have hz2 : z < 4294967296 := by rw [hQ, hyy.out]; exact Dv.Try.lt (by rw [← hyy.out]; exact hvlt.out) hd0l
        have := hQlt.out
        rw [k2, IntKind.wrap_u64, IntKind.wrap_u64]
        omega
       clear k2
       have k4 := HF.out.2
       rw [hv.out] at k4
       rw [← k4] at k1
       have k5 : ((NR * 2 ^ s : Nat) : Int) / 2 ^ s = (NR : Int) := by
        rw [show (2 : Int) ^ s = ((2 ^ s : Nat) : Int) by simp, ← Int.natCast_ediv, Nat.mul_div_cancel _ (Nat.two_pow_pos _)]
       obtain ⟨NP, hNP⟩ : ∃ NP, NR * 2 ^ s = NP := ⟨_, rfl⟩
       rw [hNP] at k1 k5
       clear hNP k4 hQ
       obtain ⟨V1, k14⟩ : ∃ V1, IntKind.u64.wrap ((v : Int) * 4294967296) = V1 := ⟨_, rfl⟩
       rw [k14] at k1
       obtain ⟨V2, k15⟩ : ∃ V2, IntKind.u64.wrap (V1 + (d0 : Int)) = V2 := ⟨_, rfl⟩
       rw [k15] at k1
       obtain ⟨V3, k16⟩ : ∃ V3, IntKind.u64.wrap ((z : Int) * (Y : Int)) = V3 := ⟨_, rfl⟩
       rw [k16] at k1
       obtain ⟨V4, k17⟩ : ∃ V4, IntKind.u64.wrap ((q' : Int) * 4294967296) = V4 := ⟨_, rfl⟩
       rw [k17] at k3
       have g1 : ¬ (4294967296 : Int) ≤ (z : Int) := by omega
       obtain ⟨m, hm⟩ : ∃ m, z * y0 = m := ⟨_, rfl⟩
       have g2 : IntKind.u64.wrap ((z : Int) * (y0 : Int)) = (m : Int) := by rw [M64.mulN, hm, M64.wrapN _ (by rw [← hm]; exact Dv.prod_small hz1' hb0)]
       have g3 : IntKind.u64.wrap (4294967296 * (x : Int)) = 4294967296 * (x : Int) := by rw [IntKind.wrap_u64]; omega
       obtain ⟨n, hn⟩ : ∃ n, 4294967296 * x + d0 = n := ⟨_, rfl⟩
       have g4 : IntKind.u64.wrap (n : Int) = (n : Int) := by rw [IntKind.wrap_u64]; omega
       have g5 : 4294967296 * (x : Int) + (d0 : Int) = (n : Int) := by omega
       rw [hm, hn] at hc
       have g6 : m ≤ n := by omega
       clear hc hm hn hz1'
       clear hx
       clear hlo hy hn2 hn1 hLlt hd1l hd0l hb1 hb0 hul ral qam
       go_wp2
       go_ret2
       exact ⟨rfl, 0, rfl⟩
    ·have g1 : ¬ (4294967296 : Int) ≤ (q : Int) := by omega
     obtain ⟨m, hm⟩ : ∃ m, q * y0 = m := ⟨_, rfl⟩
     have g2 : IntKind.u64.wrap ((q : Int) * (y0 : Int)) = (m : Int) := by rw [M64.mulN, hm, M64.wrapN _ (by rw [← hm]; exact Dv.prod_small hq1 hb0)]
     have g3 : IntKind.u64.wrap (4294967296 * (r : Int)) = 4294967296 * (r : Int) := by rw [IntKind.wrap_u64]; omega
     obtain ⟨n, hn⟩ : ∃ n, 4294967296 * r + d1 = n := ⟨_, rfl⟩
     have g4 : IntKind.u64.wrap (n : Int) = (n : Int) := by rw [IntKind.wrap_u64]; omega
     have g5 : 4294967296 * (r : Int) + (d1 : Int) = (n : Int) := by omega
     rw [hm, hn] at hc
     have g6 : n < m := by omega
     clear hc hm hn hq1
     clear hr
     clear hlo hy hn2 hn1 hLlt hd1l hd0l hb1 hb0 hul ral qam
     go_wp2
     (try clear f1); (try clear f2); (try clear f3); (try clear f4); (try clear f5); (try clear g1); (try clear g2); (try clear g3); (try clear g5); (try clear g4); (try clear g6)
     go_loop [16, 18] (fun b a => ∃ z x : Nat, a = .int .u64 z ∧ b = .int .u64 x ∧ Hid (Dv.Try v d0 y1 y0 z x) ∧ x < 4294967296 ∧ z ≤ 4294967297) (fun _ a => (intOf a).toNat)
     case atStart => exact ⟨qb, rb, rfl, rfl, T1, HB2.out.2, HB2.out.1⟩
     case round =>
      obtain ⟨z, x, rfl, rfl, hT, hx, hz'⟩ := hrel
      clear T1
      obtain ⟨hlo, hy, hn2, hn1, hLlt, hd1l, hd0l, hb1, hb0, hul, ral, qam⟩ := HBD.out
      rcases hT.out.cases (by rw [← hyy.out]; exact hvlt.out) hd0l hb0 hz' with ⟨z', hzz, hT', hrb, hc⟩ | ⟨z', hzz, hQ, hrb, hc⟩ | ⟨hz1', hc, hQ⟩
      ·replace hT' := Lib.hid hT'
       clear hT
       have f1 : IntKind.u64.wrap ((z : Int) - 1) = (z' : Int) := by rw [IntKind.wrap_u64]; omega
       have f2 : IntKind.u64.wrap ((x : Int) + (y1 : Int)) = ((x + y1 : Nat) : Int) := by rw [IntKind.wrap_u64]; omega
       have f3 : ¬ (4294967296 : Int) ≤ ((x + y1 : Nat) : Int) := by omega
       have HR := Lib.hid hrb
       have HQ := Lib.hid hzz
       have HB := Lib.hid hz'
       obtain ⟨x', hx'⟩ : ∃ x', x + y1 = x' := ⟨_, rfl⟩
       rw [hx'] at f2 f3 HR hT'
       have f4 : (x : Int) + (y1 : Int) = (x' : Int) := by omega
       rw [← hzz] at hc
       clear hx' hrb hz' hzz
       rcases hc with hc | ⟨hz1', hc⟩
       ·have g1 : (4294967296 : Int) ≤ (z : Int) := by omega
        clear hc hx
        clear hlo hy hn2 hn1 hLlt hd1l hd0l hb1 hb0 hul ral qam
        go_wp2
        go_round
        case rel => exact ⟨z', x', rfl, rfl, hT', HR.out, by have := HQ.out; have := HB.out; omega⟩
        case measure => have := HQ.out; simp [intOf]; omega
       ·have g1 : ¬ (4294967296 : Int) ≤ (z : Int) := by omega
        obtain ⟨m, hm⟩ : ∃ m, z * y0 = m := ⟨_, rfl⟩
        have g2 : IntKind.u64.wrap ((z : Int) * (y0 : Int)) = (m : Int) := by rw [M64.mulN, hm, M64.wrapN _ (by rw [← hm]; exact Dv.prod_small hz1' hb0)]
        have g3 : IntKind.u64.wrap (4294967296 * (x : Int)) = 4294967296 * (x : Int) := by rw [IntKind.wrap_u64]; omega
        obtain ⟨n, hn⟩ : ∃ n, 4294967296 * x + d0 = n := ⟨_, rfl⟩
        have g4 : IntKind.u64.wrap (n : Int) = (n : Int) := by rw [IntKind.wrap_u64]; omega
        have g5 : 4294967296 * (x : Int) + (d0 : Int) = (n : Int) := by omega
        rw [hm, hn] at hc
        have g6 : n < m := by omega
        clear hc hm hn hz1'
        clear hx
        clear hlo hy hn2 hn1 hLlt hd1l hd0l hb1 hb0 hul ral qam
        go_wp2
        go_round
        case rel => exact ⟨z', x', rfl, rfl, hT', HR.out, by have := HQ.out; have := HB.out; omega⟩
        case measure => have := HQ.out; simp [intOf]; omega
      ·clear hT
       have f1 : IntKind.u64.wrap ((z : Int) - 1) = (z' : Int) := by rw [IntKind.wrap_u64]; omega
       have f2 : IntKind.u64.wrap ((x : Int) + (y1 : Int)) = ((x + y1 : Nat) : Int) := by rw [IntKind.wrap_u64]; omega
       have f3 : (4294967296 : Int) ≤ ((x + y1 : Nat) : Int) := by omega
       obtain ⟨R2, hR⟩ : ∃ R2 : Int, ((x + y1 : Nat) : Int) = R2 := ⟨_, rfl⟩
       have f5 : IntKind.u64.wrap R2 = R2 := by rw [← hR, M64.wrapN _ (by omega)]
       rw [hR] at f2 f3
       have f4 : (x : Int) + (y1 : Int) = R2 := by omega
       rw [← hzz] at hc
       rw [← hyy.out] at hQ
       clear hR hrb hz' hzz
       have k1 : IntKind.u64.wrap (IntKind.u64.wrap (IntKind.u64.wrap ((v : Int) * 4294967296) + (d0 : Int)) - IntKind.u64.wrap ((z' : Int) * (Y : Int))) = (((v * 4294967296 + d0) % Y : Nat) : Int) := Dv.rest_of v d0 z' Y hQ (by omega) (by omega)
       have k2 := HF.out.1
       rw [hv.out, ← hQ, ← hQ1.out] at k2
       have k3 : IntKind.u64.wrap (IntKind.u64.wrap ((q' : Int) * 4294967296) + (z' : Int)) = (NQ : Int) := by
        have hz2 : z' < 4294967296 := by rw [hQ, hyy.out]; exact Dv.Try.lt (by rw [← hyy.out]; exact hvlt.out) hd0l
        have := hQlt.out
        rw [k2, IntKind.wrap_u64, IntKind.wrap_u64]
        omega
       clear k2
       have k4 := HF.out.2
       rw [hv.out] at k4
       rw [← k4] at k1
       have k5 : ((NR * 2 ^ s : Nat) : Int) / 2 ^ s = (NR : Int) := by
        rw [show (2 : Int) ^ s = ((2 ^ s : Nat) : Int) by simp, ← Int.natCast_ediv, Nat.mul_div_cancel _ (Nat.two_pow_pos _)]
       obtain ⟨NP, hNP⟩ : ∃ NP, NR * 2 ^ s = NP := ⟨_, rfl⟩
       rw [hNP] at k1 k5
       clear hNP k4 hQ
       obtain ⟨V1, k14⟩ : ∃ V1, IntKind.u64.wrap ((v : Int) * 4294967296) = V1 := ⟨_, rfl⟩
       rw [k14] at k1
       obtain ⟨V2, k15⟩ : ∃ V2, IntKind.u64.wrap (V1 + (d0 : Int)) = V2 := ⟨_, rfl⟩
       rw [k15] at k1
       obtain ⟨V3, k16⟩ : ∃ V3, IntKind.u64.wrap ((z' : Int) * (Y : Int)) = V3 := ⟨_, rfl⟩
       rw [k16] at k1
       obtain ⟨V4, k17⟩ : ∃ V4, IntKind.u64.wrap ((q' : Int) * 4294967296) = V4 := ⟨_, rfl⟩
       rw [k17] at k3
       rcases hc with hc | ⟨hz1', hc⟩
       ·have g1 : (4294967296 : Int) ≤ (z : Int) := by omega
        clear hc hx
        clear hlo hy hn2 hn1 hLlt hd1l hd0l hb1 hb0 hul ral qam
        go_wp2
        go_ret2
        exact ⟨rfl, 0, rfl⟩
       ·have g1 : ¬ (4294967296 : Int) ≤ (z : Int) := by omega
        obtain ⟨m, hm⟩ : ∃ m, z * y0 = m := ⟨_, rfl⟩
        have g2 : IntKind.u64.wrap ((z : Int) * (y0 : Int)) = (m : Int) := by rw [M64.mulN, hm, M64.wrapN _ (by rw [← hm]; exact Dv.prod_small hz1' hb0)]
        have g3 : IntKind.u64.wrap (4294967296 * (x : Int)) = 4294967296 * (x : Int) := by rw [IntKind.wrap_u64]; omega
        obtain ⟨n, hn⟩ : ∃ n, 4294967296 * x + d0 = n := ⟨_, rfl⟩
        have g4 : IntKind.u64.wrap (n : Int) = (n : Int) := by rw [IntKind.wrap_u64]; omega
        have g5 : 4294967296 * (x : Int) + (d0 : Int) = (n : Int) := by omega
        rw [hm, hn] at hc
        have g6 : n < m := by omega
        clear hc hm hn hz1'
        clear hx
        clear hlo hy hn2 hn1 hLlt hd1l hd0l hb1 hb0 hul ral qam
        go_wp2
        go_ret2
        exact ⟨rfl, 0, rfl⟩
      ·clear hT
       rw [← hyy.out] at hQ
       clear hz'
       have k1 : IntKind.u64.wrap (IntKind.u64.wrap (IntKind.u64.wrap ((v : Int) * 4294967296) + (d0 : Int)) - IntKind.u64.wrap ((z : Int) * (Y : Int))) = (((v * 4294967296 + d0) % Y : Nat) : Int) := Dv.rest_of v d0 z Y hQ (by omega) (by omega)
       have k2 := HF.out.1
       rw [hv.out, ← hQ, ← hQ1.out] at k2
       have k3 : IntKind.u64.wrap (IntKind.u64.wrap ((q' : Int) * 4294967296) + (z : Int)) = (NQ : Int) := by
        have hz2 : z < 4294967296 := by rw [hQ, hyy.out]; exact Dv.Try.lt (by rw [← hyy.out]; exact hvlt.out) hd0l
        have := hQlt.out
        rw [k2, IntKind.wrap_u64, IntKind.wrap_u64]
        omega
       clear k2
       have k4 := HF.out.2
       rw [hv.out] at k4
       rw [← k4] at k1
       have k5 : ((NR * 2 ^ s : Nat) : Int) / 2 ^ s = (NR : Int) := by
        rw [show (2 : Int) ^ s = ((2 ^ s : Nat) : Int) by simp, ← Int.natCast_ediv, Nat.mul_div_cancel _ (Nat.two_pow_pos _)]
       obtain ⟨NP, hNP⟩ : ∃ NP, NR * 2 ^ s = NP := ⟨_, rfl⟩
       rw [hNP] at k1 k5
       clear hNP k4 hQ
       obtain ⟨V1, k14⟩ : ∃ V1, IntKind.u64.wrap ((v : Int) * 4294967296) = V1 := ⟨_, rfl⟩
       rw [k14] at k1
       obtain ⟨V2, k15⟩ : ∃ V2, IntKind.u64.wrap (V1 + (d0 : Int)) = V2 := ⟨_, rfl⟩
       rw [k15] at k1
       obtain ⟨V3, k16⟩ : ∃ V3, IntKind.u64.wrap ((z : Int) * (Y : Int)) = V3 := ⟨_, rfl⟩
       rw [k16] at k1
       obtain ⟨V4, k17⟩ : ∃ V4, IntKind.u64.wrap ((q' : Int) * 4294967296) = V4 := ⟨_, rfl⟩
       rw [k17] at k3
       have g1 : ¬ (4294967296 : Int) ≤ (z : Int) := by omega
       obtain ⟨m, hm⟩ : ∃ m, z * y0 = m := ⟨_, rfl⟩
       have g2 : IntKind.u64.wrap ((z : Int) * (y0 : Int)) = (m : Int) := by rw [M64.mulN, hm, M64.wrapN _ (by rw [← hm]; exact Dv.prod_small hz1' hb0)]
       have g3 : IntKind.u64.wrap (4294967296 * (x : Int)) = 4294967296 * (x : Int) := by rw [IntKind.wrap_u64]; omega
       obtain ⟨n, hn⟩ : ∃ n, 4294967296 * x + d0 = n := ⟨_, rfl⟩
       have g4 : IntKind.u64.wrap (n : Int) = (n : Int) := by rw [IntKind.wrap_u64]; omega
       have g5 : 4294967296 * (x : Int) + (d0 : Int) = (n : Int) := by omega
       rw [hm, hn] at hc
       have g6 : m ≤ n := by omega
       clear hc hm hn hz1'
       clear hx
       clear hlo hy hn2 hn1 hLlt hd1l hd0l hb1 hb0 hul ral qam
       go_wp2
       go_ret2
       exact ⟨rfl, 0, rfl⟩
   ·clear hT
    rw [← hyy.out] at hQ
    clear hq
    obtain ⟨v, hv⟩ : ∃ v, (u * 4294967296 + d1) % Y = v := ⟨_, rfl⟩
    have e11 : IntKind.u64.wrap (IntKind.u64.wrap (IntKind.u64.wrap ((u : Int) * 4294967296) + (d1 : Int)) - IntKind.u64.wrap ((q : Int) * (Y : Int))) = (v : Int) := by rw [Dv.rest_of u d1 q Y hQ (by omega) (by omega), hv]
    obtain ⟨W1, e14⟩ : ∃ W1, IntKind.u64.wrap ((u : Int) * 4294967296) = W1 := ⟨_, rfl⟩
    rw [e14] at e11
    obtain ⟨W2, e15⟩ : ∃ W2, IntKind.u64.wrap (W1 + (d1 : Int)) = W2 := ⟨_, rfl⟩
    rw [e15] at e11
    obtain ⟨W3, e16⟩ : ∃ W3, IntKind.u64.wrap ((q : Int) * (Y : Int)) = W3 := ⟨_, rfl⟩
    rw [e16] at e11
    have hvlt : v < Y := by rw [← hv]; exact Nat.mod_lt _ (by omega)
    have hQlt : Hid (q < 4294967296) := Lib.hid (by rw [hQ, hyy.out]; exact Dv.Try.lt (by rw [← hyy.out]; exact hult.out) hd1l)
    have hQ1 : Hid (q = (u * 4294967296 + d1) / Y) := Lib.hid hQ
    replace hv := Lib.hid hv
    have T1 := Dv.Try.first (u := v) (d := d0) (y1 := y1) (y0 := y0) (by omega) hd0l
    have qbm := Dv.Try.most hb1 hb0 (by rw [← hyy.out]; exact hvlt)
    have e12 : IntKind.u64.wrap ((v : Int) / (y1 : Int)) = ((v / y1 : Nat) : Int) := by rw [← Int.natCast_ediv, M64.wrapN _ (by omega)]
    have hqy2 : v / y1 * y1 ≤ v := Nat.div_mul_le_self _ _
    have e13 : IntKind.u64.wrap ((v : Int) - IntKind.u64.wrap (((v / y1 : Nat) : Int) * (y1 : Int))) = ((v % y1 : Nat) : Int) := by
     rw [M64.mulN, M64.wrapN _ (by omega)]
     have := Nat.div_add_mod' v y1
     rw [IntKind.wrap_u64]
     omega
    have rbl : v % y1 < 4294967296 := by have := Nat.mod_lt v (show 0 < y1 by omega); omega
    obtain ⟨qb, hqb⟩ : ∃ qb, v / y1 = qb := ⟨_, rfl⟩
    obtain ⟨rb, hrb2⟩ : ∃ rb, v % y1 = rb := ⟨_, rfl⟩
    rw [hqb] at e12 T1 qbm e13
    rw [hrb2] at T1 e13 rbl
    replace T1 := Lib.hid T1
    replace hvlt := Lib.hid hvlt
    clear hqb hrb2 hqy2 hQ
    have HB2 := Lib.hid (And.intro qbm rbl)
    clear qbm rbl
    have g1 : ¬ (4294967296 : Int) ≤ (q : Int) := by omega
    obtain ⟨m, hm⟩ : ∃ m, q * y0 = m := ⟨_, rfl⟩
    have g2 : IntKind.u64.wrap ((q : Int) * (y0 : Int)) = (m : Int) := by rw [M64.mulN, hm, M64.wrapN _ (by rw [← hm]; exact Dv.prod_small hq1 hb0)]
    have g3 : IntKind.u64.wrap (4294967296 * (r : Int)) = 4294967296 * (r : Int) := by rw [IntKind.wrap_u64]; omega
    obtain ⟨n, hn⟩ : ∃ n, 4294967296 * r + d1 = n := ⟨_, rfl⟩
    have g4 : IntKind.u64.wrap (n : Int) = (n : Int) := by rw [IntKind.wrap_u64]; omega
    have g5 : 4294967296 * (r : Int) + (d1 : Int) = (n : Int) := by omega
    rw [hm, hn] at hc
    have g6 : m ≤ n := by omega
    clear hc hm hn hq1
    clear hr
    clear hlo hy hn2 hn1 hLlt hd1l hd0l hb1 hb0 hul ral qam
    go_wp2
    (try clear f1); (try clear f2); (try clear f3); (try clear f4); (try clear f5); (try clear g1); (try clear g2); (try clear g3); (try clear g5); (try clear g4); (try clear g6)
    go_loop [16, 18] (fun b a => ∃ z x : Nat, a = .int .u64 z ∧ b = .int .u64 x ∧ Hid (Dv.Try v d0 y1 y0 z x) ∧ x < 4294967296 ∧ z ≤ 4294967297) (fun _ a => (intOf a).toNat)
    case atStart => exact ⟨qb, rb, rfl, rfl, T1, HB2.out.2, HB2.out.1⟩
    case round =>
     obtain ⟨z, x, rfl, rfl, hT, hx, hz'⟩ := hrel
     clear T1
     obtain ⟨hlo, hy, hn2, hn1, hLlt, hd1l, hd0l, hb1, hb0, hul, ral, qam⟩ := HBD.out
     rcases hT.out.cases (by rw [← hyy.out]; exact hvlt.out) hd0l hb0 hz' with ⟨z', hzz, hT', hrb, hc⟩ | ⟨z', hzz, hQ, hrb, hc⟩ | ⟨hz1', hc, hQ⟩
     ·replace hT' := Lib.hid hT'
      clear hT
      have f1 : IntKind.u64.wrap ((z : Int) - 1) = (z' : Int) := by rw [IntKind.wrap_u64]; omega
      have f2 : IntKind.u64.wrap ((x : Int) + (y1 : Int)) = ((x + y1 : Nat) : Int) := by rw [IntKind.wrap_u64]; omega
      have f3 : ¬ (4294967296 : Int) ≤ ((x + y1 : Nat) : Int) := by omega
      have HR := Lib.hid hrb
      have HQ := Lib.hid hzz
      have HB := Lib.hid hz'
      obtain ⟨x', hx'⟩ : ∃ x', x + y1 = x' := ⟨_, rfl⟩
      rw [hx'] at f2 f3 HR hT'
      have f4 : (x : Int) + (y1 : Int) = (x' : Int) := by omega
      rw [← hzz] at hc
      clear hx' hrb hz' hzz
      rcases hc with hc | ⟨hz1', hc⟩
      ·have g1 : (4294967296 : Int) ≤ (z : Int) := by omega
       clear hc hx
       clear hlo hy hn2 hn1 hLlt hd1l hd0l hb1 hb0 hul ral qam
       go_wp2
       go_round
       case rel => exact ⟨z', x', rfl, rfl, hT', HR.out, by have := HQ.out; have := HB.out; omega⟩
       case measure => have := HQ.out; simp [intOf]; omega
      ·have g1 : ¬ (4294967296 : Int) ≤ (z : Int) := by omega
       obtain ⟨m, hm⟩ : ∃ m, z * y0 = m := ⟨_, rfl⟩
       have g2 : IntKind.u64.wrap ((z : Int) * (y0 : Int)) = (m : Int) := by rw [M64.mulN, hm, M64.wrapN _ (by rw [← hm]; exact Dv.prod_small hz1' hb0)]
       have g3 : IntKind.u64.wrap (4294967296 * (x : Int)) = 4294967296 * (x : Int) := by rw [IntKind.wrap_u64]; omega
       obtain ⟨n, hn⟩ : ∃ n, 4294967296 * x + d0 = n := ⟨_, rfl⟩
       have g4 : IntKind.u64.wrap (n : Int) = (n : Int) := by rw [IntKind.wrap_u64]; omega
       have g5 : 4294967296 * (x : Int) + (d0 : Int) = (n : Int) := by omega
       rw [hm, hn] at hc
       have g6 : n < m := by omega
       clear hc hm hn hz1'
       clear hx
       clear hlo hy hn2 hn1 hLlt hd1l hd0l hb1 hb0 hul ral qam
       go_wp2
       go_round
       case rel => exact ⟨z', x', rfl, rfl, hT', HR.out, by have := HQ.out; have := HB.out; omega⟩
       case measure => have := HQ.out; simp [intOf]; omega
     ·clear hT
      have f1 : IntKind.u64.wrap ((z : Int) - 1) = (z' : Int) := by rw [IntKind.wrap_u64]; omega
      have f2 : IntKind.u64.wrap ((x : Int) + (y1 : Int)) = ((x + y1 : Nat) : Int) := by rw [IntKind.wrap_u64]; omega
      have f3 : (4294967296 : Int) ≤ ((x + y1 : Nat) : Int) := by omega
      obtain ⟨R2, hR⟩ : ∃ R2 : Int, ((x + y1 : Nat) : Int) = R2 := ⟨_, rfl⟩
      have f5 : IntKind.u64.wrap R2 = R2 := by rw [← hR, M64.wrapN _ (by omega)]
      rw [hR] at f2 f3
      have f4 : (x : Int) + (y1 : Int) = R2 := by omega
      rw [← hzz] at hc
      rw [← hyy.out] at hQ
      clear hR hrb hz' hzz
      have k1 : IntKind.u64.wrap (IntKind.u64.wrap (IntKind.u64.wrap ((v : Int) * 4294967296) + (d0 : Int)) - IntKind.u64.wrap ((z' : Int) * (Y : Int))) = (((v * 4294967296 + d0) % Y : Nat) : Int) := Dv.rest_of v d0 z' Y hQ (by omega) (by omega)
      have k2 := HF.out.1
      rw [hv.out, ← hQ, ← hQ1.out] at k2
      have k3 : IntKind.u64.wrap (IntKind.u64.wrap ((q : Int) * 4294967296) + (z' : Int)) = (NQ : Int) := by
       have hz2 : z' < 4294967296 := by rw [hQ, hyy.out]; exact Dv.Try.lt (by rw [← hyy.out]; exact hvlt.out) hd0l
       have := hQlt.out
       rw [k2, IntKind.wrap_u64, IntKind.wrap_u64]
       omega
      clear k2
      have k4 := HF.out.2
      rw [hv.out] at k4
      rw [← k4] at k1
      have k5 : ((NR * 2 ^ s : Nat) : Int) / 2 ^ s = (NR : Int) := by
       rw [show (2 : Int) ^ s = ((2 ^ s : Nat) : Int) by simp, ← Int.natCast_ediv, Nat.mul_div_cancel _ (Nat.two_pow_pos _)]
      obtain ⟨NP, hNP⟩ : ∃ NP, NR * 2 ^ s = NP := ⟨_, rfl⟩
      rw [hNP] at k1 k5
      clear hNP k4 hQ
      obtain ⟨V1, k14⟩ : ∃ V1, IntKind.u64.wrap ((v : Int) * 4294967296) = V1 := ⟨_, rfl⟩
      rw [k14] at k1
      obtain ⟨V2, k15⟩ : ∃ V2, IntKind.u64.wrap (V1 + (d0 : Int)) = V2 := ⟨_, rfl⟩
      rw [k15] at k1
      obtain ⟨V3, k16⟩ : ∃ V3, IntKind.u64.wrap ((z' : Int) * (Y : Int)) = V3 := ⟨_, rfl⟩
      rw [k16] at k1
      obtain ⟨V4, k17⟩ : ∃ V4, IntKind.u64.wrap ((q : Int) * 4294967296) = V4 := ⟨_, rfl⟩
      rw [k17] at k3
      rcases hc with hc | ⟨hz1', hc⟩
      ·have g1 : (4294967296 : Int) ≤ (z : Int) := by omega
       clear hc hx
       clear hlo hy hn2 hn1 hLlt hd1l hd0l hb1 hb0 hul ral qam
       go_wp2
       go_ret2
       exact ⟨rfl, 0, rfl⟩
      ·have g1 : ¬ (4294967296 : Int) ≤ (z : Int) := by omega
       obtain ⟨m, hm⟩ : ∃ m, z * y0 = m := ⟨_, rfl⟩
       have g2 : IntKind.u64.wrap ((z : Int) * (y0 : Int)) = (m : Int) := by rw [M64.mulN, hm, M64.wrapN _ (by rw [← hm]; exact Dv.prod_small hz1' hb0)]
       have g3 : IntKind.u64.wrap (4294967296 * (x : Int)) = 4294967296 * (x : Int) := by rw [IntKind.wrap_u64]; omega
       obtain ⟨n, hn⟩ : ∃ n, 4294967296 * x + d0 = n := ⟨_, rfl⟩
       have g4 : IntKind.u64.wrap (n : Int) = (n : Int) := by rw [IntKind.wrap_u64]; omega
       have g5 : 4294967296 * (x : Int) + (d0 : Int) = (n : Int) := by omega
       rw [hm, hn] at hc
       have g6 : n < m := by omega
       clear hc hm hn hz1'
       clear hx
       clear hlo hy hn2 hn1 hLlt hd1l hd0l hb1 hb0 hul ral qam
       go_wp2
       go_ret2
       exact ⟨rfl, 0, rfl⟩
     ·clear hT
      rw [← hyy.out] at hQ
      clear hz'
      have k1 : IntKind.u64.wrap (IntKind.u64.wrap (IntKind.u64.wrap ((v : Int) * 4294967296) + (d0 : Int)) - IntKind.u64.wrap ((z : Int) * (Y : Int))) = (((v * 4294967296 + d0) % Y : Nat) : Int) := Dv.rest_of v d0 z Y hQ (by omega) (by omega)
      have k2 := HF.out.1
      rw [hv.out, ← hQ, ← hQ1.out] at k2
      have k3 : IntKind.u64.wrap (IntKind.u64.wrap ((q : Int) * 4294967296) + (z : Int)) = (NQ : Int) := by
       have hz2 : z < 4294967296 := by rw [hQ, hyy.out]; exact Dv.Try.lt (by rw [← hyy.out]; exact hvlt.out) hd0l
       have := hQlt.out
       rw [k2, IntKind.wrap_u64, IntKind.wrap_u64]
       omega
      clear k2
      have k4 := HF.out.2
      rw [hv.out] at k4
      rw [← k4] at k1
      have k5 : ((NR * 2 ^ s : Nat) : Int) / 2 ^ s = (NR : Int) := by
       rw [show (2 : Int) ^ s = ((2 ^ s : Nat) : Int) by simp, ← Int.natCast_ediv, Nat.mul_div_cancel _ (Nat.two_pow_pos _)]
      obtain ⟨NP, hNP⟩ : ∃ NP, NR * 2 ^ s = NP := ⟨_, rfl⟩
      rw [hNP] at k1 k5
      clear hNP k4 hQ
      obtain ⟨V1, k14⟩ : ∃ V1, IntKind.u64.wrap ((v : Int) * 4294967296) = V1 := ⟨_, rfl⟩
      rw [k14] at k1
      obtain ⟨V2, k15⟩ : ∃ V2, IntKind.u64.wrap (V1 + (d0 : Int)) = V2 := ⟨_, rfl⟩
      rw [k15] at k1
      obtain ⟨V3, k16⟩ : ∃ V3, IntKind.u64.wrap ((z : Int) * (Y : Int)) = V3 := ⟨_, rfl⟩
      rw [k16] at k1
      obtain ⟨V4, k17⟩ : ∃ V4, IntKind.u64.wrap ((q : Int) * 4294967296) = V4 := ⟨_, rfl⟩
      rw [k17] at k3
      have g1 : ¬ (4294967296 : Int) ≤ (z : Int) := by omega
      obtain ⟨m, hm⟩ : ∃ m, z * y0 = m := ⟨_, rfl⟩
      have g2 : IntKind.u64.wrap ((z : Int) * (y0 : Int)) = (m : Int) := by rw [M64.mulN, hm, M64.wrapN _ (by rw [← hm]; exact Dv.prod_small hz1' hb0)]
      have g3 : IntKind.u64.wrap (4294967296 * (x : Int)) = 4294967296 * (x : Int) := by rw [IntKind.wrap_u64]; omega
      obtain ⟨n, hn⟩ : ∃ n, 4294967296 * x + d0 = n := ⟨_, rfl⟩
      have g4 : IntKind.u64.wrap (n : Int) = (n : Int) := by rw [IntKind.wrap_u64]; omega
      have g5 : 4294967296 * (x : Int) + (d0 : Int) = (n : Int) := by omega
      rw [hm, hn] at hc
      have g6 : m ≤ n := by omega
      clear hc hm hn hz1'
      clear hx
      clear hlo hy hn2 hn1 hLlt hd1l hd0l hb1 hb0 hul ral qam
      go_wp2
      go_ret2
      exact ⟨rfl, 0, rfl⟩
theorem div64_c (w : World) (hi lo y : Int) (hlo : U lo) (hy : U y) (h0 : 0 ≤ hi) (h : hi < y) :
  Calls Tryz.prog 151 #[.int .u64 hi, .int .u64 lo, .int .u64 y] w fun e w' => e = .returned (.tuple #[.int .u64 ((hi * 18446744073709551616 + lo) / y), .int .u64 ((hi * 18446744073709551616 + lo) % y)]) ∧ ∃ n, w' = w.drewN n := by
 obtain ⟨a, rfl⟩ := Int.eq_ofNat_of_zero_le h0
 obtain ⟨b, rfl⟩ := Int.eq_ofNat_of_zero_le hlo.1
 obtain ⟨c, rfl⟩ := Int.eq_ofNat_of_zero_le hy.1
 unfold U at hlo hy
 refine (div64_nat w a b c (by omega) (by omega) (by omega)).mono fun e w' h => ⟨h.1.trans ?_, h.2⟩
 congr 3
end Go.Proofs.YtmkcpnlbicijoaaGreat
