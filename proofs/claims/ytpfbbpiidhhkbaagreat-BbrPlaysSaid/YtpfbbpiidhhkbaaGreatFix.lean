/- fix, its reference, and math/bits: each call returns what the plain functions say, and leaves the world as it was. -/
import Derived.Test.YtpfbbpiidhhkbaaGreatProg
import Derived.Test.YtpfbbpiidhhkbaaGreatBase
import Derived.Test.YtpfbbpiidhhkbaaGreatRow
import Derived.Lib.Mul64
import Derived.Laws.Bits64b
import Derived.Laws.Externs
namespace Go.Proofs.YtpfbbpiidhhkbaaGreat
open Go.RowKit

theorem add64_run (x y : Int) (hx : U x) (hy : U y) (w : World) :
    (callFunc 67 #[.int .u64 x, .int .u64 y, .int .u64 0]).run Tryz.prog w = .ok (.value (.tuple #[.int .u64 ((x + y) % 18446744073709551616), .int .u64 ((x + y) / 18446744073709551616)])) w := by
  obtain ⟨hx0, hx1⟩ := hx
  obtain ⟨hy0, hy1⟩ := hy
  have h := run_add64 (P := Tryz.prog) x y 0 (by omega) (by omega) (by omega) (by omega) w
  rw [run_callFunc_extern Tryz.func67 (by kernel_rfl) (by kernel_rfl) (by kernel_rfl) (e := add64Entry) (by kernel_rfl), h]
  simp only [Result.andThen, Int.add_zero]
theorem add64_small (x y : Int) (hx : U x) (hy : U y) (h : ¬ 18446744073709551615 < x + y) (w : World) :
    (callFunc 67 #[.int .u64 x, .int .u64 y, .int .u64 0]).run Tryz.prog w = .ok (.value (.tuple #[.int .u64 (x + y), .int .u64 0])) w := by
  rw [add64_run x y hx hy w]
  unfold U at hx hy
  rw [show (x + y) % 18446744073709551616 = x + y from by omega, show (x + y) / 18446744073709551616 = 0 from by omega]
theorem add64_great (x y : Int) (hx : U x) (hy : U y) (h : 18446744073709551615 < x + y) (w : World) :
    (callFunc 67 #[.int .u64 x, .int .u64 y, .int .u64 0]).run Tryz.prog w = .ok (.value (.tuple #[.int .u64 (x + y - 18446744073709551616), .int .u64 1])) w := by
  rw [add64_run x y hx hy w]
  unfold U at hx hy
  rw [show (x + y) % 18446744073709551616 = x + y - 18446744073709551616 from by omega, show (x + y) / 18446744073709551616 = 1 from by omega]

set_option maxHeartbeats 400000 in
theorem fixAdd_c (w : World) (b off len cap : Nat) (xs : List Int) (hl : xs.length = len) (hm : len ≤ 9223372036854775807) (hr : ∀ x ∈ xs, U x)
    (hx : ∀ i, i < len → w.cell? ⟨b, off + i, none⟩ = some (.int .u64 (xs.getD i 0))) :
    Calls Tryz.prog 33 #[.slice (some ⟨b, off, none⟩) len cap] w fun e w' => e = .returned (.int .u64 (ssum xs)) ∧ w = w' := by
  go_enter Tryz.func33, Tryz.ntmps33
  go_wp2
  go_loop [3, 9] (fun n i => ∃ k : Nat, k ≤ len ∧ i = .int .i64 k ∧ n = .int .u64 (ssum (xs.take k))) (fun _ i => len - (intOf i).toNat)
  case atStart => exact ⟨0, Nat.zero_le _, rfl, rfl⟩
  case round =>
    obtain ⟨k, hk, rfl, rfl⟩ := hrel
    by_cases hlt : k < len
    · have hu := U_ssum (l := xs.take k) (fun x h => hr x (List.mem_of_mem_take h))
      have hv : U (xs.getD k 0) := by
        refine hr _ ?_
        rw [List.getD, List.getElem?_eq_getElem (by omega)]
        exact List.getElem_mem _
      have hc := hx k hlt
      have HT := Lib.hid (take_snoc_getD xs k (by omega))
      have HL := Lib.hid hl
      have HG := Lib.hid (ssum_great hr (show k < xs.length by omega))
      generalize hxk : xs.getD k 0 = v at *
      generalize hsk : ssum (xs.take k) = s at *
      have HS := Lib.hid hsk
      have HX := Lib.hid hxk
      clear hxk hsk hx hr hl
      by_cases hs : 18446744073709551615 < s + v
      · have ha := fun w => add64_great s v hu hv hs w
        unfold U at hu hv
        go_wp2
        go_ret
        exact ⟨by rw [HG.out hs]; rfl, rfl⟩
      · have ha := fun w => add64_small s v hu hv hs w
        unfold U at hu hv
        go_wp2
        go_round
        case rel => exact ⟨k + 1, by omega, by go_num, by rw [HT.out, ssum_snoc, HS.out]; unfold sadd; rw [if_neg hs]⟩
        case measure => simp [intOf]; omega
    · go_wp2
      go_ret
      exact ⟨by rw [List.take_of_length_le (by omega)]; rfl, rfl⟩

theorem fixAdd2_c (w : World) (b : Nat) (x y : Int) (hx : U x) (hy : U y) (h0 : w.cell? ⟨b, 0, none⟩ = some (.int .u64 x)) (h1 : w.cell? ⟨b, 1, none⟩ = some (.int .u64 y)) :
    Calls Tryz.prog 33 #[.slice (some ⟨b, 0, none⟩) 2 2] w fun e w' => e = .returned (.int .u64 (sadd x y)) ∧ w = w' := by
  rw [← ssum_two hx]
  refine fixAdd_c w b 0 2 2 [x, y] rfl (by omega) (fun z hz => ?_) (fun i hi => ?_)
  · rcases List.mem_cons.1 hz with rfl | hz
    · exact hx
    · rw [List.mem_singleton.1 hz]; exact hy
  · rcases Nat.lt_or_ge i 1 with h | h
    · obtain rfl : i = 0 := by omega
      exact h0
    · obtain rfl : i = 1 := by omega
      exact h1
set_option maxHeartbeats 400000 in
theorem refAdd_c (w : World) (x y : Int) (hx : U x) (hy : U y) :
    Calls Tryz.prog 89 #[.int .u64 x, .int .u64 y] w fun e w' => e = .returned (.int .u64 (sadd x y)) ∧ w = w' := by
  unfold U at hx hy
  unfold sadd
  by_cases h : 18446744073709551615 - y < x
  · rw [if_pos (by omega)]
    go_enter Tryz.func89, Tryz.ntmps89
    go_wp2
    go_ret
    exact ⟨rfl, rfl⟩
  · rw [if_neg (by omega)]
    go_enter Tryz.func89, Tryz.ntmps89
    go_wp2
    go_ret
    exact ⟨rfl, rfl⟩

namespace M64
theorem maskN (a : Nat) (ha : a < 18446744073709551616) : bits .and .u64 (a : Int) 4294967295 = ((a % 4294967296 : Nat) : Int) := by
  have h := bits_and_u64_nat a 4294967295 ha (by omega)
  have e : a &&& 4294967295 = a % 4294967296 := Nat.and_two_pow_sub_one_eq_mod a 32
  rw [e] at h
  exact h
theorem divN (a : Nat) : (a : Int) / 4294967296 = ((a / 4294967296 : Nat) : Int) := by omega
theorem tdivN (a : Nat) : (a : Int).tdiv 4294967296 = ((a / 4294967296 : Nat) : Int) := by rw [Int.tdiv_eq_ediv_of_nonneg (by omega)]; omega
theorem tmodN (a : Nat) : (a : Int).tmod 4294967296 = ((a % 4294967296 : Nat) : Int) := by rw [Int.tmod_eq_emod_of_nonneg (by omega)]; omega
theorem mulK (a : Nat) : (a : Int) * 4294967296 = ((a * 4294967296 : Nat) : Int) := by simp
theorem modN (a : Nat) : (a : Int) % 4294967296 = ((a % 4294967296 : Nat) : Int) := by omega
theorem mulN (a b : Nat) : (a : Int) * (b : Int) = ((a * b : Nat) : Int) := (Int.natCast_mul a b).symm
theorem addN (a b : Nat) : (a : Int) + (b : Int) = ((a + b : Nat) : Int) := (Int.natCast_add a b).symm
theorem wrapN (a : Nat) (ha : a < 18446744073709551616) : IntKind.u64.wrap (a : Int) = (a : Int) := by rw [IntKind.wrap_u64]; omega
theorem wrapM (a : Nat) : IntKind.u64.wrap (a : Int) = ((a % 18446744073709551616 : Nat) : Int) := by rw [IntKind.wrap_u64]; omega
theorem up (q r : Nat) (hq : q < 4294967296) (hr : r < 4294967296) : q * 4294967296 < 18446744073709551616 ∧ q * 4294967296 + r < 18446744073709551616 := by omega
end M64
set_option maxHeartbeats 1000000 in
theorem mul64_nat (x y : Nat) (hx : x < 18446744073709551616) (hy : y < 18446744073709551616) (w : World) :
    Calls Tryz.prog 110 #[.int .u64 x, .int .u64 y] w fun e w' => e = .returned (.tuple #[.int .u64 ((x * y / 18446744073709551616 : Nat) : Int), .int .u64 ((x * y % 18446744073709551616 : Nat) : Int)]) ∧ w = w' := by
  obtain ⟨bd, bt, bw, hhi⟩ := Lib.mul64_hi x y hx hy
  have ba := Lib.half_mul_le (a := x / 4294967296) (b := y / 4294967296) (by omega) (by omega)
  have bb := Lib.half_mul_le (a := x / 4294967296) (b := y % 4294967296) (by omega) (by omega)
  have bc := Lib.half_mul_le (a := x % 4294967296) (b := y / 4294967296) (by omega) (by omega)
  have ba' : x / 4294967296 * (y / 4294967296) < 18446744073709551616 := by omega
  have bb' : x / 4294967296 * (y % 4294967296) < 18446744073709551616 := by omega
  have bc' : x % 4294967296 * (y / 4294967296) < 18446744073709551616 := by omega
  have bh1 : x / 4294967296 * (y / 4294967296) + (x / 4294967296 * (y % 4294967296) + x % 4294967296 * (y % 4294967296) / 4294967296) / 4294967296 < 18446744073709551616 := by omega
  have bh : x / 4294967296 * (y / 4294967296) + (x / 4294967296 * (y % 4294967296) + x % 4294967296 * (y % 4294967296) / 4294967296) / 4294967296 + ((x / 4294967296 * (y % 4294967296) + x % 4294967296 * (y % 4294967296) / 4294967296) % 4294967296 + x % 4294967296 * (y / 4294967296)) / 4294967296 < 18446744073709551616 := by omega
  go_enter Tryz.func110, Tryz.ntmps110
  go_wp2
  simp only [M64.maskN x hx, M64.maskN y hy, M64.divN, M64.mulN, M64.addN, M64.wrapN _ bd, M64.wrapN _ bb', M64.wrapN _ bt, M64.maskN _ bt, M64.wrapN _ bc', M64.wrapN _ bw, M64.wrapN _ ba', M64.wrapN _ bh1, M64.wrapN _ bh, M64.wrapM]
  rw [hhi]
  go_ret2
  exact ⟨rfl, rfl⟩
def hi64 (x y : Int) : Int := x * y / 18446744073709551616
def lo64 (x y : Int) : Int := x * y % 18446744073709551616
theorem mul64_c (w : World) (x y : Int) (hx : U x) (hy : U y) :
    Calls Tryz.prog 110 #[.int .u64 x, .int .u64 y] w fun e w' => e = .returned (.tuple #[.int .u64 (hi64 x y), .int .u64 (lo64 x y)]) ∧ w = w' := by
  obtain ⟨a, rfl⟩ := Int.eq_ofNat_of_zero_le hx.1
  obtain ⟨b, rfl⟩ := Int.eq_ofNat_of_zero_le hy.1
  unfold U at hx hy
  refine (mul64_nat a b (by omega) (by omega) w).mono fun e w' h => ⟨h.1.trans ?_, h.2⟩
  unfold hi64 lo64
  congr 3
theorem hi64_pos {x y : Int} (hx : U x) (hy : U y) : 0 < hi64 x y ↔ 18446744073709551615 < x * y := by
  have := Int.mul_nonneg hx.1 hy.1
  unfold hi64; omega
theorem U_hi64 {x y : Int} (hx : U x) (hy : U y) : U (hi64 x y) := by
  have h0 := Int.mul_nonneg hx.1 hy.1
  have h1 : x * y ≤ 18446744073709551615 * 18446744073709551615 := Int.mul_le_mul hx.2 hy.2 hy.1 (by omega)
  unfold U hi64; omega
theorem U_lo64 (x y : Int) : U (lo64 x y) := by unfold U lo64; omega
theorem lo64_small {x y : Int} (hx : U x) (hy : U y) (h : ¬ 0 < hi64 x y) : lo64 x y = x * y := by
  have h0 := Int.mul_nonneg hx.1 hy.1
  unfold hi64 at h; unfold lo64; omega

set_option maxHeartbeats 400000 in
theorem fixMul_c (w : World) (x y : Int) (hx : U x) (hy : U y) :
    Calls Tryz.prog 59 #[.int .u64 x, .int .u64 y] w fun e w' => e = .returned (.int .u64 (smul x y)) ∧ w = w' := by
  have hp := hi64_pos hx hy
  by_cases h : 0 < hi64 x y
  · have e : smul x y = 18446744073709551615 := by unfold smul; rw [if_pos (hp.1 h)]
    rw [e]
    clear hp e
    go_enter Tryz.func59, Tryz.ntmps59
    go_wp2_with (go_at_call 110; refine (mul64_c _ x y hx hy).mono ?_; rintro e w' ⟨rfl, rfl⟩)
    go_ret
    exact ⟨rfl, rfl⟩
  · have e : smul x y = lo64 x y := by unfold smul; rw [if_neg (fun q => h (hp.2 q)), lo64_small hx hy h]
    rw [e]
    clear hp e
    go_enter Tryz.func59, Tryz.ntmps59
    go_wp2_with (go_at_call 110; refine (mul64_c _ x y hx hy).mono ?_; rintro e w' ⟨rfl, rfl⟩)
    go_ret
    exact ⟨rfl, rfl⟩
theorem product_lo (x y : Nat) :
    (((x / 4294967296) * (y % 4294967296) + (x % 4294967296) * (y % 4294967296) / 4294967296) % 4294967296 + (x % 4294967296) * (y / 4294967296)) % 4294967296 * 4294967296 + (x % 4294967296) * (y % 4294967296) % 4294967296 = x * y % 18446744073709551616 := by
  have e : x * y = (x / 4294967296) * (y / 4294967296) * (4294967296 * 4294967296) + ((x / 4294967296) * (y % 4294967296) + (x % 4294967296) * (y / 4294967296)) * 4294967296 + (x % 4294967296) * (y % 4294967296) := by
    rw [← Lib.split_mul, Nat.div_add_mod' x 4294967296, Nat.div_add_mod' y 4294967296]
  rw [e]
  generalize (x / 4294967296) * (y / 4294967296) = a at *
  generalize (x / 4294967296) * (y % 4294967296) = b at *
  generalize (x % 4294967296) * (y / 4294967296) = c at *
  generalize (x % 4294967296) * (y % 4294967296) = d at *
  omega
set_option maxHeartbeats 1000000 in
theorem product_nat (x y : Nat) (hx : x < 18446744073709551616) (hy : y < 18446744073709551616) (w : World) :
    Calls Tryz.prog 114 #[.int .u64 x, .int .u64 y] w fun e w' => e = .returned (.tuple #[.int .u64 ((x * y / 18446744073709551616 : Nat) : Int), .int .u64 ((x * y % 18446744073709551616 : Nat) : Int)]) ∧ w = w' := by
  obtain ⟨bd, bt, bw, hhi⟩ := Lib.mul64_hi x y hx hy
  have hlo := product_lo x y
  have ba := Lib.half_mul_le (a := x / 4294967296) (b := y / 4294967296) (by omega) (by omega)
  have bb := Lib.half_mul_le (a := x / 4294967296) (b := y % 4294967296) (by omega) (by omega)
  have bc := Lib.half_mul_le (a := x % 4294967296) (b := y / 4294967296) (by omega) (by omega)
  have ba' : x / 4294967296 * (y / 4294967296) < 18446744073709551616 := by omega
  have bb' : x / 4294967296 * (y % 4294967296) < 18446744073709551616 := by omega
  have bc' : x % 4294967296 * (y / 4294967296) < 18446744073709551616 := by omega
  have bh1 : x / 4294967296 * (y / 4294967296) + (x / 4294967296 * (y % 4294967296) + x % 4294967296 * (y % 4294967296) / 4294967296) / 4294967296 < 18446744073709551616 := by omega
  have bw2 : x % 4294967296 * (y / 4294967296) + (x / 4294967296 * (y % 4294967296) + x % 4294967296 * (y % 4294967296) / 4294967296) % 4294967296 < 18446744073709551616 := by omega
  have bh : x / 4294967296 * (y / 4294967296) + (x / 4294967296 * (y % 4294967296) + x % 4294967296 * (y % 4294967296) / 4294967296) / 4294967296 + (x % 4294967296 * (y / 4294967296) + (x / 4294967296 * (y % 4294967296) + x % 4294967296 * (y % 4294967296) / 4294967296) % 4294967296) / 4294967296 < 18446744073709551616 := by omega
  have bl1 : (x % 4294967296 * (y / 4294967296) + (x / 4294967296 * (y % 4294967296) + x % 4294967296 * (y % 4294967296) / 4294967296) % 4294967296) % 4294967296 * 4294967296 < 18446744073709551616 := (M64.up _ 0 (Nat.mod_lt _ (by omega)) (by omega)).1
  have bl2 : (x % 4294967296 * (y / 4294967296) + (x / 4294967296 * (y % 4294967296) + x % 4294967296 * (y % 4294967296) / 4294967296) % 4294967296) % 4294967296 * 4294967296 + x % 4294967296 * (y % 4294967296) % 4294967296 < 18446744073709551616 := (M64.up _ _ (Nat.mod_lt _ (by omega)) (Nat.mod_lt _ (by omega))).2
  go_enter Tryz.func114, Tryz.ntmps114
  go_wp2
  have bd2 : x % 4294967296 * (y % 4294967296) / 4294967296 < 18446744073709551616 := by omega
  have bd3 : (x / 4294967296 * (y % 4294967296) + x % 4294967296 * (y % 4294967296) / 4294967296) / 4294967296 < 18446744073709551616 := by omega
  have bd4 : (x % 4294967296 * (y / 4294967296) + (x / 4294967296 * (y % 4294967296) + x % 4294967296 * (y % 4294967296) / 4294967296) % 4294967296) / 4294967296 < 18446744073709551616 := by omega
  simp only [M64.divN, M64.modN, M64.tdivN, M64.tmodN, M64.mulN, M64.mulK, M64.addN, M64.wrapN _ bd2, M64.wrapN _ bd3, M64.wrapN _ bd4, M64.wrapN _ bd, M64.wrapN _ bb', M64.wrapN _ bt, M64.wrapN _ bc', M64.wrapN _ bw2, M64.wrapN _ ba', M64.wrapN _ bh1, M64.wrapN _ bh, M64.wrapN _ bl1, M64.wrapN _ bl2]
  rw [Nat.add_comm (x % 4294967296 * (y / 4294967296)), hhi, hlo]
  go_ret2
  exact ⟨rfl, rfl⟩
theorem product_c (w : World) (x y : Int) (hx : U x) (hy : U y) :
    Calls Tryz.prog 114 #[.int .u64 x, .int .u64 y] w fun e w' => e = .returned (.tuple #[.int .u64 (hi64 x y), .int .u64 (lo64 x y)]) ∧ w = w' := by
  obtain ⟨a, rfl⟩ := Int.eq_ofNat_of_zero_le hx.1
  obtain ⟨b, rfl⟩ := Int.eq_ofNat_of_zero_le hy.1
  unfold U at hx hy
  refine (product_nat a b (by omega) (by omega) w).mono fun e w' h => ⟨h.1.trans ?_, h.2⟩
  unfold hi64 lo64
  congr 3

set_option maxHeartbeats 400000 in
theorem refMul_c (w : World) (x y : Int) (hx : U x) (hy : U y) :
    Calls Tryz.prog 95 #[.int .u64 x, .int .u64 y] w fun e w' => e = .returned (.int .u64 (smul x y)) ∧ w = w' := by
  have hp := hi64_pos hx hy
  by_cases h : 0 < hi64 x y
  · have e : smul x y = 18446744073709551615 := by unfold smul; rw [if_pos (hp.1 h)]
    rw [e]
    clear hp e
    go_enter Tryz.func95, Tryz.ntmps95
    go_wp2_with (go_at_call 114; refine (product_c _ x y hx hy).mono ?_; rintro e w' ⟨rfl, rfl⟩)
    go_ret
    exact ⟨rfl, rfl⟩
  · have e : smul x y = lo64 x y := by unfold smul; rw [if_neg (fun q => h (hp.2 q)), lo64_small hx hy h]
    rw [e]
    clear hp e
    go_enter Tryz.func95, Tryz.ntmps95
    go_wp2_with (go_at_call 114; refine (product_c _ x y hx hy).mono ?_; rintro e w' ⟨rfl, rfl⟩)
    go_ret
    exact ⟨rfl, rfl⟩
end Go.Proofs.YtpfbbpiidhhkbaaGreat
