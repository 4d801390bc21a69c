/- fix, its reference, and math/bits: each call returns what the plain functions say, and leaves the world as it was. -/
import Derived.Test.YtlhncdbigjgmnaaProg
import Derived.Test.YtlhncdbigjgmnaaBase
import Derived.Test.YtlhncdbigjgmnaaSpec
import Derived.Lib.Mul64
import Derived.Laws.Bits64b
import Derived.Laws.Externs
namespace Go.Proofs.Ytlhncdbigjgmnaa
open Go.RowKit

theorem add64_run (x y : Int) (hx : U x) (hy : U y) (w : World) :
    (callFunc 57 #[.int .u64 x, .int .u64 y, .int .u64 0]).run Try.prog w = .ok (.value (.tuple #[.int .u64 ((x + y) % 18446744073709551616), .int .u64 ((x + y) / 18446744073709551616)])) w := by
  obtain ⟨hx0, hx1⟩ := hx
  obtain ⟨hy0, hy1⟩ := hy
  have h := run_add64 (P := Try.prog) x y 0 (by omega) (by omega) (by omega) (by omega) w
  rw [run_callFunc_extern Try.func57 (by kernel_rfl) (by kernel_rfl) (by kernel_rfl) (e := add64Entry) (by kernel_rfl), h]
  simp only [Result.andThen, Int.add_zero]
theorem add64_small (x y : Int) (hx : U x) (hy : U y) (h : ¬ 18446744073709551615 < x + y) (w : World) :
    (callFunc 57 #[.int .u64 x, .int .u64 y, .int .u64 0]).run Try.prog w = .ok (.value (.tuple #[.int .u64 (x + y), .int .u64 0])) w := by
  rw [add64_run x y hx hy w]
  unfold U at hx hy
  rw [show (x + y) % 18446744073709551616 = x + y from by omega, show (x + y) / 18446744073709551616 = 0 from by omega]
theorem add64_great (x y : Int) (hx : U x) (hy : U y) (h : 18446744073709551615 < x + y) (w : World) :
    (callFunc 57 #[.int .u64 x, .int .u64 y, .int .u64 0]).run Try.prog w = .ok (.value (.tuple #[.int .u64 (x + y - 18446744073709551616), .int .u64 1])) w := by
  rw [add64_run x y hx hy w]
  unfold U at hx hy
  rw [show (x + y) % 18446744073709551616 = x + y - 18446744073709551616 from by omega, show (x + y) / 18446744073709551616 = 1 from by omega]

set_option maxHeartbeats 400000 in
theorem fixAdd_c (w : World) (b off len cap : Nat) (xs : List Int) (hl : xs.length = len) (hm : len ≤ 9223372036854775807) (hr : ∀ x ∈ xs, U x)
    (hx : ∀ i, i < len → w.cell? ⟨b, off + i, none⟩ = some (.int .u64 (xs.getD i 0))) :
    Calls Try.prog 38 #[.slice (some ⟨b, off, none⟩) len cap] w fun e w' => e = .returned (.int .u64 (ssum xs)) ∧ w = w' := by
  go_enter Try.func38, Try.ntmps38
  go_wp2
  go_loop [3, 9] (fun n i => ∃ k : Nat, k ≤ len ∧ i = .int .i64 k ∧ n = .int .u64 (ssum (xs.take k))) (fun _ i => len - (intOf i).toNat)
  case atStart => exact ⟨0, Nat.zero_le _, rfl, rfl⟩
  case round =>
    obtain ⟨k, hk, rfl, rfl⟩ := hrel
    by_cases hlt : k < len
    · have hu := U_ssum (l := xs.take k) (fun x h => hr x (List.mem_of_mem_take h))
      have hv : U (xs.getD k 0) := by
        refine hr _ ?_
        rw [List.getD, List.getElem?_eq_getElem (by omega)]
        exact List.getElem_mem _
      have hc := hx k hlt
      have HT := Lib.hid (take_snoc_getD xs k (by omega))
      have HL := Lib.hid hl
      have HG := Lib.hid (ssum_great hr (show k < xs.length by omega))
      generalize hxk : xs.getD k 0 = v at *
      generalize hsk : ssum (xs.take k) = s at *
      have HS := Lib.hid hsk
      have HX := Lib.hid hxk
      clear hxk hsk hx hr hl
      by_cases hs : 18446744073709551615 < s + v
      · have ha := fun w => add64_great s v hu hv hs w
        unfold U at hu hv
        go_wp2
        go_ret
        exact ⟨by rw [HG.out hs]; rfl, rfl⟩
      · have ha := fun w => add64_small s v hu hv hs w
        unfold U at hu hv
        go_wp2
        go_round
        case rel => exact ⟨k + 1, by omega, by go_num, by rw [HT.out, ssum_snoc, HS.out]; unfold sadd; rw [if_neg hs]⟩
        case measure => simp [intOf]; omega
    · go_wp2
      go_ret
      exact ⟨by rw [List.take_of_length_le (by omega)]; rfl, rfl⟩

theorem fixAdd2_c (w : World) (b : Nat) (x y : Int) (hx : U x) (hy : U y) (h0 : w.cell? ⟨b, 0, none⟩ = some (.int .u64 x)) (h1 : w.cell? ⟨b, 1, none⟩ = some (.int .u64 y)) :
    Calls Try.prog 38 #[.slice (some ⟨b, 0, none⟩) 2 2] w fun e w' => e = .returned (.int .u64 (sadd x y)) ∧ w = w' := by
  rw [← ssum_two hx]
  refine fixAdd_c w b 0 2 2 [x, y] rfl (by omega) (fun z hz => ?_) (fun i hi => ?_)
  · rcases List.mem_cons.1 hz with rfl | hz
    · exact hx
    · rw [List.mem_singleton.1 hz]; exact hy
  · rcases Nat.lt_or_ge i 1 with h | h
    · obtain rfl : i = 0 := by omega
      exact h0
    · obtain rfl : i = 1 := by omega
      exact h1
theorem fixAdd3_c (w : World) (b : Nat) (x y z : Int) (hx : U x) (hy : U y) (hz : U z) (h0 : w.cell? ⟨b, 0, none⟩ = some (.int .u64 x)) (h1 : w.cell? ⟨b, 1, none⟩ = some (.int .u64 y)) (h2 : w.cell? ⟨b, 2, none⟩ = some (.int .u64 z)) :
    Calls Try.prog 38 #[.slice (some ⟨b, 0, none⟩) 3 3] w fun e w' => e = .returned (.int .u64 (sadd (sadd x y) z)) ∧ w = w' := by
  rw [← ssum_three hx]
  refine fixAdd_c w b 0 3 3 [x, y, z] rfl (by omega) (fun q hq => ?_) (fun i hi => ?_)
  · rcases List.mem_cons.1 hq with rfl | hq
    · exact hx
    · rcases List.mem_cons.1 hq with rfl | hq
      · exact hy
      · rw [List.mem_singleton.1 hq]; exact hz
  · rcases Nat.lt_or_ge i 1 with h | h
    · obtain rfl : i = 0 := by omega
      exact h0
    · rcases Nat.lt_or_ge i 2 with h' | h'
      · obtain rfl : i = 1 := by omega
        exact h1
      · obtain rfl : i = 2 := by omega
        exact h2

set_option maxHeartbeats 400000 in
theorem refAdd_c (w : World) (x y : Int) (hx : U x) (hy : U y) :
    Calls Try.prog 63 #[.int .u64 x, .int .u64 y] w fun e w' => e = .returned (.int .u64 (sadd x y)) ∧ w = w' := by
  unfold U at hx hy
  unfold sadd
  by_cases h : 18446744073709551615 - y < x
  · rw [if_pos (by omega)]
    go_enter Try.func63, Try.ntmps63
    go_wp2
    go_ret
    exact ⟨rfl, rfl⟩
  · rw [if_neg (by omega)]
    go_enter Try.func63, Try.ntmps63
    go_wp2
    go_ret
    exact ⟨rfl, rfl⟩



end Go.Proofs.Ytlhncdbigjgmnaa
