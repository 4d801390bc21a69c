/- fix's laws. -/
import Derived.Test.YtpfbbpiidhhkbaaFix2
import Derived.Test.YtpfbbpiidhhkbaaRdU
namespace Go.Proofs.Ytpfbbpiidhhkbaa
open Go.RowKit
theorem rdInts_getD {w : World} {A : Option Addr} {len cap : Nat} {xs : List Int} (h : rdSlice (rdInt .u64) 1 w [.slice A len cap] xs) :
    xs.length = len ∧ len ≤ 9223372036854775807 ∧ (len = 0 ∧ xs = [] ∨ ∃ b off, A = some ⟨b, off, none⟩ ∧ ∀ i, i < len → w.cell? ⟨b, off + i, none⟩ = some (.int .u64 (xs.getD i 0)) ∧ U (xs.getD i 0) ∧ xs.take (i + 1) = xs.take i ++ [xs.getD i 0]) := by
  obtain ⟨h1, h2, h3⟩ := rdInts_cell h
  refine ⟨h1, h2, ?_⟩
  rcases h3 with h | ⟨b, off, e, hx⟩
  · exact .inl ⟨by omega, List.eq_nil_of_length_eq_zero (by omega)⟩
  · refine .inr ⟨b, off, e, fun i hi => ?_⟩
    have hg : xs.getD i 0 = xs[i] := by rw [List.getD, List.getElem?_eq_getElem (by omega)]; rfl
    refine ⟨?_, ?_, take_snoc_getD xs i (by omega)⟩
    · rw [hg]; exact (hx i (by omega)).1
    · rw [hg]; exact (hx i (by omega)).2
theorem sless_snoc (a : Int) (l : List Int) (x : Int) : sless a (l ++ [x]) = ssub (sless a l) x := by simp [sless]
theorem U_sless {a : Int} {l : List Int} (ha : U a) (h : ∀ x ∈ l, U x) : U (sless a l) := by
  unfold sless
  induction l generalizing a with
  | nil => exact ha
  | cons x l ih => exact ih (U_ssub ha (h x (by simp))) (fun y hy => h y (by simp [hy]))
theorem ssub_ite (a b : Int) : a - (if b < a then b else a) = ssub a b := by unfold ssub; split <;> split <;> omega
theorem fixSub_c (w : World) (a : Int) (A : Option Addr) (len cap : Nat) (l : List Int) (ha : U a) (hr : rdSlice (rdInt .u64) 1 w [.slice A len cap] l) :
    Calls Try.prog 52 #[.int .u64 a, .slice A len cap] w fun e w' => e = .returned (.int .u64 (sless a l)) ∧ w = w' := by
  have hUl := Lib.hid (rdInts_U hr)
  obtain ⟨h1, h2, h3⟩ := rdInts_getD hr
  replace h1 := Lib.hid h1
  replace ha := Lib.hid ha
  clear hr
  rcases h3 with ⟨rfl, rfl⟩ | ⟨b, off, rfl, hx⟩
  · go_enter Try.func52, Try.ntmps52
    go_wp2
    go_loop [0, 9] (fun n i => n = .int .u64 a ∧ i = .int .i64 0) (fun _ i => 0)
    case atStart => exact ⟨rfl, rfl⟩
    case round =>
      obtain ⟨rfl, rfl⟩ := hrel
      go_wp2
      go_ret
      exact ⟨rfl, rfl⟩
  · replace hx := Lib.hid hx
    go_enter Try.func52, Try.ntmps52
    go_wp2
    go_loop [0, 6, 9] (fun n x i => ∃ k : Nat, k ≤ len ∧ i = .int .i64 k ∧ n = .int .u64 (sless a (l.take k))) (fun _ _ i => len - (intOf i).toNat)
    case atStart => exact ⟨0, Nat.zero_le _, rfl, rfl⟩
    case round =>
      obtain ⟨k, hk, rfl, rfl⟩ := hrel
      by_cases hlt : k < len
      · obtain ⟨hc, hU, HT⟩ := hx.out k hlt
        have hs : U (sless a (l.take k)) := U_sless ha.out (fun x h => hUl.out x (List.mem_of_mem_take h))
        generalize l.getD k 0 = v at *
        have HQ := Lib.hid (sless_snoc a (l.take k) v)
        rw [← HT] at HQ
        generalize sless a (l.take k) = s at *
        clear HT
        unfold U at hU hs
        go_wp2
        go_round
        case rel => exact ⟨k + 1, by omega, by go_num, by rw [HQ.out, ← ssub_ite]⟩
        case measure => simp [intOf]; omega
      · have HE := Lib.hid (show l.take k = l from List.take_of_length_le (by have := h1.out; omega))
        go_wp2
        go_ret
        exact ⟨by rw [HE.out]; rfl, rfl⟩
/-- A sum of whatever numbers, none of them too. -/
theorem fixAddL_c (w : World) (A : Option Addr) (len cap : Nat) (l : List Int) (hr : rdSlice (rdInt .u64) 1 w [.slice A len cap] l) :
    Calls Try.prog 28 #[.slice A len cap] w fun e w' => e = .returned (.int .u64 (ssum l)) ∧ w = w' := by
  have hUl := rdInts_U hr
  obtain ⟨h1, h2, h3⟩ := rdInts_getD hr
  rcases h3 with ⟨rfl, rfl⟩ | ⟨b, off, rfl, hx⟩
  · clear hr hUl h1
    go_enter Try.func28, Try.ntmps28
    go_wp2
    go_loop [3, 9] (fun n i => n = .int .u64 0 ∧ i = .int .i64 0) (fun _ i => 0)
    case atStart => exact ⟨rfl, rfl⟩
    case round =>
      obtain ⟨rfl, rfl⟩ := hrel
      go_wp2
      go_ret
      exact ⟨rfl, rfl⟩
  · exact fixAdd_c w b off len cap l h1 h2 hUl (fun i hi => (hx i hi).1)
theorem rdInts_at {w : World} {b off : Nat} (l : List Int) (hc : ∀ i, i < l.length → w.cell? ⟨b, off + i, none⟩ = some (.int .u64 (l.getD i 0))) (hU : ∀ x ∈ l, U x) (hm : l.length ≤ maxLen) : rdSlice (rdInt .u64) 1 w [.slice (some ⟨b, off, none⟩) l.length l.length] l :=
  rdInts_mk rfl (Nat.le_refl _) hm (fun x hx => wf_of_U (hU x hx)) (fun i hi => by rw [hc i hi, List.getD, List.getElem?_eq_getElem hi]; rfl)
theorem rd_new2 (w : World) (T : TypeId) (x y : Int) (hx : U x) (hy : U y) : rdSlice (rdInt .u64) 1 (w.alloc (.cells #[.int .u64 x, .int .u64 y] T)) [.slice (some ⟨w.heap.size, 0, none⟩) 2 2] [x, y] := by
  refine rdInts_at [x, y] (fun i hi => ?_) (fun z hz => ?_) (by simp [maxLen])
  · rw [Nat.zero_add, cell_new]
    rcases Nat.lt_or_ge i 1 with h | h
    · obtain rfl : i = 0 := by omega
      rfl
    · obtain rfl : i = 1 := by simp at hi; omega
      rfl
  · rcases List.mem_cons.1 hz with rfl | hz
    · exact hx
    · rw [List.mem_singleton.1 hz]; exact hy
theorem rd_new1 (w : World) (T : TypeId) (x : Int) (hx : U x) : rdSlice (rdInt .u64) 1 (w.alloc (.cells #[.int .u64 x] T)) [.slice (some ⟨w.heap.size, 0, none⟩) 1 1] [x] := by
  refine rdInts_at [x] (fun i hi => ?_) (fun z hz => ?_) (by simp [maxLen])
  · rw [Nat.zero_add, cell_new]
    obtain rfl : i = 0 := by simp at hi; omega
    rfl
  · rw [List.mem_singleton.1 hz]; exact hx
end Go.Proofs.Ytpfbbpiidhhkbaa
