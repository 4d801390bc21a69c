/- ring, of pointers to entries: new ones, all items: by mkringl.py out of the numbers. -/
import Derived.Test.YtlhncdbigjgmnaaRingL
namespace Go.Proofs.Ytlhncdbigjgmnaa
open Go.RowKit
def ptrs (l : List Nat) : List Value := l.map fun x => .pointer (some ⟨x, 0, none⟩)
abbrev ownL (v : Value) (l : List Nat) : Asn := slc 75 1 v (ptrs l)
theorem ptrs_one (l : List Nat) : ∀ u ∈ ptrs l, u.oneCell' = true := by
  intro u hu
  obtain ⟨x, _, rfl⟩ := List.mem_map.1 hu
  rfl
theorem ptrs_flat (l : List Nat) : ptrs l = (l.map encL).flatten := by
  induction l with
  | nil => rfl
  | cons x l ih => simp only [ptrs, List.map_cons, List.flatten_cons, encL] at *; rw [ih]; rfl
theorem encL_one (l : List Nat) : ∀ c ∈ l.map encL, ∀ u ∈ c, u.oneCell' = true := by
  intro c hc u hu
  obtain ⟨x, _, rfl⟩ := List.mem_map.1 hc
  simp [encL] at hu
  subst hu; rfl
section
variable (ε w : World) (R : List Asn) (b : Nat)
set_option maxHeartbeats 1600000 in
theorem rlNew_c (l : List Nat) (A : Option Addr) (len cap : Nat) (hl : l.length = len) (hr : ∀ wx, Own ε wx R → srcAt wx A len 1 (ptrs l)) (hm : len ≤ 1000000) (H : Own ε w R) :
    Calls Try.prog 33 #[.slice A len cap] w fun e w' => ∃ b, e = .returned (.pointer (some ⟨b, 0, none⟩)) ∧ Own ε w' (ringL b l :: R) := by
  replace hr := Lib.hid hr
  obtain ⟨M, hM⟩ : ∃ M : Nat, M = max 4 len := ⟨_, rfl⟩
  have hM1 : (if (4 : Int) < (len : Int) then (len : Int) else 4) = (M : Int) := by split <;> omega
  have hM2 : len ≤ M ∧ M ≤ 1000000 := by omega
  replace hM := Lib.hid hM
  have HH := Lib.hid H; clear H
  go_enter Try.func33, Try.ntmps33
  go_wp2_with (first | with_reducible refine stop_bs ?_ | with_reducible refine stop_bx ?_ | with_reducible refine stop_al ?_ | with_reducible refine stop_ms ?_ | with_reducible refine stop_app ?_ | with_reducible refine stop_copy ?_)
  refine Stop.go ?_
  refine wpList_make_slc rfl _ _ _ rfl 75 1 8 Try.underlying89 (by kernel_rfl) (by decide) [.pointer none] (by kernel_rfl) M rfl rfl (by first | exact hM1 | omega) (by first | exact hM1 | omega) (by omega) (by simp only [maxLen]; omega) HH.out ?_
  intro g2 w2 H2
  replace H2 := Lib.hid H2
  clear HH
  go_wp2_with (first | with_reducible refine stop_bs ?_ | with_reducible refine stop_bx ?_ | with_reducible refine stop_al ?_ | with_reducible refine stop_ms ?_ | with_reducible refine stop_app ?_ | with_reducible refine stop_copy ?_)
  refine Stop.go ?_
  go_step
  go_simp
  have H3 := Lib.hid (H2.out.alloc (.cells #[.slice (some ⟨g2, 0, none⟩) M M, .int .i64 0, .int .i64 0] 98))
  generalize w2.alloc (.cells #[.slice (some ⟨g2, 0, none⟩) M M, .int .i64 0, .int .i64 0] 98) = w3 at *
  generalize w2.heap.size = b at *
  have k0 := H3.out.cells.1
  have hsrc := hr.out w3 H3.out.tail.tail
  obtain ⟨Z, hZ⟩ : ∃ Z, Z = (List.replicate M [Value.pointer none]).flatten := ⟨_, rfl⟩
  have hZ1 : Z.length = M := by rw [hZ, flat_len (sz := 1) _ (fun c hc => by rw [(List.mem_replicate.1 hc).2]; rfl), List.length_replicate, Nat.mul_one]
  have hZ2 : Z.drop len = (List.replicate (M - len) [Value.pointer none]).flatten := by
    have := flat_rep (sz := 1) [Value.pointer none] rfl M len
    rw [Nat.mul_one] at this
    rw [hZ, this]
  rw [← hZ] at H3
  replace hZ1 := Lib.hid hZ1
  replace hZ2 := Lib.hid hZ2
  clear hZ
  replace H3 := Lib.hid H3.out.r2
  go_wp2_with (first | with_reducible refine stop_bs ?_ | with_reducible refine stop_bx ?_ | with_reducible refine stop_al ?_ | with_reducible refine stop_ms ?_ | with_reducible refine stop_app ?_ | with_reducible refine stop_copy ?_)
  refine Stop.go ?_
  refine wpList_copy_slc rfl (.tmp 14) (.tmp 15) _ _ rfl 75 1 8 Try.underlying89 (by kernel_rfl) 0 (ptrs l) len (by rfl) (by rfl) (Nat.min_eq_left hM2.1) H3.out (.inr rfl) hsrc (by have := hZ1.out; simp [ptrs, hl]; omega) (ptrs_one l) ?_
  intro w4 H4
  have hnl : (ptrs l).length = len := by simp [ptrs, hl]
  have e4 : List.take 0 Z.toArray.toList ++ ptrs l ++ List.drop (0 + (ptrs l).length) Z.toArray.toList = (l.map encL ++ List.replicate (M - len) [Value.pointer none]).flatten := by
    rw [List.flatten_append, ← hZ2.out, ptrs_flat, ← ptrs_flat, hnl]; simp [ptrs_flat]
  rw [e4] at H4
  replace H4 := Lib.hid H4.r2
  clear k0 hsrc
  have k0 := H4.out.cells
  go_wp2_with fail
  go_ret
  refine ⟨_, rfl, ?_⟩
  have hh := RingOk.new (sz := 1) (l.map encL) (encL_len l) (encL_one l) (by simp [hl]; omega) [.pointer none] rfl (by simp [Value.oneCell'])
  rw [List.length_map, hl, ← hM.out] at hh
  have hflen : (l.map encL ++ List.replicate (M - len) [Value.pointer none]).flatten.length = M * 1 := by
    rw [flat_len (sz := 1) _ hh.wide, hh.len]
  have H5 := ((H4.out.set 2 (.int .i64 len)).r2.slc_mk (xs := (l.map encL ++ List.replicate (M - len) [Value.pointer none]).flatten) (n := M) (cap := M) (Nat.le_refl _) (by simp only [maxLen]; omega) (by simpa using hflen) hflen (List.take_of_length_le (by simpa using Nat.le_of_eq hflen))).r2
  exact Own.ring_mk' (n := len) (by simp [hl]) hh H5
/-- All items, in a row of their own. -/
theorem rlAll_nil : Calls Try.prog 44 #[.pointer none] w fun e w' => e = .returned (.slice none 0 0) ∧ w = w' := by
  go_enter Try.func44, Try.ntmps44
  go_wp2_with fail
  refine (rlLen_nil _).mono ?_
  rintro e w' ⟨rfl, rfl⟩
  go_wp2_with fail
  go_loopw [3, 7] (fun v i wr => wr = w ∧ v = .slice none 0 0 ∧ i = .int .i64 0) (fun _ _ _ => 0)
  case atStart => exact ⟨rfl, rfl, rfl⟩
  case round =>
    obtain ⟨rfl, rfl, rfl⟩ := hrel
    go_wp2_with fail
    go_ret
    exact ⟨rfl, rfl⟩
set_option maxHeartbeats 1600000 in
theorem rlAll_c (l : List Nat) (H : Own ε w (ringL b l :: R)) :
    Calls Try.prog 44 #[.pointer (some ⟨b, 0, none⟩)] w fun e w' => ∃ v, e = .returned v ∧ Own ε w' (ownL v l :: ringL b l :: R) := by
  have HH := Lib.hid H; clear H
  go_enter Try.func44, Try.ntmps44
  go_wp2_with fail
  refine (rlLen_c ε w _ b l HH.out).mono ?_
  rintro e w' ⟨rfl, rfl⟩
  go_wp2_with fail
  go_loopw [3, 7] (fun v i wr => ∃ k : Nat, k ≤ l.length ∧ i = .int .i64 k ∧ Own ε wr (ownL v (l.take k) :: ringL b l :: R)) (fun _ i _ => l.length - (intOf i).toNat)
  case atStart => exact ⟨0, Nat.zero_le _, rfl, HH.out.slc_none⟩
  case round =>
    obtain ⟨k, hk, rfl, HR⟩ := hrel
    replace HR := Lib.hid HR
    by_cases hlt : k < l.length
    · obtain ⟨g, P, cap, f, pl, h, H⟩ := HR.out.r2.ring_open
      rw [List.length_map] at H
      have hfew := h.few
      rw [List.length_map] at hfew
      have hm := h.most
      have hc := rlCell ε wr _ h H.r2 k hlt
      have e1 : l.take (k + 1) = l.take k ++ [l[k]] := List.take_succ_eq_append_getElem hlt
      replace e1 := Lib.hid e1
      generalize l[k] = x at *
      replace H := Lib.hid H
      have hlen : (l.take k).length = k := by simp; omega
      go_wp2_with fail
      refine (rlPlace_c ε wr _ b g P cap f _ k h.flt hm (by omega) H.out).mono ?_
      rintro e w3 ⟨rfl, nd, hnd⟩
      have hc3 : w3.cell? ⟨g, rix P f k, none⟩ = some (.pointer (some ⟨x, 0, none⟩)) := by rw [hnd]; exact hc
      have H3 := Lib.hid (Own.ring_mk' (n := l.length) (List.length_map _) h (H.out.drewN nd)).r2
      rw [← hnd] at H3
      clear hnd hc H
      clear HR
      go_wp2_with (first | with_reducible refine stop_bs ?_ | with_reducible refine stop_bx ?_ | with_reducible refine stop_al ?_ | with_reducible refine stop_ms ?_ | with_reducible refine stop_app ?_ | with_reducible refine stop_copy ?_)
      refine Stop.go ?_
      go_step
      go_simp
      have H4 := Lib.hid (H3.out.alloc (.cells #[.pointer (some ⟨x, 0, none⟩)] 75))
      generalize w3.alloc (.cells #[.pointer (some ⟨x, 0, none⟩)] 75) = w4 at *
      generalize w3.heap.size = sb at *
      have hs : srcAt w4 (some ⟨sb, 0, none⟩) 1 1 [.pointer (some ⟨x, 0, none⟩)] := ⟨rfl, .inr ⟨sb, 0, rfl, fun j u hj => by rw [Nat.zero_add, H4.out.cells.1 j]; simpa using hj⟩⟩
      clear hc3
      go_wp2_with (first | with_reducible refine stop_bs ?_ | with_reducible refine stop_bx ?_ | with_reducible refine stop_al ?_ | with_reducible refine stop_ms ?_ | with_reducible refine stop_app ?_ | with_reducible refine stop_copy ?_)
      refine Stop.go ?_
      refine wpList_append_slc rfl _ _ 89 rfl 75 1 8 Try.underlying89 (by kernel_rfl) (by decide) rfl (H4.out.r2) rfl ((show (ptrs (l.take k)).length = k * 1 by simp [ptrs]; omega)) (hs) ((by intro u hu; simp at hu; subst hu; rfl)) (by simp only [maxLen]; omega) (by omega) ?_
      intro v5 w5 H5
      replace H5 := Lib.hid H5
      go_wp2_with fail
      go_roundw
      case rel =>
        refine ⟨k + 1, by omega, by go_num, ?_⟩
        rw [e1.out]
        have e2 : ptrs (l.take k) ++ [Value.pointer (some ⟨x, 0, none⟩)] = ptrs (l.take k ++ [x]) := by simp [ptrs]
        have H6 := H5.out.r2.tail
        rw [e2] at H6
        exact H6
      case measure => simp [intOf]; omega
    · have hkl : k = l.length := by omega
      subst hkl
      rw [List.take_length] at HR
      go_wp2_with fail
      go_ret
      exact ⟨_, rfl, HR.out⟩
end
end Go.Proofs.Ytlhncdbigjgmnaa
