/- ring, of numbers: new ones, all items, clones. -/
import Derived.Test.YtfcappjodichlaaRingU
namespace Go.Proofs.Ytfcappjodichlaa
open Go.RowKit
theorem nums_flat (l : List Int) : nums l = (l.map encU).flatten := by
  induction l with
  | nil => rfl
  | cons x l ih => simp only [nums, List.map_cons, List.flatten_cons, encU] at *; rw [ih]; rfl
theorem encU_one (l : List Int) : ∀ c ∈ l.map encU, ∀ u ∈ c, u.oneCell' = true := by
  intro c hc u hu
  obtain ⟨x, _, rfl⟩ := List.mem_map.1 hc
  simp [encU] at hu
  subst hu; rfl
section
variable (ε w : World) (R : List Asn) (b : Nat)
set_option maxHeartbeats 1600000 in
theorem ruNew_c (l : List Int) (A : Option Addr) (len cap : Nat) (hr : ∀ wx, Own ε wx R → rdSlice (rdInt .u64) 1 wx [.slice A len cap] l) (hm : len ≤ 1000000) (H : Own ε w R) :
    Calls Try.prog 37 #[.slice A len cap] w fun e w' => ∃ b, e = .returned (.pointer (some ⟨b, 0, none⟩)) ∧ Own ε w' (ringU b l :: R) := by
  have hl := (rdInts_cell (hr w H)).1
  replace hr := Lib.hid hr
  obtain ⟨M, hM⟩ : ∃ M : Nat, M = max 4 len := ⟨_, rfl⟩
  have hM1 : (if (4 : Int) < (len : Int) then (len : Int) else 4) = (M : Int) := by split <;> omega
  have hM2 : len ≤ M ∧ M ≤ 1000000 := by omega
  replace hM := Lib.hid hM
  have HH := Lib.hid H; clear H
  go_enter Try.func37, Try.ntmps37
  go_wp2_with (first | with_reducible refine stop_bs ?_ | with_reducible refine stop_bx ?_ | with_reducible refine stop_al ?_ | with_reducible refine stop_ms ?_ | with_reducible refine stop_app ?_ | with_reducible refine stop_copy ?_)
  refine Stop.go ?_
  refine wpList_make_slc rfl _ _ _ rfl 31 1 8 Try.underlying28 (by kernel_rfl) (by decide) [.int .u64 0] (by kernel_rfl) M rfl rfl (by first | exact hM1 | omega) (by first | exact hM1 | omega) (by omega) (by simp only [maxLen]; omega) HH.out ?_
  intro g2 w2 H2
  replace H2 := Lib.hid H2
  clear HH
  go_wp2_with (first | with_reducible refine stop_bs ?_ | with_reducible refine stop_bx ?_ | with_reducible refine stop_al ?_ | with_reducible refine stop_ms ?_ | with_reducible refine stop_app ?_ | with_reducible refine stop_copy ?_)
  refine Stop.go ?_
  go_step
  go_simp
  have H3 := Lib.hid (H2.out.alloc (.cells #[.slice (some ⟨g2, 0, none⟩) M M, .int .i64 0, .int .i64 0] 127))
  generalize w2.alloc (.cells #[.slice (some ⟨g2, 0, none⟩) M M, .int .i64 0, .int .i64 0] 127) = w3 at *
  generalize w2.heap.size = b at *
  have k0 := H3.out.cells.1
  have hrx := hr.out w3 H3.out.tail.tail
  have hU := rdInts_U hrx
  have hsrc := srcAt_rd hrx
  replace hrx := Lib.hid hrx
  replace hU := Lib.hid hU
  obtain ⟨Z, hZ⟩ : ∃ Z, Z = (List.replicate M [Value.int .u64 0]).flatten := ⟨_, rfl⟩
  have hZ1 : Z.length = M := by rw [hZ, flat_len (sz := 1) _ (fun c hc => by rw [(List.mem_replicate.1 hc).2]; rfl), List.length_replicate, Nat.mul_one]
  have hZ2 : Z.drop len = (List.replicate (M - len) [Value.int .u64 0]).flatten := by
    have := flat_rep (sz := 1) [Value.int .u64 0] rfl M len
    rw [Nat.mul_one] at this
    rw [hZ, this]
  rw [← hZ] at H3
  replace hZ1 := Lib.hid hZ1
  replace hZ2 := Lib.hid hZ2
  clear hZ
  replace H3 := Lib.hid H3.out.r2
  go_wp2_with (first | with_reducible refine stop_bs ?_ | with_reducible refine stop_bx ?_ | with_reducible refine stop_al ?_ | with_reducible refine stop_ms ?_ | with_reducible refine stop_app ?_ | with_reducible refine stop_copy ?_)
  refine Stop.go ?_
  refine wpList_copy_slc rfl (.tmp 14) (.tmp 15) _ _ rfl 31 1 8 Try.underlying28 (by kernel_rfl) 0 (nums l) len (by rfl) (by rfl) (Nat.min_eq_left hM2.1) H3.out (.inr rfl) hsrc (by have := hZ1.out; simp [nums, hl]; omega) (nums_one l) ?_
  intro w4 H4
  have hnl : (nums l).length = len := by simp [nums, hl]
  have e4 : List.take 0 Z.toArray.toList ++ nums l ++ List.drop (0 + (nums l).length) Z.toArray.toList = (l.map encU ++ List.replicate (M - len) [Value.int .u64 0]).flatten := by
    rw [List.flatten_append, ← hZ2.out, nums_flat, ← nums_flat, hnl]; simp [nums_flat]
  rw [e4] at H4
  replace H4 := Lib.hid H4.r2
  clear k0 hsrc
  have k0 := H4.out.cells
  go_wp2_with fail
  go_ret
  refine ⟨_, rfl, ?_⟩
  have hh := RingOk.new (sz := 1) (l.map encU) (encU_len l) (encU_one l) (by simp [hl]; omega) [.int .u64 0] rfl (by simp [Value.oneCell'])
  rw [List.length_map, hl, ← hM.out] at hh
  have hflen : (l.map encU ++ List.replicate (M - len) [Value.int .u64 0]).flatten.length = M * 1 := by
    rw [flat_len (sz := 1) _ hh.wide, hh.len]
  have H5 := ((H4.out.set 2 (.int .i64 len)).r2.slc_mk (xs := (l.map encU ++ List.replicate (M - len) [Value.int .u64 0]).flatten) (n := M) (cap := M) (Nat.le_refl _) (by simp only [maxLen]; omega) (by simpa using hflen) hflen (List.take_of_length_le (by simpa using Nat.le_of_eq hflen))).r2
  exact Own.ring_mk' (n := len) (by simp [hl]) hh H5
/-- All items, in a row of their own. -/
theorem ruAll_nil : Calls Try.prog 39 #[.pointer none] w fun e w' => e = .returned (.slice none 0 0) ∧ w = w' := by
  go_enter Try.func39, Try.ntmps39
  go_wp2_with fail
  refine (ruLen_nil _).mono ?_
  rintro e w' ⟨rfl, rfl⟩
  go_wp2_with fail
  go_loopw [3, 7] (fun v i wr => wr = w ∧ v = .slice none 0 0 ∧ i = .int .i64 0) (fun _ _ _ => 0)
  case atStart => exact ⟨rfl, rfl, rfl⟩
  case round =>
    obtain ⟨rfl, rfl, rfl⟩ := hrel
    go_wp2_with fail
    go_ret
    exact ⟨rfl, rfl⟩
set_option maxHeartbeats 1600000 in
theorem ruAll_c (l : List Int) (H : Own ε w (ringU b l :: R)) :
    Calls Try.prog 39 #[.pointer (some ⟨b, 0, none⟩)] w fun e w' => ∃ v, e = .returned v ∧ Own ε w' (own64 v l :: ringU b l :: R) := by
  have HH := Lib.hid H; clear H
  go_enter Try.func39, Try.ntmps39
  go_wp2_with fail
  refine (ruLen_c ε w _ b l HH.out).mono ?_
  rintro e w' ⟨rfl, rfl⟩
  go_wp2_with fail
  go_loopw [3, 7] (fun v i wr => ∃ k : Nat, k ≤ l.length ∧ i = .int .i64 k ∧ Own ε wr (own64 v (l.take k) :: ringU b l :: R)) (fun _ i _ => l.length - (intOf i).toNat)
  case atStart => exact ⟨0, Nat.zero_le _, rfl, HH.out.slc_none⟩
  case round =>
    obtain ⟨k, hk, rfl, HR⟩ := hrel
    replace HR := Lib.hid HR
    by_cases hlt : k < l.length
    · obtain ⟨g, P, cap, f, pl, h, H⟩ := HR.out.r2.ring_open
      rw [List.length_map] at H
      have hfew := h.few
      rw [List.length_map] at hfew
      have hm := h.most
      have hc := ruCell ε wr _ h H.r2 k hlt
      have e1 : l.take (k + 1) = l.take k ++ [l[k]] := List.take_succ_eq_append_getElem hlt
      replace e1 := Lib.hid e1
      generalize l[k] = x at *
      replace H := Lib.hid H
      have hlen : (l.take k).length = k := by simp; omega
      go_wp2_with fail
      refine (ruPlace_c ε wr _ b g P cap f _ k h.flt hm (by omega) H.out).mono ?_
      rintro e w3 ⟨rfl, nd, hnd⟩
      have hc3 : w3.cell? ⟨g, rix P f k, none⟩ = some (.int .u64 x) := by rw [hnd]; exact hc
      have H3 := Lib.hid (Own.ring_mk' (n := l.length) (List.length_map _) h (H.out.drewN nd)).r2
      rw [← hnd] at H3
      clear hnd hc H
      clear HR
      go_wp2_with (first | with_reducible refine stop_bs ?_ | with_reducible refine stop_bx ?_ | with_reducible refine stop_al ?_ | with_reducible refine stop_ms ?_ | with_reducible refine stop_app ?_ | with_reducible refine stop_copy ?_)
      refine Stop.go ?_
      go_step
      go_simp
      have H4 := Lib.hid (H3.out.alloc (.cells #[.int .u64 x] 31))
      generalize w3.alloc (.cells #[.int .u64 x] 31) = w4 at *
      generalize w3.heap.size = sb at *
      have hs : srcAt w4 (some ⟨sb, 0, none⟩) 1 1 [.int .u64 x] := ⟨rfl, .inr ⟨sb, 0, rfl, fun j u hj => by rw [Nat.zero_add, H4.out.cells.1 j]; simpa using hj⟩⟩
      clear hc3
      go_wp2_with (first | with_reducible refine stop_bs ?_ | with_reducible refine stop_bx ?_ | with_reducible refine stop_al ?_ | with_reducible refine stop_ms ?_ | with_reducible refine stop_app ?_ | with_reducible refine stop_copy ?_)
      refine Stop.go ?_
      refine wpList_append_slc rfl _ _ 28 rfl 31 1 8 Try.underlying28 (by kernel_rfl) (by decide) rfl (H4.out.r2) rfl ((show (nums (l.take k)).length = k * 1 by simp [nums]; omega)) (hs) ((by intro u hu; simp at hu; subst hu; rfl)) (by simp only [maxLen]; omega) (by omega) ?_
      intro v5 w5 H5
      replace H5 := Lib.hid H5
      go_wp2_with fail
      go_roundw
      case rel =>
        refine ⟨k + 1, by omega, by go_num, ?_⟩
        rw [e1.out]
        have e2 : nums (l.take k) ++ [Value.int .u64 x] = nums (l.take k ++ [x]) := by simp [nums]
        have H6 := H5.out.r2.tail
        rw [e2] at H6
        exact H6
      case measure => simp [intOf]; omega
    · have hkl : k = l.length := by omega
      subst hkl
      rw [List.take_length] at HR
      go_wp2_with fail
      go_ret
      exact ⟨_, rfl, HR.out⟩
theorem ruClone_nil : Calls Try.prog 51 #[.pointer none] w fun e w' => e = .returned (.pointer none) ∧ w = w' := by
  go_enter Try.func51, Try.ntmps51
  go_wp2_with fail
  go_ret
  exact ⟨rfl, rfl⟩
/-- slices.Clone of a row that is there. -/
theorem slicesCloneU_c (A : Addr) (n cap : Nat) (cs : List Value) (hs : ∀ wx, Own ε wx R → srcAt wx (some A) n 1 cs) (h1 : ∀ u ∈ cs, u.oneCell' = true) (hm : n ≤ 4000000) (H : Own ε w R) :
    Calls Try.prog 85 #[.slice (some A) n cap] w fun e w' => ∃ v, e = .returned v ∧ Own ε w' (slc 31 1 v cs :: R) := by
  have HH := Lib.hid H; clear H
  replace hs := Lib.hid hs
  go_enter Try.func85, Try.ntmps85
  go_wp2_with (first | with_reducible refine stop_bs ?_ | with_reducible refine stop_bx ?_ | with_reducible refine stop_al ?_ | with_reducible refine stop_ms ?_ | with_reducible refine stop_app ?_ | with_reducible refine stop_copy ?_)
  refine Stop.go ?_
  go_step
  go_simp
  have H2 := Lib.hid (HH.out.alloc (.cells #[] 31))
  generalize w.alloc (.cells #[] 31) = w2 at *
  generalize w.heap.size = sb at *
  have HS := Lib.hid (H2.out.slc_all (sz := 1) (n := 0) (by decide) rfl)
  go_wp2_with (first | with_reducible refine stop_bs ?_ | with_reducible refine stop_bx ?_ | with_reducible refine stop_al ?_ | with_reducible refine stop_ms ?_ | with_reducible refine stop_app ?_ | with_reducible refine stop_copy ?_)
  refine Stop.go ?_
  refine wpList_append_slc rfl _ _ 28 rfl 31 1 8 Try.underlying28 (by kernel_rfl) (by decide) rfl (HS.out) rfl ((show ([] : List Value).length = 0 * 1 from rfl)) ((hs.out w2 H2.out.tail)) (h1) (by simp only [maxLen]; omega) (by omega) ?_
  intro v3 w3 H3
  replace H3 := Lib.hid H3
  go_wp2_with fail
  go_ret
  exact ⟨_, rfl, H3.out⟩
set_option maxHeartbeats 1600000 in
theorem ruClone_c (l : List Int) (H : Own ε w (ringU b l :: R)) :
    Calls Try.prog 51 #[.pointer (some ⟨b, 0, none⟩)] w fun e w' => ∃ c, e = .returned (.pointer (some ⟨c, 0, none⟩)) ∧ Own ε w' (ringU c l :: ringU b l :: R) := by
  obtain ⟨g, P, cap, f, pl, h, H⟩ := H.ring_open
  rw [List.length_map] at H
  have HH := Lib.hid H; clear H
  have hm := h.most
  have h4 := h.four
  have hlen : pl.flatten.length = P := by rw [flat_len (sz := 1) _ h.wide, h.len, Nat.mul_one]
  have hone := Lib.hid (flat_one h.one)
  go_enter Try.func51, Try.ntmps51
  go_wp2_with fail
  refine wp_region_mix (fun w' => w'.cell? ⟨b, 0, none⟩ = some (.slice (some ⟨g, 0, none⟩) P cap) ∧ w'.cell? ⟨b, 1, none⟩ = some (.int .i64 f) ∧ w'.cell? ⟨b, 2, none⟩ = some (.int .i64 l.length)) none (by kernel_rfl) ?_
  change wpMix _ _ _ _ _ _ _ _ _ w.drew
  replace HH := Lib.hid HH.out.drew
  generalize w.drew = w2 at *
  obtain ⟨c0, f0⟩ := HH.out.cells
  have HS : (fun w' : World => w'.cell? ⟨b, 0, none⟩ = some (.slice (some ⟨g, 0, none⟩) P cap) ∧ w'.cell? ⟨b, 1, none⟩ = some (.int .i64 f) ∧ w'.cell? ⟨b, 2, none⟩ = some (.int .i64 l.length)) w2 := ⟨c0 0, c0 1, c0 2⟩
  refine mix_q (i := 0) rfl (by kernel_rfl) (fun _ _ _ _ h => h) HS (fun K hK => ?_)
  go_simp
  first | (refine hK _ ?_; clear hK K) | (apply Exists.intro; refine ⟨?_, hK _ ?_⟩; (focus (intros; first | rfl | exact ⟨rfl, rfl⟩ | (go_simp; first | rfl | exact ⟨rfl, rfl⟩))); clear hK K)
  refine mix_q (i := 1) rfl (by kernel_rfl) (fun _ _ _ _ h => h) HS (fun K hK => ?_)
  go_simp
  first | (refine hK _ ?_; clear hK K) | (apply Exists.intro; refine ⟨?_, hK _ ?_⟩; (focus (intros; first | rfl | exact ⟨rfl, rfl⟩ | (go_simp; first | rfl | exact ⟨rfl, rfl⟩))); clear hK K)
  refine mix_q (i := 2) rfl (by kernel_rfl) (fun _ _ _ _ h => h) HS (fun K hK => ?_)
  go_simp
  first | (refine hK _ ?_; clear hK K) | (apply Exists.intro; refine ⟨?_, hK _ ?_⟩; (focus (intros; first | rfl | exact ⟨rfl, rfl⟩ | (go_simp; first | rfl | exact ⟨rfl, rfl⟩))); clear hK K)
  refine mix_q (i := 3) rfl (by kernel_rfl) (fun _ _ _ _ h => h) HS (fun K hK => ?_)
  go_simp
  first | (refine hK _ ?_; clear hK K) | (apply Exists.intro; refine ⟨?_, hK _ ?_⟩; (focus (intros; first | rfl | exact ⟨rfl, rfl⟩ | (go_simp; first | rfl | exact ⟨rfl, rfl⟩))); clear hK K)
  refine mix_q (i := 5) rfl (by kernel_rfl) (fun _ _ _ _ h => h) HS (fun K hK => ?_)
  go_simp
  first | (refine hK _ ?_; clear hK K) | (apply Exists.intro; refine ⟨?_, hK _ ?_⟩; (focus (intros; first | rfl | exact ⟨rfl, rfl⟩ | (go_simp; first | rfl | exact ⟨rfl, rfl⟩))); clear hK K)
  refine mix_q (i := 6) rfl (by kernel_rfl) (fun _ _ _ _ h => h) HS (fun K hK => ?_)
  go_simp
  first | (refine hK _ ?_; clear hK K) | (apply Exists.intro; refine ⟨?_, hK _ ?_⟩; (focus (intros; first | rfl | exact ⟨rfl, rfl⟩ | (go_simp; first | rfl | exact ⟨rfl, rfl⟩))); clear hK K)
  refine mix_q (i := 7) rfl (by kernel_rfl) (fun _ _ _ _ h => h) HS (fun K hK => ?_)
  go_simp
  first | (refine hK _ ?_; clear hK K) | (apply Exists.intro; refine ⟨?_, hK _ ?_⟩; (focus (intros; first | rfl | exact ⟨rfl, rfl⟩ | (go_simp; first | rfl | exact ⟨rfl, rfl⟩))); clear hK K)
  refine mix_q (i := 8) rfl (by kernel_rfl) (fun _ _ _ _ h => h) HS (fun K hK => ?_)
  go_simp
  first | (refine hK _ ?_; clear hK K) | (apply Exists.intro; refine ⟨?_, hK _ ?_⟩; (focus (intros; first | rfl | exact ⟨rfl, rfl⟩ | (go_simp; first | rfl | exact ⟨rfl, rfl⟩))); clear hK K)
  refine mix_q (i := 9) rfl (by kernel_rfl) (fun _ _ _ _ h => h) HS (fun K hK => ?_)
  go_simp
  first | (refine hK _ ?_; clear hK K) | (apply Exists.intro; refine ⟨?_, hK _ ?_⟩; (focus (intros; first | rfl | exact ⟨rfl, rfl⟩ | (go_simp; first | rfl | exact ⟨rfl, rfl⟩))); clear hK K)
  refine mix_q (i := 10) rfl (by kernel_rfl) (fun _ _ _ _ h => h) HS (fun K hK => ?_)
  go_simp
  first | (refine hK _ ?_; clear hK K) | (apply Exists.intro; refine ⟨?_, hK _ ?_⟩; (focus (intros; first | rfl | exact ⟨rfl, rfl⟩ | (go_simp; first | rfl | exact ⟨rfl, rfl⟩))); clear hK K)
  refine mix_q (i := 11) rfl (by kernel_rfl) (fun _ _ _ _ h => h) HS (fun K hK => ?_)
  go_simp
  first | (refine hK _ ?_; clear hK K) | (apply Exists.intro; refine ⟨?_, hK _ ?_⟩; (focus (intros; first | rfl | exact ⟨rfl, rfl⟩ | (go_simp; first | rfl | exact ⟨rfl, rfl⟩))); clear hK K)
  refine mix_q (i := 12) rfl (by kernel_rfl) (fun _ _ _ _ h => h) HS (fun K hK => ?_)
  go_simp
  first | (refine hK _ ?_; clear hK K) | (apply Exists.intro; refine ⟨?_, hK _ ?_⟩; (focus (intros; first | rfl | exact ⟨rfl, rfl⟩ | (go_simp; first | rfl | exact ⟨rfl, rfl⟩))); clear hK K)
  refine mix_l (i := 4) rfl (by kernel_rfl) (fun K hK => ?_)
  go_simp
  refine (slicesCloneU_c ε w2 _ ⟨g, 0, none⟩ P cap pl.flatten (fun wx Hx => by
    rcases Hx.r2.slc_val with ⟨e, _⟩ | ⟨_, _, _, e, _, _, _, hv, _⟩
    · cases e
    · cases e
      exact ⟨by omega, .inr ⟨g, 0, rfl, fun j u hj => by rw [Nat.zero_add]; exact hv j u hj⟩⟩) hone.out hm HH.out).mono ?_
  rintro e w3 ⟨v, rfl, H3⟩
  replace H3 := Lib.hid H3
  rcases H3.out.slc_val with ⟨e, e2⟩ | ⟨g2, n2, cap2, rfl, _, _, hl2, _⟩
  · rw [e2] at hlen; simp at hlen; omega
  obtain rfl : P = n2 := by omega
  clear HS
  have HS : (fun w' : World => w'.cell? ⟨b, 0, none⟩ = some (.slice (some ⟨g, 0, none⟩) P cap) ∧ w'.cell? ⟨b, 1, none⟩ = some (.int .i64 f) ∧ w'.cell? ⟨b, 2, none⟩ = some (.int .i64 l.length)) w3 := ⟨H3.out.r2.cells.1 0, H3.out.r2.cells.1 1, H3.out.r2.cells.1 2⟩
  refine hK _ _ HS ?_
  clear hK K
  refine mix_q (i := 13) rfl (by kernel_rfl) (fun _ _ _ _ h => h) HS (fun K hK => ?_)
  go_simp
  first | (refine hK _ ?_; clear hK K) | (apply Exists.intro; refine ⟨?_, hK _ ?_⟩; (focus (intros; first | rfl | exact ⟨rfl, rfl⟩ | (go_simp; first | rfl | exact ⟨rfl, rfl⟩))); clear hK K)
  refine mix_l (i := 14) rfl (by kernel_rfl) (fun K hK => ?_)
  go_simp
  have H4 := Lib.hid (H3.out.alloc (.cells #[.slice (some ⟨g2, 0, none⟩) P cap2, .int .i64 f, .int .i64 l.length] 127))
  generalize w3.alloc (.cells #[.slice (some ⟨g2, 0, none⟩) P cap2, .int .i64 f, .int .i64 l.length] 127) = w4 at *
  generalize w3.heap.size = ob at *
  clear HS
  have HS : (fun w' : World => w'.cell? ⟨b, 0, none⟩ = some (.slice (some ⟨g, 0, none⟩) P cap) ∧ w'.cell? ⟨b, 1, none⟩ = some (.int .i64 f) ∧ w'.cell? ⟨b, 2, none⟩ = some (.int .i64 l.length)) w4 := ⟨H4.out.r3.cells.1 0, H4.out.r3.cells.1 1, H4.out.r3.cells.1 2⟩
  refine hK _ _ HS ?_
  clear hK K
  refine mix_q (i := 15) rfl (by kernel_rfl) (fun _ _ _ _ h => h) HS (fun K hK => ?_)
  go_simp
  first | (refine hK _ ?_; clear hK K) | (apply Exists.intro; refine ⟨?_, hK _ ?_⟩; (focus (intros; first | rfl | exact ⟨rfl, rfl⟩ | (go_simp; first | rfl | exact ⟨rfl, rfl⟩))); clear hK K)
  refine mix_done (by kernel_rfl) ?_ _
  clear HS
  go_wp2_with fail
  go_ret
  refine ⟨_, rfl, ?_⟩
  have H5 := (Own.ring_mk' (n := l.length) (List.length_map _) h H4.out.r3.r4.r2)
  exact Own.ring_mk' (n := l.length) (List.length_map _) h H5.l3
end
end Go.Proofs.Ytfcappjodichlaa
