/- ring, of pointers to entries: by mkringl.py out of the numbers. -/
import Derived.Test.YtmkcpnlbicijoaaGreatRdU
namespace Go.Proofs.YtmkcpnlbicijoaaGreat
open Go.RowKit
def encL (x : Nat) : List Value := [.pointer (some ⟨x, 0, none⟩)]
abbrev ringL (b : Nat) (l : List Nat) : Asn := ring 176 114 1 b (l.map encL)
theorem encL_len (l : List Nat) : ∀ c ∈ l.map encL, c.length = 1 := by
 intro c hc
 obtain ⟨x, _, rfl⟩ := List.mem_map.1 hc
 rfl
def atP (l : List Nat) (i : Int) : Option Addr × Bool := if 0 ≤ i ∧ i < l.length then (some ⟨l.getD i.toNat 0, 0, none⟩, true) else (none, false)
section
variable (ε w : World) (R : List Asn) (b : Nat)
set_option maxHeartbeats 800000 in
theorem rlPlace_c (g P cap f : Nat) (nv : Value) (i : Nat) (hf : f < P) (hP : P ≤ 4000000) (hi : i < P) (H : Own ε w (pts b (.cells #[.slice (some ⟨g, 0, none⟩) P cap, .int .i64 f, nv] 176 (0, 0)) :: R)) :
  Calls Tryz.prog 150 #[.pointer (some ⟨b, 0, none⟩), .int .i64 i] w fun e w' => e = .returned (.pointer (some ⟨g, rix P f i, none⟩)) ∧ ∃ m, w' = w.drewN m := by
 obtain ⟨c0, _⟩ := H.cells
 clear H
 have hlt := rix_lt hf (Nat.le_of_lt hi)
 have hmod := rix_mod hf (Nat.le_of_lt hi)
 have hr : ((f : Int) + (i : Int)).tmod (P : Int) = ((rix P f i : Nat) : Int) := by
  rw [← hmod]
  rw [← Int.natCast_add, Int.ofNat_tmod]
 go_enter Tryz.func150, Tryz.ntmps150
 go_wp2_with fail
 go_quiet (fail)
 go_wp2_with fail
 go_ret
 exact ⟨rfl, _, rfl⟩
theorem rlLen_c (l : List Nat) (H : Own ε w (ringL b l :: R)) :
  Calls Tryz.prog 141 #[.pointer (some ⟨b, 0, none⟩)] w fun e w' => e = .returned (.int .i64 l.length) ∧ w = w' := by
 obtain ⟨g, P, cap, f, pl, h, H⟩ := H.ring_open
 obtain ⟨c0, _⟩ := H.cells
 rw [List.length_map] at c0
 clear H
 go_enter Tryz.func141, Tryz.ntmps141
 go_wp2_with fail
 go_ret
 exact ⟨rfl, rfl⟩
theorem rlCell {g P cap f : Nat} {pl : List (List Value)} {l : List Nat} (h : RingOk 1 P f pl (l.map encL)) (H : Own ε w (slc 114 1 (.slice (some ⟨g, 0, none⟩) P cap) pl.flatten :: R)) (i : Nat) (hi : i < l.length) :
  w.cell? ⟨g, rix P f i, none⟩ = some (.pointer (some ⟨l[i], 0, none⟩)) := by
 rcases H.slc_val with ⟨e, _⟩ | ⟨_, _, _, e, _, _, _, hv, _⟩
 ·cases e
 cases e
 refine hv _ _ ?_
 have h1 := h.hold i (by simpa using hi)
 have h2 := flat_at (sz := 1) pl h.wide (rix P f i) 0 _ h1 (by decide)
 simpa [encL] using h2
theorem rlPut {g P cap f : Nat} {pl : List (List Value)} {l : List (List Value)} (h : RingOk 1 P f pl l) (H : Own ε w (slc 114 1 (.slice (some ⟨g, 0, none⟩) P cap) pl.flatten :: R)) (p : Nat) (hp : p < P) :
  (∃ v, w.cell? ⟨g, p, none⟩ = some v) ∧ w.frozen? ⟨g, p, none⟩ = false ∧ ∀ v, Own ε (w.setCell ⟨g, p, none⟩ v) (slc 114 1 (.slice (some ⟨g, 0, none⟩) P cap) (pl.set p [v]).flatten :: R) := by
 rcases H.slc_val with ⟨e, _⟩ | ⟨_, _, _, e, _, _, hl, hv, hf⟩
 ·cases e
 cases e
 refine ⟨⟨pl.flatten[p]'(by omega), hv _ _ (List.getElem?_eq_getElem _)⟩, hf p, fun v => ?_⟩
 rw [flat_set1 pl h.wide p (by rw [h.len]; exact hp) v]
 exact H.slc_set p v
set_option maxHeartbeats 800000 in
theorem rlAt_c (l : List Nat) (i : Int) (hi : (Lit.int .i64 i).wf = true) (H : Own ε w (ringL b l :: R)) :
  Calls Tryz.prog 130 #[.pointer (some ⟨b, 0, none⟩), .int .i64 i] w fun e w' => e = .returned (.tuple #[.pointer (atP l i).1, .bool (atP l i).2]) ∧ ∃ m, w' = w.drewN m := by
 have HH := Lib.hid H; clear H
 by_cases h0 : i < 0
 ·rw [show atP l i = (none, false) from if_neg (by omega)]
  go_enter Tryz.func130, Tryz.ntmps130
  go_wp2_with fail
  go_ret2
  exact ⟨rfl, 0, rfl⟩
 by_cases h1 : (l.length : Int) ≤ i
 ·rw [show atP l i = (none, false) from if_neg (by omega)]
  go_enter Tryz.func130, Tryz.ntmps130
  go_wp2_with fail
  refine (rlLen_c ε _ _ b l HH.out).mono ?_
  rintro e w' ⟨rfl, rfl⟩
  go_wp2_with fail
  go_ret2
  exact ⟨rfl, 0, rfl⟩
 obtain ⟨k, rfl⟩ : ∃ k : Nat, i = k := ⟨i.toNat, by omega⟩
 have hk : k < l.length := by omega
 rw [show atP l k = (some ⟨l[k], 0, none⟩, true) by rw [atP, if_pos (by omega)]; simp [hk]]
 go_enter Tryz.func130, Tryz.ntmps130
 go_wp2_with fail
 refine (rlLen_c ε _ _ b l HH.out).mono ?_
 rintro e w' ⟨rfl, rfl⟩
 obtain ⟨g, P, cap, f, pl, h, H⟩ := HH.out.ring_open
 have hfew := h.few
 rw [List.length_map] at hfew
 have hc := rlCell ε w _ h H.r2 k hk
 go_wp2_with fail
 refine (rlPlace_c ε w _ b g P cap f _ k h.flt h.most (by omega) H).mono ?_
 rintro e w3 ⟨rfl, nd, rfl⟩
 replace H := Lib.hid H
 go_wp2_with fail
 go_ret2
 exact ⟨rfl, nd, rfl⟩
set_option maxHeartbeats 1600000 in
theorem rlShift_c (l : List Nat) (H : Own ε w (ringL b l :: R)) :
  Calls Tryz.prog 131 #[.pointer (some ⟨b, 0, none⟩)] w fun e w' => e = .returned (.tuple #[.pointer (atP l 0).1, .bool (atP l 0).2]) ∧ Own ε w' (ringL b (l.drop 1) :: R) := by
 have HH := Lib.hid H; clear H
 by_cases h0 : l = []
 ·subst h0
  go_enter Tryz.func131, Tryz.ntmps131
  go_wp2_with fail
  refine (rlAt_c ε w _ b [] 0 rfl HH.out).mono ?_
  rintro e w1 ⟨rfl, nd, hnd⟩
  have H1 := Lib.hid (HH.out.drewN nd)
  rw [← hnd] at H1
  clear hnd
  go_wp2_with fail
  go_ret2
  exact ⟨rfl, H1.out⟩
 have hpos : 0 < l.length := List.length_pos_iff.2 h0
 have hat : (atP l 0).2 = true := by rw [atP, if_pos (by omega)]
 have hA := rlAt_c ε w _ b l 0 rfl HH.out
 obtain ⟨x, hx⟩ : ∃ x, (atP l 0).1 = x := ⟨_, rfl⟩
 rw [hx, hat] at hA ⊢
 clear hx hat
 go_enter Tryz.func131, Tryz.ntmps131
 go_wp2_with fail
 refine (hA).mono ?_
 rintro e w1 ⟨rfl, nd, hnd⟩
 have H1 := Lib.hid (HH.out.drewN nd)
 rw [← hnd] at H1
 clear hnd
 clear hA
 obtain ⟨g, P, cap, f, pl, h, H⟩ := H1.out.ring_open
 rw [List.length_map] at H
 replace H := Lib.hid H
 have hfew := h.few
 rw [List.length_map] at hfew
 have h4 := h.four
 have hm := h.most
 have hf := h.flt
 go_wp2_with fail
 refine (rlPlace_c ε w1 _ b g P cap f _ 0 hf hm (by omega) H.out).mono ?_
 rintro e w2 ⟨rfl, nd, hnd⟩
 have H2 := Lib.hid (H.out.drewN nd)
 rw [← hnd] at H2
 clear hnd
 clear H H1 HH
 obtain ⟨⟨v0, c1⟩, f1, H3⟩ := rlPut ε w2 _ h H2.out.r2 (rix P f 0) (rix_lt hf (by omega))
 replace H3 := Lib.hid ((H3 (.pointer none)).r2)
 clear H2
 go_wp2_with fail
 generalize w2.setCell ⟨g, rix P f 0, none⟩ (.pointer none) = w3 at *
 clear c1 f1
 refine wp_region_mix2 (fun w' => w'.cell? ⟨b, 0, none⟩ = some (.slice (some ⟨g, 0, none⟩) P cap) ∧ w'.cell? ⟨b, 1, none⟩ = some (.int .i64 f)) (fun w' => w'.cell? ⟨b, 2, none⟩ = some (.int .i64 l.length) ∧ w'.frozen? ⟨b, 2, none⟩ = false) (some 20) (some 23) (by kernel_rfl) ?_
 change wpMix2 _ _ _ _ _ _ _ _ _ _ _ w3.drew
 replace H3 := Lib.hid H3.out.drew
 generalize w3.drew = w4 at *
 obtain ⟨c0, f0⟩ := H3.out.cells
 have HS1 : (fun w' : World => w'.cell? ⟨b, 0, none⟩ = some (.slice (some ⟨g, 0, none⟩) P cap) ∧ w'.cell? ⟨b, 1, none⟩ = some (.int .i64 f)) w4 := ⟨c0 0, c0 1⟩
 have HS2 : (fun w' : World => w'.cell? ⟨b, 2, none⟩ = some (.int .i64 l.length) ∧ w'.frozen? ⟨b, 2, none⟩ = false) w4 := ⟨c0 2, f0 2⟩
 obtain ⟨f', hf'⟩ : ∃ f', (f + 1) % P = f' := ⟨_, rfl⟩
 have hr : ((f : Int) + 1).tmod (P : Int) = (f' : Int) := by
  rw [← hf', Int.ofNat_tmod]; rfl
 have hP0 : ¬ P = 0 := by omega
 have hw1 : IntKind.i64.wrap ((f : Int) + 1) = (f : Int) + 1 := by rw [IntKind.wrap_i64]; omega
 have hw2 : IntKind.i64.wrap ((l.length : Int) - 1) = ((l.length - 1 : Nat) : Int) := by rw [IntKind.wrap_i64]; omega
 refine mix2_s 0 proj1 HS1 ⟨.inr HS1, .inr HS2⟩ ⟨.inr HS1, .inr HS2⟩ ?_
 refine mix2_s 2 proj1 HS1 ⟨.inr HS1, .inr HS2⟩ ⟨.inr HS1, .inr HS2⟩ ?_
 refine mix2_s 3 proj1 HS1 ⟨.inr HS1, .inr HS2⟩ ⟨.inr HS1, .inr HS2⟩ ?_
 refine mix2_s 4 proj1 HS1 ⟨.inr HS1, .inr HS2⟩ ⟨.inr HS1, .inr HS2⟩ ?_
 refine mix2_s 5 proj1 HS1 ⟨.inr HS1, .inr HS2⟩ ⟨.inr HS1, .inr HS2⟩ ?_
 refine mix2_s 6 proj1 HS1 ⟨.inr HS1, .inr HS2⟩ ⟨.inr HS1, .inr HS2⟩ ?_
 refine mix2_s 7 proj1 HS1 ⟨.inr HS1, .inr HS2⟩ ⟨.inr HS1, .inr HS2⟩ ?_
 refine mix2_s 8 proj1 HS1 ⟨.inr HS1, .inr HS2⟩ ⟨.inr HS1, .inr HS2⟩ ?_
 refine mix2_s 9 proj1 HS1 ⟨.inr HS1, .inr HS2⟩ ⟨.inr HS1, .inr HS2⟩ ?_
 refine mix2_s 10 proj1 HS1 ⟨.inr HS1, .inr HS2⟩ ⟨.inr HS1, .inr HS2⟩ ?_
 refine mix2_s 11 proj1 HS1 ⟨.inr HS1, .inr HS2⟩ ⟨.inr HS1, .inr HS2⟩ ?_
 refine mix2_s 12 proj1 HS1 ⟨.inr HS1, .inr HS2⟩ ⟨.inr HS1, .inr HS2⟩ ?_
 refine mix2_s 1 proj2 HS2 ⟨.inr HS1, .inr HS2⟩ ⟨.inr HS1, .inr HS2⟩ ?_
 refine mix2_s 13 proj2 HS2 ⟨.inr HS1, .inr HS2⟩ ⟨.inr HS1, .inr HS2⟩ ?_
 refine mix2_s 14 proj2 HS2 ⟨.inr HS1, .inr HS2⟩ ⟨.inr HS1, .inr HS2⟩ ?_
 refine mix2_s 15 proj2 HS2 ⟨.inr HS1, .inr HS2⟩ ⟨.inr HS1, .inr HS2⟩ ?_
 refine mix2_s 16 proj2 HS2 ⟨.inr HS1, .inr HS2⟩ ⟨.inr HS1, .inr HS2⟩ ?_
 refine mix2_s 17 proj2 HS2 ⟨.inr HS1, .inr HS2⟩ ⟨.inr HS1, .inr HS2⟩ ?_
 refine mix2_s 18 proj1 HS1 ⟨.inr HS1, .inr HS2⟩ ⟨.inr HS1, .inr HS2⟩ ?_
 refine mix2_s 19 proj1 HS1 ⟨.inr HS1, .inr HS2⟩ ⟨.inr HS1, .inr HS2⟩ ?_
 refine mix2_l (i := 20) rfl (by kernel_rfl) (fun K hK => ?_)
 go_simp
 have H5 := Lib.hid (H3.out.set 1 (.int .i64 f'))
 generalize w4.setCell ⟨b, 1, none⟩ (.int .i64 f') = w5 at *
 clear HS1 HS2
 have HS2 : (fun w' : World => w'.cell? ⟨b, 2, none⟩ = some (.int .i64 l.length) ∧ w'.frozen? ⟨b, 2, none⟩ = false) w5 := ⟨H5.out.cells.1 2, H5.out.cells.2 2⟩
 refine hK _ _ ⟨.inl (by kernel_rfl), .inr HS2⟩ ?_
 clear hK K
 refine mix2_s 21 proj2 HS2 ⟨.inl (by kernel_rfl), .inr HS2⟩ ⟨.inl (by kernel_rfl), .inr HS2⟩ ?_
 refine mix2_s 22 proj2 HS2 ⟨.inl (by kernel_rfl), .inr HS2⟩ ⟨.inl (by kernel_rfl), .inr HS2⟩ ?_
 clear c0 f0
 obtain ⟨c0, f0⟩ := H5.out.cells
 refine mix2_l (i := 23) rfl (by kernel_rfl) (fun K hK => ?_)
 go_simp
 refine hK _ _ ⟨.inl (by kernel_rfl), .inl (by kernel_rfl)⟩ ?_
 clear hK K HS2
 refine mix2_done (by kernel_rfl) ?_ _
 go_wp2_with fail
 go_ret2
 refine ⟨rfl, ?_⟩
 have hh := h.shift (by simpa using hpos) [.pointer none] rfl (by simp [Value.oneCell'])
 have H6 := H5.out.set 2 (.int .i64 (l.length - 1 : Nat))
 rw [hf', ← List.map_drop] at hh
 exact Own.ring_mk' (n := l.length - 1) (by simp) hh H6
set_option maxRecDepth 100000 in
set_option maxHeartbeats 1600000 in
theorem rlGrow_c (g P cap f n : Nat) (pl items : List (List Value)) (h : RingOk 1 P f pl items) (hm : P ≤ 1000000)
  (H : Own ε w (pts b (.cells #[.slice (some ⟨g, 0, none⟩) P cap, .int .i64 f, .int .i64 n] 176 (0, 0)) :: slc 114 1 (.slice (some ⟨g, 0, none⟩) P cap) pl.flatten :: R)) :
  Calls Tryz.prog 149 #[.pointer (some ⟨b, 0, none⟩)] w fun e w' => e = .returned (.tuple #[]) ∧ ∃ g' pl', RingOk 1 (2 * P) 0 pl' items ∧
   Own ε w' (pts b (.cells #[.slice (some ⟨g', 0, none⟩) (2 * P) (2 * P), .int .i64 0, .int .i64 n] 176 (0, 0)) :: slc 114 1 (.slice (some ⟨g', 0, none⟩) (2 * P) (2 * P)) pl'.flatten :: R) := by
 have HH := Lib.hid H; clear H
 have k0 := HH.out.cells.1 0
 have hw : IntKind.i64.wrap (2 * (P : Int)) = ((2 * P : Nat) : Int) := by rw [IntKind.wrap_i64]; omega
 obtain ⟨N, hN⟩ : ∃ N, N = 2 * P := ⟨_, rfl⟩
 rw [← hN] at hw ⊢
 go_enter Tryz.func149, Tryz.ntmps149
 go_wp2_with (with_reducible first | refine stop_bs ?_ | refine stop_bx ?_ | refine stop_al ?_ | refine stop_ms ?_ | refine stop_app ?_ | refine stop_copy ?_)
 refine Stop.go ?_
 refine wpList_make_slc rfl _ _ _ rfl 114 1 8 Tryz.underlying174 (by kernel_rfl) (by decide) [.pointer none] (by kernel_rfl) N rfl rfl (by omega) (by omega) (by omega) (by simp only [maxLen]; omega) HH.out ?_
 intro g2 w2 H2
 replace H2 := Lib.hid H2
 go_wp2_with fail
 have hfP : f ≤ P := Nat.le_of_lt h.flt
 obtain ⟨_, _, hcapP⟩ : True ∧ True ∧ P ≤ cap := ⟨trivial, trivial, by
  rcases H2.out.r3.slc_val with ⟨e, _⟩ | ⟨_, _, _, e, q, _⟩
  ·cases e
  ·cases e; exact q⟩
 have hne : ¬ cap = f := by have := h.flt; omega
 refine wp_region_mix (fun w' => w'.cell? ⟨b, 0, none⟩ = some (.slice (some ⟨g, 0, none⟩) P cap) ∧ w'.cell? ⟨b, 1, none⟩ = some (.int .i64 f)) none (by kernel_rfl) ?_
 change wpMix _ _ _ _ _ _ _ _ _ w2.drew
 replace H2 := Lib.hid H2.out.drew
 generalize w2.drew = w3 at *
 obtain ⟨c0, f0⟩ := H2.out.r2.cells
 have HS : (fun w' : World => w'.cell? ⟨b, 0, none⟩ = some (.slice (some ⟨g, 0, none⟩) P cap) ∧ w'.cell? ⟨b, 1, none⟩ = some (.int .i64 f)) w3 := ⟨c0 0, c0 1⟩
 refine mix_s 0 HS ?_
 refine mix_s 1 HS ?_
 refine mix_s 2 HS ?_
 refine mix_s 3 HS ?_
 refine mix_s 4 HS ?_
 refine mix_s 5 HS ?_
 refine mix_s 6 HS ?_
 refine mix_s 7 HS ?_
 refine mix_s 8 HS ?_
 refine mix_s 9 HS ?_
 have hwide := h.wide
 have hplen := h.len
 obtain ⟨k1, hk1⟩ : ∃ k1, k1 = P - f := ⟨_, rfl⟩
 have hl1 : (pl.drop f).flatten.length = k1 := by
  rw [flat_len (sz := 1) _ (fun c hc => hwide c (List.mem_of_mem_drop hc)), List.length_drop]; omega
 have hl2 : (pl.take f).flatten.length = f := by
  rw [flat_len (sz := 1) _ (fun c hc => hwide c (List.mem_of_mem_take hc)), List.length_take]; omega
 have hone := flat_one h.one
 have hflt := h.flt
 have hsplit : pl.flatten = (pl.take f).flatten ++ (pl.drop f).flatten := by rw [← List.flatten_append, List.take_append_drop]
 have hsrc : srcAt w3 (some ⟨g, f, none⟩) k1 1 (pl.drop f).flatten := by
  rcases H2.out.r3.slc_val with ⟨e, _⟩ | ⟨_, _, _, e, _, _, _, hv, _⟩
  ·cases e
  ·cases e
   refine ⟨by omega, .inr ⟨g, f, rfl, fun j u hj => hv _ _ ?_⟩⟩
   rw [hsplit, List.getElem?_append_right (by omega), hl2, show f + j - f = j by omega]
   exact hj
 have hZ1 : (List.replicate N [Value.pointer none]).flatten.length = 2 * P := by
  rw [flat_len (sz := 1) _ (fun c hc => by rw [(List.mem_replicate.1 hc).2]; rfl), List.length_replicate, hN, Nat.mul_one]
 have hZ2 : (List.replicate N [Value.pointer none]).flatten.drop P = (List.replicate P [Value.pointer none]).flatten := by
  have := flat_rep (sz := 1) [Value.pointer none] rfl N P
  rw [Nat.mul_one] at this
  rw [this, hN, show 2 * P - P = P by omega]
 obtain ⟨Z, hZ⟩ : ∃ Z, Z = (List.replicate N [Value.pointer none]).flatten := ⟨_, rfl⟩
 rw [← hZ] at hZ1 hZ2 H2
 clear hZ
 have hfl : (pl.drop f ++ pl.take f ++ List.replicate P [Value.pointer none]).flatten = (pl.drop f).flatten ++ (pl.take f).flatten ++ Z.drop P := by
  rw [List.flatten_append, List.flatten_append, hZ2]
 obtain ⟨D, hD⟩ : ∃ D, D = (pl.drop f).flatten := ⟨_, rfl⟩
 obtain ⟨E, hE⟩ : ∃ E, E = (pl.take f).flatten := ⟨_, rfl⟩
 rw [← hD] at hl1 hsplit hsrc hfl
 rw [← hE] at hl2 hsplit hfl
 have hg : ∀ u ∈ D ++ E, u.oneCell' = true := fun u hu => hone u (by rw [hsplit]; simp only [List.mem_append] at hu ⊢; exact hu.symm)
 have hgr := h.grow (by omega) [.pointer none] rfl (by simp [Value.oneCell'])
 replace hgr := Lib.hid hgr; replace hfl := Lib.hid hfl; replace hsplit := Lib.hid hsplit; replace hone := Lib.hid hone; replace hg := Lib.hid hg
 replace hsrc := Lib.hid hsrc; replace hwide := Lib.hid hwide; replace hZ2 := Lib.hid hZ2; replace hD := Lib.hid hD; replace hE := Lib.hid hE; replace hN := Lib.hid hN
 replace hk1 := Lib.hid hk1; replace hplen := Lib.hid hplen; replace hZ1 := Lib.hid hZ1; replace hl1 := Lib.hid hl1; replace hl2 := Lib.hid hl2
 replace h := Lib.hid h
 refine mix_l (i := 10) rfl (by kernel_rfl) (fun K hK => ?_)
 refine want rfl ?_
 refine wp_copy_slc (.tmp 11) (.tmp 20) _ _ rfl 114 1 8 Tryz.underlying174 (by kernel_rfl) 0 D k1 rfl rfl (by rw [hk1.out]; exact Nat.min_eq_left (by omega)) H2.out (.inr rfl) hsrc.out (by have := hl1.out; have := hk1.out; simp [hZ1.out]; omega) (fun u hu => hg.out u (by simp [hu])) ?_
 intro w4 H4
 replace H4 := Lib.hid H4
 clear HS
 have HS : (fun w' : World => w'.cell? ⟨b, 0, none⟩ = some (.slice (some ⟨g, 0, none⟩) P cap) ∧ w'.cell? ⟨b, 1, none⟩ = some (.int .i64 f)) w4 := ⟨H4.out.r2.cells.1 0, H4.out.r2.cells.1 1⟩
 refine hK _ _ HS ?_
 clear hK K
 refine mix_s 11 HS ?_
 refine mix_done (by kernel_rfl) ?_ _
 clear HS
 clear c0 f0
 obtain ⟨Z1, hz1⟩ : ∃ Z1, Z1 = List.take 0 Z ++ D ++ List.drop (0 + D.length) Z := ⟨_, rfl⟩
 rw [← hz1] at H4
 have hz2 : Z1.length = 2 * P := by have := hZ1.out; have := hl1.out; have := hk1.out; rw [hz1]; simp; omega
 have hz3 : Z1.take k1 = D := by rw [hz1, List.take_zero, List.nil_append]; exact List.take_left' hl1.out
 have hz4 : Z1.drop P = Z.drop P := by
  have h1 := hl1.out
  have h2 := hk1.out
  rw [hz1, List.take_zero, List.nil_append, List.drop_append, List.drop_of_length_le (by omega), List.nil_append, List.drop_drop]
  congr 1; omega
 clear hz1
 replace hz2 := Lib.hid hz2; replace hz3 := Lib.hid hz3; replace hz4 := Lib.hid hz4
 have q1 : k1 ≤ 2 * P := by have := hk1.out; omega
 have q1i : (k1 : Int) ≤ 2 * (P : Int) := by omega
 have q2 : ¬ 2 * P = k1 := by have := hk1.out; omega
 have q3 : f ≤ cap := by omega
 have q4 : k1 ≤ 4000000 := by omega
 go_wp2_with fail
 refine wp_region_mix (fun w' => w'.cell? ⟨b, 0, none⟩ = some (.slice (some ⟨g, 0, none⟩) P cap) ∧ w'.cell? ⟨b, 1, none⟩ = some (.int .i64 f)) none (by kernel_rfl) ?_
 change wpMix _ _ _ _ _ _ _ _ _ w4.drew
 replace H4 := Lib.hid H4.out.drew
 generalize w4.drew = w5 at *
 obtain ⟨c0, f0⟩ := H4.out.r2.cells
 have HS : (fun w' : World => w'.cell? ⟨b, 0, none⟩ = some (.slice (some ⟨g, 0, none⟩) P cap) ∧ w'.cell? ⟨b, 1, none⟩ = some (.int .i64 f)) w5 := ⟨c0 0, c0 1⟩
 refine mix_s 0 HS ?_
 refine mix_s 1 HS ?_
 refine mix_s 2 HS ?_
 refine mix_s 3 HS ?_
 refine mix_s 4 HS ?_
 refine mix_s 5 HS ?_
 refine mix_s 6 HS ?_
 refine mix_s 7 HS ?_
 refine mix_s 8 HS ?_
 refine mix_s 9 HS ?_
 refine mix_s 10 HS ?_
 refine mix_s 11 HS ?_
 have hsrc2 : srcAt w5 (some ⟨g, 0, none⟩) f 1 E := by
  rcases H4.out.r3.slc_val with ⟨e, _⟩ | ⟨_, _, _, e, _, _, _, hv, _⟩
  ·cases e
  ·cases e
   refine ⟨by have := hl2.out; omega, .inr ⟨g, 0, rfl, fun j u hj => hv _ _ ?_⟩⟩
   rw [hsplit.out, Nat.zero_add, List.getElem?_append_left (by
    rcases Nat.lt_or_ge j E.length with q | q
    ·exact q
    ·rw [List.getElem?_eq_none q] at hj; cases hj)]
   exact hj
 refine mix_l (i := 12) rfl (by kernel_rfl) (fun K hK => ?_)
 refine want rfl ?_
 refine wp_copy_slc (.tmp 24) (.tmp 33) _ _ rfl 114 1 8 Tryz.underlying174 (by kernel_rfl) k1 E f rfl rfl (Nat.min_eq_left (by have := hk1.out; omega)) H4.out (.inr rfl) hsrc2 (by have := hl2.out; have := hk1.out; have := hz2.out; simp; omega) (fun u hu => hg.out u (by simp [hu])) ?_
 intro w6 H6
 have e6 : List.take k1 Z1.toArray.toList ++ E ++ List.drop (k1 + E.length) Z1.toArray.toList = (pl.drop f ++ pl.take f ++ List.replicate P [Value.pointer none]).flatten := by
  have h1 := hl2.out
  have h2 := hk1.out
  simp only
  rw [hz3.out, show k1 + E.length = P by omega, hz4.out, hfl.out]
 rw [e6] at H6
 replace H6 := Lib.hid (H6.r2)
 clear HS
 have HS : (fun w' : World => w'.cell? ⟨b, 0, none⟩ = some (.slice (some ⟨g, 0, none⟩) P cap) ∧ w'.cell? ⟨b, 1, none⟩ = some (.int .i64 f)) w6 := ⟨H6.out.cells.1 0, H6.out.cells.1 1⟩
 refine hK _ _ HS ?_
 clear hK K
 refine mix_done (by kernel_rfl) ?_ _
 clear HS
 clear c0 f0
 obtain ⟨c0, f0⟩ := H6.out.cells
 go_wp2_with fail
 first | go_end0 | ((try simp only [Exit.inBlock, Exit.then]); refine bodyPost_ret (results_none rfl _ _ _) rfl ?_)
 have hN' := hN.out
 subst hN'
 refine ⟨rfl, g2, _, hgr.out, ?_⟩
 have H7 := ((H6.out.set 0 (.slice (some ⟨g2, 0, none⟩) (2 * P) (2 * P))).set 1 (.int .i64 0)).r3.tail.r2
 have hlen : (pl.drop f ++ pl.take f ++ List.replicate P [Value.pointer none]).flatten.length = 2 * P * 1 := by
  rw [flat_len (sz := 1) _ hgr.out.wide, hgr.out.len]
 exact (H7.slc_mk (xs := (pl.drop f ++ pl.take f ++ List.replicate P [Value.pointer none]).flatten) (Nat.le_refl _) (by simp only [maxLen]; omega) (by simpa using hlen) hlen (List.take_of_length_le (by simpa using Nat.le_of_eq hlen))).r2
set_option maxHeartbeats 1600000 in
theorem rlPush_c (l : List Nat) (x : Nat) (hl : l.length ≤ 1000000) (H : Own ε w (ringL b l :: R)) :
  Calls Tryz.prog 125 #[.pointer (some ⟨b, 0, none⟩), .pointer (some ⟨x, 0, none⟩)] w fun e w' => e = .returned (.tuple #[]) ∧ Own ε w' (ringL b (l ++ [x]) :: R) := by
 obtain ⟨g, P, cap, f, pl, h, H⟩ := H.ring_open
 rw [List.length_map] at H
 have hfew := h.few
 rw [List.length_map] at hfew
 have h4 := h.four
 have hm := h.most
 have k0 := H.cells.1
 have HH := Lib.hid H; clear H
 by_cases hfull : l.length = P
 ·have hb : ((l.length : Int) == (P : Int)) = true := by simp [hfull]
  go_enter Tryz.func125, Tryz.ntmps125
  go_wp2_with fail
  go_quiet (fail)
  replace HH := Lib.hid (HH.out.drewN nq)
  go_wp2_with fail
  refine (rlGrow_c ε _ _ b g P cap f _ pl _ h (by omega) HH.out).mono ?_
  rintro e w4 ⟨rfl, g2, pl2, h2, H4⟩
  obtain ⟨P2, hP2⟩ : ∃ P2, P2 = 2 * P := ⟨_, rfl⟩
  rw [← hP2] at h2 H4
  have hlt2 : l.length < P2 := by omega
  have hm2 := h2.most
  obtain ⟨f2, hf2⟩ : ∃ f2 : Nat, f2 = 0 := ⟨_, rfl⟩
  rw [show (Value.int .i64 0) = Value.int .i64 (f2 : Int) by rw [hf2]; rfl] at H4
  rw [← hf2] at h2
  obtain ⟨cap2, hc2⟩ : ∃ c, c = P2 := ⟨_, rfl⟩
  rw [show (Value.slice (some ⟨g2, 0, none⟩) P2 P2) = Value.slice (some ⟨g2, 0, none⟩) P2 cap2 by rw [hc2]] at H4
  replace H4 := Lib.hid H4
  clear HH k0 hb h hP2 hf2 h4 hm hfew hfull hc2
  clear pl
  have hr2 := rix_lt h2.flt (Nat.le_of_lt hlt2)
  have hl9 : (l.length : Int) ≤ 1000000 := by omega
  have k1 := H4.out.cells.1
  have kf := H4.out.cells.2
  go_wp2_with (with_reducible refine stop_st ?_)
  refine Stop.go ?_
  go_step
  go_simp
  have H5 := Lib.hid (H4.out.set 2 (.int .i64 ((l.length : Int) + 1)))
  generalize w4.setCell ⟨b, 2, none⟩ (.int .i64 ((l.length : Int) + 1)) = w5 at *
  clear k1 kf H4
  have k1 := H5.out.cells.1 2
  go_wp2_with fail
  refine (rlPlace_c ε w5 _ b g2 P2 cap2 f2 _ l.length h2.flt hm2 (by omega) H5.out).mono ?_
  rintro e w6 ⟨rfl, nd, hnd⟩
  have H6 := Lib.hid (H5.out.drewN nd)
  rw [← hnd] at H6
  clear hnd k1 H5
  obtain ⟨⟨v0, c1⟩, f1, H7⟩ := rlPut ε w6 _ h2 H6.out.r2 _ hr2
  have H8 := Lib.hid (H7 (.pointer (some ⟨x, 0, none⟩))).r2
  clear H7 H6
  go_wp2_with fail
  first | go_end0 | ((try simp only [Exit.inBlock, Exit.then]); refine bodyPost_ret (results_none rfl _ _ _) rfl ?_)
  refine ⟨rfl, ?_⟩
  have hh := h2.push (by simpa using hlt2) [.pointer (some ⟨x, 0, none⟩)] rfl (by simp [Value.oneCell'])
  rw [List.length_map] at hh
  have hmap : (l.map encL ++ [[Value.pointer (some ⟨x, 0, none⟩)]]) = (l ++ [x]).map encL := by simp [encL]
  rw [hmap] at hh
  exact Own.ring_mk' (n := l.length + 1) (by simp) hh H8.out
 ·have hb : ((l.length : Int) == (P : Int)) = false := by simp; omega
  go_enter Tryz.func125, Tryz.ntmps125
  go_wp2_with fail
  go_quiet (fail)
  have H4 := Lib.hid (HH.out.drewN nq)
  clear HH
  have k1 := H4.out.cells.1
  have kf := H4.out.cells.2
  generalize w.drewN nq = w4 at *
  have h2 := h
  have hlt2 : l.length < P := by omega
  have hm2 := hm
  clear h
  have hr2 := rix_lt h2.flt (Nat.le_of_lt hlt2)
  have hl9 : (l.length : Int) ≤ 1000000 := by omega
  go_wp2_with (with_reducible refine stop_st ?_)
  refine Stop.go ?_
  go_step
  go_simp
  have H5 := Lib.hid (H4.out.set 2 (.int .i64 ((l.length : Int) + 1)))
  generalize w4.setCell ⟨b, 2, none⟩ (.int .i64 ((l.length : Int) + 1)) = w5 at *
  clear k1 kf H4
  have k1 := H5.out.cells.1 2
  go_wp2_with fail
  refine (rlPlace_c ε w5 _ b g P cap f _ l.length h2.flt hm2 (by omega) H5.out).mono ?_
  rintro e w6 ⟨rfl, nd, hnd⟩
  have H6 := Lib.hid (H5.out.drewN nd)
  rw [← hnd] at H6
  clear hnd k1 H5
  obtain ⟨⟨v0, c1⟩, f1, H7⟩ := rlPut ε w6 _ h2 H6.out.r2 _ hr2
  have H8 := Lib.hid (H7 (.pointer (some ⟨x, 0, none⟩))).r2
  clear H7 H6
  go_wp2_with fail
  first | go_end0 | ((try simp only [Exit.inBlock, Exit.then]); refine bodyPost_ret (results_none rfl _ _ _) rfl ?_)
  refine ⟨rfl, ?_⟩
  have hh := h2.push (by simpa using hlt2) [.pointer (some ⟨x, 0, none⟩)] rfl (by simp [Value.oneCell'])
  rw [List.length_map] at hh
  have hmap : (l.map encL ++ [[Value.pointer (some ⟨x, 0, none⟩)]]) = (l ++ [x]).map encL := by simp [encL]
  rw [hmap] at hh
  exact Own.ring_mk' (n := l.length + 1) (by simp) hh H8.out
end
end Go.Proofs.YtmkcpnlbicijoaaGreat
