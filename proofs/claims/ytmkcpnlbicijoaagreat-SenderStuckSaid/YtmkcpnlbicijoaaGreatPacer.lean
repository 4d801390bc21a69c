/- pacer, and its reference. -/
import Derived.Test.YtmkcpnlbicijoaaGreatCalm
import Derived.Test.YtmkcpnlbicijoaaGreatRttD
import Derived.Test.YtmkcpnlbicijoaaGreatMixK
import Derived.Test.YtmkcpnlbicijoaaGreatRange
namespace Go.Proofs.YtmkcpnlbicijoaaGreat
open Go.RowKit
structure Pac where
 now : Int
 cr : Int
 rate : Int
 qu : Int
def Pac.zero : Pac := ⟨0, 0, 0, 0⟩
def Pac.Ok (s : Pac) : Prop := U s.now ∧ U s.cr ∧ U s.rate ∧ U s.qu
instance (s : Pac) : Decidable s.Ok := inferInstanceAs (Decidable (_ ∧ _ ∧ _ ∧ _))
def Pac.tick (s : Pac) (now rate qu : Int) : Int × Pac := if now < s.now then (2, s) else (0, ⟨now, min (sadd s.cr (smul rate (now - s.now))) (smul qu 1000000), rate, qu⟩)
def Pac.take (s : Pac) (n : Int) : Bool × Pac := if s.cr < smul n 1000000 then (false, s) else (true, { s with cr := s.cr - smul n 1000000 })
def Pac.fill (s : Pac) : Pac := { s with cr := smul s.qu 1000000 }
def Pac.next (s : Pac) (n : Int) : Int × Bool := if s.qu < n then (0, false) else if ssub (smul n 1000000) s.cr = 0 then (s.now, true) else if s.rate = 0 then (0, false) else (sadd s.now (sover (ssub (smul n 1000000) s.cr) 1 s.rate), true)
theorem U_million : U 1000000 := by decide
theorem Pac.ok_zero : Pac.zero.Ok := by decide
theorem Pac.ok_tick {s : Pac} {now rate qu : Int} (h : s.Ok) (h1 : U now) (h2 : U rate) (h3 : U qu) : (s.tick now rate qu).2.Ok := by
 obtain ⟨a, b, c, d⟩ := h
 unfold Pac.tick
 split
 ·exact ⟨a, b, c, d⟩
 ·refine ⟨h1, ?_, h2, h3⟩
  have : U (now - s.now) := by unfold U at *; omega
  have h4 := U_sadd b (U_smul h2 this)
  have h5 := U_smul h3 U_million
  show U (min _ _)
  unfold U at *; omega
theorem Pac.ok_take {s : Pac} {n : Int} (h : s.Ok) (hn : U n) : (s.take n).2.Ok := by
 obtain ⟨a, b, c, d⟩ := h
 unfold Pac.take
 split
 ·exact ⟨a, b, c, d⟩
 ·refine ⟨a, ?_, c, d⟩
  have := U_smul hn U_million
  show U (s.cr - _)
  unfold U at *; omega
theorem ite_minP (a b : Int) : (if b < a then b else a) = min a b := by split <;> omega
def pac (b : Nat) (s : Pac) : Asn := pts b (.cells #[.int .u64 s.rate, .int .u64 s.qu, .int .u64 s.now, .int .u64 s.cr] 126 (0, 0))
section
variable (ε w : World) (R : List Asn) (b : Nat) (s : Pac)
theorem pacNew_c (H : Own ε w R) : Calls Tryz.prog 30 #[] w fun e w' => ∃ b, e = .returned (.pointer (some ⟨b, 0, none⟩)) ∧ Own ε w' (pac b Pac.zero :: R) := by
 have HH := Lib.hid H
 clear H
 go_enter Tryz.func30, Tryz.ntmps30
 go_wp2_with fail
 go_ret
 exact ⟨_, rfl, HH.out.alloc _⟩
theorem pacFine_c (n : Int) (hn : U n) : Calls Tryz.prog 82 #[.int .u64 n] w fun e w' => e = .returned (.int .u64 (smul n 1000000)) ∧ w = w' := by
 go_enter Tryz.func82, Tryz.ntmps82
 go_wp2_with fail
 refine (fixMul_c _ n 1000000 hn U_million).mono ?_
 rintro e w' ⟨rfl, rfl⟩
 go_wp2_with fail
 go_ret
 exact ⟨rfl, rfl⟩
set_option maxHeartbeats 1600000 in
theorem pacTick_c (now rate qu : Int) (hs : s.Ok) (h1 : U now) (h2 : U rate) (h3 : U qu) (H : Own ε w (pac b s :: R)) :
  Calls Tryz.prog 40 #[.pointer (some ⟨b, 0, none⟩), .int .u64 now, .int .u64 rate, .int .u64 qu] w fun e w' => e = .returned (.int .i64 (s.tick now rate qu).1) ∧ Own ε w' (pac b (s.tick now rate qu).2 :: R) := by
 obtain ⟨sn, sc, sr, sq⟩ := s
 obtain ⟨g1, g2, g3, g4⟩ := hs
 simp only at g1 g2 g3 g4
 unfold pac at *
 simp only at *
 have HH := Lib.hid H
 clear H
 by_cases hb : now < sn
 ·rw [show (⟨sn, sc, sr, sq⟩ : Pac).tick now rate qu = (2, ⟨sn, sc, sr, sq⟩) from if_pos hb]
  (try clear k1); have k1 := HH.out.cells
  go_enter Tryz.func40, Tryz.ntmps40
  go_wp2_with fail
  go_ret
  exact ⟨rfl, HH.out⟩
 ·rw [show (⟨sn, sc, sr, sq⟩ : Pac).tick now rate qu = (0, ⟨now, min (sadd sc (smul rate (now - sn))) (smul qu 1000000), rate, qu⟩) from if_neg hb]
  have hd : U (now - sn) := by unfold U at *; omega
  have hw : IntKind.u64.wrap (now - sn) = now - sn := by unfold U at hd; rw [IntKind.wrap_u64]; omega
  have hm := Lib.hid (U_smul h2 hd)
  replace hd := Lib.hid hd
  replace h1 := Lib.hid h1
  replace h2 := Lib.hid h2
  replace h3 := Lib.hid h3
  replace g2 := Lib.hid g2
  clear g1 g3 g4
  have im := ite_minP
  have k1 := HH.out.cells
  go_enter Tryz.func40, Tryz.ntmps40
  go_wp2_with fail
  clear k1
  refine wp_region_mixk ε [pts b (.cells #[.int .u64 sr, .int .u64 sq, .int .u64 sn, .int .u64 sc] 126 (0, 0))] (some 20) (by kernel_rfl) ?_
  change wpMixK _ _ _ _ _ _ _ _ _ w.drew
  replace HH := Lib.hid HH.out.drew
  generalize w.drew = wm at *
  have HS : Own ε wm [pts b (.cells #[.int .u64 sr, .int .u64 sq, .int .u64 sn, .int .u64 sc] 126 (0, 0))] := HH.out.pn
  refine mixk_q (i := 0) rfl (by kernel_rfl) (fun _ _ _ _ h => h) HS (fun K hK => ?_)
  go_simp
  (first | refine hK _ ?_ | (apply Exists.intro; refine ⟨?_, hK _ ?_⟩; focus intro wx hx; have x1' := hx.cells; first | (first | (go_at_call 62; refine (fixMul_c wx rate (now - sn) h2.out hd.out).mono ?_; rintro e wy ⟨rfl, hbel⟩; exact ⟨rfl, (by first | exact .same hbel | exact .drew hbel | exact .below hbel : Kp wx wy)⟩) | (go_at_call 82; refine (pacFine_c wx qu h3.out).mono ?_; rintro e wy ⟨rfl, hbel⟩; exact ⟨rfl, (by first | exact .same hbel | exact .drew hbel | exact .below hbel : Kp wx wy)⟩)) | (go_simp; first | rfl | exact ⟨rfl, rfl⟩) | rfl | exact ⟨rfl, rfl⟩)); clear hK K
  refine mixk_q (i := 1) rfl (by kernel_rfl) (fun _ _ _ _ h => h) HS (fun K hK => ?_)
  go_simp
  (first | refine hK _ ?_ | (apply Exists.intro; refine ⟨?_, hK _ ?_⟩; focus intro wx hx; have x1' := hx.cells; first | (first | (go_at_call 62; refine (fixMul_c wx rate (now - sn) h2.out hd.out).mono ?_; rintro e wy ⟨rfl, hbel⟩; exact ⟨rfl, (by first | exact .same hbel | exact .drew hbel | exact .below hbel : Kp wx wy)⟩) | (go_at_call 82; refine (pacFine_c wx qu h3.out).mono ?_; rintro e wy ⟨rfl, hbel⟩; exact ⟨rfl, (by first | exact .same hbel | exact .drew hbel | exact .below hbel : Kp wx wy)⟩)) | (go_simp; first | rfl | exact ⟨rfl, rfl⟩) | rfl | exact ⟨rfl, rfl⟩)); clear hK K
  refine mixk_q (i := 2) rfl (by kernel_rfl) (fun _ _ _ _ h => h) HS (fun K hK => ?_)
  go_simp
  (first | refine hK _ ?_ | (apply Exists.intro; refine ⟨?_, hK _ ?_⟩; focus intro wx hx; have x1' := hx.cells; first | (first | (go_at_call 62; refine (fixMul_c wx rate (now - sn) h2.out hd.out).mono ?_; rintro e wy ⟨rfl, hbel⟩; exact ⟨rfl, (by first | exact .same hbel | exact .drew hbel | exact .below hbel : Kp wx wy)⟩) | (go_at_call 82; refine (pacFine_c wx qu h3.out).mono ?_; rintro e wy ⟨rfl, hbel⟩; exact ⟨rfl, (by first | exact .same hbel | exact .drew hbel | exact .below hbel : Kp wx wy)⟩)) | (go_simp; first | rfl | exact ⟨rfl, rfl⟩) | rfl | exact ⟨rfl, rfl⟩)); clear hK K
  refine mixk_q (i := 3) rfl (by kernel_rfl) (fun _ _ _ _ h => h) HS (fun K hK => ?_)
  go_simp
  (first | refine hK _ ?_ | (apply Exists.intro; refine ⟨?_, hK _ ?_⟩; focus intro wx hx; have x1' := hx.cells; first | (first | (go_at_call 62; refine (fixMul_c wx rate (now - sn) h2.out hd.out).mono ?_; rintro e wy ⟨rfl, hbel⟩; exact ⟨rfl, (by first | exact .same hbel | exact .drew hbel | exact .below hbel : Kp wx wy)⟩) | (go_at_call 82; refine (pacFine_c wx qu h3.out).mono ?_; rintro e wy ⟨rfl, hbel⟩; exact ⟨rfl, (by first | exact .same hbel | exact .drew hbel | exact .below hbel : Kp wx wy)⟩)) | (go_simp; first | rfl | exact ⟨rfl, rfl⟩) | rfl | exact ⟨rfl, rfl⟩)); clear hK K
  refine mixk_q (i := 4) rfl (by kernel_rfl) (fun _ _ _ _ h => h) HS (fun K hK => ?_)
  go_simp
  (first | refine hK _ ?_ | (apply Exists.intro; refine ⟨?_, hK _ ?_⟩; focus intro wx hx; have x1' := hx.cells; first | (first | (go_at_call 62; refine (fixMul_c wx rate (now - sn) h2.out hd.out).mono ?_; rintro e wy ⟨rfl, hbel⟩; exact ⟨rfl, (by first | exact .same hbel | exact .drew hbel | exact .below hbel : Kp wx wy)⟩) | (go_at_call 82; refine (pacFine_c wx qu h3.out).mono ?_; rintro e wy ⟨rfl, hbel⟩; exact ⟨rfl, (by first | exact .same hbel | exact .drew hbel | exact .below hbel : Kp wx wy)⟩)) | (go_simp; first | rfl | exact ⟨rfl, rfl⟩) | rfl | exact ⟨rfl, rfl⟩)); clear hK K
  refine mixk_q (i := 5) rfl (by kernel_rfl) (fun _ _ _ _ h => h) HS (fun K hK => ?_)
  go_simp
  (first | refine hK _ ?_ | (apply Exists.intro; refine ⟨?_, hK _ ?_⟩; focus intro wx hx; have x1' := hx.cells; first | (first | (go_at_call 62; refine (fixMul_c wx rate (now - sn) h2.out hd.out).mono ?_; rintro e wy ⟨rfl, hbel⟩; exact ⟨rfl, (by first | exact .same hbel | exact .drew hbel | exact .below hbel : Kp wx wy)⟩) | (go_at_call 82; refine (pacFine_c wx qu h3.out).mono ?_; rintro e wy ⟨rfl, hbel⟩; exact ⟨rfl, (by first | exact .same hbel | exact .drew hbel | exact .below hbel : Kp wx wy)⟩)) | (go_simp; first | rfl | exact ⟨rfl, rfl⟩) | rfl | exact ⟨rfl, rfl⟩)); clear hK K
  refine mixk_q (i := 6) rfl (by kernel_rfl) (fun _ _ _ _ h => h) HS (fun K hK => ?_)
  go_simp
  (first | refine hK _ ?_ | (apply Exists.intro; refine ⟨?_, hK _ ?_⟩; focus intro wx hx; have x1' := hx.cells; first | (first | (go_at_call 62; refine (fixMul_c wx rate (now - sn) h2.out hd.out).mono ?_; rintro e wy ⟨rfl, hbel⟩; exact ⟨rfl, (by first | exact .same hbel | exact .drew hbel | exact .below hbel : Kp wx wy)⟩) | (go_at_call 82; refine (pacFine_c wx qu h3.out).mono ?_; rintro e wy ⟨rfl, hbel⟩; exact ⟨rfl, (by first | exact .same hbel | exact .drew hbel | exact .below hbel : Kp wx wy)⟩)) | (go_simp; first | rfl | exact ⟨rfl, rfl⟩) | rfl | exact ⟨rfl, rfl⟩)); clear hK K
  refine mixk_q (i := 7) rfl (by kernel_rfl) (fun _ _ _ _ h => h) HS (fun K hK => ?_)
  go_simp
  (first | refine hK _ ?_ | (apply Exists.intro; refine ⟨?_, hK _ ?_⟩; focus intro wx hx; have x1' := hx.cells; first | (first | (go_at_call 62; refine (fixMul_c wx rate (now - sn) h2.out hd.out).mono ?_; rintro e wy ⟨rfl, hbel⟩; exact ⟨rfl, (by first | exact .same hbel | exact .drew hbel | exact .below hbel : Kp wx wy)⟩) | (go_at_call 82; refine (pacFine_c wx qu h3.out).mono ?_; rintro e wy ⟨rfl, hbel⟩; exact ⟨rfl, (by first | exact .same hbel | exact .drew hbel | exact .below hbel : Kp wx wy)⟩)) | (go_simp; first | rfl | exact ⟨rfl, rfl⟩) | rfl | exact ⟨rfl, rfl⟩)); clear hK K
  refine mixk_q (i := 8) rfl (by kernel_rfl) (fun _ _ _ _ h => h) HS (fun K hK => ?_)
  go_simp
  (first | refine hK _ ?_ | (apply Exists.intro; refine ⟨?_, hK _ ?_⟩; focus intro wx hx; have x1' := hx.cells; first | (first | (go_at_call 62; refine (fixMul_c wx rate (now - sn) h2.out hd.out).mono ?_; rintro e wy ⟨rfl, hbel⟩; exact ⟨rfl, (by first | exact .same hbel | exact .drew hbel | exact .below hbel : Kp wx wy)⟩) | (go_at_call 82; refine (pacFine_c wx qu h3.out).mono ?_; rintro e wy ⟨rfl, hbel⟩; exact ⟨rfl, (by first | exact .same hbel | exact .drew hbel | exact .below hbel : Kp wx wy)⟩)) | (go_simp; first | rfl | exact ⟨rfl, rfl⟩) | rfl | exact ⟨rfl, rfl⟩)); clear hK K
  refine mixk_q (i := 9) rfl (by kernel_rfl) (fun _ _ _ _ h => h) HS (fun K hK => ?_)
  go_simp
  (first | refine hK _ ?_ | (apply Exists.intro; refine ⟨?_, hK _ ?_⟩; focus intro wx hx; have x1' := hx.cells; first | (first | (go_at_call 62; refine (fixMul_c wx rate (now - sn) h2.out hd.out).mono ?_; rintro e wy ⟨rfl, hbel⟩; exact ⟨rfl, (by first | exact .same hbel | exact .drew hbel | exact .below hbel : Kp wx wy)⟩) | (go_at_call 82; refine (pacFine_c wx qu h3.out).mono ?_; rintro e wy ⟨rfl, hbel⟩; exact ⟨rfl, (by first | exact .same hbel | exact .drew hbel | exact .below hbel : Kp wx wy)⟩)) | (go_simp; first | rfl | exact ⟨rfl, rfl⟩) | rfl | exact ⟨rfl, rfl⟩)); clear hK K
  refine mixk_q (i := 10) rfl (by kernel_rfl) (fun _ _ _ _ h => h) HS (fun K hK => ?_)
  go_simp
  (first | refine hK _ ?_ | (apply Exists.intro; refine ⟨?_, hK _ ?_⟩; focus intro wx hx; have x1' := hx.cells; first | (first | (go_at_call 62; refine (fixMul_c wx rate (now - sn) h2.out hd.out).mono ?_; rintro e wy ⟨rfl, hbel⟩; exact ⟨rfl, (by first | exact .same hbel | exact .drew hbel | exact .below hbel : Kp wx wy)⟩) | (go_at_call 82; refine (pacFine_c wx qu h3.out).mono ?_; rintro e wy ⟨rfl, hbel⟩; exact ⟨rfl, (by first | exact .same hbel | exact .drew hbel | exact .below hbel : Kp wx wy)⟩)) | (go_simp; first | rfl | exact ⟨rfl, rfl⟩) | rfl | exact ⟨rfl, rfl⟩)); clear hK K
  refine mixk_q (i := 11) rfl (by kernel_rfl) (fun _ _ _ _ h => h) HS (fun K hK => ?_)
  go_simp
  (first | refine hK _ ?_ | (apply Exists.intro; refine ⟨?_, hK _ ?_⟩; focus intro wx hx; have x1' := hx.cells; first | (first | (go_at_call 62; refine (fixMul_c wx rate (now - sn) h2.out hd.out).mono ?_; rintro e wy ⟨rfl, hbel⟩; exact ⟨rfl, (by first | exact .same hbel | exact .drew hbel | exact .below hbel : Kp wx wy)⟩) | (go_at_call 82; refine (pacFine_c wx qu h3.out).mono ?_; rintro e wy ⟨rfl, hbel⟩; exact ⟨rfl, (by first | exact .same hbel | exact .drew hbel | exact .below hbel : Kp wx wy)⟩)) | (go_simp; first | rfl | exact ⟨rfl, rfl⟩) | rfl | exact ⟨rfl, rfl⟩)); clear hK K
  refine mixk_q (i := 12) rfl (by kernel_rfl) (fun _ _ _ _ h => h) HS (fun K hK => ?_)
  go_simp
  (first | refine hK _ ?_ | (apply Exists.intro; refine ⟨?_, hK _ ?_⟩; focus intro wx hx; have x1' := hx.cells; first | (first | (go_at_call 62; refine (fixMul_c wx rate (now - sn) h2.out hd.out).mono ?_; rintro e wy ⟨rfl, hbel⟩; exact ⟨rfl, (by first | exact .same hbel | exact .drew hbel | exact .below hbel : Kp wx wy)⟩) | (go_at_call 82; refine (pacFine_c wx qu h3.out).mono ?_; rintro e wy ⟨rfl, hbel⟩; exact ⟨rfl, (by first | exact .same hbel | exact .drew hbel | exact .below hbel : Kp wx wy)⟩)) | (go_simp; first | rfl | exact ⟨rfl, rfl⟩) | rfl | exact ⟨rfl, rfl⟩)); clear hK K
  refine mixk_q (i := 15) rfl (by kernel_rfl) (fun _ _ _ _ h => h) HS (fun K hK => ?_)
  go_simp
  (first | refine hK _ ?_ | (apply Exists.intro; refine ⟨?_, hK _ ?_⟩; focus intro wx hx; have x1' := hx.cells; first | (first | (go_at_call 62; refine (fixMul_c wx rate (now - sn) h2.out hd.out).mono ?_; rintro e wy ⟨rfl, hbel⟩; exact ⟨rfl, (by first | exact .same hbel | exact .drew hbel | exact .below hbel : Kp wx wy)⟩) | (go_at_call 82; refine (pacFine_c wx qu h3.out).mono ?_; rintro e wy ⟨rfl, hbel⟩; exact ⟨rfl, (by first | exact .same hbel | exact .drew hbel | exact .below hbel : Kp wx wy)⟩)) | (go_simp; first | rfl | exact ⟨rfl, rfl⟩) | rfl | exact ⟨rfl, rfl⟩)); clear hK K
  refine mixk_l (i := 13) rfl (by kernel_rfl) (fun K hK wn hk => ?_)
  replace HH := Lib.hid (hk _ _ HH.out)
  clear hk HS
  go_simp
  replace HH := Lib.hid (HH.out.alloc (.cells #[.int .u64 sc, .int .u64 (smul rate (now - sn))] 22))
  generalize wn.alloc (.cells #[.int .u64 sc, .int .u64 (smul rate (now - sn))] 22) = wm at *
  generalize wn.heap.size = sb at *
  have HS : Own ε wm [pts b (.cells #[.int .u64 sr, .int .u64 sq, .int .u64 sn, .int .u64 sc] 126 (0, 0))] := HH.out.pn
  refine hK _ _ HS ?_
  clear hK K
  refine mixk_l (i := 14) rfl (by kernel_rfl) (fun K hK wn hk => ?_)
  replace HH := Lib.hid (hk _ _ HH.out)
  clear hk HS
  go_simp
  refine (fixAdd2_c wn sb _ _ g2.out hm.out (HH.out.cells.1 0) (HH.out.cells.1 1)).mono ?_
  rintro e wm ⟨rfl, hbel⟩
  replace HH := Lib.hid ((by first | exact .same hbel | exact .drew hbel | exact .below hbel : Kp wn wm) _ _ HH.out)
  clear hbel
  have HS : Own ε wm [pts b (.cells #[.int .u64 sr, .int .u64 sq, .int .u64 sn, .int .u64 sc] 126 (0, 0))] := HH.out.pn
  refine hK _ _ HS ?_
  clear hK K
  refine mixk_q (i := 16) rfl (by kernel_rfl) (fun _ _ _ _ h => h) HS (fun K hK => ?_)
  go_simp
  (first | refine hK _ ?_ | (apply Exists.intro; refine ⟨?_, hK _ ?_⟩; focus intro wx hx; have x1' := hx.cells; first | (first | (go_at_call 62; refine (fixMul_c wx rate (now - sn) h2.out hd.out).mono ?_; rintro e wy ⟨rfl, hbel⟩; exact ⟨rfl, (by first | exact .same hbel | exact .drew hbel | exact .below hbel : Kp wx wy)⟩) | (go_at_call 82; refine (pacFine_c wx qu h3.out).mono ?_; rintro e wy ⟨rfl, hbel⟩; exact ⟨rfl, (by first | exact .same hbel | exact .drew hbel | exact .below hbel : Kp wx wy)⟩)) | (go_simp; first | rfl | exact ⟨rfl, rfl⟩) | rfl | exact ⟨rfl, rfl⟩)); clear hK K
  refine mixk_q (i := 17) rfl (by kernel_rfl) (fun _ _ _ _ h => h) HS (fun K hK => ?_)
  go_simp
  (first | refine hK _ ?_ | (apply Exists.intro; refine ⟨?_, hK _ ?_⟩; focus intro wx hx; have x1' := hx.cells; first | (first | (go_at_call 62; refine (fixMul_c wx rate (now - sn) h2.out hd.out).mono ?_; rintro e wy ⟨rfl, hbel⟩; exact ⟨rfl, (by first | exact .same hbel | exact .drew hbel | exact .below hbel : Kp wx wy)⟩) | (go_at_call 82; refine (pacFine_c wx qu h3.out).mono ?_; rintro e wy ⟨rfl, hbel⟩; exact ⟨rfl, (by first | exact .same hbel | exact .drew hbel | exact .below hbel : Kp wx wy)⟩)) | (go_simp; first | rfl | exact ⟨rfl, rfl⟩) | rfl | exact ⟨rfl, rfl⟩)); clear hK K
  refine mixk_q (i := 18) rfl (by kernel_rfl) (fun _ _ _ _ h => h) HS (fun K hK => ?_)
  go_simp
  (first | refine hK _ ?_ | (apply Exists.intro; refine ⟨?_, hK _ ?_⟩; focus intro wx hx; have x1' := hx.cells; first | (first | (go_at_call 62; refine (fixMul_c wx rate (now - sn) h2.out hd.out).mono ?_; rintro e wy ⟨rfl, hbel⟩; exact ⟨rfl, (by first | exact .same hbel | exact .drew hbel | exact .below hbel : Kp wx wy)⟩) | (go_at_call 82; refine (pacFine_c wx qu h3.out).mono ?_; rintro e wy ⟨rfl, hbel⟩; exact ⟨rfl, (by first | exact .same hbel | exact .drew hbel | exact .below hbel : Kp wx wy)⟩)) | (go_simp; first | rfl | exact ⟨rfl, rfl⟩) | rfl | exact ⟨rfl, rfl⟩)); clear hK K
  refine mixk_q (i := 19) rfl (by kernel_rfl) (fun _ _ _ _ h => h) HS (fun K hK => ?_)
  go_simp
  (first | refine hK _ ?_ | (apply Exists.intro; refine ⟨?_, hK _ ?_⟩; focus intro wx hx; have x1' := hx.cells; first | (first | (go_at_call 62; refine (fixMul_c wx rate (now - sn) h2.out hd.out).mono ?_; rintro e wy ⟨rfl, hbel⟩; exact ⟨rfl, (by first | exact .same hbel | exact .drew hbel | exact .below hbel : Kp wx wy)⟩) | (go_at_call 82; refine (pacFine_c wx qu h3.out).mono ?_; rintro e wy ⟨rfl, hbel⟩; exact ⟨rfl, (by first | exact .same hbel | exact .drew hbel | exact .below hbel : Kp wx wy)⟩)) | (go_simp; first | rfl | exact ⟨rfl, rfl⟩) | rfl | exact ⟨rfl, rfl⟩)); clear hK K
  refine mixk_e (last := 20) rfl (by kernel_rfl) (fun K hK wn hk => ?_)
  replace HH := Lib.hid (hk _ _ HH.out)
  clear hk HS
  have hx : Own ε wn [pts b (.cells #[.int .u64 sr, .int .u64 sq, .int .u64 sn, .int .u64 sc] 126 (0, 0))] := HH.out.pn
  have x1' := hx.cells
  go_simp
  replace HH := Lib.hid ((HH.out.r2.set 3 (.int .u64 (min (sadd sc (smul rate (now - sn))) (smul qu 1000000)))))
  generalize wn.setCell ⟨b, 3, none⟩ (.int .u64 (min (sadd sc (smul rate (now - sn))) (smul qu 1000000))) = wm at *
  clear hx
  refine hK _ _ ?_
  clear hK K
  refine mixk_done (by kernel_rfl) (fun w2 hk => ?_) _
  replace HH := Lib.hid (hk _ _ HH.out)
  clear hk
  clear hw
  replace HH := Lib.hid (show Own ε w2 (pts b (.cells #[.int .u64 sr, .int .u64 sq, .int .u64 sn, .int .u64 (min (sadd sc (smul rate (now - sn))) (smul qu 1000000))] 126 (0, 0)) :: _) from HH.out)
  (try clear k1); have k1 := HH.out.cells
  go_wp2_with fail
  go_ret
  exact ⟨rfl, (Own.pm ((show Own ε _ (pts b (.cells #[.int .u64 rate, .int .u64 qu, .int .u64 now, .int .u64 (min (sadd sc (smul rate (now - sn))) (smul qu 1000000))] 126 (0, 0)) :: _) from ((HH.out.set 2 (.int .u64 now)).set 0 (.int .u64 rate)).set 1 (.int .u64 qu))) (by with_reducible repeat (first | exact .refl _ | exact .nil _ | refine .here ?_ | refine .at2 ?_ | refine .at3 ?_ | refine .at4 ?_ | refine .at5 ?_ | refine .at6 ?_ | refine .at7 ?_ | refine .at8 ?_ | refine .skip ?_)))⟩
set_option maxHeartbeats 1600000 in
theorem pacTake_c (n : Int) (hn : U n) (hs : s.Ok) (H : Own ε w (pac b s :: R)) :
  Calls Tryz.prog 83 #[.pointer (some ⟨b, 0, none⟩), .int .u64 n] w fun e w' => e = .returned (.bool (s.take n).1) ∧ Own ε w' (pac b (s.take n).2 :: R) := by
 obtain ⟨sn, sc, sr, sq⟩ := s
 have g2 := hs.2.1
 have hm := U_smul hn U_million
 unfold pac at *
 have HH := Lib.hid H
 clear H hs
 replace hn := Lib.hid hn
 by_cases hb : sc < smul n 1000000
 ·rw [show (⟨sn, sc, sr, sq⟩ : Pac).take n = (false, ⟨sn, sc, sr, sq⟩) from if_pos hb]
  clear g2 hm
  go_enter Tryz.func83, Tryz.ntmps83
  go_wp2_with fail
  refine wp_region_calm ε (pts b (.cells #[.int .u64 sr, .int .u64 sq, .int .u64 sn, .int .u64 sc] 126 (0, 0)) :: R) (by kernel_rfl) (by kernel_rfl) HH.out ?_
  repeat
   first
   | go_big_quiet_skip
   | (go_big_quiet_want; go_big_quiet_op; first | go_big_quiet_on | (apply Exists.intro; refine ⟨?_, ?_⟩; (focus (intro wx hx; have x1' := hx.cells; first | (first | (go_at_call 82; refine (pacFine_c wx n hn.out).mono ?_; rintro e wy ⟨rfl, hbel⟩; exact ⟨rfl, (by first | exact .same hbel | exact .drew hbel | exact .below hbel : Kp wx wy) _ _ hx⟩)) | (go_simp; first | rfl | exact ⟨rfl, rfl⟩) | rfl | exact ⟨rfl, rfl⟩)); go_big_quiet_on))
   | (refine wpQuiet_step (fun K hK => ?_)
      go_simp
      first
      | (refine hK _ ?_; clear hK K)
      | (apply Exists.intro
         refine ⟨?_, hK _ ?_⟩
         (focus (intro wx hx; have x1' := hx.cells; first | (first | (go_at_call 82; refine (pacFine_c wx n hn.out).mono ?_; rintro e wy ⟨rfl, hbel⟩; exact ⟨rfl, (by first | exact .same hbel | exact .drew hbel | exact .below hbel : Kp wx wy) _ _ hx⟩)) | (go_simp; first | rfl | exact ⟨rfl, rfl⟩) | rfl | exact ⟨rfl, rfl⟩))
         clear hK K))
  refine wpQuiet_nil ?_
  intro w2 H9_
  replace HH := Lib.hid H9_
  clear H9_
  go_wp2_with fail
  go_ret
  exact ⟨rfl, HH.out⟩
 ·rw [show (⟨sn, sc, sr, sq⟩ : Pac).take n = (true, ⟨sn, sc - smul n 1000000, sr, sq⟩) from if_neg hb]
  have hw : IntKind.u64.wrap (sc - smul n 1000000) = sc - smul n 1000000 := by simp only at g2; unfold U at g2 hm; rw [IntKind.wrap_u64]; omega
  clear g2 hm
  go_enter Tryz.func83, Tryz.ntmps83
  go_wp2_with fail
  refine wp_region_calm ε (pts b (.cells #[.int .u64 sr, .int .u64 sq, .int .u64 sn, .int .u64 sc] 126 (0, 0)) :: R) (by kernel_rfl) (by kernel_rfl) HH.out ?_
  repeat
   first
   | go_big_quiet_skip
   | (go_big_quiet_want; go_big_quiet_op; first | go_big_quiet_on | (apply Exists.intro; refine ⟨?_, ?_⟩; (focus (intro wx hx; have x1' := hx.cells; first | (first | (go_at_call 82; refine (pacFine_c wx n hn.out).mono ?_; rintro e wy ⟨rfl, hbel⟩; exact ⟨rfl, (by first | exact .same hbel | exact .drew hbel | exact .below hbel : Kp wx wy) _ _ hx⟩)) | (go_simp; first | rfl | exact ⟨rfl, rfl⟩) | rfl | exact ⟨rfl, rfl⟩)); go_big_quiet_on))
   | (refine wpQuiet_step (fun K hK => ?_)
      go_simp
      first
      | (refine hK _ ?_; clear hK K)
      | (apply Exists.intro
         refine ⟨?_, hK _ ?_⟩
         (focus (intro wx hx; have x1' := hx.cells; first | (first | (go_at_call 82; refine (pacFine_c wx n hn.out).mono ?_; rintro e wy ⟨rfl, hbel⟩; exact ⟨rfl, (by first | exact .same hbel | exact .drew hbel | exact .below hbel : Kp wx wy) _ _ hx⟩)) | (go_simp; first | rfl | exact ⟨rfl, rfl⟩) | rfl | exact ⟨rfl, rfl⟩))
         clear hK K))
  refine wpQuiet_nil ?_
  intro w2 H9_
  replace HH := Lib.hid H9_
  clear H9_
  go_wp2_with fail
  refine wp_region_mixk ε [pts b (.cells #[.int .u64 sr, .int .u64 sq, .int .u64 sn, .int .u64 sc] 126 (0, 0))] (some 9) (by kernel_rfl) ?_
  change wpMixK _ _ _ _ _ _ _ _ _ w2.drew
  replace HH := Lib.hid HH.out.drew
  generalize w2.drew = wm at *
  have HS : Own ε wm [pts b (.cells #[.int .u64 sr, .int .u64 sq, .int .u64 sn, .int .u64 sc] 126 (0, 0))] := HH.out.pn
  refine mixk_q (i := 0) rfl (by kernel_rfl) (fun _ _ _ _ h => h) HS (fun K hK => ?_)
  go_simp
  (first | refine hK _ ?_ | (apply Exists.intro; refine ⟨?_, hK _ ?_⟩; focus intro wx hx; have x1' := hx.cells; first | (first | (go_at_call 82; refine (pacFine_c wx n hn.out).mono ?_; rintro e wy ⟨rfl, hbel⟩; exact ⟨rfl, (by first | exact .same hbel | exact .drew hbel | exact .below hbel : Kp wx wy)⟩)) | (go_simp; first | rfl | exact ⟨rfl, rfl⟩) | rfl | exact ⟨rfl, rfl⟩)); clear hK K
  refine mixk_q (i := 1) rfl (by kernel_rfl) (fun _ _ _ _ h => h) HS (fun K hK => ?_)
  go_simp
  (first | refine hK _ ?_ | (apply Exists.intro; refine ⟨?_, hK _ ?_⟩; focus intro wx hx; have x1' := hx.cells; first | (first | (go_at_call 82; refine (pacFine_c wx n hn.out).mono ?_; rintro e wy ⟨rfl, hbel⟩; exact ⟨rfl, (by first | exact .same hbel | exact .drew hbel | exact .below hbel : Kp wx wy)⟩)) | (go_simp; first | rfl | exact ⟨rfl, rfl⟩) | rfl | exact ⟨rfl, rfl⟩)); clear hK K
  refine mixk_q (i := 2) rfl (by kernel_rfl) (fun _ _ _ _ h => h) HS (fun K hK => ?_)
  go_simp
  (first | refine hK _ ?_ | (apply Exists.intro; refine ⟨?_, hK _ ?_⟩; focus intro wx hx; have x1' := hx.cells; first | (first | (go_at_call 82; refine (pacFine_c wx n hn.out).mono ?_; rintro e wy ⟨rfl, hbel⟩; exact ⟨rfl, (by first | exact .same hbel | exact .drew hbel | exact .below hbel : Kp wx wy)⟩)) | (go_simp; first | rfl | exact ⟨rfl, rfl⟩) | rfl | exact ⟨rfl, rfl⟩)); clear hK K
  refine mixk_q (i := 3) rfl (by kernel_rfl) (fun _ _ _ _ h => h) HS (fun K hK => ?_)
  go_simp
  (first | refine hK _ ?_ | (apply Exists.intro; refine ⟨?_, hK _ ?_⟩; focus intro wx hx; have x1' := hx.cells; first | (first | (go_at_call 82; refine (pacFine_c wx n hn.out).mono ?_; rintro e wy ⟨rfl, hbel⟩; exact ⟨rfl, (by first | exact .same hbel | exact .drew hbel | exact .below hbel : Kp wx wy)⟩)) | (go_simp; first | rfl | exact ⟨rfl, rfl⟩) | rfl | exact ⟨rfl, rfl⟩)); clear hK K
  refine mixk_q (i := 4) rfl (by kernel_rfl) (fun _ _ _ _ h => h) HS (fun K hK => ?_)
  go_simp
  (first | refine hK _ ?_ | (apply Exists.intro; refine ⟨?_, hK _ ?_⟩; focus intro wx hx; have x1' := hx.cells; first | (first | (go_at_call 82; refine (pacFine_c wx n hn.out).mono ?_; rintro e wy ⟨rfl, hbel⟩; exact ⟨rfl, (by first | exact .same hbel | exact .drew hbel | exact .below hbel : Kp wx wy)⟩)) | (go_simp; first | rfl | exact ⟨rfl, rfl⟩) | rfl | exact ⟨rfl, rfl⟩)); clear hK K
  refine mixk_q (i := 5) rfl (by kernel_rfl) (fun _ _ _ _ h => h) HS (fun K hK => ?_)
  go_simp
  (first | refine hK _ ?_ | (apply Exists.intro; refine ⟨?_, hK _ ?_⟩; focus intro wx hx; have x1' := hx.cells; first | (first | (go_at_call 82; refine (pacFine_c wx n hn.out).mono ?_; rintro e wy ⟨rfl, hbel⟩; exact ⟨rfl, (by first | exact .same hbel | exact .drew hbel | exact .below hbel : Kp wx wy)⟩)) | (go_simp; first | rfl | exact ⟨rfl, rfl⟩) | rfl | exact ⟨rfl, rfl⟩)); clear hK K
  refine mixk_q (i := 6) rfl (by kernel_rfl) (fun _ _ _ _ h => h) HS (fun K hK => ?_)
  go_simp
  (first | refine hK _ ?_ | (apply Exists.intro; refine ⟨?_, hK _ ?_⟩; focus intro wx hx; have x1' := hx.cells; first | (first | (go_at_call 82; refine (pacFine_c wx n hn.out).mono ?_; rintro e wy ⟨rfl, hbel⟩; exact ⟨rfl, (by first | exact .same hbel | exact .drew hbel | exact .below hbel : Kp wx wy)⟩)) | (go_simp; first | rfl | exact ⟨rfl, rfl⟩) | rfl | exact ⟨rfl, rfl⟩)); clear hK K
  refine mixk_q (i := 7) rfl (by kernel_rfl) (fun _ _ _ _ h => h) HS (fun K hK => ?_)
  go_simp
  (first | refine hK _ ?_ | (apply Exists.intro; refine ⟨?_, hK _ ?_⟩; focus intro wx hx; have x1' := hx.cells; first | (first | (go_at_call 82; refine (pacFine_c wx n hn.out).mono ?_; rintro e wy ⟨rfl, hbel⟩; exact ⟨rfl, (by first | exact .same hbel | exact .drew hbel | exact .below hbel : Kp wx wy)⟩)) | (go_simp; first | rfl | exact ⟨rfl, rfl⟩) | rfl | exact ⟨rfl, rfl⟩)); clear hK K
  refine mixk_q (i := 8) rfl (by kernel_rfl) (fun _ _ _ _ h => h) HS (fun K hK => ?_)
  go_simp
  (first | refine hK _ ?_ | (apply Exists.intro; refine ⟨?_, hK _ ?_⟩; focus intro wx hx; have x1' := hx.cells; first | (first | (go_at_call 82; refine (pacFine_c wx n hn.out).mono ?_; rintro e wy ⟨rfl, hbel⟩; exact ⟨rfl, (by first | exact .same hbel | exact .drew hbel | exact .below hbel : Kp wx wy)⟩)) | (go_simp; first | rfl | exact ⟨rfl, rfl⟩) | rfl | exact ⟨rfl, rfl⟩)); clear hK K
  refine mixk_e (last := 9) rfl (by kernel_rfl) (fun K hK wn hk => ?_)
  replace HH := Lib.hid (hk _ _ HH.out)
  clear hk HS
  have hx : Own ε wn [pts b (.cells #[.int .u64 sr, .int .u64 sq, .int .u64 sn, .int .u64 sc] 126 (0, 0))] := HH.out.pn
  have x1' := hx.cells
  go_simp
  replace HH := Lib.hid ((HH.out.set 3 (.int .u64 (sc - smul n 1000000))))
  generalize wn.setCell ⟨b, 3, none⟩ (.int .u64 (sc - smul n 1000000)) = wm at *
  clear hx
  refine hK _ _ ?_
  clear hK K
  refine mixk_done (by kernel_rfl) (fun w3 hk => ?_) _
  replace HH := Lib.hid (hk _ _ HH.out)
  clear hk
  clear hw
  go_wp2_with fail
  go_ret
  exact ⟨rfl, HH.out⟩
set_option maxHeartbeats 1600000 in
theorem pacNext_c (n : Int) (hn : U n) (hs : s.Ok) (H : Own ε w (pac b s :: R)) :
  Calls Tryz.prog 44 #[.pointer (some ⟨b, 0, none⟩), .int .u64 n] w fun e w' => e = .returned (.tuple #[.int .u64 (s.next n).1, .bool (s.next n).2]) ∧ Own ε w' (pac b s :: R) := by
 obtain ⟨sn, sc, sr, sq⟩ := s
 obtain ⟨g1, g2, g3, g4⟩ := hs
 simp only at g1 g2 g3 g4
 have hm := U_smul hn U_million
 have hu := U_ssub hm g2
 have ho := U_sover (c := sr) hu (show U 1 by decide)
 unfold pac at *
 have HH := Lib.hid H
 clear H
 replace hn := Lib.hid hn
 replace hm := Lib.hid hm
 replace g1 := Lib.hid g1
 replace g2 := Lib.hid g2
 replace g3 := Lib.hid g3
 replace hu := Lib.hid hu
 replace ho := Lib.hid ho
 clear g4
 unfold Pac.next
 simp only
 by_cases h0 : sq < n
 ·rw [if_pos h0]
  (try clear k1); have k1 := HH.out.cells
  go_enter Tryz.func44, Tryz.ntmps44
  go_wp2
  go_ret2
  exact ⟨rfl, HH.out⟩
 rw [if_neg h0]
 by_cases h1 : ssub (smul n 1000000) sc = 0
 ·rw [if_pos h1]
  (try clear k1); have k1 := HH.out.cells
  go_enter Tryz.func44, Tryz.ntmps44
  go_wp2_with fail
  clear k1
  refine wp_region_mixk ε [pts b (.cells #[.int .u64 sr, .int .u64 sq, .int .u64 sn, .int .u64 sc] 126 (0, 0))] none (by kernel_rfl) ?_
  change wpMixK _ _ _ _ _ _ _ _ _ w.drew
  replace HH := Lib.hid HH.out.drew
  generalize w.drew = wm at *
  have HS : Own ε wm [pts b (.cells #[.int .u64 sr, .int .u64 sq, .int .u64 sn, .int .u64 sc] 126 (0, 0))] := HH.out.pn
  refine mixk_q (i := 0) rfl (by kernel_rfl) (fun _ _ _ _ h => h) HS (fun K hK => ?_)
  go_simp
  (first | refine hK _ ?_ | (apply Exists.intro; refine ⟨?_, hK _ ?_⟩; focus intro wx hx; have x1' := hx.cells; first | (first | (go_at_call 82; refine (pacFine_c wx n hn.out).mono ?_; rintro e wy ⟨rfl, hbel⟩; exact ⟨rfl, (by first | exact .same hbel | exact .drew hbel | exact .below hbel : Kp wx wy)⟩)) | (go_simp; first | rfl | exact ⟨rfl, rfl⟩) | rfl | exact ⟨rfl, rfl⟩)); clear hK K
  refine mixk_q (i := 1) rfl (by kernel_rfl) (fun _ _ _ _ h => h) HS (fun K hK => ?_)
  go_simp
  (first | refine hK _ ?_ | (apply Exists.intro; refine ⟨?_, hK _ ?_⟩; focus intro wx hx; have x1' := hx.cells; first | (first | (go_at_call 82; refine (pacFine_c wx n hn.out).mono ?_; rintro e wy ⟨rfl, hbel⟩; exact ⟨rfl, (by first | exact .same hbel | exact .drew hbel | exact .below hbel : Kp wx wy)⟩)) | (go_simp; first | rfl | exact ⟨rfl, rfl⟩) | rfl | exact ⟨rfl, rfl⟩)); clear hK K
  refine mixk_q (i := 2) rfl (by kernel_rfl) (fun _ _ _ _ h => h) HS (fun K hK => ?_)
  go_simp
  (first | refine hK _ ?_ | (apply Exists.intro; refine ⟨?_, hK _ ?_⟩; focus intro wx hx; have x1' := hx.cells; first | (first | (go_at_call 82; refine (pacFine_c wx n hn.out).mono ?_; rintro e wy ⟨rfl, hbel⟩; exact ⟨rfl, (by first | exact .same hbel | exact .drew hbel | exact .below hbel : Kp wx wy)⟩)) | (go_simp; first | rfl | exact ⟨rfl, rfl⟩) | rfl | exact ⟨rfl, rfl⟩)); clear hK K
  refine mixk_q (i := 3) rfl (by kernel_rfl) (fun _ _ _ _ h => h) HS (fun K hK => ?_)
  go_simp
  (first | refine hK _ ?_ | (apply Exists.intro; refine ⟨?_, hK _ ?_⟩; focus intro wx hx; have x1' := hx.cells; first | (first | (go_at_call 82; refine (pacFine_c wx n hn.out).mono ?_; rintro e wy ⟨rfl, hbel⟩; exact ⟨rfl, (by first | exact .same hbel | exact .drew hbel | exact .below hbel : Kp wx wy)⟩)) | (go_simp; first | rfl | exact ⟨rfl, rfl⟩) | rfl | exact ⟨rfl, rfl⟩)); clear hK K
  refine mixk_q (i := 4) rfl (by kernel_rfl) (fun _ _ _ _ h => h) HS (fun K hK => ?_)
  go_simp
  (first | refine hK _ ?_ | (apply Exists.intro; refine ⟨?_, hK _ ?_⟩; focus intro wx hx; have x1' := hx.cells; first | (first | (go_at_call 82; refine (pacFine_c wx n hn.out).mono ?_; rintro e wy ⟨rfl, hbel⟩; exact ⟨rfl, (by first | exact .same hbel | exact .drew hbel | exact .below hbel : Kp wx wy)⟩)) | (go_simp; first | rfl | exact ⟨rfl, rfl⟩) | rfl | exact ⟨rfl, rfl⟩)); clear hK K
  refine mixk_q (i := 5) rfl (by kernel_rfl) (fun _ _ _ _ h => h) HS (fun K hK => ?_)
  go_simp
  (first | refine hK _ ?_ | (apply Exists.intro; refine ⟨?_, hK _ ?_⟩; focus intro wx hx; have x1' := hx.cells; first | (first | (go_at_call 82; refine (pacFine_c wx n hn.out).mono ?_; rintro e wy ⟨rfl, hbel⟩; exact ⟨rfl, (by first | exact .same hbel | exact .drew hbel | exact .below hbel : Kp wx wy)⟩)) | (go_simp; first | rfl | exact ⟨rfl, rfl⟩) | rfl | exact ⟨rfl, rfl⟩)); clear hK K
  refine mixk_l (i := 6) rfl (by kernel_rfl) (fun K hK wn hk => ?_)
  replace HH := Lib.hid (hk _ _ HH.out)
  clear hk HS
  go_simp
  replace HH := Lib.hid (HH.out.alloc (.cells #[.int .u64 sc] 22))
  generalize wn.alloc (.cells #[.int .u64 sc] 22) = wm at *
  generalize wn.heap.size = sb at *
  have HS : Own ε wm [pts b (.cells #[.int .u64 sr, .int .u64 sq, .int .u64 sn, .int .u64 sc] 126 (0, 0))] := HH.out.pn
  refine hK _ _ HS ?_
  clear hK K
  refine mixk_l (i := 7) rfl (by kernel_rfl) (fun K hK wn hk => ?_)
  replace HH := Lib.hid (hk _ _ HH.out)
  clear hk HS
  go_simp
  refine (fixSub_c wn _ _ _ _ [sc] hm.out (rdInts_at [sc] (by intro i hi; simp at hi; subst hi; exact HH.out.cells.1 0) (by intro x hx; simp at hx; subst hx; exact g2.out) (by simp [maxLen]))).mono ?_
  rw [show sless (smul n 1000000) [sc] = ssub (smul n 1000000) sc from by first | rfl | decide]
  rintro e wm ⟨rfl, hbel⟩
  replace HH := Lib.hid ((by first | exact .same hbel | exact .drew hbel | exact .below hbel : Kp wn wm) _ _ HH.out)
  clear hbel
  have HS : Own ε wm [pts b (.cells #[.int .u64 sr, .int .u64 sq, .int .u64 sn, .int .u64 sc] 126 (0, 0))] := HH.out.pn
  refine hK _ _ HS ?_
  clear hK K
  refine mixk_q (i := 8) rfl (by kernel_rfl) (fun _ _ _ _ h => h) HS (fun K hK => ?_)
  go_simp
  (first | refine hK _ ?_ | (apply Exists.intro; refine ⟨?_, hK _ ?_⟩; focus intro wx hx; have x1' := hx.cells; first | (first | (go_at_call 82; refine (pacFine_c wx n hn.out).mono ?_; rintro e wy ⟨rfl, hbel⟩; exact ⟨rfl, (by first | exact .same hbel | exact .drew hbel | exact .below hbel : Kp wx wy)⟩)) | (go_simp; first | rfl | exact ⟨rfl, rfl⟩) | rfl | exact ⟨rfl, rfl⟩)); clear hK K
  refine mixk_done (by kernel_rfl) (fun w2 hk => ?_) _
  replace HH := Lib.hid (hk _ _ HH.out)
  clear hk HS
  replace HH := Lib.hid (HH.out.pn : Own ε w2 (pts b (.cells #[.int .u64 sr, .int .u64 sq, .int .u64 sn, .int .u64 sc] 126 (0, 0)) :: R))
  (try clear k1); have k1 := HH.out.cells
  go_wp2
  go_ret2
  exact ⟨rfl, HH.out⟩
 rw [if_neg h1]
 have b1 : (ssub (smul n 1000000) sc == 0) = false := by simpa using h1
 by_cases h2 : sr = 0
 ·rw [if_pos h2]
  subst h2
  (try clear k1); have k1 := HH.out.cells
  go_enter Tryz.func44, Tryz.ntmps44
  go_wp2_with fail
  clear k1
  refine wp_region_mixk ε [pts b (.cells #[.int .u64 0, .int .u64 sq, .int .u64 sn, .int .u64 sc] 126 (0, 0))] none (by kernel_rfl) ?_
  change wpMixK _ _ _ _ _ _ _ _ _ w.drew
  replace HH := Lib.hid HH.out.drew
  generalize w.drew = wm at *
  have HS : Own ε wm [pts b (.cells #[.int .u64 0, .int .u64 sq, .int .u64 sn, .int .u64 sc] 126 (0, 0))] := HH.out.pn
  refine mixk_q (i := 0) rfl (by kernel_rfl) (fun _ _ _ _ h => h) HS (fun K hK => ?_)
  go_simp
  (first | refine hK _ ?_ | (apply Exists.intro; refine ⟨?_, hK _ ?_⟩; focus intro wx hx; have x1' := hx.cells; first | (first | (go_at_call 82; refine (pacFine_c wx n hn.out).mono ?_; rintro e wy ⟨rfl, hbel⟩; exact ⟨rfl, (by first | exact .same hbel | exact .drew hbel | exact .below hbel : Kp wx wy)⟩)) | (go_simp; first | rfl | exact ⟨rfl, rfl⟩) | rfl | exact ⟨rfl, rfl⟩)); clear hK K
  refine mixk_q (i := 1) rfl (by kernel_rfl) (fun _ _ _ _ h => h) HS (fun K hK => ?_)
  go_simp
  (first | refine hK _ ?_ | (apply Exists.intro; refine ⟨?_, hK _ ?_⟩; focus intro wx hx; have x1' := hx.cells; first | (first | (go_at_call 82; refine (pacFine_c wx n hn.out).mono ?_; rintro e wy ⟨rfl, hbel⟩; exact ⟨rfl, (by first | exact .same hbel | exact .drew hbel | exact .below hbel : Kp wx wy)⟩)) | (go_simp; first | rfl | exact ⟨rfl, rfl⟩) | rfl | exact ⟨rfl, rfl⟩)); clear hK K
  refine mixk_q (i := 2) rfl (by kernel_rfl) (fun _ _ _ _ h => h) HS (fun K hK => ?_)
  go_simp
  (first | refine hK _ ?_ | (apply Exists.intro; refine ⟨?_, hK _ ?_⟩; focus intro wx hx; have x1' := hx.cells; first | (first | (go_at_call 82; refine (pacFine_c wx n hn.out).mono ?_; rintro e wy ⟨rfl, hbel⟩; exact ⟨rfl, (by first | exact .same hbel | exact .drew hbel | exact .below hbel : Kp wx wy)⟩)) | (go_simp; first | rfl | exact ⟨rfl, rfl⟩) | rfl | exact ⟨rfl, rfl⟩)); clear hK K
  refine mixk_q (i := 3) rfl (by kernel_rfl) (fun _ _ _ _ h => h) HS (fun K hK => ?_)
  go_simp
  (first | refine hK _ ?_ | (apply Exists.intro; refine ⟨?_, hK _ ?_⟩; focus intro wx hx; have x1' := hx.cells; first | (first | (go_at_call 82; refine (pacFine_c wx n hn.out).mono ?_; rintro e wy ⟨rfl, hbel⟩; exact ⟨rfl, (by first | exact .same hbel | exact .drew hbel | exact .below hbel : Kp wx wy)⟩)) | (go_simp; first | rfl | exact ⟨rfl, rfl⟩) | rfl | exact ⟨rfl, rfl⟩)); clear hK K
  refine mixk_q (i := 4) rfl (by kernel_rfl) (fun _ _ _ _ h => h) HS (fun K hK => ?_)
  go_simp
  (first | refine hK _ ?_ | (apply Exists.intro; refine ⟨?_, hK _ ?_⟩; focus intro wx hx; have x1' := hx.cells; first | (first | (go_at_call 82; refine (pacFine_c wx n hn.out).mono ?_; rintro e wy ⟨rfl, hbel⟩; exact ⟨rfl, (by first | exact .same hbel | exact .drew hbel | exact .below hbel : Kp wx wy)⟩)) | (go_simp; first | rfl | exact ⟨rfl, rfl⟩) | rfl | exact ⟨rfl, rfl⟩)); clear hK K
  refine mixk_q (i := 5) rfl (by kernel_rfl) (fun _ _ _ _ h => h) HS (fun K hK => ?_)
  go_simp
  (first | refine hK _ ?_ | (apply Exists.intro; refine ⟨?_, hK _ ?_⟩; focus intro wx hx; have x1' := hx.cells; first | (first | (go_at_call 82; refine (pacFine_c wx n hn.out).mono ?_; rintro e wy ⟨rfl, hbel⟩; exact ⟨rfl, (by first | exact .same hbel | exact .drew hbel | exact .below hbel : Kp wx wy)⟩)) | (go_simp; first | rfl | exact ⟨rfl, rfl⟩) | rfl | exact ⟨rfl, rfl⟩)); clear hK K
  refine mixk_l (i := 6) rfl (by kernel_rfl) (fun K hK wn hk => ?_)
  replace HH := Lib.hid (hk _ _ HH.out)
  clear hk HS
  go_simp
  replace HH := Lib.hid (HH.out.alloc (.cells #[.int .u64 sc] 22))
  generalize wn.alloc (.cells #[.int .u64 sc] 22) = wm at *
  generalize wn.heap.size = sb at *
  have HS : Own ε wm [pts b (.cells #[.int .u64 0, .int .u64 sq, .int .u64 sn, .int .u64 sc] 126 (0, 0))] := HH.out.pn
  refine hK _ _ HS ?_
  clear hK K
  refine mixk_l (i := 7) rfl (by kernel_rfl) (fun K hK wn hk => ?_)
  replace HH := Lib.hid (hk _ _ HH.out)
  clear hk HS
  go_simp
  refine (fixSub_c wn _ _ _ _ [sc] hm.out (rdInts_at [sc] (by intro i hi; simp at hi; subst hi; exact HH.out.cells.1 0) (by intro x hx; simp at hx; subst hx; exact g2.out) (by simp [maxLen]))).mono ?_
  rw [show sless (smul n 1000000) [sc] = ssub (smul n 1000000) sc from by first | rfl | decide]
  rintro e wm ⟨rfl, hbel⟩
  replace HH := Lib.hid ((by first | exact .same hbel | exact .drew hbel | exact .below hbel : Kp wn wm) _ _ HH.out)
  clear hbel
  have HS : Own ε wm [pts b (.cells #[.int .u64 0, .int .u64 sq, .int .u64 sn, .int .u64 sc] 126 (0, 0))] := HH.out.pn
  refine hK _ _ HS ?_
  clear hK K
  refine mixk_q (i := 8) rfl (by kernel_rfl) (fun _ _ _ _ h => h) HS (fun K hK => ?_)
  go_simp
  (first | refine hK _ ?_ | (apply Exists.intro; refine ⟨?_, hK _ ?_⟩; focus intro wx hx; have x1' := hx.cells; first | (first | (go_at_call 82; refine (pacFine_c wx n hn.out).mono ?_; rintro e wy ⟨rfl, hbel⟩; exact ⟨rfl, (by first | exact .same hbel | exact .drew hbel | exact .below hbel : Kp wx wy)⟩)) | (go_simp; first | rfl | exact ⟨rfl, rfl⟩) | rfl | exact ⟨rfl, rfl⟩)); clear hK K
  refine mixk_done (by kernel_rfl) (fun w2 hk => ?_) _
  replace HH := Lib.hid (hk _ _ HH.out)
  clear hk HS
  replace HH := Lib.hid (HH.out.pn : Own ε w2 (pts b (.cells #[.int .u64 0, .int .u64 sq, .int .u64 sn, .int .u64 sc] 126 (0, 0)) :: R))
  (try clear k1); have k1 := HH.out.cells
  go_wp2
  go_ret2
  exact ⟨rfl, HH.out⟩
 ·rw [if_neg h2]
  have b2 : (sr == 0) = false := by simpa using h2
  (try clear k1); have k1 := HH.out.cells
  go_enter Tryz.func44, Tryz.ntmps44
  go_wp2_with fail
  clear k1
  refine wp_region_mixk ε [pts b (.cells #[.int .u64 sr, .int .u64 sq, .int .u64 sn, .int .u64 sc] 126 (0, 0))] none (by kernel_rfl) ?_
  change wpMixK _ _ _ _ _ _ _ _ _ w.drew
  replace HH := Lib.hid HH.out.drew
  generalize w.drew = wm at *
  have HS : Own ε wm [pts b (.cells #[.int .u64 sr, .int .u64 sq, .int .u64 sn, .int .u64 sc] 126 (0, 0))] := HH.out.pn
  refine mixk_q (i := 0) rfl (by kernel_rfl) (fun _ _ _ _ h => h) HS (fun K hK => ?_)
  go_simp
  (first | refine hK _ ?_ | (apply Exists.intro; refine ⟨?_, hK _ ?_⟩; focus intro wx hx; have x1' := hx.cells; first | (first | (go_at_call 82; refine (pacFine_c wx n hn.out).mono ?_; rintro e wy ⟨rfl, hbel⟩; exact ⟨rfl, (by first | exact .same hbel | exact .drew hbel | exact .below hbel : Kp wx wy)⟩)) | (go_simp; first | rfl | exact ⟨rfl, rfl⟩) | rfl | exact ⟨rfl, rfl⟩)); clear hK K
  refine mixk_q (i := 1) rfl (by kernel_rfl) (fun _ _ _ _ h => h) HS (fun K hK => ?_)
  go_simp
  (first | refine hK _ ?_ | (apply Exists.intro; refine ⟨?_, hK _ ?_⟩; focus intro wx hx; have x1' := hx.cells; first | (first | (go_at_call 82; refine (pacFine_c wx n hn.out).mono ?_; rintro e wy ⟨rfl, hbel⟩; exact ⟨rfl, (by first | exact .same hbel | exact .drew hbel | exact .below hbel : Kp wx wy)⟩)) | (go_simp; first | rfl | exact ⟨rfl, rfl⟩) | rfl | exact ⟨rfl, rfl⟩)); clear hK K
  refine mixk_q (i := 2) rfl (by kernel_rfl) (fun _ _ _ _ h => h) HS (fun K hK => ?_)
  go_simp
  (first | refine hK _ ?_ | (apply Exists.intro; refine ⟨?_, hK _ ?_⟩; focus intro wx hx; have x1' := hx.cells; first | (first | (go_at_call 82; refine (pacFine_c wx n hn.out).mono ?_; rintro e wy ⟨rfl, hbel⟩; exact ⟨rfl, (by first | exact .same hbel | exact .drew hbel | exact .below hbel : Kp wx wy)⟩)) | (go_simp; first | rfl | exact ⟨rfl, rfl⟩) | rfl | exact ⟨rfl, rfl⟩)); clear hK K
  refine mixk_q (i := 3) rfl (by kernel_rfl) (fun _ _ _ _ h => h) HS (fun K hK => ?_)
  go_simp
  (first | refine hK _ ?_ | (apply Exists.intro; refine ⟨?_, hK _ ?_⟩; focus intro wx hx; have x1' := hx.cells; first | (first | (go_at_call 82; refine (pacFine_c wx n hn.out).mono ?_; rintro e wy ⟨rfl, hbel⟩; exact ⟨rfl, (by first | exact .same hbel | exact .drew hbel | exact .below hbel : Kp wx wy)⟩)) | (go_simp; first | rfl | exact ⟨rfl, rfl⟩) | rfl | exact ⟨rfl, rfl⟩)); clear hK K
  refine mixk_q (i := 4) rfl (by kernel_rfl) (fun _ _ _ _ h => h) HS (fun K hK => ?_)
  go_simp
  (first | refine hK _ ?_ | (apply Exists.intro; refine ⟨?_, hK _ ?_⟩; focus intro wx hx; have x1' := hx.cells; first | (first | (go_at_call 82; refine (pacFine_c wx n hn.out).mono ?_; rintro e wy ⟨rfl, hbel⟩; exact ⟨rfl, (by first | exact .same hbel | exact .drew hbel | exact .below hbel : Kp wx wy)⟩)) | (go_simp; first | rfl | exact ⟨rfl, rfl⟩) | rfl | exact ⟨rfl, rfl⟩)); clear hK K
  refine mixk_q (i := 5) rfl (by kernel_rfl) (fun _ _ _ _ h => h) HS (fun K hK => ?_)
  go_simp
  (first | refine hK _ ?_ | (apply Exists.intro; refine ⟨?_, hK _ ?_⟩; focus intro wx hx; have x1' := hx.cells; first | (first | (go_at_call 82; refine (pacFine_c wx n hn.out).mono ?_; rintro e wy ⟨rfl, hbel⟩; exact ⟨rfl, (by first | exact .same hbel | exact .drew hbel | exact .below hbel : Kp wx wy)⟩)) | (go_simp; first | rfl | exact ⟨rfl, rfl⟩) | rfl | exact ⟨rfl, rfl⟩)); clear hK K
  refine mixk_l (i := 6) rfl (by kernel_rfl) (fun K hK wn hk => ?_)
  replace HH := Lib.hid (hk _ _ HH.out)
  clear hk HS
  go_simp
  replace HH := Lib.hid (HH.out.alloc (.cells #[.int .u64 sc] 22))
  generalize wn.alloc (.cells #[.int .u64 sc] 22) = wm at *
  generalize wn.heap.size = sb at *
  have HS : Own ε wm [pts b (.cells #[.int .u64 sr, .int .u64 sq, .int .u64 sn, .int .u64 sc] 126 (0, 0))] := HH.out.pn
  refine hK _ _ HS ?_
  clear hK K
  refine mixk_l (i := 7) rfl (by kernel_rfl) (fun K hK wn hk => ?_)
  replace HH := Lib.hid (hk _ _ HH.out)
  clear hk HS
  go_simp
  refine (fixSub_c wn _ _ _ _ [sc] hm.out (rdInts_at [sc] (by intro i hi; simp at hi; subst hi; exact HH.out.cells.1 0) (by intro x hx; simp at hx; subst hx; exact g2.out) (by simp [maxLen]))).mono ?_
  rw [show sless (smul n 1000000) [sc] = ssub (smul n 1000000) sc from by first | rfl | decide]
  rintro e wm ⟨rfl, hbel⟩
  replace HH := Lib.hid ((by first | exact .same hbel | exact .drew hbel | exact .below hbel : Kp wn wm) _ _ HH.out)
  clear hbel
  have HS : Own ε wm [pts b (.cells #[.int .u64 sr, .int .u64 sq, .int .u64 sn, .int .u64 sc] 126 (0, 0))] := HH.out.pn
  refine hK _ _ HS ?_
  clear hK K
  refine mixk_q (i := 8) rfl (by kernel_rfl) (fun _ _ _ _ h => h) HS (fun K hK => ?_)
  go_simp
  (first | refine hK _ ?_ | (apply Exists.intro; refine ⟨?_, hK _ ?_⟩; focus intro wx hx; have x1' := hx.cells; first | (first | (go_at_call 82; refine (pacFine_c wx n hn.out).mono ?_; rintro e wy ⟨rfl, hbel⟩; exact ⟨rfl, (by first | exact .same hbel | exact .drew hbel | exact .below hbel : Kp wx wy)⟩)) | (go_simp; first | rfl | exact ⟨rfl, rfl⟩) | rfl | exact ⟨rfl, rfl⟩)); clear hK K
  refine mixk_done (by kernel_rfl) (fun w2 hk => ?_) _
  replace HH := Lib.hid (hk _ _ HH.out)
  clear hk HS
  replace HH := Lib.hid (HH.out.pn : Own ε w2 (pts b (.cells #[.int .u64 sr, .int .u64 sq, .int .u64 sn, .int .u64 sc] 126 (0, 0)) :: R))
  (try clear k1); have k1 := HH.out.cells
  go_wp2_with fail
  clear k1
  refine wp_region_mixk ε [pts b (.cells #[.int .u64 sr, .int .u64 sq, .int .u64 sn, .int .u64 sc] 126 (0, 0))] none (by kernel_rfl) ?_
  change wpMixK _ _ _ _ _ _ _ _ _ w2.drew
  replace HH := Lib.hid HH.out.drew
  generalize w2.drew = wm at *
  have HS : Own ε wm [pts b (.cells #[.int .u64 sr, .int .u64 sq, .int .u64 sn, .int .u64 sc] 126 (0, 0))] := HH.out.pn
  refine mixk_q (i := 0) rfl (by kernel_rfl) (fun _ _ _ _ h => h) HS (fun K hK => ?_)
  go_simp
  (first | refine hK _ ?_ | (apply Exists.intro; refine ⟨?_, hK _ ?_⟩; focus intro wx hx; have x1' := hx.cells; first | (first | (go_at_call 88; refine (fixOver_c wx _ 1 sr hu.out (by decide) g3.out).mono ?_; rintro e wy ⟨rfl, hbel⟩; exact ⟨rfl, (by first | exact .same hbel | exact .drew hbel | exact .below hbel : Kp wx wy)⟩)) | (go_simp; first | rfl | exact ⟨rfl, rfl⟩) | rfl | exact ⟨rfl, rfl⟩)); clear hK K
  refine mixk_q (i := 1) rfl (by kernel_rfl) (fun _ _ _ _ h => h) HS (fun K hK => ?_)
  go_simp
  (first | refine hK _ ?_ | (apply Exists.intro; refine ⟨?_, hK _ ?_⟩; focus intro wx hx; have x1' := hx.cells; first | (first | (go_at_call 88; refine (fixOver_c wx _ 1 sr hu.out (by decide) g3.out).mono ?_; rintro e wy ⟨rfl, hbel⟩; exact ⟨rfl, (by first | exact .same hbel | exact .drew hbel | exact .below hbel : Kp wx wy)⟩)) | (go_simp; first | rfl | exact ⟨rfl, rfl⟩) | rfl | exact ⟨rfl, rfl⟩)); clear hK K
  refine mixk_q (i := 2) rfl (by kernel_rfl) (fun _ _ _ _ h => h) HS (fun K hK => ?_)
  go_simp
  (first | refine hK _ ?_ | (apply Exists.intro; refine ⟨?_, hK _ ?_⟩; focus intro wx hx; have x1' := hx.cells; first | (first | (go_at_call 88; refine (fixOver_c wx _ 1 sr hu.out (by decide) g3.out).mono ?_; rintro e wy ⟨rfl, hbel⟩; exact ⟨rfl, (by first | exact .same hbel | exact .drew hbel | exact .below hbel : Kp wx wy)⟩)) | (go_simp; first | rfl | exact ⟨rfl, rfl⟩) | rfl | exact ⟨rfl, rfl⟩)); clear hK K
  refine mixk_q (i := 3) rfl (by kernel_rfl) (fun _ _ _ _ h => h) HS (fun K hK => ?_)
  go_simp
  (first | refine hK _ ?_ | (apply Exists.intro; refine ⟨?_, hK _ ?_⟩; focus intro wx hx; have x1' := hx.cells; first | (first | (go_at_call 88; refine (fixOver_c wx _ 1 sr hu.out (by decide) g3.out).mono ?_; rintro e wy ⟨rfl, hbel⟩; exact ⟨rfl, (by first | exact .same hbel | exact .drew hbel | exact .below hbel : Kp wx wy)⟩)) | (go_simp; first | rfl | exact ⟨rfl, rfl⟩) | rfl | exact ⟨rfl, rfl⟩)); clear hK K
  refine mixk_q (i := 4) rfl (by kernel_rfl) (fun _ _ _ _ h => h) HS (fun K hK => ?_)
  go_simp
  (first | refine hK _ ?_ | (apply Exists.intro; refine ⟨?_, hK _ ?_⟩; focus intro wx hx; have x1' := hx.cells; first | (first | (go_at_call 88; refine (fixOver_c wx _ 1 sr hu.out (by decide) g3.out).mono ?_; rintro e wy ⟨rfl, hbel⟩; exact ⟨rfl, (by first | exact .same hbel | exact .drew hbel | exact .below hbel : Kp wx wy)⟩)) | (go_simp; first | rfl | exact ⟨rfl, rfl⟩) | rfl | exact ⟨rfl, rfl⟩)); clear hK K
  refine mixk_q (i := 5) rfl (by kernel_rfl) (fun _ _ _ _ h => h) HS (fun K hK => ?_)
  go_simp
  (first | refine hK _ ?_ | (apply Exists.intro; refine ⟨?_, hK _ ?_⟩; focus intro wx hx; have x1' := hx.cells; first | (first | (go_at_call 88; refine (fixOver_c wx _ 1 sr hu.out (by decide) g3.out).mono ?_; rintro e wy ⟨rfl, hbel⟩; exact ⟨rfl, (by first | exact .same hbel | exact .drew hbel | exact .below hbel : Kp wx wy)⟩)) | (go_simp; first | rfl | exact ⟨rfl, rfl⟩) | rfl | exact ⟨rfl, rfl⟩)); clear hK K
  refine mixk_q (i := 6) rfl (by kernel_rfl) (fun _ _ _ _ h => h) HS (fun K hK => ?_)
  go_simp
  (first | refine hK _ ?_ | (apply Exists.intro; refine ⟨?_, hK _ ?_⟩; focus intro wx hx; have x1' := hx.cells; first | (first | (go_at_call 88; refine (fixOver_c wx _ 1 sr hu.out (by decide) g3.out).mono ?_; rintro e wy ⟨rfl, hbel⟩; exact ⟨rfl, (by first | exact .same hbel | exact .drew hbel | exact .below hbel : Kp wx wy)⟩)) | (go_simp; first | rfl | exact ⟨rfl, rfl⟩) | rfl | exact ⟨rfl, rfl⟩)); clear hK K
  refine mixk_q (i := 7) rfl (by kernel_rfl) (fun _ _ _ _ h => h) HS (fun K hK => ?_)
  go_simp
  (first | refine hK _ ?_ | (apply Exists.intro; refine ⟨?_, hK _ ?_⟩; focus intro wx hx; have x1' := hx.cells; first | (first | (go_at_call 88; refine (fixOver_c wx _ 1 sr hu.out (by decide) g3.out).mono ?_; rintro e wy ⟨rfl, hbel⟩; exact ⟨rfl, (by first | exact .same hbel | exact .drew hbel | exact .below hbel : Kp wx wy)⟩)) | (go_simp; first | rfl | exact ⟨rfl, rfl⟩) | rfl | exact ⟨rfl, rfl⟩)); clear hK K
  refine mixk_q (i := 8) rfl (by kernel_rfl) (fun _ _ _ _ h => h) HS (fun K hK => ?_)
  go_simp
  (first | refine hK _ ?_ | (apply Exists.intro; refine ⟨?_, hK _ ?_⟩; focus intro wx hx; have x1' := hx.cells; first | (first | (go_at_call 88; refine (fixOver_c wx _ 1 sr hu.out (by decide) g3.out).mono ?_; rintro e wy ⟨rfl, hbel⟩; exact ⟨rfl, (by first | exact .same hbel | exact .drew hbel | exact .below hbel : Kp wx wy)⟩)) | (go_simp; first | rfl | exact ⟨rfl, rfl⟩) | rfl | exact ⟨rfl, rfl⟩)); clear hK K
  refine mixk_q (i := 9) rfl (by kernel_rfl) (fun _ _ _ _ h => h) HS (fun K hK => ?_)
  go_simp
  (first | refine hK _ ?_ | (apply Exists.intro; refine ⟨?_, hK _ ?_⟩; focus intro wx hx; have x1' := hx.cells; first | (first | (go_at_call 88; refine (fixOver_c wx _ 1 sr hu.out (by decide) g3.out).mono ?_; rintro e wy ⟨rfl, hbel⟩; exact ⟨rfl, (by first | exact .same hbel | exact .drew hbel | exact .below hbel : Kp wx wy)⟩)) | (go_simp; first | rfl | exact ⟨rfl, rfl⟩) | rfl | exact ⟨rfl, rfl⟩)); clear hK K
  refine mixk_q (i := 10) rfl (by kernel_rfl) (fun _ _ _ _ h => h) HS (fun K hK => ?_)
  go_simp
  (first | refine hK _ ?_ | (apply Exists.intro; refine ⟨?_, hK _ ?_⟩; focus intro wx hx; have x1' := hx.cells; first | (first | (go_at_call 88; refine (fixOver_c wx _ 1 sr hu.out (by decide) g3.out).mono ?_; rintro e wy ⟨rfl, hbel⟩; exact ⟨rfl, (by first | exact .same hbel | exact .drew hbel | exact .below hbel : Kp wx wy)⟩)) | (go_simp; first | rfl | exact ⟨rfl, rfl⟩) | rfl | exact ⟨rfl, rfl⟩)); clear hK K
  refine mixk_l (i := 11) rfl (by kernel_rfl) (fun K hK wn hk => ?_)
  replace HH := Lib.hid (hk _ _ HH.out)
  clear hk HS
  go_simp
  replace HH := Lib.hid (HH.out.alloc (.cells #[.int .u64 sn, .int .u64 (sover (ssub (smul n 1000000) sc) 1 sr)] 22))
  generalize wn.alloc (.cells #[.int .u64 sn, .int .u64 (sover (ssub (smul n 1000000) sc) 1 sr)] 22) = wm at *
  generalize wn.heap.size = sc2 at *
  have HS : Own ε wm [pts b (.cells #[.int .u64 sr, .int .u64 sq, .int .u64 sn, .int .u64 sc] 126 (0, 0))] := HH.out.pn
  refine hK _ _ HS ?_
  clear hK K
  refine mixk_l (i := 12) rfl (by kernel_rfl) (fun K hK wn hk => ?_)
  replace HH := Lib.hid (hk _ _ HH.out)
  clear hk HS
  go_simp
  refine (fixAdd2_c wn _ _ _ g1.out ho.out (HH.out.cells.1 0) (HH.out.cells.1 1)).mono ?_
  rintro e wm ⟨rfl, hbel⟩
  replace HH := Lib.hid ((by first | exact .same hbel | exact .drew hbel | exact .below hbel : Kp wn wm) _ _ HH.out)
  clear hbel
  have HS : Own ε wm [pts b (.cells #[.int .u64 sr, .int .u64 sq, .int .u64 sn, .int .u64 sc] 126 (0, 0))] := HH.out.pn
  refine hK _ _ HS ?_
  clear hK K
  refine mixk_q (i := 13) rfl (by kernel_rfl) (fun _ _ _ _ h => h) HS (fun K hK => ?_)
  go_simp
  (first | refine hK _ ?_ | (apply Exists.intro; refine ⟨?_, hK _ ?_⟩; focus intro wx hx; have x1' := hx.cells; first | (first | (go_at_call 88; refine (fixOver_c wx _ 1 sr hu.out (by decide) g3.out).mono ?_; rintro e wy ⟨rfl, hbel⟩; exact ⟨rfl, (by first | exact .same hbel | exact .drew hbel | exact .below hbel : Kp wx wy)⟩)) | (go_simp; first | rfl | exact ⟨rfl, rfl⟩) | rfl | exact ⟨rfl, rfl⟩)); clear hK K
  refine mixk_q (i := 14) rfl (by kernel_rfl) (fun _ _ _ _ h => h) HS (fun K hK => ?_)
  go_simp
  (first | refine hK _ ?_ | (apply Exists.intro; refine ⟨?_, hK _ ?_⟩; focus intro wx hx; have x1' := hx.cells; first | (first | (go_at_call 88; refine (fixOver_c wx _ 1 sr hu.out (by decide) g3.out).mono ?_; rintro e wy ⟨rfl, hbel⟩; exact ⟨rfl, (by first | exact .same hbel | exact .drew hbel | exact .below hbel : Kp wx wy)⟩)) | (go_simp; first | rfl | exact ⟨rfl, rfl⟩) | rfl | exact ⟨rfl, rfl⟩)); clear hK K
  refine mixk_done (by kernel_rfl) (fun w3 hk => ?_) _
  replace HH := Lib.hid (hk _ _ HH.out)
  clear hk HS
  go_wp2
  go_ret2
  exact ⟨rfl, HH.out.pn⟩
end
end Go.Proofs.YtmkcpnlbicijoaaGreat
