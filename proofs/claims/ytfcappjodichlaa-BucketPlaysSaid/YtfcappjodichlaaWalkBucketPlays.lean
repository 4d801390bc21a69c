/- The walk of BucketPlays: whatever acts come, the law returns true, and nothing that was there is written. -/
import Derived.Test.YtfcappjodichlaaAlive18
namespace Go.Proofs.Ytfcappjodichlaa
open Go.RowKit
set_option maxRecDepth 100000 in
set_option maxHeartbeats 3200000 in
theorem bucketPlays_c (w : World) (rate : Int) (hrate : (Lit.int .u64 rate).wf = true) (A : Option Addr) (len cap : Nat) (xs : List ActB) (hr : rdSlice rdActB 2 w [.slice A len cap] xs) :
    Calls Try.prog 11 #[.int .u64 rate, .slice A len cap] w fun e w' => e = .returned (.bool true) ∧ Own w w' [old w] := by
  obtain ⟨hl, hm, hx⟩ := rdSlice_cases hr
  clear hr
  replace hrate := U_of_wf hrate
  by_cases hbig : 200 < len
  · go_enter Try.func11, Try.ntmps11
    go_wp2_with fail
    refine (alive18_c w _ _ (Own.init w)).mono ?_
    rintro e w1 ⟨rfl, H1⟩
    replace H1 := Lib.hid H1
    go_wp2_with fail
    go_ret
    exact ⟨rfl, H1.out⟩
  rcases hx with hz | ⟨ab, off, rfl, hx⟩
  all_goals
    go_enter Try.func11, Try.ntmps11
    go_wp2_with fail
    refine (bktNew_c w _ rate (Own.init w)).mono ?_
    rintro e w1 ⟨b1, rfl, H1⟩
    replace H1 := Lib.hid H1
    go_wp2_with fail
    have H2 : Own w (w1.alloc (.cells #[.int .u64 rate, .int .u64 0, .int .u64 0, .int .u64 0] 88)) (bkt b1 (Bkt.new rate) :: rbkt w1.heap.size (Bkt.new rate) :: [old w]) := (H1.out.alloc _).r2
    replace H2 := Lib.hid H2
    generalize hb2 : w1.heap.size = b2 at *
    go_loopw [7] (fun i wr => ∃ (k : Nat) (s : Bkt), k ≤ len ∧ i = .int .i64 k ∧ s.Ok ∧ Own w wr (bkt b1 s :: rbkt b2 s :: [old w])) (fun i _ => len - (intOf i).toNat)
    case atStart => exact ⟨0, Bkt.new rate, Nat.zero_le _, rfl, Bkt.ok_new hrate, H2.out⟩
    case round =>
      obtain ⟨k, s, hk, rfl, hs, HR⟩ := hrel
      replace HR := Lib.hid HR
      clear H1 H2
      by_cases hlt : k < len
      · first
        | (exfalso; omega)
        | (obtain ⟨c, _, hcell, hR⟩ := hx k (by omega)
           obtain ⟨rfl, hK, hU⟩ := rdActB_open hR
           have hw0 : w.cell? ⟨ab, off + k * 2, none⟩ = some (.int .u8 xs[k].1) := hcell 0 _ rfl
           have hw1 : w.cell? ⟨ab, off + k * 2 + 1, none⟩ = some (.int .u64 xs[k].2.1) := hcell 1 _ rfl
           clear hcell hR hx
           generalize xs[k] = x at *
           obtain ⟨x, n, u⟩ := x
           simp only at hU hK hw0 hw1
           obtain ⟨hK0, hK1⟩ := hK
           replace hw1 := Lib.hid hw1
           have g0 := HR.out.r3.old_cell hw0
           have g1 := HR.out.r3.old_cell hw1.out
           clear hw0
           have h3 : x % 3 = 0 ∨ x % 3 = 1 ∨ x % 3 = 2 := by omega
           have hso := Lib.hid hs
           rcases h3 with h3 | h3 | h3
           · go_wp2_with fail
             refine (bktTo_c w wr _ b1 s n hs hU HR.out).mono ?_
             rintro e w3 ⟨rfl, H3⟩
             replace H3 := Lib.hid H3
             have g1 := H3.out.r3.old_cell hw1.out
             go_wp2_with fail
             refine (rbktTo_c w w3 _ b2 s n hs hU H3.out.r2).mono ?_
             rintro e w5 ⟨rfl, H5⟩
             replace H5 := Lib.hid H5
             have hs3 := Bkt.ok_to hU hs
             clear hs hso HR H3 g0
             generalize s.to n = s3 at *
             obtain ⟨c3, _⟩ := H5.out.cells
             go_wp2_with fail
             go_quiet ((first | (go_at_call 64; exact quiet_c (bktTokens_c w _ _ b1 s3 (H5.out.r2.drewN _))) | (go_at_call 65; exact quiet_c (bktWasted_c w _ _ b1 s3 (H5.out.r2.drewN _)))))
             go_wp2_with fail
             go_roundw
             case rel => exact ⟨k + 1, s3, by omega, by go_num, hs3, H5.out.r2.drewN _⟩
             case measure => simp [intOf]; omega
           · go_wp2_with fail
             refine wp_region_mix (fun w' => w'.cell? ⟨ab, off + k * 2 + 1, none⟩ = some (.int .u64 n)) none (by kernel_rfl) ?_
             change wpMix _ _ _ _ _ _ _ _ _ wr.drew
             replace HR := Lib.hid HR.out.drew
             generalize wr.drew = w2 at *
             have HS : (fun w' : World => w'.cell? ⟨ab, off + k * 2 + 1, none⟩ = some (.int .u64 n)) w2 := HR.out.r3.old_cell hw1.out
             refine mix_q (i := 0) rfl (by kernel_rfl) (fun _ _ _ _ h => h) HS (fun K hK => ?_)
             go_simp
             first | (refine hK _ ?_; clear hK K) | (apply Exists.intro; refine ⟨?_, hK _ ?_⟩; (focus (intros; first | rfl | exact ⟨rfl, rfl⟩ | (go_simp; first | rfl | exact ⟨rfl, rfl⟩))); clear hK K)
             refine mix_q (i := 1) rfl (by kernel_rfl) (fun _ _ _ _ h => h) HS (fun K hK => ?_)
             go_simp
             first | (refine hK _ ?_; clear hK K) | (apply Exists.intro; refine ⟨?_, hK _ ?_⟩; (focus (intros; first | rfl | exact ⟨rfl, rfl⟩ | (go_simp; first | rfl | exact ⟨rfl, rfl⟩))); clear hK K)
             refine mix_q (i := 2) rfl (by kernel_rfl) (fun _ _ _ _ h => h) HS (fun K hK => ?_)
             go_simp
             first | (refine hK _ ?_; clear hK K) | (apply Exists.intro; refine ⟨?_, hK _ ?_⟩; (focus (intros; first | rfl | exact ⟨rfl, rfl⟩ | (go_simp; first | rfl | exact ⟨rfl, rfl⟩))); clear hK K)
             refine mix_q (i := 3) rfl (by kernel_rfl) (fun _ _ _ _ h => h) HS (fun K hK => ?_)
             go_simp
             first | (refine hK _ ?_; clear hK K) | (apply Exists.intro; refine ⟨?_, hK _ ?_⟩; (focus (intros; first | rfl | exact ⟨rfl, rfl⟩ | (go_simp; first | rfl | exact ⟨rfl, rfl⟩))); clear hK K)
             refine mix_q (i := 4) rfl (by kernel_rfl) (fun _ _ _ _ h => h) HS (fun K hK => ?_)
             go_simp
             first | (refine hK _ ?_; clear hK K) | (apply Exists.intro; refine ⟨?_, hK _ ?_⟩; (focus (intros; first | rfl | exact ⟨rfl, rfl⟩ | (go_simp; first | rfl | exact ⟨rfl, rfl⟩))); clear hK K)
             refine mix_q (i := 5) rfl (by kernel_rfl) (fun _ _ _ _ h => h) HS (fun K hK => ?_)
             go_simp
             first | (refine hK _ ?_; clear hK K) | (apply Exists.intro; refine ⟨?_, hK _ ?_⟩; (focus (intros; first | rfl | exact ⟨rfl, rfl⟩ | (go_simp; first | rfl | exact ⟨rfl, rfl⟩))); clear hK K)
             refine mix_q (i := 7) rfl (by kernel_rfl) (fun _ _ _ _ h => h) HS (fun K hK => ?_)
             go_simp
             first | (refine hK _ ?_; clear hK K) | (apply Exists.intro; refine ⟨?_, hK _ ?_⟩; (focus (intros; first | rfl | exact ⟨rfl, rfl⟩ | (go_simp; first | rfl | exact ⟨rfl, rfl⟩))); clear hK K)
             refine mix_q (i := 8) rfl (by kernel_rfl) (fun _ _ _ _ h => h) HS (fun K hK => ?_)
             go_simp
             first | (refine hK _ ?_; clear hK K) | (apply Exists.intro; refine ⟨?_, hK _ ?_⟩; (focus (intros; first | rfl | exact ⟨rfl, rfl⟩ | (go_simp; first | rfl | exact ⟨rfl, rfl⟩))); clear hK K)
             refine mix_q (i := 9) rfl (by kernel_rfl) (fun _ _ _ _ h => h) HS (fun K hK => ?_)
             go_simp
             first | (refine hK _ ?_; clear hK K) | (apply Exists.intro; refine ⟨?_, hK _ ?_⟩; (focus (intros; first | rfl | exact ⟨rfl, rfl⟩ | (go_simp; first | rfl | exact ⟨rfl, rfl⟩))); clear hK K)
             refine mix_q (i := 10) rfl (by kernel_rfl) (fun _ _ _ _ h => h) HS (fun K hK => ?_)
             go_simp
             first | (refine hK _ ?_; clear hK K) | (apply Exists.intro; refine ⟨?_, hK _ ?_⟩; (focus (intros; first | rfl | exact ⟨rfl, rfl⟩ | (go_simp; first | rfl | exact ⟨rfl, rfl⟩))); clear hK K)
             refine mix_q (i := 11) rfl (by kernel_rfl) (fun _ _ _ _ h => h) HS (fun K hK => ?_)
             go_simp
             first | (refine hK _ ?_; clear hK K) | (apply Exists.intro; refine ⟨?_, hK _ ?_⟩; (focus (intros; first | rfl | exact ⟨rfl, rfl⟩ | (go_simp; first | rfl | exact ⟨rfl, rfl⟩))); clear hK K)
             refine mix_q (i := 12) rfl (by kernel_rfl) (fun _ _ _ _ h => h) HS (fun K hK => ?_)
             go_simp
             first | (refine hK _ ?_; clear hK K) | (apply Exists.intro; refine ⟨?_, hK _ ?_⟩; (focus (intros; first | rfl | exact ⟨rfl, rfl⟩ | (go_simp; first | rfl | exact ⟨rfl, rfl⟩))); clear hK K)
             refine mix_l (i := 6) rfl (by kernel_rfl) (fun K hK => ?_)
             go_simp
             refine (bktTake_c w w2 _ b1 s n hs hU HR.out).mono ?_
             rintro e w3 ⟨rfl, H3⟩
             replace H3 := Lib.hid H3
             clear HS
             have HS : (fun w' : World => w'.cell? ⟨ab, off + k * 2 + 1, none⟩ = some (.int .u64 n)) w3 := H3.out.r3.old_cell hw1.out
             refine hK _ _ HS ?_
             clear hK K
             refine mix_l (i := 13) rfl (by kernel_rfl) (fun K hK => ?_)
             go_simp
             refine (rbktTake_c w w3 _ b2 s n hs hU H3.out.r2).mono ?_
             rintro e w5 ⟨rfl, H5⟩
             replace H5 := Lib.hid H5
             clear HS
             have HS : (fun w' : World => w'.cell? ⟨ab, off + k * 2 + 1, none⟩ = some (.int .u64 n)) w5 := H5.out.r3.old_cell hw1.out
             refine hK _ _ HS ?_
             clear hK K
             refine mix_q (i := 14) rfl (by kernel_rfl) (fun _ _ _ _ h => h) HS (fun K hK => ?_)
             go_simp
             first | (refine hK _ ?_; clear hK K) | (apply Exists.intro; refine ⟨?_, hK _ ?_⟩; (focus (intros; first | rfl | exact ⟨rfl, rfl⟩ | (go_simp; first | rfl | exact ⟨rfl, rfl⟩))); clear hK K)
             refine mix_q (i := 15) rfl (by kernel_rfl) (fun _ _ _ _ h => h) HS (fun K hK => ?_)
             go_simp
             first | (refine hK _ ?_; clear hK K) | (apply Exists.intro; refine ⟨?_, hK _ ?_⟩; (focus (intros; first | rfl | exact ⟨rfl, rfl⟩ | (go_simp; first | rfl | exact ⟨rfl, rfl⟩))); clear hK K)
             refine mix_done (by kernel_rfl) ?_ _
             clear HS
             have hs3 := Bkt.ok_take hU hs
             clear hs hso HR H3 g0 g1
             generalize (s.take n).1 = er at *
             generalize (s.take n).2 = s3 at *
             obtain ⟨c3, _⟩ := H5.out.cells
             go_wp2_with fail
             go_quiet ((first | (go_at_call 64; exact quiet_c (bktTokens_c w _ _ b1 s3 (H5.out.r2.drewN _))) | (go_at_call 65; exact quiet_c (bktWasted_c w _ _ b1 s3 (H5.out.r2.drewN _)))))
             go_wp2_with fail
             go_roundw
             case rel => exact ⟨k + 1, s3, by omega, by go_num, hs3, H5.out.r2.drewN _⟩
             case measure => simp [intOf]; omega
           · go_wp2_with fail
             refine wp_region_mix (fun w' => w'.cell? ⟨ab, off + k * 2 + 1, none⟩ = some (.int .u64 n)) none (by kernel_rfl) ?_
             change wpMix _ _ _ _ _ _ _ _ _ wr.drew
             replace HR := Lib.hid HR.out.drew
             generalize wr.drew = w2 at *
             have HS : (fun w' : World => w'.cell? ⟨ab, off + k * 2 + 1, none⟩ = some (.int .u64 n)) w2 := HR.out.r3.old_cell hw1.out
             refine mix_q (i := 0) rfl (by kernel_rfl) (fun _ _ _ _ h => h) HS (fun K hK => ?_)
             go_simp
             first | (refine hK _ ?_; clear hK K) | (apply Exists.intro; refine ⟨?_, hK _ ?_⟩; (focus (intros; first | rfl | exact ⟨rfl, rfl⟩ | (go_simp; first | rfl | exact ⟨rfl, rfl⟩))); clear hK K)
             refine mix_q (i := 1) rfl (by kernel_rfl) (fun _ _ _ _ h => h) HS (fun K hK => ?_)
             go_simp
             first | (refine hK _ ?_; clear hK K) | (apply Exists.intro; refine ⟨?_, hK _ ?_⟩; (focus (intros; first | rfl | exact ⟨rfl, rfl⟩ | (go_simp; first | rfl | exact ⟨rfl, rfl⟩))); clear hK K)
             refine mix_q (i := 2) rfl (by kernel_rfl) (fun _ _ _ _ h => h) HS (fun K hK => ?_)
             go_simp
             first | (refine hK _ ?_; clear hK K) | (apply Exists.intro; refine ⟨?_, hK _ ?_⟩; (focus (intros; first | rfl | exact ⟨rfl, rfl⟩ | (go_simp; first | rfl | exact ⟨rfl, rfl⟩))); clear hK K)
             refine mix_q (i := 3) rfl (by kernel_rfl) (fun _ _ _ _ h => h) HS (fun K hK => ?_)
             go_simp
             first | (refine hK _ ?_; clear hK K) | (apply Exists.intro; refine ⟨?_, hK _ ?_⟩; (focus (intros; first | rfl | exact ⟨rfl, rfl⟩ | (go_simp; first | rfl | exact ⟨rfl, rfl⟩))); clear hK K)
             refine mix_q (i := 4) rfl (by kernel_rfl) (fun _ _ _ _ h => h) HS (fun K hK => ?_)
             go_simp
             first | (refine hK _ ?_; clear hK K) | (apply Exists.intro; refine ⟨?_, hK _ ?_⟩; (focus (intros; first | rfl | exact ⟨rfl, rfl⟩ | (go_simp; first | rfl | exact ⟨rfl, rfl⟩))); clear hK K)
             refine mix_q (i := 5) rfl (by kernel_rfl) (fun _ _ _ _ h => h) HS (fun K hK => ?_)
             go_simp
             first | (refine hK _ ?_; clear hK K) | (apply Exists.intro; refine ⟨?_, hK _ ?_⟩; (focus (intros; first | rfl | exact ⟨rfl, rfl⟩ | (go_simp; first | rfl | exact ⟨rfl, rfl⟩))); clear hK K)
             refine mix_q (i := 7) rfl (by kernel_rfl) (fun _ _ _ _ h => h) HS (fun K hK => ?_)
             go_simp
             first | (refine hK _ ?_; clear hK K) | (apply Exists.intro; refine ⟨?_, hK _ ?_⟩; (focus (intros; first | rfl | exact ⟨rfl, rfl⟩ | (go_simp; first | rfl | exact ⟨rfl, rfl⟩))); clear hK K)
             refine mix_q (i := 8) rfl (by kernel_rfl) (fun _ _ _ _ h => h) HS (fun K hK => ?_)
             go_simp
             first | (refine hK _ ?_; clear hK K) | (apply Exists.intro; refine ⟨?_, hK _ ?_⟩; (focus (intros; first | rfl | exact ⟨rfl, rfl⟩ | (go_simp; first | rfl | exact ⟨rfl, rfl⟩))); clear hK K)
             refine mix_q (i := 9) rfl (by kernel_rfl) (fun _ _ _ _ h => h) HS (fun K hK => ?_)
             go_simp
             first | (refine hK _ ?_; clear hK K) | (apply Exists.intro; refine ⟨?_, hK _ ?_⟩; (focus (intros; first | rfl | exact ⟨rfl, rfl⟩ | (go_simp; first | rfl | exact ⟨rfl, rfl⟩))); clear hK K)
             refine mix_q (i := 10) rfl (by kernel_rfl) (fun _ _ _ _ h => h) HS (fun K hK => ?_)
             go_simp
             first | (refine hK _ ?_; clear hK K) | (apply Exists.intro; refine ⟨?_, hK _ ?_⟩; (focus (intros; first | rfl | exact ⟨rfl, rfl⟩ | (go_simp; first | rfl | exact ⟨rfl, rfl⟩))); clear hK K)
             refine mix_q (i := 11) rfl (by kernel_rfl) (fun _ _ _ _ h => h) HS (fun K hK => ?_)
             go_simp
             first | (refine hK _ ?_; clear hK K) | (apply Exists.intro; refine ⟨?_, hK _ ?_⟩; (focus (intros; first | rfl | exact ⟨rfl, rfl⟩ | (go_simp; first | rfl | exact ⟨rfl, rfl⟩))); clear hK K)
             refine mix_q (i := 12) rfl (by kernel_rfl) (fun _ _ _ _ h => h) HS (fun K hK => ?_)
             go_simp
             first | (refine hK _ ?_; clear hK K) | (apply Exists.intro; refine ⟨?_, hK _ ?_⟩; (focus (intros; first | rfl | exact ⟨rfl, rfl⟩ | (go_simp; first | rfl | exact ⟨rfl, rfl⟩))); clear hK K)
             refine mix_l (i := 6) rfl (by kernel_rfl) (fun K hK => ?_)
             go_simp
             refine (bktWaste_c w w2 _ b1 s n hs hU HR.out).mono ?_
             rintro e w3 ⟨rfl, H3⟩
             replace H3 := Lib.hid H3
             clear HS
             have HS : (fun w' : World => w'.cell? ⟨ab, off + k * 2 + 1, none⟩ = some (.int .u64 n)) w3 := H3.out.r3.old_cell hw1.out
             refine hK _ _ HS ?_
             clear hK K
             refine mix_l (i := 13) rfl (by kernel_rfl) (fun K hK => ?_)
             go_simp
             refine (rbktWaste_c w w3 _ b2 s n hs hU H3.out.r2).mono ?_
             rintro e w5 ⟨rfl, H5⟩
             replace H5 := Lib.hid H5
             clear HS
             have HS : (fun w' : World => w'.cell? ⟨ab, off + k * 2 + 1, none⟩ = some (.int .u64 n)) w5 := H5.out.r3.old_cell hw1.out
             refine hK _ _ HS ?_
             clear hK K
             refine mix_q (i := 14) rfl (by kernel_rfl) (fun _ _ _ _ h => h) HS (fun K hK => ?_)
             go_simp
             first | (refine hK _ ?_; clear hK K) | (apply Exists.intro; refine ⟨?_, hK _ ?_⟩; (focus (intros; first | rfl | exact ⟨rfl, rfl⟩ | (go_simp; first | rfl | exact ⟨rfl, rfl⟩))); clear hK K)
             refine mix_q (i := 15) rfl (by kernel_rfl) (fun _ _ _ _ h => h) HS (fun K hK => ?_)
             go_simp
             first | (refine hK _ ?_; clear hK K) | (apply Exists.intro; refine ⟨?_, hK _ ?_⟩; (focus (intros; first | rfl | exact ⟨rfl, rfl⟩ | (go_simp; first | rfl | exact ⟨rfl, rfl⟩))); clear hK K)
             refine mix_done (by kernel_rfl) ?_ _
             clear HS
             have hs3 := Bkt.ok_waste hU hs
             clear hs hso HR H3 g0 g1
             generalize (s.waste n).1 = er at *
             generalize (s.waste n).2 = s3 at *
             obtain ⟨c3, _⟩ := H5.out.cells
             go_wp2_with fail
             go_quiet ((first | (go_at_call 64; exact quiet_c (bktTokens_c w _ _ b1 s3 (H5.out.r2.drewN _))) | (go_at_call 65; exact quiet_c (bktWasted_c w _ _ b1 s3 (H5.out.r2.drewN _)))))
             go_wp2_with fail
             go_roundw
             case rel => exact ⟨k + 1, s3, by omega, by go_num, hs3, H5.out.r2.drewN _⟩
             case measure => simp [intOf]; omega)
      · go_wp2_with fail
        refine (alive18_c w _ _ HR.out).mono ?_
        rintro e w3 ⟨rfl, H3⟩
        replace H3 := Lib.hid H3
        go_wp2_with fail
        go_ret
        exact ⟨rfl, H3.out.tail.tail⟩
end Go.Proofs.Ytfcappjodichlaa
