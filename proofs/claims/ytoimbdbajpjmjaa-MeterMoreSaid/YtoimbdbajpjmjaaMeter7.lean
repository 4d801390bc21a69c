/- meter: the reference's Run. -/
import Derived.Test.YtoimbdbajpjmjaaMeter6
namespace Go.Proofs.Ytoimbdbajpjmjaa
open Go.RowKit
section
variable (ε w : World) (R : List Asn)
set_option maxRecDepth 100000 in
set_option maxHeartbeats 6400000 in
theorem rRun_c (room : Int) (hr : U room) (A : Option Addr) (n cap : Nat) (ts : List MTurn) (hU : ∀ t ∈ ts, t.Ok) (hA : ∀ wx, Own ε wx R → itAt MTurn.cells 3 wx A n ts) (hn : n ≤ 9223372036854775807) (H : Own ε w R) :
    Calls Try.prog 18 #[.int .u64 room, .slice A n cap] w fun e w' => ∃ v, e = .returned (.tuple #[v, .int .i64 (mRun room ts).2]) ∧ Own ε w' (slc 114 5 v (encs MRow.cells (mRun room ts).1) :: R) := by
  have hl := (hA w H).1
  have HH := Lib.hid H; clear H
  by_cases h1 : 72057594037927936 < room
  · rw [mRun_bad (.inl h1)]
    go_enter Try.func18, Try.ntmps18
    go_wp2_with fail
    go_ret2
    exact ⟨_, rfl, HH.out.slc_none⟩
  by_cases h2 : 65536 < n
  · rw [mRun_bad (.inr (.inl (by omega)))]
    go_enter Try.func18, Try.ntmps18
    go_wp2_with fail
    go_ret2
    exact ⟨_, rfl, HH.out.slc_none⟩
  replace hA := Lib.hid hA
  have hbad : ¬ (∀ t ∈ ts, t.few) → mRun room ts = ([], 1) := fun h => mRun_bad (.inr (.inr h))
  have hgood : (∀ t ∈ ts, t.few) → mRun room ts = (mRows room MRow.zero ts, 0) := fun h3 => mRun_good (by rintro (h | h | h) <;> first | omega | exact h h3)
  generalize mRun room ts = res at hbad hgood ⊢
  replace hbad := Lib.hid hbad
  replace hgood := Lib.hid hgood
  replace hU := Lib.hid hU
  have hr0 := hr.1
  have im := min_ite
  replace hr := Lib.hid hr
  go_enter Try.func18, Try.ntmps18
  go_wp2_with (with_reducible refine stop_al ?_)
  refine Stop.go ?_
  refine wpList_alloc_own HH.out [.int .u64 0, .int .u64 0, .int .u64 0, .int .u64 0, .int .u64 0] (by kernel_rfl) ?_
  intro bx w1_ H9_
  replace HH := Lib.hid H9_
  clear H9_
  go_wp2_with (with_reducible refine stop_st ?_)
  refine Stop.go ?_
  refine wpList_store_own _ #[_, _, _, _, _] rfl rfl HH.out (by kernel_rfl) rfl (by repeat (first | (refine List.forall_mem_cons.2 ⟨(by first | with_reducible assumption | rfl), ?_⟩) | exact fun _ h => absurd h List.not_mem_nil)) ?_
  intro w2_ H9_
  replace HH := Lib.hid H9_
  clear H9_
  replace HH := Lib.hid (HH.out.slc_none (T := 114) (sz := 5))
  go_wp2_with fail
  go_loopw [6, 8, 9, 10] (fun v q tk i wr => ∃ (k : Nat) (x : MRow) (qu to : Int), k ≤ n ∧ i = .int .i64 k ∧ (∀ t ∈ ts.take k, t.few) ∧ x = (ts.take k).foldl (MRow.next room) MRow.zero ∧ q = .int .u64 qu ∧ tk = .int .u64 to ∧ qu = x.queue ∧ to = x.tokens ∧ Own ε wr (slc 114 5 v (encs MRow.cells (mRows room MRow.zero (ts.take k))) :: pts bx (.cells x.cells.toArray 114 (0, 0)) :: R)) (fun _ _ _ i _ => n - (intOf i).toNat)
  case atStart => exact ⟨0, MRow.zero, 0, 0, Nat.zero_le _, rfl, by simp, rfl, rfl, rfl, rfl, rfl, HH.out⟩
  case round =>
    obtain ⟨k, x, qu, to, hk, rfl, hT, hxe, rfl, rfl, hqu, hto2, HR⟩ := hrel
    replace HH := Lib.hid HR
    clear HR
    by_cases hlt : k < n
    · obtain ⟨g, off, t, rfl, ht, hc⟩ := (hA.out _ HH.out.tail.tail).get hlt
      have hcb : ∀ wx, Own ε wx R → ∀ j u, t.cells[j]? = some u → wx.cell? ⟨g, off + k * 3 + j, none⟩ = some u := fun wx Hx j u hu => by
        obtain ⟨g2, off2, b2, e, hb2, hc2⟩ := (hA.out wx Hx).get hlt
        cases e
        rw [ht] at hb2
        cases hb2
        exact hc2 j u hu
      have hto := hU.out t (List.mem_of_getElem? ht)
      have hin := mFold_in (l := ts.take k) hr0 (fun t ht => ⟨hT t ht, hU.out t (List.mem_of_mem_take ht)⟩)
      have htk : (ts.take k).length = k := by rw [List.length_take]; omega
      rw [htk, ← hxe] at hin
      have e1 : ts.take (k + 1) = ts.take k ++ [t] := by rw [List.take_add_one, ht]; rfl
      have e2 : mRows room MRow.zero (ts.take (k + 1)) = mRows room MRow.zero (ts.take k) ++ [x.next room t] := by rw [e1, mRows_snoc, hxe]
      have e3 : x.next room t = (ts.take (k + 1)).foldl (MRow.next room) MRow.zero := by rw [e1, List.foldl_append, hxe]; rfl
      have hlen : (encs MRow.cells (mRows room MRow.zero (ts.take k))).length = k * 5 := by rw [encs_len MRow.len, mRows_len, htk]
      have hT2 : t.few → ∀ x ∈ ts.take (k + 1), x.few := fun hf x hx => by
        rw [e1] at hx
        rcases List.mem_append.1 hx with hx | hx
        · exact hT x hx
        · rw [List.mem_singleton.1 hx]; exact hf
      have hne : ¬ t.few → ¬ ∀ t ∈ ts, t.few := fun h h2 => h (h2 t (List.mem_of_getElem? ht))
      obtain ⟨x1, x2, x3, x4, x5⟩ := x
      obtain ⟨t1, t2, t3⟩ := t
      simp only [MRow.cells] at HH
      simp only [MRow.queue] at hqu
      simp only [MRow.tokens] at hto2
      replace hqu := Lib.hid hqu
      replace hto2 := Lib.hid hto2
      clear htk ht hc hT hxe e1
      replace hcb := Lib.hid hcb
      replace e2 := Lib.hid e2
      replace e3 := Lib.hid e3
      replace hlen := Lib.hid hlen
      replace hT2 := Lib.hid hT2
      replace hne := Lib.hid hne
      have k0 := hcb.out _ HH.out.tail.tail 0 _ rfl
      have k1 := hcb.out _ HH.out.tail.tail 1 _ rfl
      have k2 := hcb.out _ HH.out.tail.tail 2 _ rfl
      rw [Nat.add_zero] at k0
      by_cases hf : (⟨t1, t2, t3⟩ : MTurn).few
      case neg =>
        have hb := hbad.out (hne.out hf)
        obtain ⟨q1, q2⟩ := res
        cases hb
        replace hf := Lib.hid hf
        clear hin hto
        go_wp2_with fail
        all_goals try (go_ret2; exact ⟨_, rfl, HH.out.tail.tail.slc_none⟩)
        all_goals exact absurd ⟨by show t1 ≤ _; omega, by show t2 ≤ _; omega, by show t3 ≤ _; omega⟩ hf.out
      case pos =>
        obtain ⟨f1, f2, f3⟩ := hf
        obtain ⟨g0, gB, cB, d0, s0, v0, q0, qr, t0⟩ := hin
        obtain ⟨⟨z1, _⟩, ⟨z2, _⟩, ⟨z3, _⟩⟩ := hto
        simp only [MRow.queue, MRow.tokens] at g0 gB cB d0 s0 v0 q0 qr t0 f1 f2 f3 z1 z2 z3
        replace hqu := hqu.out
        replace hto2 := hto2.out
        obtain ⟨inn, hinn⟩ : ∃ inn, min t2 (room - qu) = inn := ⟨_, rfl⟩
        have hi0 : 0 ≤ inn := by omega
        have hi1 : inn ≤ t2 := by omega
        have hi2 : inn ≤ room - qu := by omega
        obtain ⟨tk1, htk1⟩ : ∃ tk1, to + t1 = tk1 := ⟨_, rfl⟩
        obtain ⟨qu1, hqu1⟩ : ∃ qu1, qu + inn = qu1 := ⟨_, rfl⟩
        obtain ⟨sv, hsv⟩ : ∃ sv, min qu1 tk1 = sv := ⟨_, rfl⟩
        obtain ⟨qu2, hqu2⟩ : ∃ qu2, qu1 - sv = qu2 := ⟨_, rfl⟩
        obtain ⟨tk2, htk2⟩ : ∃ tk2, tk1 - sv = tk2 := ⟨_, rfl⟩
        have hq20 : 0 ≤ qu2 := by omega
        have ht20 : 0 ≤ tk2 := by omega
        have hnx : MRow.next room ⟨x1, x2, x3, x4, x5⟩ ⟨t1, t2, t3⟩ = ⟨x1 + t1, x2 + t2, x3 + (t2 - inn), x4 + sv, if qu2 = 0 then x5 + min t3 tk2 else x5⟩ := by
          have hq : x2 - x3 - x4 = qu := hqu.symm
          have a1 : min t2 (room - (x2 - x3 - x4)) = inn := by rw [hq, hinn]
          have a2 : x2 + t2 - (x3 + (t2 - inn)) - x4 = qu1 := by omega
          have a3 : x1 + t1 - x4 - x5 = tk1 := by omega
          have a4 : x2 + t2 - (x3 + (t2 - inn)) - (x4 + sv) = qu2 := by omega
          have a5 : x1 + t1 - (x4 + sv) - x5 = tk2 := by omega
          simp only [MRow.next, MRow.queue, a1, a2, a3, hsv, a4, a5]
        have d1 : decide (1099511627776 < t1) = false := decide_eq_false (by omega)
        have d2 : decide (1099511627776 < t2) = false := decide_eq_false (by omega)
        have d3 : decide (1099511627776 < t3) = false := decide_eq_false (by omega)
        have w1 : IntKind.u64.wrap (to + t1) = tk1 := by rw [IntKind.wrap_u64]; omega
        have w2 : IntKind.u64.wrap (room - qu) = room - qu := by rw [IntKind.wrap_u64]; omega
        have w3 : IntKind.u64.wrap (qu + inn) = qu1 := by rw [IntKind.wrap_u64]; omega
        have w4 : IntKind.u64.wrap (qu1 - sv) = qu2 := by rw [IntKind.wrap_u64]; omega
        have w5 : IntKind.u64.wrap (tk1 - sv) = tk2 := by rw [IntKind.wrap_u64]; omega
        have w6 : IntKind.u64.wrap (x1 + t1) = x1 + t1 := by rw [IntKind.wrap_u64]; omega
        have w7 : IntKind.u64.wrap (x2 + t2) = x2 + t2 := by rw [IntKind.wrap_u64]; omega
        have w8 : IntKind.u64.wrap (x3 + t2) = x3 + t2 := by rw [IntKind.wrap_u64]; omega
        have w9 : IntKind.u64.wrap (x3 + t2 - inn) = x3 + (t2 - inn) := by rw [IntKind.wrap_u64]; omega
        have w10 : IntKind.u64.wrap (x4 + sv) = x4 + sv := by rw [IntKind.wrap_u64]; omega
        have hfew : (⟨t1, t2, t3⟩ : MTurn).few := ⟨f1, f2, f3⟩
        have hT3 := hT2.out hfew
        replace hT3 := Lib.hid hT3
        have fin : ∀ ws : Int, (if qu2 = 0 then x5 + min t3 tk2 else x5) = x5 + ws → (MRow.next room ⟨x1, x2, x3, x4, x5⟩ ⟨t1, t2, t3⟩ = ⟨x1 + t1, x2 + t2, x3 + (t2 - inn), x4 + sv, x5 + ws⟩ ∧ qu2 = (⟨x1 + t1, x2 + t2, x3 + (t2 - inn), x4 + sv, x5 + ws⟩ : MRow).queue ∧ tk2 - ws = (⟨x1 + t1, x2 + t2, x3 + (t2 - inn), x4 + sv, x5 + ws⟩ : MRow).tokens) := fun ws h => by
          rw [hnx, h]
          refine ⟨rfl, ?_, ?_⟩
          · show qu2 = x2 + t2 - (x3 + (t2 - inn)) - (x4 + sv); omega
          · show tk2 - ws = x1 + t1 - (x4 + sv) - (x5 + ws); omega
        have hw3 : ∀ ws, 0 ≤ ws → ws ≤ tk2 → IntKind.u64.wrap (x5 + ws) = x5 + ws ∧ IntKind.u64.wrap (tk2 - ws) = tk2 - ws := fun ws h h' => by
          constructor <;> (rw [IntKind.wrap_u64]; omega)
        replace fin := Lib.hid fin
        replace hw3 := Lib.hid hw3
        clear hnx hfew hqu hto2 hqu1 htk1 hqu2 htk2 hi0 hi1 hi2 g0 gB cB d0 s0 v0 q0 qr t0 f1 f2 f3 z1 z2
        by_cases hz : qu2 = 0
        case' pos =>
          obtain ⟨ws, hws⟩ : ∃ ws, min t3 tk2 = ws := ⟨_, rfl⟩
          obtain ⟨y1, y2, y3⟩ := fin.out ws (by rw [if_pos hz, hws])
          obtain ⟨w11, w12⟩ := hw3.out ws (by omega) (by omega)
          obtain ⟨v', hv'⟩ : ∃ v', x5 + ws = v' := ⟨_, rfl⟩
          obtain ⟨tk3, htk3⟩ : ∃ tk3, tk2 - ws = tk3 := ⟨_, rfl⟩
          rw [hv'] at y1 y2 y3
          rw [htk3] at y3
          replace w11 := w11.trans hv'
          replace w12 := w12.trans htk3
          clear hv' htk3
          have hzb : (qu2 == 0) = true := by simpa using hz
          clear hq20 ht20 hz z3
        case' neg =>
          obtain ⟨y1, y2, y3⟩ := fin.out 0 (by rw [if_neg hz]; omega)
          obtain ⟨w11, w12⟩ := hw3.out 0 (by omega) (by omega)
          simp only [Int.add_zero, Int.sub_zero] at y1 y2 y3 w11 w12
          obtain ⟨v', hv'⟩ : ∃ v', v' = x5 := ⟨_, rfl⟩
          obtain ⟨tk3, htk3⟩ : ∃ tk3, tk3 = tk2 := ⟨_, rfl⟩
          subst hv' htk3
          have hzb : (qu2 == 0) = false := by simpa using hz
          clear hq20 ht20 hz z3
        all_goals
          replace y1 := Lib.hid y1
          replace y2 := Lib.hid y2
          replace y3 := Lib.hid y3
          clear fin hw3
          go_wp2_with fail
          clear k0 k1 k2
          go_wp2_with fail
          refine wp_region_reg (some 35) HH.out (by kernel_rfl) ?_
          intro wm H9_
          replace HH := Lib.hid H9_
          clear H9_
          refine reg_p (i := 0) rfl (by kernel_rfl) (fun _ _ _ _ h => h) HH.out (fun K hK => ?_)
          go_simp
          first | (refine hK _ ?_; clear hK K) | (apply Exists.intro; refine ⟨?_, hK _ ?_⟩; (focus (intro wx; first | (go_simp; first | rfl) | rfl)); clear hK K)
          refine mixk_q (i := 1) rfl (by kernel_rfl) (fun _ _ _ _ h => h) HH.out (fun K hK => ?_)
          go_simp
          first | (refine hK _ ?_; clear hK K) | (apply Exists.intro; refine ⟨?_, hK _ ?_⟩; (focus (intro wx hx; have x2_ := hx.r2.cells; have k0_ := hcb.out _ hx.tail.tail 0 _ rfl; have k1_ := hcb.out _ hx.tail.tail 1 _ rfl; have k2_ := hcb.out _ hx.tail.tail 2 _ rfl; rw [Nat.add_zero] at k0_; first | (go_simp; first | rfl | exact ⟨rfl, rfl⟩) | rfl | exact ⟨rfl, rfl⟩)); clear hK K)
          refine reg_p (i := 2) rfl (by kernel_rfl) (fun _ _ _ _ h => h) HH.out (fun K hK => ?_)
          go_simp
          first | (refine hK _ ?_; clear hK K) | (apply Exists.intro; refine ⟨?_, hK _ ?_⟩; (focus (intro wx; first | (go_simp; first | rfl) | rfl)); clear hK K)
          refine reg_p (i := 3) rfl (by kernel_rfl) (fun _ _ _ _ h => h) HH.out (fun K hK => ?_)
          go_simp
          first | (refine hK _ ?_; clear hK K) | (apply Exists.intro; refine ⟨?_, hK _ ?_⟩; (focus (intro wx; first | (go_simp; first | rfl) | rfl)); clear hK K)
          refine reg_p (i := 4) rfl (by kernel_rfl) (fun _ _ _ _ h => h) HH.out (fun K hK => ?_)
          go_simp
          first | (refine hK _ ?_; clear hK K) | (apply Exists.intro; refine ⟨?_, hK _ ?_⟩; (focus (intro wx; first | (go_simp; first | rfl) | rfl)); clear hK K)
          refine reg_p (i := 5) rfl (by kernel_rfl) (fun _ _ _ _ h => h) HH.out (fun K hK => ?_)
          go_simp
          first | (refine hK _ ?_; clear hK K) | (apply Exists.intro; refine ⟨?_, hK _ ?_⟩; (focus (intro wx; first | (go_simp; first | rfl) | rfl)); clear hK K)
          refine mixk_q (i := 6) rfl (by kernel_rfl) (fun _ _ _ _ h => h) HH.out (fun K hK => ?_)
          go_simp
          first | (refine hK _ ?_; clear hK K) | (apply Exists.intro; refine ⟨?_, hK _ ?_⟩; (focus (intro wx hx; have x2_ := hx.r2.cells; have k0_ := hcb.out _ hx.tail.tail 0 _ rfl; have k1_ := hcb.out _ hx.tail.tail 1 _ rfl; have k2_ := hcb.out _ hx.tail.tail 2 _ rfl; rw [Nat.add_zero] at k0_; first | (go_simp; first | rfl | exact ⟨rfl, rfl⟩) | rfl | exact ⟨rfl, rfl⟩)); clear hK K)
          refine reg_p (i := 7) rfl (by kernel_rfl) (fun _ _ _ _ h => h) HH.out (fun K hK => ?_)
          go_simp
          first | (refine hK _ ?_; clear hK K) | (apply Exists.intro; refine ⟨?_, hK _ ?_⟩; (focus (intro wx; first | (go_simp; first | rfl) | rfl)); clear hK K)
          refine reg_p (i := 8) rfl (by kernel_rfl) (fun _ _ _ _ h => h) HH.out (fun K hK => ?_)
          go_simp
          first | (refine hK _ ?_; clear hK K) | (apply Exists.intro; refine ⟨?_, hK _ ?_⟩; (focus (intro wx; first | (go_simp; first | rfl) | rfl)); clear hK K)
          refine mixk_q (i := 9) rfl (by kernel_rfl) (fun _ _ _ _ h => h) HH.out (fun K hK => ?_)
          go_simp
          first | (refine hK _ ?_; clear hK K) | (apply Exists.intro; refine ⟨?_, hK _ ?_⟩; (focus (intro wx hx; have x2_ := hx.r2.cells; have k0_ := hcb.out _ hx.tail.tail 0 _ rfl; have k1_ := hcb.out _ hx.tail.tail 1 _ rfl; have k2_ := hcb.out _ hx.tail.tail 2 _ rfl; rw [Nat.add_zero] at k0_; first | (go_simp; first | rfl | exact ⟨rfl, rfl⟩) | rfl | exact ⟨rfl, rfl⟩)); clear hK K)
          refine reg_p (i := 10) rfl (by kernel_rfl) (fun _ _ _ _ h => h) HH.out (fun K hK => ?_)
          go_simp
          first | (refine hK _ ?_; clear hK K) | (apply Exists.intro; refine ⟨?_, hK _ ?_⟩; (focus (intro wx; first | (go_simp; first | rfl) | rfl)); clear hK K)
          refine reg_p (i := 11) rfl (by kernel_rfl) (fun _ _ _ _ h => h) HH.out (fun K hK => ?_)
          go_simp
          first | (refine hK _ ?_; clear hK K) | (apply Exists.intro; refine ⟨?_, hK _ ?_⟩; (focus (intro wx; first | (go_simp; first | rfl) | rfl)); clear hK K)
          refine reg_p (i := 12) rfl (by kernel_rfl) (fun _ _ _ _ h => h) HH.out (fun K hK => ?_)
          go_simp
          first | (refine hK _ ?_; clear hK K) | (apply Exists.intro; refine ⟨?_, hK _ ?_⟩; (focus (intro wx; first | (go_simp; first | rfl) | rfl)); clear hK K)
          refine reg_p (i := 13) rfl (by kernel_rfl) (fun _ _ _ _ h => h) HH.out (fun K hK => ?_)
          go_simp
          first | (refine hK _ ?_; clear hK K) | (apply Exists.intro; refine ⟨?_, hK _ ?_⟩; (focus (intro wx; first | (go_simp; first | rfl) | rfl)); clear hK K)
          refine mixk_q (i := 14) rfl (by kernel_rfl) (fun _ _ _ _ h => h) HH.out (fun K hK => ?_)
          go_simp
          first | (refine hK _ ?_; clear hK K) | (apply Exists.intro; refine ⟨?_, hK _ ?_⟩; (focus (intro wx hx; have x2_ := hx.r2.cells; have k0_ := hcb.out _ hx.tail.tail 0 _ rfl; have k1_ := hcb.out _ hx.tail.tail 1 _ rfl; have k2_ := hcb.out _ hx.tail.tail 2 _ rfl; rw [Nat.add_zero] at k0_; first | (go_simp; first | rfl | exact ⟨rfl, rfl⟩) | rfl | exact ⟨rfl, rfl⟩)); clear hK K)
          refine reg_p (i := 15) rfl (by kernel_rfl) (fun _ _ _ _ h => h) HH.out (fun K hK => ?_)
          go_simp
          first | (refine hK _ ?_; clear hK K) | (apply Exists.intro; refine ⟨?_, hK _ ?_⟩; (focus (intro wx; first | (go_simp; first | rfl) | rfl)); clear hK K)
          refine reg_p (i := 16) rfl (by kernel_rfl) (fun _ _ _ _ h => h) HH.out (fun K hK => ?_)
          go_simp
          first | (refine hK _ ?_; clear hK K) | (apply Exists.intro; refine ⟨?_, hK _ ?_⟩; (focus (intro wx; first | (go_simp; first | rfl) | rfl)); clear hK K)
          refine mixk_q (i := 17) rfl (by kernel_rfl) (fun _ _ _ _ h => h) HH.out (fun K hK => ?_)
          go_simp
          first | (refine hK _ ?_; clear hK K) | (apply Exists.intro; refine ⟨?_, hK _ ?_⟩; (focus (intro wx hx; have x2_ := hx.r2.cells; have k0_ := hcb.out _ hx.tail.tail 0 _ rfl; have k1_ := hcb.out _ hx.tail.tail 1 _ rfl; have k2_ := hcb.out _ hx.tail.tail 2 _ rfl; rw [Nat.add_zero] at k0_; first | (go_simp; first | rfl | exact ⟨rfl, rfl⟩) | rfl | exact ⟨rfl, rfl⟩)); clear hK K)
          refine reg_p (i := 18) rfl (by kernel_rfl) (fun _ _ _ _ h => h) HH.out (fun K hK => ?_)
          go_simp
          first | (refine hK _ ?_; clear hK K) | (apply Exists.intro; refine ⟨?_, hK _ ?_⟩; (focus (intro wx; first | (go_simp; first | rfl) | rfl)); clear hK K)
          refine reg_p (i := 19) rfl (by kernel_rfl) (fun _ _ _ _ h => h) HH.out (fun K hK => ?_)
          go_simp
          first | (refine hK _ ?_; clear hK K) | (apply Exists.intro; refine ⟨?_, hK _ ?_⟩; (focus (intro wx; first | (go_simp; first | rfl) | rfl)); clear hK K)
          refine reg_p (i := 20) rfl (by kernel_rfl) (fun _ _ _ _ h => h) HH.out (fun K hK => ?_)
          go_simp
          first | (refine hK _ ?_; clear hK K) | (apply Exists.intro; refine ⟨?_, hK _ ?_⟩; (focus (intro wx; first | (go_simp; first | rfl) | rfl)); clear hK K)
          refine reg_p (i := 21) rfl (by kernel_rfl) (fun _ _ _ _ h => h) HH.out (fun K hK => ?_)
          go_simp
          first | (refine hK _ ?_; clear hK K) | (apply Exists.intro; refine ⟨?_, hK _ ?_⟩; (focus (intro wx; first | (go_simp; first | rfl) | rfl)); clear hK K)
          refine mixk_q (i := 22) rfl (by kernel_rfl) (fun _ _ _ _ h => h) HH.out (fun K hK => ?_)
          go_simp
          first | (refine hK _ ?_; clear hK K) | (apply Exists.intro; refine ⟨?_, hK _ ?_⟩; (focus (intro wx hx; have x2_ := hx.r2.cells; have k0_ := hcb.out _ hx.tail.tail 0 _ rfl; have k1_ := hcb.out _ hx.tail.tail 1 _ rfl; have k2_ := hcb.out _ hx.tail.tail 2 _ rfl; rw [Nat.add_zero] at k0_; first | (go_simp; first | rfl | exact ⟨rfl, rfl⟩) | rfl | exact ⟨rfl, rfl⟩)); clear hK K)
          refine reg_p (i := 23) rfl (by kernel_rfl) (fun _ _ _ _ h => h) HH.out (fun K hK => ?_)
          go_simp
          first | (refine hK _ ?_; clear hK K) | (apply Exists.intro; refine ⟨?_, hK _ ?_⟩; (focus (intro wx; first | (go_simp; first | rfl) | rfl)); clear hK K)
          refine reg_p (i := 24) rfl (by kernel_rfl) (fun _ _ _ _ h => h) HH.out (fun K hK => ?_)
          go_simp
          first | (refine hK _ ?_; clear hK K) | (apply Exists.intro; refine ⟨?_, hK _ ?_⟩; (focus (intro wx; first | (go_simp; first | rfl) | rfl)); clear hK K)
          refine reg_p (i := 25) rfl (by kernel_rfl) (fun _ _ _ _ h => h) HH.out (fun K hK => ?_)
          go_simp
          first | (refine hK _ ?_; clear hK K) | (apply Exists.intro; refine ⟨?_, hK _ ?_⟩; (focus (intro wx; first | (go_simp; first | rfl) | rfl)); clear hK K)
          refine reg_p (i := 26) rfl (by kernel_rfl) (fun _ _ _ _ h => h) HH.out (fun K hK => ?_)
          go_simp
          first | (refine hK _ ?_; clear hK K) | (apply Exists.intro; refine ⟨?_, hK _ ?_⟩; (focus (intro wx; first | (go_simp; first | rfl) | rfl)); clear hK K)
          refine mixk_q (i := 27) rfl (by kernel_rfl) (fun _ _ _ _ h => h) HH.out (fun K hK => ?_)
          go_simp
          first | (refine hK _ ?_; clear hK K) | (apply Exists.intro; refine ⟨?_, hK _ ?_⟩; (focus (intro wx hx; have x2_ := hx.r2.cells; have k0_ := hcb.out _ hx.tail.tail 0 _ rfl; have k1_ := hcb.out _ hx.tail.tail 1 _ rfl; have k2_ := hcb.out _ hx.tail.tail 2 _ rfl; rw [Nat.add_zero] at k0_; first | (go_simp; first | rfl | exact ⟨rfl, rfl⟩) | rfl | exact ⟨rfl, rfl⟩)); clear hK K)
          refine reg_p (i := 28) rfl (by kernel_rfl) (fun _ _ _ _ h => h) HH.out (fun K hK => ?_)
          go_simp
          first | (refine hK _ ?_; clear hK K) | (apply Exists.intro; refine ⟨?_, hK _ ?_⟩; (focus (intro wx; first | (go_simp; first | rfl) | rfl)); clear hK K)
          refine reg_p (i := 29) rfl (by kernel_rfl) (fun _ _ _ _ h => h) HH.out (fun K hK => ?_)
          go_simp
          first | (refine hK _ ?_; clear hK K) | (apply Exists.intro; refine ⟨?_, hK _ ?_⟩; (focus (intro wx; first | (go_simp; first | rfl) | rfl)); clear hK K)
          refine reg_p (i := 30) rfl (by kernel_rfl) (fun _ _ _ _ h => h) HH.out (fun K hK => ?_)
          go_simp
          first | (refine hK _ ?_; clear hK K) | (apply Exists.intro; refine ⟨?_, hK _ ?_⟩; (focus (intro wx; first | (go_simp; first | rfl) | rfl)); clear hK K)
          refine mixk_q (i := 31) rfl (by kernel_rfl) (fun _ _ _ _ h => h) HH.out (fun K hK => ?_)
          go_simp
          first | (refine hK _ ?_; clear hK K) | (apply Exists.intro; refine ⟨?_, hK _ ?_⟩; (focus (intro wx hx; have x2_ := hx.r2.cells; have k0_ := hcb.out _ hx.tail.tail 0 _ rfl; have k1_ := hcb.out _ hx.tail.tail 1 _ rfl; have k2_ := hcb.out _ hx.tail.tail 2 _ rfl; rw [Nat.add_zero] at k0_; first | (go_simp; first | rfl | exact ⟨rfl, rfl⟩) | rfl | exact ⟨rfl, rfl⟩)); clear hK K)
          refine reg_p (i := 32) rfl (by kernel_rfl) (fun _ _ _ _ h => h) HH.out (fun K hK => ?_)
          go_simp
          first | (refine hK _ ?_; clear hK K) | (apply Exists.intro; refine ⟨?_, hK _ ?_⟩; (focus (intro wx; first | (go_simp; first | rfl) | rfl)); clear hK K)
          refine reg_p (i := 33) rfl (by kernel_rfl) (fun _ _ _ _ h => h) HH.out (fun K hK => ?_)
          go_simp
          first | (refine hK _ ?_; clear hK K) | (apply Exists.intro; refine ⟨?_, hK _ ?_⟩; (focus (intro wx; first | (go_simp; first | rfl) | rfl)); clear hK K)
          refine reg_p (i := 34) rfl (by kernel_rfl) (fun _ _ _ _ h => h) HH.out (fun K hK => ?_)
          go_simp
          first | (refine hK _ ?_; clear hK K) | (apply Exists.intro; refine ⟨?_, hK _ ?_⟩; (focus (intro wx; first | (go_simp; first | rfl) | rfl)); clear hK K)
          refine reg_l none (i := 35) rfl (by kernel_rfl) (fun wn hk K hK => ?_)
          replace HH := Lib.hid (hk _ _ HH.out)
          clear hk
          refine want rfl (wp_store_own _ #[_, _, _, _, _] rfl rfl rfl HH.out.r2 (by kernel_rfl) rfl (by repeat (first | (refine List.forall_mem_cons.2 ⟨(by first | with_reducible assumption | rfl), ?_⟩) | exact fun _ h => absurd h List.not_mem_nil)) ?_)
          intro wm H9_
          replace HH := Lib.hid H9_
          clear H9_
          refine hK _ _ _ HH.out (.inl (by kernel_rfl)) ?_
          clear hK K
          refine mixk_done (by kernel_rfl) (fun w3_ hk => ?_) _
          replace HH := Lib.hid (hk _ _ HH.out)
          clear hk
          clear w1 w2 w3 w4 w5 w6 w7 w8 w9 w10 w11 w12 d1 d2 d3
          (try clear cc1_); (try clear cc2_); (try clear cc3_); (try clear cc4_); (try clear cc5_); (try clear cc6_); (try clear cc7_)
          have cc1_ := HH.out.cells
          replace HH := Lib.hid HH.out.r2
          go_wp2_with (with_reducible refine stop_bs ?_)
          refine Stop.go ?_
          refine wpList_bs1_own HH.out #[_, _, _, _, _] 5 40 Try.underlying29 (by kernel_rfl) (by decide) (by decide) rfl rfl ?_
          intro g_ w4_ H9_
          replace HH := Lib.hid H9_
          clear H9_
          go_wp2_with (with_reducible refine stop_app ?_)
          refine Stop.go ?_
          refine wpList_app1_own rfl _ _ 29 rfl 114 5 40 Try.underlying29 (by kernel_rfl) (by decide) (k) rfl rfl HH.out (hlen.out) rfl (by repeat (first | (refine List.forall_mem_cons.2 ⟨(by first | with_reducible assumption | rfl), ?_⟩) | exact fun _ h => absurd h List.not_mem_nil)) (by simp only [maxLen]; omega) (by omega) ?_
          intro v5 w5_ H9_
          obtain ⟨A_v5, n_v5, c_v5, rfl⟩ := H9_.slc_isv
          replace HH := Lib.hid H9_
          clear H9_
          go_wp2_with fail
          go_roundw
          case rel =>
            refine ⟨k + 1, ⟨x1 + t1, x2 + t2, x3 + (t2 - inn), x4 + sv, v'⟩, qu2, tk3, by omega, by go_num, hT3.out, by rw [← y1.out]; exact e3.out, rfl, rfl, y2.out, y3.out, ?_⟩
            rw [e2.out, y1.out, encs_snoc]
            exact HH.out
          case measure => simp [intOf]; omega
    · have hkn : k = n := by omega
      subst hkn
      have e1 : ts.take k = ts := List.take_of_length_le (by omega)
      rw [e1] at HH hT
      have hb := hgood.out hT
      obtain ⟨q1, q2⟩ := res
      cases hb
      clear hT
      go_wp2_with fail
      go_ret2
      exact ⟨_, rfl, HH.out.r2.tail⟩
end
end Go.Proofs.Ytoimbdbajpjmjaa
