/- goitref07: may ranges be put; are two rows of them one? -/
import Derived.Laws.StructEq
import Derived.Test.YtlhncdbigjgmnaaSeq9
namespace Go.Proofs.Ytlhncdbigjgmnaa
open Go.RowKit
section
variable (ε w : World) (R : List Asn)
theorem item_cells {A : Option Addr} {g off len k : Nat} {xs : List Rg} {x : Rg} {L : List Asn} (hA : ∀ wx, Own ε wx L → itAt encRg 2 wx A len xs) (hk : k < len) (hx : xs[k]? = some x) (e : A = some ⟨g, off, none⟩) :
    ∀ wx, Own ε wx L → wx.cell? ⟨g, off + k * 2, none⟩ = some (.int .u64 x.1) ∧ wx.cell? ⟨g, off + k * 2 + 1, none⟩ = some (.int .u64 x.2) := fun wx Hx => by
  obtain ⟨gB, off2, y2, e2, hy2, hc⟩ := (hA wx Hx).get hk
  rw [e] at e2
  cases e2
  rw [hx] at hy2
  cases hy2
  exact ⟨hc 0 _ rfl, hc 1 _ rfl⟩
set_option maxRecDepth 100000 in
set_option maxHeartbeats 3200000 in
theorem ref07Right_c (xs : List Rg) (A : Option Addr) (len cap : Nat) (hA : ∀ wx, Own ε wx R → itAt encRg 2 wx A len xs) (hm : len ≤ 9223372036854775807) (H : Own ε w R) :
    Calls Try.prog 6 #[.slice A len cap] w fun e w' => e = .returned (.bool (!xs.any badR)) ∧ Own ε w' R := by
  have HH := Lib.hid H; clear H
  have hlen : xs.length = len := (hA w HH.out).1
  replace hA := Lib.hid hA
  replace hlen := Lib.hid hlen
  obtain ⟨rs, hrs⟩ : ∃ y, (!xs.any badR) = y := ⟨_, rfl⟩
  rw [hrs]
  replace hrs := Lib.hid hrs
  go_enter Try.func6, Try.ntmps6
  go_wp2_with fail
  go_loopw [3] (fun vi wr => ∃ i : Nat, i ≤ len ∧ vi = .int .i64 i ∧ (xs.take i).any badR = false ∧ Own ε wr R) (fun vi _ => len - (intOf vi).toNat)
  case atStart => exact ⟨0, Nat.zero_le _, rfl, rfl, HH.out⟩
  case round =>
    clear HH
    obtain ⟨i, hi, rfl, hno, HR⟩ := hrel
    have HH := Lib.hid HR
    clear HR
    by_cases hlt : i < len
    · have w3 : IntKind.i64.wrap ((i : Int) + 1) = ((i + 1 : Nat) : Int) := by rw [IntKind.wrap_i64]; omega
      obtain ⟨g, off, x, rfl, hx, _⟩ := (hA.out _ HH.out).get hlt
      have hcs := item_cells ε (fun wx Hx => hA.out wx Hx) hlt hx rfl
      have hnx := any_next hx
      rw [hno, Bool.false_or] at hnx
      have hall : badR x = true → rs = false := fun hb => by rw [← hrs.out, List.any_eq_true.2 ⟨x, List.mem_of_getElem? hx, hb⟩]; rfl
      replace hcs := Lib.hid hcs
      replace hno := Lib.hid hno
      replace hx := Lib.hid hx
      unfold badR at hall
      by_cases h1 : x.2 < x.1
      · have d1 : decide (x.2 < x.1) = true := decide_eq_true h1
        have e1 : rs = false := hall (by simp [d1])
        clear hnx hall h1
        go_wp2_with fail
        go_wp2_with fail
        refine wp_region_reg none HH.out (by kernel_rfl) ?_
        intro wm H9_
        replace HH := Lib.hid H9_
        clear H9_
        refine reg_p (i := 0) rfl (by kernel_rfl) (fun _ _ _ _ h => h) HH.out (fun K hK => ?_)
        go_simp
        first | (refine hK _ ?_; clear hK K) | (apply Exists.intro; refine ⟨?_, hK _ ?_⟩; (focus (intro wx; first | (go_simp; first | rfl) | rfl)); clear hK K)
        refine reg_p (i := 1) rfl (by kernel_rfl) (fun _ _ _ _ h => h) HH.out (fun K hK => ?_)
        go_simp
        first | (refine hK _ ?_; clear hK K) | (apply Exists.intro; refine ⟨?_, hK _ ?_⟩; (focus (intro wx; first | (go_simp; first | rfl) | rfl)); clear hK K)
        refine reg_p (i := 2) rfl (by kernel_rfl) (fun _ _ _ _ h => h) HH.out (fun K hK => ?_)
        go_simp
        first | (refine hK _ ?_; clear hK K) | (apply Exists.intro; refine ⟨?_, hK _ ?_⟩; (focus (intro wx; first | (go_simp; first | rfl) | rfl)); clear hK K)
        refine reg_p (i := 3) rfl (by kernel_rfl) (fun _ _ _ _ h => h) HH.out (fun K hK => ?_)
        go_simp
        first | (refine hK _ ?_; clear hK K) | (apply Exists.intro; refine ⟨?_, hK _ ?_⟩; (focus (intro wx; first | (go_simp; first | rfl) | rfl)); clear hK K)
        refine mixk_q (i := 4) rfl (by kernel_rfl) (fun _ _ _ _ h => h) HH.out (fun K hK => ?_)
        go_simp
        first | (refine hK _ ?_; clear hK K) | (apply Exists.intro; refine ⟨?_, hK _ ?_⟩; (focus (intro wx hx; obtain ⟨y0_, y1_⟩ := hcs.out _ hx; first | (go_simp; first | rfl | exact ⟨rfl, rfl⟩) | rfl | exact ⟨rfl, rfl⟩)); clear hK K)
        refine reg_p (i := 5) rfl (by kernel_rfl) (fun _ _ _ _ h => h) HH.out (fun K hK => ?_)
        go_simp
        first | (refine hK _ ?_; clear hK K) | (apply Exists.intro; refine ⟨?_, hK _ ?_⟩; (focus (intro wx; first | (go_simp; first | rfl) | rfl)); clear hK K)
        refine reg_p (i := 6) rfl (by kernel_rfl) (fun _ _ _ _ h => h) HH.out (fun K hK => ?_)
        go_simp
        first | (refine hK _ ?_; clear hK K) | (apply Exists.intro; refine ⟨?_, hK _ ?_⟩; (focus (intro wx; first | (go_simp; first | rfl) | rfl)); clear hK K)
        refine reg_p (i := 7) rfl (by kernel_rfl) (fun _ _ _ _ h => h) HH.out (fun K hK => ?_)
        go_simp
        first | (refine hK _ ?_; clear hK K) | (apply Exists.intro; refine ⟨?_, hK _ ?_⟩; (focus (intro wx; first | (go_simp; first | rfl) | rfl)); clear hK K)
        refine reg_p (i := 8) rfl (by kernel_rfl) (fun _ _ _ _ h => h) HH.out (fun K hK => ?_)
        go_simp
        first | (refine hK _ ?_; clear hK K) | (apply Exists.intro; refine ⟨?_, hK _ ?_⟩; (focus (intro wx; first | (go_simp; first | rfl) | rfl)); clear hK K)
        refine mixk_q (i := 9) rfl (by kernel_rfl) (fun _ _ _ _ h => h) HH.out (fun K hK => ?_)
        go_simp
        first | (refine hK _ ?_; clear hK K) | (apply Exists.intro; refine ⟨?_, hK _ ?_⟩; (focus (intro wx hx; obtain ⟨y0_, y1_⟩ := hcs.out _ hx; first | (go_simp; first | rfl | exact ⟨rfl, rfl⟩) | rfl | exact ⟨rfl, rfl⟩)); clear hK K)
        refine reg_p (i := 10) rfl (by kernel_rfl) (fun _ _ _ _ h => h) HH.out (fun K hK => ?_)
        go_simp
        first | (refine hK _ ?_; clear hK K) | (apply Exists.intro; refine ⟨?_, hK _ ?_⟩; (focus (intro wx; first | (go_simp; first | rfl) | rfl)); clear hK K)
        refine reg_p (i := 11) rfl (by kernel_rfl) (fun _ _ _ _ h => h) HH.out (fun K hK => ?_)
        go_simp
        first | (refine hK _ ?_; clear hK K) | (apply Exists.intro; refine ⟨?_, hK _ ?_⟩; (focus (intro wx; first | (go_simp; first | rfl) | rfl)); clear hK K)
        refine reg_p (i := 12) rfl (by kernel_rfl) (fun _ _ _ _ h => h) HH.out (fun K hK => ?_)
        go_simp
        first | (refine hK _ ?_; clear hK K) | (apply Exists.intro; refine ⟨?_, hK _ ?_⟩; (focus (intro wx; first | (go_simp; first | rfl) | rfl)); clear hK K)
        refine reg_p (i := 13) rfl (by kernel_rfl) (fun _ _ _ _ h => h) HH.out (fun K hK => ?_)
        go_simp
        first | (refine hK _ ?_; clear hK K) | (apply Exists.intro; refine ⟨?_, hK _ ?_⟩; (focus (intro wx; first | (go_simp; first | rfl) | rfl)); clear hK K)
        refine reg_p (i := 14) rfl (by kernel_rfl) (fun _ _ _ _ h => h) HH.out (fun K hK => ?_)
        go_simp
        first | (refine hK _ ?_; clear hK K) | (apply Exists.intro; refine ⟨?_, hK _ ?_⟩; (focus (intro wx; first | (go_simp; first | rfl) | rfl)); clear hK K)
        refine reg_p (i := 15) rfl (by kernel_rfl) (fun _ _ _ _ h => h) HH.out (fun K hK => ?_)
        go_simp
        first | (refine hK _ ?_; clear hK K) | (apply Exists.intro; refine ⟨?_, hK _ ?_⟩; (focus (intro wx; first | (go_simp; first | rfl) | rfl)); clear hK K)
        refine mixk_q (i := 16) rfl (by kernel_rfl) (fun _ _ _ _ h => h) HH.out (fun K hK => ?_)
        go_simp
        first | (refine hK _ ?_; clear hK K) | (apply Exists.intro; refine ⟨?_, hK _ ?_⟩; (focus (intro wx hx; obtain ⟨y0_, y1_⟩ := hcs.out _ hx; first | (go_simp; first | rfl | exact ⟨rfl, rfl⟩) | rfl | exact ⟨rfl, rfl⟩)); clear hK K)
        refine reg_p (i := 17) rfl (by kernel_rfl) (fun _ _ _ _ h => h) HH.out (fun K hK => ?_)
        go_simp
        first | (refine hK _ ?_; clear hK K) | (apply Exists.intro; refine ⟨?_, hK _ ?_⟩; (focus (intro wx; first | (go_simp; first | rfl) | rfl)); clear hK K)
        refine reg_p (i := 18) rfl (by kernel_rfl) (fun _ _ _ _ h => h) HH.out (fun K hK => ?_)
        go_simp
        first | (refine hK _ ?_; clear hK K) | (apply Exists.intro; refine ⟨?_, hK _ ?_⟩; (focus (intro wx; first | (go_simp; first | rfl) | rfl)); clear hK K)
        refine mixk_done (by kernel_rfl) (fun w1_ hk => ?_) _
        replace HH := Lib.hid (hk _ _ HH.out)
        clear hk
        go_wp2_with fail
        go_ret
        exact ⟨by rw [e1]; rfl, HH.out⟩
      · have d1 : decide (x.2 < x.1) = false := decide_eq_false h1
        by_cases h2 : x.2 = 18446744073709551615
        · have d2 : (x.2 == 18446744073709551615) = true := by simpa using h2
          have e1 : rs = false := hall (by simp [h2])
          clear hnx hall h1 h2
          go_wp2_with fail
          go_wp2_with fail
          refine wp_region_reg none HH.out (by kernel_rfl) ?_
          intro wm H9_
          replace HH := Lib.hid H9_
          clear H9_
          refine reg_p (i := 0) rfl (by kernel_rfl) (fun _ _ _ _ h => h) HH.out (fun K hK => ?_)
          go_simp
          first | (refine hK _ ?_; clear hK K) | (apply Exists.intro; refine ⟨?_, hK _ ?_⟩; (focus (intro wx; first | (go_simp; first | rfl) | rfl)); clear hK K)
          refine reg_p (i := 1) rfl (by kernel_rfl) (fun _ _ _ _ h => h) HH.out (fun K hK => ?_)
          go_simp
          first | (refine hK _ ?_; clear hK K) | (apply Exists.intro; refine ⟨?_, hK _ ?_⟩; (focus (intro wx; first | (go_simp; first | rfl) | rfl)); clear hK K)
          refine reg_p (i := 2) rfl (by kernel_rfl) (fun _ _ _ _ h => h) HH.out (fun K hK => ?_)
          go_simp
          first | (refine hK _ ?_; clear hK K) | (apply Exists.intro; refine ⟨?_, hK _ ?_⟩; (focus (intro wx; first | (go_simp; first | rfl) | rfl)); clear hK K)
          refine reg_p (i := 3) rfl (by kernel_rfl) (fun _ _ _ _ h => h) HH.out (fun K hK => ?_)
          go_simp
          first | (refine hK _ ?_; clear hK K) | (apply Exists.intro; refine ⟨?_, hK _ ?_⟩; (focus (intro wx; first | (go_simp; first | rfl) | rfl)); clear hK K)
          refine mixk_q (i := 4) rfl (by kernel_rfl) (fun _ _ _ _ h => h) HH.out (fun K hK => ?_)
          go_simp
          first | (refine hK _ ?_; clear hK K) | (apply Exists.intro; refine ⟨?_, hK _ ?_⟩; (focus (intro wx hx; obtain ⟨y0_, y1_⟩ := hcs.out _ hx; first | (go_simp; first | rfl | exact ⟨rfl, rfl⟩) | rfl | exact ⟨rfl, rfl⟩)); clear hK K)
          refine reg_p (i := 5) rfl (by kernel_rfl) (fun _ _ _ _ h => h) HH.out (fun K hK => ?_)
          go_simp
          first | (refine hK _ ?_; clear hK K) | (apply Exists.intro; refine ⟨?_, hK _ ?_⟩; (focus (intro wx; first | (go_simp; first | rfl) | rfl)); clear hK K)
          refine reg_p (i := 6) rfl (by kernel_rfl) (fun _ _ _ _ h => h) HH.out (fun K hK => ?_)
          go_simp
          first | (refine hK _ ?_; clear hK K) | (apply Exists.intro; refine ⟨?_, hK _ ?_⟩; (focus (intro wx; first | (go_simp; first | rfl) | rfl)); clear hK K)
          refine reg_p (i := 7) rfl (by kernel_rfl) (fun _ _ _ _ h => h) HH.out (fun K hK => ?_)
          go_simp
          first | (refine hK _ ?_; clear hK K) | (apply Exists.intro; refine ⟨?_, hK _ ?_⟩; (focus (intro wx; first | (go_simp; first | rfl) | rfl)); clear hK K)
          refine reg_p (i := 8) rfl (by kernel_rfl) (fun _ _ _ _ h => h) HH.out (fun K hK => ?_)
          go_simp
          first | (refine hK _ ?_; clear hK K) | (apply Exists.intro; refine ⟨?_, hK _ ?_⟩; (focus (intro wx; first | (go_simp; first | rfl) | rfl)); clear hK K)
          refine mixk_q (i := 9) rfl (by kernel_rfl) (fun _ _ _ _ h => h) HH.out (fun K hK => ?_)
          go_simp
          first | (refine hK _ ?_; clear hK K) | (apply Exists.intro; refine ⟨?_, hK _ ?_⟩; (focus (intro wx hx; obtain ⟨y0_, y1_⟩ := hcs.out _ hx; first | (go_simp; first | rfl | exact ⟨rfl, rfl⟩) | rfl | exact ⟨rfl, rfl⟩)); clear hK K)
          refine reg_p (i := 10) rfl (by kernel_rfl) (fun _ _ _ _ h => h) HH.out (fun K hK => ?_)
          go_simp
          first | (refine hK _ ?_; clear hK K) | (apply Exists.intro; refine ⟨?_, hK _ ?_⟩; (focus (intro wx; first | (go_simp; first | rfl) | rfl)); clear hK K)
          refine reg_p (i := 11) rfl (by kernel_rfl) (fun _ _ _ _ h => h) HH.out (fun K hK => ?_)
          go_simp
          first | (refine hK _ ?_; clear hK K) | (apply Exists.intro; refine ⟨?_, hK _ ?_⟩; (focus (intro wx; first | (go_simp; first | rfl) | rfl)); clear hK K)
          refine reg_p (i := 12) rfl (by kernel_rfl) (fun _ _ _ _ h => h) HH.out (fun K hK => ?_)
          go_simp
          first | (refine hK _ ?_; clear hK K) | (apply Exists.intro; refine ⟨?_, hK _ ?_⟩; (focus (intro wx; first | (go_simp; first | rfl) | rfl)); clear hK K)
          refine reg_p (i := 13) rfl (by kernel_rfl) (fun _ _ _ _ h => h) HH.out (fun K hK => ?_)
          go_simp
          first | (refine hK _ ?_; clear hK K) | (apply Exists.intro; refine ⟨?_, hK _ ?_⟩; (focus (intro wx; first | (go_simp; first | rfl) | rfl)); clear hK K)
          refine reg_p (i := 14) rfl (by kernel_rfl) (fun _ _ _ _ h => h) HH.out (fun K hK => ?_)
          go_simp
          first | (refine hK _ ?_; clear hK K) | (apply Exists.intro; refine ⟨?_, hK _ ?_⟩; (focus (intro wx; first | (go_simp; first | rfl) | rfl)); clear hK K)
          refine reg_p (i := 15) rfl (by kernel_rfl) (fun _ _ _ _ h => h) HH.out (fun K hK => ?_)
          go_simp
          first | (refine hK _ ?_; clear hK K) | (apply Exists.intro; refine ⟨?_, hK _ ?_⟩; (focus (intro wx; first | (go_simp; first | rfl) | rfl)); clear hK K)
          refine mixk_q (i := 16) rfl (by kernel_rfl) (fun _ _ _ _ h => h) HH.out (fun K hK => ?_)
          go_simp
          first | (refine hK _ ?_; clear hK K) | (apply Exists.intro; refine ⟨?_, hK _ ?_⟩; (focus (intro wx hx; obtain ⟨y0_, y1_⟩ := hcs.out _ hx; first | (go_simp; first | rfl | exact ⟨rfl, rfl⟩) | rfl | exact ⟨rfl, rfl⟩)); clear hK K)
          refine reg_p (i := 17) rfl (by kernel_rfl) (fun _ _ _ _ h => h) HH.out (fun K hK => ?_)
          go_simp
          first | (refine hK _ ?_; clear hK K) | (apply Exists.intro; refine ⟨?_, hK _ ?_⟩; (focus (intro wx; first | (go_simp; first | rfl) | rfl)); clear hK K)
          refine reg_p (i := 18) rfl (by kernel_rfl) (fun _ _ _ _ h => h) HH.out (fun K hK => ?_)
          go_simp
          first | (refine hK _ ?_; clear hK K) | (apply Exists.intro; refine ⟨?_, hK _ ?_⟩; (focus (intro wx; first | (go_simp; first | rfl) | rfl)); clear hK K)
          refine mixk_done (by kernel_rfl) (fun w2_ hk => ?_) _
          replace HH := Lib.hid (hk _ _ HH.out)
          clear hk
          go_wp2_with fail
          go_ret
          exact ⟨by rw [e1]; rfl, HH.out⟩
        · have d2 : (x.2 == 18446744073709551615) = false := by simpa using h2
          have e1 : (xs.take (i + 1)).any badR = false := by rw [hnx]; unfold badR; rw [d1, decide_eq_false h2]; rfl
          replace e1 := Lib.hid e1
          clear hnx hall h1 h2
          go_wp2_with fail
          go_wp2_with fail
          refine wp_region_reg none HH.out (by kernel_rfl) ?_
          intro wm H9_
          replace HH := Lib.hid H9_
          clear H9_
          refine reg_p (i := 0) rfl (by kernel_rfl) (fun _ _ _ _ h => h) HH.out (fun K hK => ?_)
          go_simp
          first | (refine hK _ ?_; clear hK K) | (apply Exists.intro; refine ⟨?_, hK _ ?_⟩; (focus (intro wx; first | (go_simp; first | rfl) | rfl)); clear hK K)
          refine reg_p (i := 1) rfl (by kernel_rfl) (fun _ _ _ _ h => h) HH.out (fun K hK => ?_)
          go_simp
          first | (refine hK _ ?_; clear hK K) | (apply Exists.intro; refine ⟨?_, hK _ ?_⟩; (focus (intro wx; first | (go_simp; first | rfl) | rfl)); clear hK K)
          refine reg_p (i := 2) rfl (by kernel_rfl) (fun _ _ _ _ h => h) HH.out (fun K hK => ?_)
          go_simp
          first | (refine hK _ ?_; clear hK K) | (apply Exists.intro; refine ⟨?_, hK _ ?_⟩; (focus (intro wx; first | (go_simp; first | rfl) | rfl)); clear hK K)
          refine reg_p (i := 3) rfl (by kernel_rfl) (fun _ _ _ _ h => h) HH.out (fun K hK => ?_)
          go_simp
          first | (refine hK _ ?_; clear hK K) | (apply Exists.intro; refine ⟨?_, hK _ ?_⟩; (focus (intro wx; first | (go_simp; first | rfl) | rfl)); clear hK K)
          refine mixk_q (i := 4) rfl (by kernel_rfl) (fun _ _ _ _ h => h) HH.out (fun K hK => ?_)
          go_simp
          first | (refine hK _ ?_; clear hK K) | (apply Exists.intro; refine ⟨?_, hK _ ?_⟩; (focus (intro wx hx; obtain ⟨y0_, y1_⟩ := hcs.out _ hx; first | (go_simp; first | rfl | exact ⟨rfl, rfl⟩) | rfl | exact ⟨rfl, rfl⟩)); clear hK K)
          refine reg_p (i := 5) rfl (by kernel_rfl) (fun _ _ _ _ h => h) HH.out (fun K hK => ?_)
          go_simp
          first | (refine hK _ ?_; clear hK K) | (apply Exists.intro; refine ⟨?_, hK _ ?_⟩; (focus (intro wx; first | (go_simp; first | rfl) | rfl)); clear hK K)
          refine reg_p (i := 6) rfl (by kernel_rfl) (fun _ _ _ _ h => h) HH.out (fun K hK => ?_)
          go_simp
          first | (refine hK _ ?_; clear hK K) | (apply Exists.intro; refine ⟨?_, hK _ ?_⟩; (focus (intro wx; first | (go_simp; first | rfl) | rfl)); clear hK K)
          refine reg_p (i := 7) rfl (by kernel_rfl) (fun _ _ _ _ h => h) HH.out (fun K hK => ?_)
          go_simp
          first | (refine hK _ ?_; clear hK K) | (apply Exists.intro; refine ⟨?_, hK _ ?_⟩; (focus (intro wx; first | (go_simp; first | rfl) | rfl)); clear hK K)
          refine reg_p (i := 8) rfl (by kernel_rfl) (fun _ _ _ _ h => h) HH.out (fun K hK => ?_)
          go_simp
          first | (refine hK _ ?_; clear hK K) | (apply Exists.intro; refine ⟨?_, hK _ ?_⟩; (focus (intro wx; first | (go_simp; first | rfl) | rfl)); clear hK K)
          refine mixk_q (i := 9) rfl (by kernel_rfl) (fun _ _ _ _ h => h) HH.out (fun K hK => ?_)
          go_simp
          first | (refine hK _ ?_; clear hK K) | (apply Exists.intro; refine ⟨?_, hK _ ?_⟩; (focus (intro wx hx; obtain ⟨y0_, y1_⟩ := hcs.out _ hx; first | (go_simp; first | rfl | exact ⟨rfl, rfl⟩) | rfl | exact ⟨rfl, rfl⟩)); clear hK K)
          refine reg_p (i := 10) rfl (by kernel_rfl) (fun _ _ _ _ h => h) HH.out (fun K hK => ?_)
          go_simp
          first | (refine hK _ ?_; clear hK K) | (apply Exists.intro; refine ⟨?_, hK _ ?_⟩; (focus (intro wx; first | (go_simp; first | rfl) | rfl)); clear hK K)
          refine reg_p (i := 11) rfl (by kernel_rfl) (fun _ _ _ _ h => h) HH.out (fun K hK => ?_)
          go_simp
          first | (refine hK _ ?_; clear hK K) | (apply Exists.intro; refine ⟨?_, hK _ ?_⟩; (focus (intro wx; first | (go_simp; first | rfl) | rfl)); clear hK K)
          refine reg_p (i := 12) rfl (by kernel_rfl) (fun _ _ _ _ h => h) HH.out (fun K hK => ?_)
          go_simp
          first | (refine hK _ ?_; clear hK K) | (apply Exists.intro; refine ⟨?_, hK _ ?_⟩; (focus (intro wx; first | (go_simp; first | rfl) | rfl)); clear hK K)
          refine reg_p (i := 13) rfl (by kernel_rfl) (fun _ _ _ _ h => h) HH.out (fun K hK => ?_)
          go_simp
          first | (refine hK _ ?_; clear hK K) | (apply Exists.intro; refine ⟨?_, hK _ ?_⟩; (focus (intro wx; first | (go_simp; first | rfl) | rfl)); clear hK K)
          refine reg_p (i := 14) rfl (by kernel_rfl) (fun _ _ _ _ h => h) HH.out (fun K hK => ?_)
          go_simp
          first | (refine hK _ ?_; clear hK K) | (apply Exists.intro; refine ⟨?_, hK _ ?_⟩; (focus (intro wx; first | (go_simp; first | rfl) | rfl)); clear hK K)
          refine reg_p (i := 15) rfl (by kernel_rfl) (fun _ _ _ _ h => h) HH.out (fun K hK => ?_)
          go_simp
          first | (refine hK _ ?_; clear hK K) | (apply Exists.intro; refine ⟨?_, hK _ ?_⟩; (focus (intro wx; first | (go_simp; first | rfl) | rfl)); clear hK K)
          refine mixk_q (i := 16) rfl (by kernel_rfl) (fun _ _ _ _ h => h) HH.out (fun K hK => ?_)
          go_simp
          first | (refine hK _ ?_; clear hK K) | (apply Exists.intro; refine ⟨?_, hK _ ?_⟩; (focus (intro wx hx; obtain ⟨y0_, y1_⟩ := hcs.out _ hx; first | (go_simp; first | rfl | exact ⟨rfl, rfl⟩) | rfl | exact ⟨rfl, rfl⟩)); clear hK K)
          refine reg_p (i := 17) rfl (by kernel_rfl) (fun _ _ _ _ h => h) HH.out (fun K hK => ?_)
          go_simp
          first | (refine hK _ ?_; clear hK K) | (apply Exists.intro; refine ⟨?_, hK _ ?_⟩; (focus (intro wx; first | (go_simp; first | rfl) | rfl)); clear hK K)
          refine reg_p (i := 18) rfl (by kernel_rfl) (fun _ _ _ _ h => h) HH.out (fun K hK => ?_)
          go_simp
          first | (refine hK _ ?_; clear hK K) | (apply Exists.intro; refine ⟨?_, hK _ ?_⟩; (focus (intro wx; first | (go_simp; first | rfl) | rfl)); clear hK K)
          refine mixk_done (by kernel_rfl) (fun w3_ hk => ?_) _
          replace HH := Lib.hid (hk _ _ HH.out)
          clear hk
          go_wp2_with fail
          go_roundw
          case rel => exact ⟨i + 1, by omega, by go_num, e1.out, HH.out⟩
          case measure => simp [intOf]; omega
    · have e1 : rs = true := by
        rw [List.take_of_length_le (by rw [hlen.out]; omega)] at hno
        rw [← hrs.out, hno]; rfl
      clear hno
      go_wp2_with fail
      go_ret
      exact ⟨by rw [e1]; rfl, HH.out⟩
end
end Go.Proofs.Ytlhncdbigjgmnaa
