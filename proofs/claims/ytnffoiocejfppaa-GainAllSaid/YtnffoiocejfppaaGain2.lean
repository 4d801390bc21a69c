/- gain: names, and parsing them. -/
import Derived.Test.YtnffoiocejfppaaGain
namespace Go.Proofs.Ytnffoiocejfppaa
open Go.RowKit
/-- The states by their names, as the map bears them. -/
def gMap (k : Nat) : List (Value × Value) := ((gTab.take k).zipIdx).map fun p => (Value.string p.1.1, Value.int .i64 (p.2 : Nat))
/-- A name's state. -/
def gParse (n : ByteArray) : Option Nat := gTab.findIdx? fun g => n == g.1
theorem gFind (n : ByteArray) : Instr.findNow .string (.string n) (entsAt 0 (gMap 7)) 0 = some ((gParse n).map fun k => (k, .int .i64 k)) := by
  have e : entsAt 0 (gMap 7) = [{ key := .string ⟨#[115, 116, 97, 114, 116, 117, 112]⟩, val := .int .i64 0, born := 0 }, { key := .string ⟨#[100, 114, 97, 105, 110]⟩, val := .int .i64 1, born := 1 }, { key := .string ⟨#[100, 111, 119, 110]⟩, val := .int .i64 2, born := 2 }, { key := .string ⟨#[99, 114, 117, 105, 115, 101]⟩, val := .int .i64 3, born := 3 }, { key := .string ⟨#[114, 101, 102, 105, 108, 108]⟩, val := .int .i64 4, born := 4 }, { key := .string ⟨#[117, 112]⟩, val := .int .i64 5, born := 5 }, { key := .string ⟨#[112, 114, 111, 98, 101]⟩, val := .int .i64 6, born := 6 }] := rfl
  rw [e]
  unfold gParse gTab
  cases h0 : (n == (⟨#[115, 116, 97, 114, 116, 117, 112]⟩ : ByteArray)) with
  | true => simp [Instr.findNow, Instr.sameNow, List.findIdx?_cons, h0]
  | false =>
    cases h1 : (n == (⟨#[100, 114, 97, 105, 110]⟩ : ByteArray)) with
    | true => simp [Instr.findNow, Instr.sameNow, List.findIdx?_cons, h0, h1]
    | false =>
      cases h2 : (n == (⟨#[100, 111, 119, 110]⟩ : ByteArray)) with
      | true => simp [Instr.findNow, Instr.sameNow, List.findIdx?_cons, h0, h1, h2]
      | false =>
        cases h3 : (n == (⟨#[99, 114, 117, 105, 115, 101]⟩ : ByteArray)) with
        | true => simp [Instr.findNow, Instr.sameNow, List.findIdx?_cons, h0, h1, h2, h3]
        | false =>
          cases h4 : (n == (⟨#[114, 101, 102, 105, 108, 108]⟩ : ByteArray)) with
          | true => simp [Instr.findNow, Instr.sameNow, List.findIdx?_cons, h0, h1, h2, h3, h4]
          | false =>
            cases h5 : (n == (⟨#[117, 112]⟩ : ByteArray)) with
            | true => simp [Instr.findNow, Instr.sameNow, List.findIdx?_cons, h0, h1, h2, h3, h4, h5]
            | false =>
              cases h6 : (n == (⟨#[112, 114, 111, 98, 101]⟩ : ByteArray)) with
              | true => simp [Instr.findNow, Instr.sameNow, List.findIdx?_cons, h0, h1, h2, h3, h4, h5, h6]
              | false =>
                simp [Instr.findNow, Instr.sameNow, List.findIdx?_cons, h0, h1, h2, h3, h4, h5, h6]
def gRes : Option Nat → Value
  | some k => .tuple #[.int .i64 k, .int .i64 0]
  | none => .tuple #[.int .i64 0, .int .i64 31]
section
variable (w : World)
set_option maxHeartbeats 3200000 in
set_option maxRecDepth 100000 in
theorem gainNames_c (ε : World) (L : List Asn) (H : Own ε w L) : Calls Try.prog 76 #[] w fun e w' => ∃ b, e = .returned (.map (some b)) ∧ Own ε w' (pts b (mpObj (gMap 7)) :: L) := by
  have HH := Lib.hid H
  clear H
  have hmm := @run_makeMap_plain Try.prog
  have hix : ∀ k : Nat, k < 7 → ∀ w, (Instr.index 84 gAgg (.int .i64 k)).run Try.prog w = .ok (gCell (gTab.getD k (⟨#[]⟩, 0, 0))) w := by
    intro k hk w
    rcases (show k = 0 ∨ k = 1 ∨ k = 2 ∨ k = 3 ∨ k = 4 ∨ k = 5 ∨ k = 6 by omega) with rfl | rfl | rfl | rfl | rfl | rfl | rfl <;> kernel_rfl
  have hne : ∀ k : Nat, k < 7 → Instr.findNow .string (.string (gTab.getD k (⟨#[]⟩, 0, 0)).1) (entsAt 0 (gMap k)) 0 = some none ∧ gMap (k + 1) = gMap k ++ [(.string (gTab.getD k (⟨#[]⟩, 0, 0)).1, .int .i64 k)] := by
    intro k hk
    rcases (show k = 0 ∨ k = 1 ∨ k = 2 ∨ k = 3 ∨ k = 4 ∨ k = 5 ∨ k = 6 by omega) with rfl | rfl | rfl | rfl | rfl | rfl | rfl <;> exact ⟨by kernel_rfl, by kernel_rfl⟩
  replace hix := Lib.hid hix
  replace hne := Lib.hid hne
  go_enter Try.func76, Try.ntmps76
  go_wp2_with fail
  have H2 := Lib.hid (show Own ε (w.alloc (.map #[] 0)) (pts w.heap.size (mpObj (gMap 0)) :: L) from HH.out.alloc _)
  clear HH
  generalize w.alloc (.map #[] 0) = w2 at *
  generalize w.heap.size = b at *
  clear hmm
  go_wp2_with fail
  refine (gainTable_c _).mono ?_
  rintro e w3 ⟨rfl, hbel⟩
  replace H2 := Lib.hid ((by first | exact Kp.same hbel | exact Kp.drew hbel | exact Kp.below hbel : Kp _ w3) _ _ (by first | exact H2.out | exact H2.out.drewN _ | exact (H2.out.alloc _).tail | exact ((H2.out.alloc _).drewN _).tail | exact ((H2.out.alloc _).alloc _).tail.tail))
  clear hbel
  go_wp2_with fail
  go_loopw [6] (fun i wr => ∃ k : Nat, k ≤ 7 ∧ i = .int .i64 k ∧ Own ε wr (pts b (mpObj (gMap k)) :: L)) (fun i _ => 7 - (intOf i).toNat)
  case atStart => exact ⟨0, by omega, rfl, H2.out⟩
  case round =>
    obtain ⟨k, hk, rfl, HR⟩ := hrel
    replace HR := Lib.hid HR
    by_cases hlt : k < 7
    · have i0 := hix.out k hlt
      obtain ⟨n0, n1⟩ := hne.out k hlt
      obtain ⟨⟨n, p, q⟩, hg⟩ : ∃ g, gTab.getD k (⟨#[]⟩, 0, 0) = g := ⟨_, rfl⟩
      rw [hg] at i0 n0 n1
      clear hg
      have e2 : gCell (n, p, q) = .agg #[.string n, .int .u64 p, .int .u64 q] := rfl
      rw [e2] at i0
      clear e2
      replace n0 := Lib.hid n0
      replace n1 := Lib.hid n1
      go_wp2_with (first | with_reducible refine stop_bs ?_ | with_reducible refine stop_bx ?_ | with_reducible refine stop_al ?_ | with_reducible refine stop_ms ?_ | with_reducible refine stop_app ?_ | with_reducible refine stop_copy ?_)
      refine Stop.go ?_
      go_step
      go_simp
      have H4_0 := Lib.hid (HR.out.alloc (.cells #[.string ⟨#[]⟩, .int .u64 0, .int .u64 0] 76))
      generalize wr.alloc (.cells #[.string ⟨#[]⟩, .int .u64 0, .int .u64 0] 76) = w4_0 at *
      generalize wr.heap.size = bx at *
      go_wp2_with (with_reducible refine stop_st ?_)
      refine Stop.go ?_
      refine wpList_store_own _ #[.string n, .int .u64 p, .int .u64 q] rfl rfl (H4_0.out) (by kernel_rfl) rfl (by simp [Value.oneCell']) ?_
      intro w4 H4
      replace H4 := Lib.hid H4
      clear H4_0
      clear HR
      (try clear k1); have k1 := H4.out.cells
      go_wp2_with (with_reducible refine stop_mu ?_)
      refine Stop.go ?_
      refine wpList_mapUpdate_new 9 51 .string (.string n) (.int .i64 k) Try.underlying82 Try.underlying9 (by simp [MapKept.IsKey]) rfl rfl rfl H4.out.r2 n0.out ?_
      intro w5 H5
      rw [← n1.out] at H5
      replace H5 := Lib.hid H5
      go_wp2
      go_roundw
      case rel => exact ⟨k + 1, by omega, by go_num, (Own.pm (H5.out) (by repeat (first | with_reducible exact Pm.refl _ | with_reducible refine Pm.here ?_ | with_reducible refine Pm.at2 ?_ | with_reducible refine Pm.at3 ?_ | with_reducible refine Pm.at4 ?_ | with_reducible refine Pm.at5 ?_ | with_reducible refine Pm.at6 ?_ | with_reducible refine Pm.at7 ?_ | with_reducible refine Pm.at8 ?_ | with_reducible refine Pm.skip ?_)))⟩
      case measure => simp [intOf]; omega
    · obtain rfl : k = 7 := by omega
      go_wp2
      go_ret
      exact ⟨b, rfl, HR.out⟩
set_option maxHeartbeats 3200000 in
theorem gainParse_c (n : ByteArray) : Calls Try.prog 50 #[.string n] w fun e w' => e = .returned (gRes (gParse n)) ∧ Below w.heap.size w w' := by
  have HH := Lib.hid (Own.init w)
  have hf := gFind n
  have hn := gainNames_c w w [old w] HH.out
  cases hp : gParse n with
  | none =>
    rw [hp] at hf
    replace hf := Lib.hid hf
    clear hp
    go_enter Try.func50, Try.ntmps50
    go_wp2_with fail
    refine (hn).mono ?_
    rintro e w2 ⟨b, rfl, H2⟩
    replace H2 := Lib.hid H2
    clear hn
    have hl := run_lookup_not (P := Try.prog) 82 9 51 .string (.string n) (.int .i64 0) Try.underlying82 Try.underlying9 (by simp [MapKept.IsKey]) H2.out hf.out (by kernel_rfl)
    go_wp2
    go_ret2
    exact ⟨rfl, H2.out.tail.old_below⟩
  | some k =>
    rw [hp] at hf
    replace hf := Lib.hid hf
    clear hp
    go_enter Try.func50, Try.ntmps50
    go_wp2_with fail
    refine (hn).mono ?_
    rintro e w2 ⟨b, rfl, H2⟩
    replace H2 := Lib.hid H2
    clear hn
    have hl := run_lookup_has (P := Try.prog) 82 9 51 .string (.string n) (.int .i64 k) k Try.underlying82 Try.underlying9 (by simp [MapKept.IsKey]) H2.out hf.out
    go_wp2
    go_ret2
    exact ⟨rfl, H2.out.tail.old_below⟩
end
end Go.Proofs.Ytnffoiocejfppaa
