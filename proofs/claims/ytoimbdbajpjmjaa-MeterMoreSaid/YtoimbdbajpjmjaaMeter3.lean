/- meter: the clauses, Check, Turns. -/
import Derived.Test.YtoimbdbajpjmjaaMeter2
namespace Go.Proofs.Ytoimbdbajpjmjaa
open Go.RowKit
/-- Two numbers one behind the other: does it fall, or rise by too much? -/
def mFall1 (p : Int × Int) : Bool := decide (p.2 < p.1 ∨ 1099511627776 < p.2 - p.1)
def pairC (p : Int × Int) : List Value := [.int .u64 p.1, .int .u64 p.2]
def MRow.pairs (a b : MRow) : List (Int × Int) := [(a.g, b.g), (a.c, b.c), (a.d, b.d), (a.s, b.s), (a.v, b.v)]
def MRow.falls (a b : MRow) : Bool := (a.pairs b).any mFall1
def mClause (room : Int) (a b : MRow) : Int :=
  if a.falls b = true then 1
  else if b.c < b.d + a.s ∨ room < b.c - (b.d + a.s) then 2
  else if a.d < b.d ∧ b.c - (b.d + a.s) < room then 3
  else if b.c < b.d + b.s ∨ b.g < b.s + b.v then 4
  else if 0 < b.queue ∧ (0 < b.tokens ∨ a.v < b.v) then 5
  else 0
/-- No number of a row is greater than this. -/
def MRow.few (B : Int) (x : MRow) : Prop := x.g ≤ B ∧ x.c ≤ B ∧ x.d ≤ B ∧ x.s ≤ B ∧ x.v ≤ B
theorem falls_false {a b : MRow} (h : a.falls b = false) : (a.g ≤ b.g ∧ b.g - a.g ≤ 1099511627776) ∧ (a.c ≤ b.c ∧ b.c - a.c ≤ 1099511627776) ∧ (a.d ≤ b.d ∧ b.d - a.d ≤ 1099511627776) ∧ (a.s ≤ b.s ∧ b.s - a.s ≤ 1099511627776) ∧ (a.v ≤ b.v ∧ b.v - a.v ≤ 1099511627776) := by
  unfold MRow.falls MRow.pairs at h
  simp only [List.any_cons, List.any_nil, Bool.or_false, Bool.or_eq_false_iff, mFall1, decide_eq_false_iff_not] at h
  omega
theorem MRow.few_next {B : Int} {a b : MRow} (h : a.few B) (hf : a.falls b = false) : b.few (B + 1099511627776) := by
  have := falls_false hf
  unfold MRow.few at *
  omega
def mCheck (room : Int) : MRow → Nat → List MRow → Int × Int
  | _, _, [] => (0, 0)
  | a, i, b :: l => if mClause room a b = 0 then mCheck room b (i + 1) l else ((i : Int), mClause room a b)
def mChecked (room : Int) (l : List MRow) : Int × Int := if 72057594037927936 < room ∨ 65536 < l.length then (0, 1) else mCheck room MRow.zero 0 l
def MRow.turn (a b : MRow) : MTurn := ⟨b.g - min a.g b.g, b.c - min a.c b.c, b.v - min a.v b.v⟩
def mTurns : MRow → List MRow → List MTurn
  | _, [] => []
  | a, b :: l => a.turn b :: mTurns b l
section
variable (ε w : World) (R : List Asn)
theorem mFalls1_c (p : Int × Int) (h1 : U p.1) (h2 : U p.2) : Calls Try.prog 101 #[.agg (pairC p).toArray] w fun e w' => e = .returned (.bool (mFall1 p)) ∧ Below w.heap.size w w' := by
  have HH := Lib.hid (Own.init w)
  obtain ⟨x, y⟩ := p
  simp only at h1 h2
  by_cases hlt : y < x
  · have hb : mFall1 (x, y) = true := decide_eq_true (.inl hlt)
    rw [hb]
    clear hb h1 h2
    go_enter Try.func101, Try.ntmps101
    go_wp2_with (with_reducible refine stop_bx ?_)
    refine Stop.go ?_
    refine wpList_box_own HH.out [_, _] rfl ?_
    intro b w1_ H9_
    replace HH := Lib.hid H9_
    clear H9_
    (try clear cc1_); (try clear cc2_); (try clear cc3_); (try clear cc4_); (try clear cc5_); (try clear cc6_); (try clear cc7_)
    have cc1_ := HH.out.cells
    go_wp2_with fail
    go_ret
    exact ⟨rfl, HH.out.tail.old_below⟩
  · have hw : IntKind.u64.wrap (y - x) = y - x := by unfold U at *; rw [IntKind.wrap_u64]; omega
    have hb : mFall1 (x, y) = (decide (y < x) || decide (1099511627776 < y - x)) := Bool.decide_or _ _
    rw [hb]
    clear hb h1 h2
    go_enter Try.func101, Try.ntmps101
    go_wp2_with (with_reducible refine stop_bx ?_)
    refine Stop.go ?_
    refine wpList_box_own HH.out [_, _] rfl ?_
    intro b w2_ H9_
    replace HH := Lib.hid H9_
    clear H9_
    (try clear cc1_); (try clear cc2_); (try clear cc3_); (try clear cc4_); (try clear cc5_); (try clear cc6_); (try clear cc7_)
    have cc1_ := HH.out.cells
    go_wp2_with fail
    go_ret
    exact ⟨rfl, HH.out.tail.old_below⟩
theorem fIdx_c (A : Option Addr) (n cap : Nat) (ts : List (Int × Int)) (hU : ∀ p ∈ ts, U p.1 ∧ U p.2) (hA : ∀ wx, Own ε wx R → itAt pairC 2 wx A n ts) (hn : n ≤ 9223372036854775807) (H : Own ε w R) :
    Calls Try.prog 103 #[.slice A n cap, .func (.func 101) #[] #[]] w fun e w' => (∃ r : Int, e = .returned (.int .i64 r) ∧ decide (0 ≤ r) = ts.any mFall1) ∧ Own ε w' R := by
  have hl := (hA w H).1
  have HH := Lib.hid H; clear H
  replace hA := Lib.hid hA
  replace hU := Lib.hid hU
  go_enter Try.func103, Try.ntmps103
  go_wp2_with fail
  go_loopw [5, 8] (fun _ i wr => ∃ k : Nat, k ≤ n ∧ i = .int .i64 k ∧ (ts.take k).any mFall1 = false ∧ Own ε wr R) (fun _ i _ => n - (intOf i).toNat)
  case atStart => exact ⟨0, Nat.zero_le _, rfl, rfl, HH.out⟩
  case round =>
    obtain ⟨k, hk, rfl, hT, HR⟩ := hrel
    replace HH := Lib.hid HR
    clear HR
    replace hT := Lib.hid hT
    by_cases hlt : k < n
    · obtain ⟨g, off, t, rfl, ht, hc⟩ := (hA.out _ HH.out).get hlt
      have c0 := hc 0 _ rfl
      have c1 := hc 1 _ rfl
      rw [Nat.add_zero] at c0
      clear hc
      have htU := hU.out t (List.mem_of_getElem? ht)
      have h3 := fun wx => mFalls1_c wx t htU.1 htU.2
      clear htU
      replace ht := Lib.hid ht
      cases hf : mFall1 t
      · rw [hf] at h3
        replace h3 := Lib.hid h3
        replace hf := Lib.hid hf
        go_wp2_with fail
        refine (h3.out _).mono ?_
        rintro e w3_ ⟨rfl, hbel⟩
        replace HH := Lib.hid ((by first | exact Kp.same hbel | exact Kp.drew hbel | exact Kp.below hbel : Kp _ w3_) _ _ (by first | exact HH.out | exact HH.out.drewN _ | exact (HH.out.alloc _).tail | exact ((HH.out.alloc _).drewN _).tail | exact ((HH.out.alloc _).alloc _).tail.tail))
        clear hbel
        clear c0 c1
        go_wp2_with fail
        go_roundw
        case rel =>
          refine ⟨k + 1, by omega, by go_num, ?_, HH.out⟩
          rw [List.take_add_one, ht.out, List.any_append, hT.out]
          simp [hf.out]
        case measure => simp [intOf]; omega
      · rw [hf] at h3
        replace h3 := Lib.hid h3
        have hany : ts.any mFall1 = true := List.any_eq_true.2 ⟨t, List.mem_of_getElem? ht.out, hf⟩
        replace hf := Lib.hid hf
        replace hany := Lib.hid hany
        go_wp2_with fail
        refine (h3.out _).mono ?_
        rintro e w4_ ⟨rfl, hbel⟩
        replace HH := Lib.hid ((by first | exact Kp.same hbel | exact Kp.drew hbel | exact Kp.below hbel : Kp _ w4_) _ _ (by first | exact HH.out | exact HH.out.drewN _ | exact (HH.out.alloc _).tail | exact ((HH.out.alloc _).drewN _).tail | exact ((HH.out.alloc _).alloc _).tail.tail))
        clear hbel
        clear c0 c1
        go_wp2_with fail
        go_ret
        exact ⟨⟨_, rfl, by rw [hany.out]; simp⟩, HH.out⟩
    · have hkn : k = n := by omega
      subst hkn
      have hall : ts.any mFall1 = false := by have := hT.out; rwa [List.take_of_length_le (by omega)] at this
      replace hall := Lib.hid hall
      go_wp2_with fail
      go_ret
      exact ⟨⟨_, rfl, by rw [hall.out]; rfl⟩, HH.out⟩
theorem fCon_c (A : Option Addr) (n cap : Nat) (ts : List (Int × Int)) (hU : ∀ p ∈ ts, U p.1 ∧ U p.2) (hA : ∀ wx, Own ε wx R → itAt pairC 2 wx A n ts) (hn : n ≤ 9223372036854775807) (H : Own ε w R) :
    Calls Try.prog 100 #[.slice A n cap, .func (.func 101) #[] #[]] w fun e w' => e = .returned (.bool (ts.any mFall1)) ∧ Own ε w' R := by
  go_enter Try.func100, Try.ntmps100
  go_wp2_with fail
  refine (fIdx_c ε _ R A n cap ts hU hA hn H).mono ?_
  rintro e w9 ⟨⟨r, rfl, hr⟩, H9⟩
  replace hr := Lib.hid hr
  clear H hA hU
  go_wp2_with fail
  go_ret
  exact ⟨congrArg (fun x => Ending.returned (Value.bool x)) hr.out, H9⟩
set_option maxHeartbeats 1600000 in
theorem mFalls_c (a b : MRow) (ha : a.Ok) (hb : b.Ok) : Calls Try.prog 87 #[.agg a.cells.toArray, .agg b.cells.toArray] w fun e w' => e = .returned (.bool (a.falls b)) ∧ Below w.heap.size w w' := by
  have HH := Lib.hid (Own.init w)
  have hU : ∀ p ∈ a.pairs b, U p.1 ∧ U p.2 := by
    obtain ⟨a1, a2, a3, a4, a5⟩ := ha
    obtain ⟨b1, b2, b3, b4, b5⟩ := hb
    intro p hp
    simp only [MRow.pairs, List.mem_cons, List.not_mem_nil, or_false] at hp
    rcases hp with h | h | h | h | h <;> (rw [h]; exact ⟨by assumption, by assumption⟩)
  obtain ⟨a1, a2, a3, a4, a5⟩ := a
  obtain ⟨b1, b2, b3, b4, b5⟩ := b
  clear ha hb
  replace hU := Lib.hid hU
  go_enter Try.func87, Try.ntmps87
  go_wp2_with (with_reducible refine stop_bx ?_)
  refine Stop.go ?_
  refine wpList_box_own HH.out [_, _, _, _, _] rfl ?_
  intro ba w5_ H9_
  replace HH := Lib.hid H9_
  clear H9_
  go_wp2_with (with_reducible refine stop_bx ?_)
  refine Stop.go ?_
  refine wpList_box_own HH.out [_, _, _, _, _] rfl ?_
  intro bb w6_ H9_
  replace HH := Lib.hid H9_
  clear H9_
  (try clear cc1_); (try clear cc2_); (try clear cc3_); (try clear cc4_); (try clear cc5_); (try clear cc6_); (try clear cc7_)
  have cc1_ := HH.out.cells
  have cc2_ := HH.out.r2.cells
  go_wp2_with (with_reducible refine stop_bs ?_)
  refine Stop.go ?_
  refine wpList_bsv_own HH.out [.int .u64 a1, .int .u64 b1, .int .u64 a2, .int .u64 b2, .int .u64 a3, .int .u64 b3, .int .u64 a4, .int .u64 b4, .int .u64 a5, .int .u64 b5] 2 16 [.int .u64 0, .int .u64 0] Try.underlying162 (by kernel_rfl) (by kernel_rfl) (by decide) (by decide) (by kernel_rfl) ?_
  intro g w7_ H9_
  replace HH := Lib.hid H9_
  clear H9_
  (try clear cc1_); (try clear cc2_); (try clear cc3_); (try clear cc4_); (try clear cc5_); (try clear cc6_); (try clear cc7_)
  go_wp2_with fail
  refine (fCon_c w _ _ _ 5 5 (MRow.pairs ⟨a1, a2, a3, a4, a5⟩ ⟨b1, b2, b3, b4, b5⟩) hU.out ?_ (by decide) HH.out).mono ?_
  case refine_1 =>
    intro wx Hx
    have hs := (Hx.slc_all (sz := 2) (n := 5) (by decide) rfl).slc_it (l := MRow.pairs ⟨a1, a2, a3, a4, a5⟩ ⟨b1, b2, b3, b4, b5⟩) (enc := pairC) (fun _ => rfl) (by decide)
    obtain ⟨_, _, _, e, _, _, h⟩ := hs
    cases e
    exact h
  case refine_2 =>
    rintro e w9 ⟨rfl, H9⟩
    replace HH := Lib.hid H9
    clear H9
    go_wp2_with fail
    go_ret
    exact ⟨rfl, HH.out.r4.old_below⟩
end
end Go.Proofs.Ytoimbdbajpjmjaa
