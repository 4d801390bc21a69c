/- meter: rows and turns, as plain data; the next row; Run. -/
import Derived.Test.YtoimbdbajpjmjaaItAt
import Derived.Test.YtoimbdbajpjmjaaReg
import Derived.Test.YtoimbdbajpjmjaaSpec
import Derived.Test.YtoimbdbajpjmjaaRdU
import Derived.Laws.Cover1
namespace Go.Proofs.Ytoimbdbajpjmjaa
open Go.RowKit
structure MTurn where
  g : Int
  c : Int
  v : Int
deriving DecidableEq
structure MRow where
  g : Int
  c : Int
  d : Int
  s : Int
  v : Int
deriving DecidableEq
def MTurn.cells (t : MTurn) : List Value := [.int .u64 t.g, .int .u64 t.c, .int .u64 t.v]
def MRow.cells (x : MRow) : List Value := [.int .u64 x.g, .int .u64 x.c, .int .u64 x.d, .int .u64 x.s, .int .u64 x.v]
def MRow.zero : MRow := ⟨0, 0, 0, 0, 0⟩
def MTurn.Ok (t : MTurn) : Prop := U t.g ∧ U t.c ∧ U t.v
def MRow.Ok (x : MRow) : Prop := U x.g ∧ U x.c ∧ U x.d ∧ U x.s ∧ U x.v
theorem MTurn.len (t : MTurn) : t.cells.length = 3 := rfl
theorem MRow.len (t : MRow) : t.cells.length = 5 := rfl
theorem MTurn.one (t : MTurn) : ∀ u ∈ t.cells, u.oneCell' = true := by
  intro u h
  simp only [MTurn.cells, List.mem_cons, List.not_mem_nil, or_false] at h
  rcases h with h | h | h <;> (rw [h]; rfl)
theorem MRow.one (t : MRow) : ∀ u ∈ t.cells, u.oneCell' = true := by
  intro u h
  simp only [MRow.cells, List.mem_cons, List.not_mem_nil, or_false] at h
  rcases h with h | h | h | h | h <;> (rw [h]; rfl)
/-- The most of a turn. -/
abbrev mMost : Int := 1099511627776
def MTurn.few (t : MTurn) : Prop := t.g ≤ 1099511627776 ∧ t.c ≤ 1099511627776 ∧ t.v ≤ 1099511627776
instance (t : MTurn) : Decidable t.few := inferInstanceAs (Decidable (_ ∧ _ ∧ _))
/-- What is in the queue, and the tokens that are there. -/
def MRow.queue (x : MRow) : Int := x.c - x.d - x.s
def MRow.tokens (x : MRow) : Int := x.g - x.s - x.v
def MRow.next (room : Int) (x : MRow) (t : MTurn) : MRow :=
  let inn := min t.c (room - x.queue)
  let g := x.g + t.g
  let c := x.c + t.c
  let d := x.d + (t.c - inn)
  let s := x.s + min (c - d - x.s) (g - x.s - x.v)
  ⟨g, c, d, s, if c - d - s = 0 then x.v + min t.v (g - s - x.v) else x.v⟩
/-- Rows that turns come to, none of which is great. -/
structure MRow.In (room B : Int) (x : MRow) : Prop where
  g0 : 0 ≤ x.g
  gB : x.g ≤ B
  cB : x.c ≤ B
  d0 : 0 ≤ x.d
  s0 : 0 ≤ x.s
  v0 : 0 ≤ x.v
  q0 : 0 ≤ x.queue
  qr : x.queue ≤ room
  t0 : 0 ≤ x.tokens
theorem MRow.in_zero {room : Int} (h : 0 ≤ room) : MRow.In room 0 MRow.zero := ⟨by decide, by decide, by decide, by decide, by decide, by decide, by decide, h, by decide⟩
theorem MRow.in_next {room B : Int} {x : MRow} {t : MTurn} (h : x.In room B) (ht : t.few) (h0 : t.Ok) : (x.next room t).In room (B + 1099511627776) := by
  obtain ⟨g0, gB, cB, d0, s0, v0, q0, qr, t0⟩ := h
  obtain ⟨f1, f2, f3⟩ := ht
  obtain ⟨⟨u1, _⟩, ⟨u2, _⟩, ⟨u3, _⟩⟩ := h0
  unfold MRow.queue MRow.tokens at *
  refine ⟨?_, ?_, ?_, ?_, ?_, ?_, ?_, ?_, ?_⟩ <;> simp only [MRow.next, MRow.queue, MRow.tokens] <;> (try split) <;> omega
theorem MRow.In.mono {room B B' : Int} {x : MRow} (h : x.In room B) (hb : B ≤ B') : x.In room B' := ⟨h.g0, Int.le_trans h.gB hb, Int.le_trans h.cB hb, h.d0, h.s0, h.v0, h.q0, h.qr, h.t0⟩
theorem MRow.In.ok {room B : Int} {x : MRow} (h : x.In room B) (hb : B ≤ 18446744073709551615) : x.Ok := by
  obtain ⟨g0, gB, cB, d0, s0, v0, q0, qr, t0⟩ := h
  unfold MRow.queue MRow.tokens at *
  unfold MRow.Ok U
  omega
/-- The curves of turns. -/
def mRows (room : Int) : MRow → List MTurn → List MRow
  | _, [] => []
  | x, t :: ts => x.next room t :: mRows room (x.next room t) ts
def mBad (room : Int) (ts : List MTurn) : Prop := 72057594037927936 < room ∨ 65536 < ts.length ∨ ¬ ∀ t ∈ ts, t.few
instance (room : Int) (ts : List MTurn) : Decidable (mBad room ts) := inferInstanceAs (Decidable (_ ∨ _ ∨ _))
def mRun (room : Int) (ts : List MTurn) : List MRow × Int := if mBad room ts then ([], 1) else (mRows room MRow.zero ts, 0)
theorem mRows_snoc (room : Int) (x : MRow) (l : List MTurn) (t : MTurn) : mRows room x (l ++ [t]) = mRows room x l ++ [(l.foldl (MRow.next room) x).next room t] := by
  induction l generalizing x with
  | nil => rfl
  | cons a l ih => simp only [List.cons_append, mRows, ih, List.foldl_cons]
theorem mRows_len (room : Int) (x : MRow) (l : List MTurn) : (mRows room x l).length = l.length := by
  induction l generalizing x with
  | nil => rfl
  | cons a l ih => simp [mRows, ih]
theorem mFold_in {room : Int} (h0 : 0 ≤ room) {l : List MTurn} (hf : ∀ t ∈ l, t.few ∧ t.Ok) : (l.foldl (MRow.next room) MRow.zero).In room (l.length * 1099511627776) := by
  have key : ∀ (l : List MTurn) (x : MRow) (B : Int), x.In room B → (∀ t ∈ l, t.few ∧ t.Ok) → (l.foldl (MRow.next room) x).In room (B + l.length * 1099511627776) := by
    intro l
    induction l with
    | nil => intro x B h _; exact h.mono (by simp)
    | cons a l ih =>
      intro x B h hf
      have ha := hf a (by simp)
      refine (ih _ _ (MRow.in_next h ha.1 ha.2) (fun t ht => hf t (by simp [ht]))).mono ?_
      simp only [List.length_cons]
      omega
  have := key l MRow.zero 0 (MRow.in_zero h0) hf
  exact this.mono (by omega)
section
variable (ε w : World) (R : List Asn)
theorem mQueue_c (x : MRow) (h1 : 0 ≤ x.queue) (h2 : x.queue ≤ 18446744073709551615) (h3 : U (x.c - x.d)) : Calls Try.prog 85 #[.agg x.cells.toArray] w fun e w' => e = .returned (.int .u64 x.queue) ∧ Below w.heap.size w w' := by
  have HH := Lib.hid (Own.init w)
  obtain ⟨xg, xc, xd, xs, xv⟩ := x
  unfold MRow.queue at *
  simp only at h1 h2 h3 ⊢
  have hw1 : IntKind.u64.wrap (xc - xd) = xc - xd := by unfold U at h3; rw [IntKind.wrap_u64]; omega
  have hw2 : IntKind.u64.wrap (xc - xd - xs) = xc - xd - xs := by rw [IntKind.wrap_u64]; omega
  clear h1 h2 h3
  go_enter Try.func85, Try.ntmps85
  go_wp2_with (with_reducible refine stop_bx ?_)
  refine Stop.go ?_
  refine wpList_box_own HH.out [_, _, _, _, _] rfl ?_
  intro b w1_ H9_
  replace HH := Lib.hid H9_
  clear H9_
  have k := HH.out.cells
  go_wp2_with fail
  go_ret
  exact ⟨rfl, HH.out.tail.old_below⟩
theorem mTokens_c (x : MRow) (h1 : 0 ≤ x.tokens) (h2 : x.tokens ≤ 18446744073709551615) (h3 : U (x.g - x.s)) : Calls Try.prog 86 #[.agg x.cells.toArray] w fun e w' => e = .returned (.int .u64 x.tokens) ∧ Below w.heap.size w w' := by
  have HH := Lib.hid (Own.init w)
  obtain ⟨xg, xc, xd, xs, xv⟩ := x
  unfold MRow.tokens at *
  simp only at h1 h2 h3 ⊢
  have hw1 : IntKind.u64.wrap (xg - xs) = xg - xs := by unfold U at h3; rw [IntKind.wrap_u64]; omega
  have hw2 : IntKind.u64.wrap (xg - xs - xv) = xg - xs - xv := by rw [IntKind.wrap_u64]; omega
  clear h1 h2 h3
  go_enter Try.func86, Try.ntmps86
  go_wp2_with (with_reducible refine stop_bx ?_)
  refine Stop.go ?_
  refine wpList_box_own HH.out [_, _, _, _, _] rfl ?_
  intro b w2_ H9_
  replace HH := Lib.hid H9_
  clear H9_
  have k := HH.out.cells
  go_wp2_with fail
  go_ret
  exact ⟨rfl, HH.out.tail.old_below⟩
theorem min_ite (a b : Int) : (if b < a then b else a) = min a b := by split <;> omega
set_option maxHeartbeats 3200000 in
theorem mNext_c (room B : Int) (x : MRow) (t : MTurn) (h : x.In room B) (hB : B ≤ 1152921504606846976) (hr : room ≤ 72057594037927936) (hf : t.few) (ht : t.Ok) :
    Calls Try.prog 61 #[.agg x.cells.toArray, .int .u64 room, .agg t.cells.toArray] w fun e w' => e = .returned (.agg (x.next room t).cells.toArray) ∧ Below w.heap.size w w' := by
  have HH := Lib.hid (Own.init w)
  obtain ⟨xg, xc, xd, xs, xv⟩ := x
  obtain ⟨tg, tc, tv⟩ := t
  obtain ⟨g0, gB, cB, d0, s0, v0, q0, qr, t0⟩ := h
  obtain ⟨f1, f2, f3⟩ := hf
  obtain ⟨⟨u1, _⟩, ⟨u2, _⟩, ⟨u3, _⟩⟩ := ht
  simp only [MRow.queue, MRow.tokens] at g0 gB cB d0 s0 v0 q0 qr t0 f1 f2 f3 u1 u2 u3
  obtain ⟨inn, hinn⟩ : ∃ inn, min tc (room - (xc - xd - xs)) = inn := ⟨_, rfl⟩
  have hi0 : 0 ≤ inn := by omega
  have hi1 : inn ≤ tc := by omega
  have hi2 : inn ≤ room - (xc - xd - xs) := by omega
  obtain ⟨g', hg'⟩ : ∃ g', xg + tg = g' := ⟨_, rfl⟩
  obtain ⟨c', hc'⟩ : ∃ c', xc + tc = c' := ⟨_, rfl⟩
  obtain ⟨d', hd'⟩ : ∃ d', xd + (tc - inn) = d' := ⟨_, rfl⟩
  obtain ⟨s', hs'⟩ : ∃ s', xs + min (c' - d' - xs) (g' - xs - xv) = s' := ⟨_, rfl⟩
  have hnext : MRow.next room ⟨xg, xc, xd, xs, xv⟩ ⟨tg, tc, tv⟩ = ⟨g', c', d', s', if c' - d' - s' = 0 then xv + min tv (g' - s' - xv) else xv⟩ := by
    simp only [MRow.next, MRow.queue, hinn, hg', hc', hd', hs']
  rw [hnext]
  clear hnext
  obtain ⟨v', hv'⟩ : ∃ v', (if c' - d' - s' = 0 then xv + min tv (g' - s' - xv) else xv) = v' := ⟨_, rfl⟩
  rw [hv']
  replace hv' := Lib.hid hv'
  have cQ := mQueue_c w ⟨xg, xc, xd, xs, xv⟩ q0 (by show xc - xd - xs ≤ _; omega) (by show U (xc - xd); unfold U; omega)
  have hQ1 : ∀ wx, Calls Try.prog 85 #[.agg #[.int .u64 xg, .int .u64 xc, .int .u64 xd, .int .u64 xs, .int .u64 xv]] wx fun e w' => e = .returned (.int .u64 (xc - xd - xs)) ∧ Below wx.heap.size wx w' := fun wx =>
    mQueue_c wx ⟨xg, xc, xd, xs, xv⟩ q0 (by show xc - xd - xs ≤ _; omega) (by show U (xc - xd); unfold U; omega)
  have hQ2 : ∀ wx, Calls Try.prog 85 #[.agg #[.int .u64 g', .int .u64 c', .int .u64 d', .int .u64 xs, .int .u64 xv]] wx fun e w' => e = .returned (.int .u64 (c' - d' - xs)) ∧ Below wx.heap.size wx w' := fun wx =>
    mQueue_c wx ⟨g', c', d', xs, xv⟩ (by show 0 ≤ c' - d' - xs; omega) (by show c' - d' - xs ≤ _; omega) (by show U (c' - d'); unfold U; omega)
  have hT2 : ∀ wx, Calls Try.prog 86 #[.agg #[.int .u64 g', .int .u64 c', .int .u64 d', .int .u64 xs, .int .u64 xv]] wx fun e w' => e = .returned (.int .u64 (g' - xs - xv)) ∧ Below wx.heap.size wx w' := fun wx =>
    mTokens_c wx ⟨g', c', d', xs, xv⟩ (by show 0 ≤ g' - xs - xv; omega) (by show g' - xs - xv ≤ _; omega) (by show U (g' - xs); unfold U; omega)
  have hQ3 : ∀ wx, Calls Try.prog 85 #[.agg #[.int .u64 g', .int .u64 c', .int .u64 d', .int .u64 s', .int .u64 xv]] wx fun e w' => e = .returned (.int .u64 (c' - d' - s')) ∧ Below wx.heap.size wx w' := fun wx =>
    mQueue_c wx ⟨g', c', d', s', xv⟩ (by show 0 ≤ c' - d' - s'; omega) (by show c' - d' - s' ≤ _; omega) (by show U (c' - d'); unfold U; omega)
  have hT3 : ∀ wx, Calls Try.prog 86 #[.agg #[.int .u64 g', .int .u64 c', .int .u64 d', .int .u64 s', .int .u64 xv]] wx fun e w' => e = .returned (.int .u64 (g' - s' - xv)) ∧ Below wx.heap.size wx w' := fun wx =>
    mTokens_c wx ⟨g', c', d', s', xv⟩ (by show 0 ≤ g' - s' - xv; omega) (by show g' - s' - xv ≤ _; omega) (by show U (g' - s'); unfold U; omega)
  clear cQ
  have hw1 : IntKind.u64.wrap (room - (xc - xd - xs)) = room - (xc - xd - xs) := by rw [IntKind.wrap_u64]; omega
  have hw2 : IntKind.u64.wrap (xg + tg) = g' := by rw [IntKind.wrap_u64]; omega
  have hw3 : IntKind.u64.wrap (xc + tc) = c' := by rw [IntKind.wrap_u64]; omega
  have hw4 : IntKind.u64.wrap (tc - inn) = tc - inn := by rw [IntKind.wrap_u64]; omega
  have hw5 : IntKind.u64.wrap (xd + (tc - inn)) = d' := by rw [IntKind.wrap_u64]; omega
  have hw6 : IntKind.u64.wrap (xs + min (c' - d' - xs) (g' - xs - xv)) = s' := by rw [IntKind.wrap_u64]; omega
  have hw7 : IntKind.u64.wrap (xv + min tv (g' - s' - xv)) = xv + min tv (g' - s' - xv) := by rw [IntKind.wrap_u64]; omega
  have im := min_ite
  clear g0 gB cB d0 s0 v0 q0 qr t0 f1 f2 f3 u1 u2 u3 hi0 hi1 hi2 hB hr hg' hc' hd' hs'
  replace hQ1 := Lib.hid hQ1
  replace hQ2 := Lib.hid hQ2
  replace hT2 := Lib.hid hT2
  replace hQ3 := Lib.hid hQ3
  replace hT3 := Lib.hid hT3
  go_enter Try.func61, Try.ntmps61
  go_wp2_with (with_reducible refine stop_bx ?_)
  refine Stop.go ?_
  refine wpList_box_own HH.out [_, _, _, _, _] rfl ?_
  intro r3 w3_ H9_
  replace HH := Lib.hid H9_
  clear H9_
  go_wp2_with (with_reducible refine stop_bx ?_)
  refine Stop.go ?_
  refine wpList_box_own HH.out [_, _, _] rfl ?_
  intro r5 w4_ H9_
  replace HH := Lib.hid H9_
  clear H9_
  go_wp2_with (with_reducible refine stop_al ?_)
  refine Stop.go ?_
  refine wpList_alloc_own HH.out [.int .u64 0, .int .u64 0, .int .u64 0, .int .u64 0, .int .u64 0] (by kernel_rfl) ?_
  intro r6 w5_ H9_
  replace HH := Lib.hid H9_
  clear H9_
  go_wp2_with fail
  refine wp_region_reg none HH.out (by kernel_rfl) ?_
  intro wm H9_
  replace HH := Lib.hid H9_
  clear H9_
  refine reg_p (i := 0) rfl (by kernel_rfl) (fun _ _ _ _ h => h) HH.out (fun K hK => ?_)
  go_simp
  first | (refine hK _ ?_; clear hK K) | (apply Exists.intro; refine ⟨?_, hK _ ?_⟩; (focus (intro wx; first | (go_simp; first | rfl) | rfl)); clear hK K)
  refine mixk_q (i := 1) rfl (by kernel_rfl) (fun _ _ _ _ h => h) HH.out (fun K hK => ?_)
  go_simp
  first | (refine hK _ ?_; clear hK K) | (apply Exists.intro; refine ⟨?_, hK _ ?_⟩; (focus (intro wx hx; have x2_ := hx.r2.cells; have x3_ := hx.r3.cells; first | (first | (go_at_call 85; refine (hQ1.out wx).mono ?_; rintro e wy ⟨rfl, hbel⟩; exact ⟨rfl, (by first | exact Kp.same hbel | exact Kp.drew hbel | exact Kp.below hbel : Kp wx wy)⟩)) | (go_simp; first | rfl | exact ⟨rfl, rfl⟩) | rfl | exact ⟨rfl, rfl⟩)); clear hK K)
  refine reg_p (i := 2) rfl (by kernel_rfl) (fun _ _ _ _ h => h) HH.out (fun K hK => ?_)
  go_simp
  first | (refine hK _ ?_; clear hK K) | (apply Exists.intro; refine ⟨?_, hK _ ?_⟩; (focus (intro wx; first | (go_simp; first | rfl) | rfl)); clear hK K)
  refine mixk_q (i := 3) rfl (by kernel_rfl) (fun _ _ _ _ h => h) HH.out (fun K hK => ?_)
  go_simp
  first | (refine hK _ ?_; clear hK K) | (apply Exists.intro; refine ⟨?_, hK _ ?_⟩; (focus (intro wx hx; have x2_ := hx.r2.cells; have x3_ := hx.r3.cells; first | (first | (go_at_call 85; refine (hQ1.out wx).mono ?_; rintro e wy ⟨rfl, hbel⟩; exact ⟨rfl, (by first | exact Kp.same hbel | exact Kp.drew hbel | exact Kp.below hbel : Kp wx wy)⟩)) | (go_simp; first | rfl | exact ⟨rfl, rfl⟩) | rfl | exact ⟨rfl, rfl⟩)); clear hK K)
  refine mixk_q (i := 4) rfl (by kernel_rfl) (fun _ _ _ _ h => h) HH.out (fun K hK => ?_)
  go_simp
  first | (refine hK _ ?_; clear hK K) | (apply Exists.intro; refine ⟨?_, hK _ ?_⟩; (focus (intro wx hx; have x2_ := hx.r2.cells; have x3_ := hx.r3.cells; first | (first | (go_at_call 85; refine (hQ1.out wx).mono ?_; rintro e wy ⟨rfl, hbel⟩; exact ⟨rfl, (by first | exact Kp.same hbel | exact Kp.drew hbel | exact Kp.below hbel : Kp wx wy)⟩)) | (go_simp; first | rfl | exact ⟨rfl, rfl⟩) | rfl | exact ⟨rfl, rfl⟩)); clear hK K)
  refine reg_p (i := 5) rfl (by kernel_rfl) (fun _ _ _ _ h => h) HH.out (fun K hK => ?_)
  go_simp
  first | (refine hK _ ?_; clear hK K) | (apply Exists.intro; refine ⟨?_, hK _ ?_⟩; (focus (intro wx; first | (go_simp; first | rfl) | rfl)); clear hK K)
  refine reg_p (i := 6) rfl (by kernel_rfl) (fun _ _ _ _ h => h) HH.out (fun K hK => ?_)
  go_simp
  first | (refine hK _ ?_; clear hK K) | (apply Exists.intro; refine ⟨?_, hK _ ?_⟩; (focus (intro wx; first | (go_simp; first | rfl) | rfl)); clear hK K)
  refine reg_p (i := 7) rfl (by kernel_rfl) (fun _ _ _ _ h => h) HH.out (fun K hK => ?_)
  go_simp
  first | (refine hK _ ?_; clear hK K) | (apply Exists.intro; refine ⟨?_, hK _ ?_⟩; (focus (intro wx; first | (go_simp; first | rfl) | rfl)); clear hK K)
  refine mixk_done (by kernel_rfl) (fun w6_ hk => ?_) _
  replace HH := Lib.hid (hk _ _ HH.out)
  clear hk
  clear hw1 hinn
  (try clear cc1_); (try clear cc2_); (try clear cc3_); (try clear cc4_); (try clear cc5_); (try clear cc6_); (try clear cc7_)
  have cc2_ := HH.out.r2.cells
  have cc3_ := HH.out.r3.cells
  go_wp2_with (with_reducible refine stop_st ?_)
  refine Stop.go ?_
  refine wpList_store1_own (v := .int .u64 g') (k := 0) rfl rfl HH.out.r3 (by kernel_rfl) (by simp) (by first | rfl | assumption) ?_
  intro w7_ H9_
  replace HH := Lib.hid H9_
  clear H9_
  simp only [List.setIfInBounds_toArray, List.set_cons_zero] at HH
  clear hw2
  (try clear cc1_); (try clear cc2_); (try clear cc3_); (try clear cc4_); (try clear cc5_); (try clear cc6_); (try clear cc7_)
  have cc1_ := HH.out.cells
  have cc3_ := HH.out.r3.cells
  go_wp2_with (with_reducible refine stop_st ?_)
  refine Stop.go ?_
  refine wpList_store1_own (v := .int .u64 c') (k := 1) rfl rfl HH.out (by kernel_rfl) (by simp) (by first | rfl | assumption) ?_
  intro w8_ H9_
  replace HH := Lib.hid H9_
  clear H9_
  simp only [List.setIfInBounds_toArray, List.set_cons_succ, List.set_cons_zero] at HH
  clear hw3
  (try clear cc1_); (try clear cc2_); (try clear cc3_); (try clear cc4_); (try clear cc5_); (try clear cc6_); (try clear cc7_)
  have cc1_ := HH.out.cells
  have cc3_ := HH.out.r3.cells
  go_wp2_with (with_reducible refine stop_st ?_)
  refine Stop.go ?_
  refine wpList_store1_own (v := .int .u64 d') (k := 2) rfl rfl HH.out (by kernel_rfl) (by simp) (by first | rfl | assumption) ?_
  intro w9_ H9_
  replace HH := Lib.hid H9_
  clear H9_
  simp only [List.setIfInBounds_toArray, List.set_cons_succ, List.set_cons_zero] at HH
  clear hw4 hw5
  (try clear cc1_); (try clear cc2_); (try clear cc3_); (try clear cc4_); (try clear cc5_); (try clear cc6_); (try clear cc7_)
  go_wp2_with fail
  refine wp_region_reg (some 9) HH.out (by kernel_rfl) ?_
  intro wm H9_
  replace HH := Lib.hid H9_
  clear H9_
  refine reg_p (i := 0) rfl (by kernel_rfl) (fun _ _ _ _ h => h) HH.out (fun K hK => ?_)
  go_simp
  first | (refine hK _ ?_; clear hK K) | (apply Exists.intro; refine ⟨?_, hK _ ?_⟩; (focus (intro wx; first | (go_simp; first | rfl) | rfl)); clear hK K)
  refine mixk_q (i := 1) rfl (by kernel_rfl) (fun _ _ _ _ h => h) HH.out (fun K hK => ?_)
  go_simp
  first | (refine hK _ ?_; clear hK K) | (apply Exists.intro; refine ⟨?_, hK _ ?_⟩; (focus (intro wx hx; have x1_ := hx.cells; first | (first | (go_at_call 85; refine (hQ2.out wx).mono ?_; rintro e wy ⟨rfl, hbel⟩; exact ⟨rfl, (by first | exact Kp.same hbel | exact Kp.drew hbel | exact Kp.below hbel : Kp wx wy)⟩) | (go_at_call 86; refine (hT2.out wx).mono ?_; rintro e wy ⟨rfl, hbel⟩; exact ⟨rfl, (by first | exact Kp.same hbel | exact Kp.drew hbel | exact Kp.below hbel : Kp wx wy)⟩)) | (go_simp; first | rfl | exact ⟨rfl, rfl⟩) | rfl | exact ⟨rfl, rfl⟩)); clear hK K)
  refine mixk_q (i := 2) rfl (by kernel_rfl) (fun _ _ _ _ h => h) HH.out (fun K hK => ?_)
  go_simp
  first | (refine hK _ ?_; clear hK K) | (apply Exists.intro; refine ⟨?_, hK _ ?_⟩; (focus (intro wx hx; have x1_ := hx.cells; first | (first | (go_at_call 85; refine (hQ2.out wx).mono ?_; rintro e wy ⟨rfl, hbel⟩; exact ⟨rfl, (by first | exact Kp.same hbel | exact Kp.drew hbel | exact Kp.below hbel : Kp wx wy)⟩) | (go_at_call 86; refine (hT2.out wx).mono ?_; rintro e wy ⟨rfl, hbel⟩; exact ⟨rfl, (by first | exact Kp.same hbel | exact Kp.drew hbel | exact Kp.below hbel : Kp wx wy)⟩)) | (go_simp; first | rfl | exact ⟨rfl, rfl⟩) | rfl | exact ⟨rfl, rfl⟩)); clear hK K)
  refine mixk_q (i := 3) rfl (by kernel_rfl) (fun _ _ _ _ h => h) HH.out (fun K hK => ?_)
  go_simp
  first | (refine hK _ ?_; clear hK K) | (apply Exists.intro; refine ⟨?_, hK _ ?_⟩; (focus (intro wx hx; have x1_ := hx.cells; first | (first | (go_at_call 85; refine (hQ2.out wx).mono ?_; rintro e wy ⟨rfl, hbel⟩; exact ⟨rfl, (by first | exact Kp.same hbel | exact Kp.drew hbel | exact Kp.below hbel : Kp wx wy)⟩) | (go_at_call 86; refine (hT2.out wx).mono ?_; rintro e wy ⟨rfl, hbel⟩; exact ⟨rfl, (by first | exact Kp.same hbel | exact Kp.drew hbel | exact Kp.below hbel : Kp wx wy)⟩)) | (go_simp; first | rfl | exact ⟨rfl, rfl⟩) | rfl | exact ⟨rfl, rfl⟩)); clear hK K)
  refine mixk_q (i := 4) rfl (by kernel_rfl) (fun _ _ _ _ h => h) HH.out (fun K hK => ?_)
  go_simp
  first | (refine hK _ ?_; clear hK K) | (apply Exists.intro; refine ⟨?_, hK _ ?_⟩; (focus (intro wx hx; have x1_ := hx.cells; first | (first | (go_at_call 85; refine (hQ2.out wx).mono ?_; rintro e wy ⟨rfl, hbel⟩; exact ⟨rfl, (by first | exact Kp.same hbel | exact Kp.drew hbel | exact Kp.below hbel : Kp wx wy)⟩) | (go_at_call 86; refine (hT2.out wx).mono ?_; rintro e wy ⟨rfl, hbel⟩; exact ⟨rfl, (by first | exact Kp.same hbel | exact Kp.drew hbel | exact Kp.below hbel : Kp wx wy)⟩)) | (go_simp; first | rfl | exact ⟨rfl, rfl⟩) | rfl | exact ⟨rfl, rfl⟩)); clear hK K)
  refine mixk_q (i := 5) rfl (by kernel_rfl) (fun _ _ _ _ h => h) HH.out (fun K hK => ?_)
  go_simp
  first | (refine hK _ ?_; clear hK K) | (apply Exists.intro; refine ⟨?_, hK _ ?_⟩; (focus (intro wx hx; have x1_ := hx.cells; first | (first | (go_at_call 85; refine (hQ2.out wx).mono ?_; rintro e wy ⟨rfl, hbel⟩; exact ⟨rfl, (by first | exact Kp.same hbel | exact Kp.drew hbel | exact Kp.below hbel : Kp wx wy)⟩) | (go_at_call 86; refine (hT2.out wx).mono ?_; rintro e wy ⟨rfl, hbel⟩; exact ⟨rfl, (by first | exact Kp.same hbel | exact Kp.drew hbel | exact Kp.below hbel : Kp wx wy)⟩)) | (go_simp; first | rfl | exact ⟨rfl, rfl⟩) | rfl | exact ⟨rfl, rfl⟩)); clear hK K)
  refine reg_p (i := 6) rfl (by kernel_rfl) (fun _ _ _ _ h => h) HH.out (fun K hK => ?_)
  go_simp
  first | (refine hK _ ?_; clear hK K) | (apply Exists.intro; refine ⟨?_, hK _ ?_⟩; (focus (intro wx; first | (go_simp; first | rfl) | rfl)); clear hK K)
  refine reg_p (i := 7) rfl (by kernel_rfl) (fun _ _ _ _ h => h) HH.out (fun K hK => ?_)
  go_simp
  first | (refine hK _ ?_; clear hK K) | (apply Exists.intro; refine ⟨?_, hK _ ?_⟩; (focus (intro wx; first | (go_simp; first | rfl) | rfl)); clear hK K)
  refine reg_p (i := 8) rfl (by kernel_rfl) (fun _ _ _ _ h => h) HH.out (fun K hK => ?_)
  go_simp
  first | (refine hK _ ?_; clear hK K) | (apply Exists.intro; refine ⟨?_, hK _ ?_⟩; (focus (intro wx; first | (go_simp; first | rfl) | rfl)); clear hK K)
  refine reg_l none (i := 9) rfl (by kernel_rfl) (fun wn hk K hK => ?_)
  replace HH := Lib.hid (hk _ _ HH.out)
  clear hk
  have hx := HH.out
  have x1_ := hx.cells
  go_simp
  replace HH := Lib.hid (HH.out.set 3 (.int .u64 s'))
  simp only [List.setIfInBounds_toArray, List.set_cons_succ, List.set_cons_zero] at HH
  generalize wn.setCell ⟨r3, 3, none⟩ (.int .u64 s') = wm at *
  clear hx x1_
  refine hK _ _ _ HH.out (.inl (by kernel_rfl)) ?_
  clear hK K
  refine mixk_done (by kernel_rfl) (fun w10_ hk => ?_) _
  replace HH := Lib.hid (hk _ _ HH.out)
  clear hk
  clear hw6
  (try clear cc1_); (try clear cc2_); (try clear cc3_); (try clear cc4_); (try clear cc5_); (try clear cc6_); (try clear cc7_)
  have cc1_ := HH.out.cells
  go_wp2_with fail
  refine (hQ3.out _).mono ?_
  rintro e w11_ ⟨rfl, hbel⟩
  replace HH := Lib.hid ((by first | exact Kp.same hbel | exact Kp.drew hbel | exact Kp.below hbel : Kp _ w11_) _ _ (by first | exact HH.out | exact HH.out.drewN _ | exact (HH.out.alloc _).tail | exact ((HH.out.alloc _).drewN _).tail | exact ((HH.out.alloc _).alloc _).tail.tail))
  clear hbel
  by_cases hz : c' - d' - s' = 0
  · have e : xv + min tv (g' - s' - xv) = v' := by rw [← hv'.out, if_pos hz]
    replace hw7 := hw7.trans e
    replace e := Lib.hid e
    have hzb : (c' - d' - s' == 0) = true := by simpa using hz
    (try clear cc1_); (try clear cc2_); (try clear cc3_); (try clear cc4_); (try clear cc5_); (try clear cc6_); (try clear cc7_)
    go_wp2_with fail
    go_wp2_with fail
    refine wp_region_reg (some 9) HH.out (by kernel_rfl) ?_
    intro wm H9_
    replace HH := Lib.hid H9_
    clear H9_
    refine reg_p (i := 0) rfl (by kernel_rfl) (fun _ _ _ _ h => h) HH.out (fun K hK => ?_)
    go_simp
    first | (refine hK _ ?_; clear hK K) | (apply Exists.intro; refine ⟨?_, hK _ ?_⟩; (focus (intro wx; first | (go_simp; first | rfl) | rfl)); clear hK K)
    refine mixk_q (i := 1) rfl (by kernel_rfl) (fun _ _ _ _ h => h) HH.out (fun K hK => ?_)
    go_simp
    first | (refine hK _ ?_; clear hK K) | (apply Exists.intro; refine ⟨?_, hK _ ?_⟩; (focus (intro wx hx; have x1_ := hx.cells; have x3_ := hx.r3.cells; first | (first | (go_at_call 86; refine (hT3.out wx).mono ?_; rintro e wy ⟨rfl, hbel⟩; exact ⟨rfl, (by first | exact Kp.same hbel | exact Kp.drew hbel | exact Kp.below hbel : Kp wx wy)⟩)) | (go_simp; first | rfl | exact ⟨rfl, rfl⟩) | rfl | exact ⟨rfl, rfl⟩)); clear hK K)
    refine reg_p (i := 2) rfl (by kernel_rfl) (fun _ _ _ _ h => h) HH.out (fun K hK => ?_)
    go_simp
    first | (refine hK _ ?_; clear hK K) | (apply Exists.intro; refine ⟨?_, hK _ ?_⟩; (focus (intro wx; first | (go_simp; first | rfl) | rfl)); clear hK K)
    refine mixk_q (i := 3) rfl (by kernel_rfl) (fun _ _ _ _ h => h) HH.out (fun K hK => ?_)
    go_simp
    first | (refine hK _ ?_; clear hK K) | (apply Exists.intro; refine ⟨?_, hK _ ?_⟩; (focus (intro wx hx; have x1_ := hx.cells; have x3_ := hx.r3.cells; first | (first | (go_at_call 86; refine (hT3.out wx).mono ?_; rintro e wy ⟨rfl, hbel⟩; exact ⟨rfl, (by first | exact Kp.same hbel | exact Kp.drew hbel | exact Kp.below hbel : Kp wx wy)⟩)) | (go_simp; first | rfl | exact ⟨rfl, rfl⟩) | rfl | exact ⟨rfl, rfl⟩)); clear hK K)
    refine mixk_q (i := 4) rfl (by kernel_rfl) (fun _ _ _ _ h => h) HH.out (fun K hK => ?_)
    go_simp
    first | (refine hK _ ?_; clear hK K) | (apply Exists.intro; refine ⟨?_, hK _ ?_⟩; (focus (intro wx hx; have x1_ := hx.cells; have x3_ := hx.r3.cells; first | (first | (go_at_call 86; refine (hT3.out wx).mono ?_; rintro e wy ⟨rfl, hbel⟩; exact ⟨rfl, (by first | exact Kp.same hbel | exact Kp.drew hbel | exact Kp.below hbel : Kp wx wy)⟩)) | (go_simp; first | rfl | exact ⟨rfl, rfl⟩) | rfl | exact ⟨rfl, rfl⟩)); clear hK K)
    refine mixk_q (i := 5) rfl (by kernel_rfl) (fun _ _ _ _ h => h) HH.out (fun K hK => ?_)
    go_simp
    first | (refine hK _ ?_; clear hK K) | (apply Exists.intro; refine ⟨?_, hK _ ?_⟩; (focus (intro wx hx; have x1_ := hx.cells; have x3_ := hx.r3.cells; first | (first | (go_at_call 86; refine (hT3.out wx).mono ?_; rintro e wy ⟨rfl, hbel⟩; exact ⟨rfl, (by first | exact Kp.same hbel | exact Kp.drew hbel | exact Kp.below hbel : Kp wx wy)⟩)) | (go_simp; first | rfl | exact ⟨rfl, rfl⟩) | rfl | exact ⟨rfl, rfl⟩)); clear hK K)
    refine reg_p (i := 6) rfl (by kernel_rfl) (fun _ _ _ _ h => h) HH.out (fun K hK => ?_)
    go_simp
    first | (refine hK _ ?_; clear hK K) | (apply Exists.intro; refine ⟨?_, hK _ ?_⟩; (focus (intro wx; first | (go_simp; first | rfl) | rfl)); clear hK K)
    refine reg_p (i := 7) rfl (by kernel_rfl) (fun _ _ _ _ h => h) HH.out (fun K hK => ?_)
    go_simp
    first | (refine hK _ ?_; clear hK K) | (apply Exists.intro; refine ⟨?_, hK _ ?_⟩; (focus (intro wx; first | (go_simp; first | rfl) | rfl)); clear hK K)
    refine reg_p (i := 8) rfl (by kernel_rfl) (fun _ _ _ _ h => h) HH.out (fun K hK => ?_)
    go_simp
    first | (refine hK _ ?_; clear hK K) | (apply Exists.intro; refine ⟨?_, hK _ ?_⟩; (focus (intro wx; first | (go_simp; first | rfl) | rfl)); clear hK K)
    refine reg_l none (i := 9) rfl (by kernel_rfl) (fun wn hk K hK => ?_)
    replace HH := Lib.hid (hk _ _ HH.out)
    clear hk
    have hx := HH.out
    have x1_ := hx.cells
    have x3_ := hx.r3.cells
    go_simp
    replace HH := Lib.hid (HH.out.set 4 (.int .u64 v'))
    simp only [List.setIfInBounds_toArray, List.set_cons_succ, List.set_cons_zero] at HH
    generalize wn.setCell ⟨r3, 4, none⟩ (.int .u64 v') = wm at *
    clear hx x1_ x3_
    refine hK _ _ _ HH.out (.inl (by kernel_rfl)) ?_
    clear hK K
    refine mixk_done (by kernel_rfl) (fun w12_ hk => ?_) _
    replace HH := Lib.hid (hk _ _ HH.out)
    clear hk
    (try clear cc1_); (try clear cc2_); (try clear cc3_); (try clear cc4_); (try clear cc5_); (try clear cc6_); (try clear cc7_)
    have cc1_ := HH.out.cells
    replace HH := Lib.hid HH.out.r2
    go_wp2_with (with_reducible refine stop_st ?_)
    refine Stop.go ?_
    refine wpList_store_own _ #[_, _, _, _, _] rfl rfl HH.out (by kernel_rfl) rfl (by repeat (first | (refine List.forall_mem_cons.2 ⟨(by first | with_reducible assumption | rfl), ?_⟩) | exact fun _ h => absurd h List.not_mem_nil)) ?_
    intro w13_ H9_
    replace HH := Lib.hid H9_
    clear H9_
    go_wp2_with fail
    refine bodyPost_ret (results_cell_row rfl _ _ _ _ _ _ _ rfl HH.out.blk Try.underlying41 rfl (by kernel_rfl)) rfl (⟨rfl, HH.out.r4.old_below⟩)
  · obtain rfl : xv = v' := by rw [← hv'.out, if_neg hz]
    have hzb : (c' - d' - s' == 0) = false := by simpa using hz
    (try clear cc1_); (try clear cc2_); (try clear cc3_); (try clear cc4_); (try clear cc5_); (try clear cc6_); (try clear cc7_)
    have cc1_ := HH.out.cells
    replace HH := Lib.hid HH.out.r2
    go_wp2_with (with_reducible refine stop_st ?_)
    refine Stop.go ?_
    refine wpList_store_own _ #[_, _, _, _, _] rfl rfl HH.out (by kernel_rfl) rfl (by repeat (first | (refine List.forall_mem_cons.2 ⟨(by first | with_reducible assumption | rfl), ?_⟩) | exact fun _ h => absurd h List.not_mem_nil)) ?_
    intro w14_ H9_
    replace HH := Lib.hid H9_
    clear H9_
    go_wp2_with fail
    refine bodyPost_ret (results_cell_row rfl _ _ _ _ _ _ _ rfl HH.out.blk Try.underlying41 rfl (by kernel_rfl)) rfl (⟨rfl, HH.out.r4.old_below⟩)
theorem mRun1_c (t : MTurn) : Calls Try.prog 60 #[.agg t.cells.toArray] w fun e w' => e = .returned (.bool (decide (¬ t.few))) ∧ Below w.heap.size w w' := by
  have HH := Lib.hid (Own.init w)
  obtain ⟨tg, tc, tv⟩ := t
  have hb : decide (¬ (⟨tg, tc, tv⟩ : MTurn).few) = decide (1099511627776 < max (max tg tc) tv) := by
    unfold MTurn.few
    simp only
    congr 1
    apply propext
    omega
  rw [hb]
  clear hb
  have im := ite_max
  go_enter Try.func60, Try.ntmps60
  go_wp2_with (with_reducible refine stop_bx ?_)
  refine Stop.go ?_
  refine wpList_box_own HH.out [_, _, _] rfl ?_
  intro b w15_ H9_
  replace HH := Lib.hid H9_
  clear H9_
  (try clear cc1_); (try clear cc2_); (try clear cc3_); (try clear cc4_); (try clear cc5_); (try clear cc6_); (try clear cc7_)
  have cc1_ := HH.out.cells
  go_wp2_with fail
  go_ret
  exact ⟨rfl, HH.out.tail.old_below⟩
/-- The first one that is too great, or -1. -/
theorem mIdx_c (A : Option Addr) (n cap : Nat) (ts : List MTurn) (hA : ∀ wx, Own ε wx R → itAt MTurn.cells 3 wx A n ts) (hn : n ≤ 9223372036854775807) (H : Own ε w R) :
    Calls Try.prog 84 #[.slice A n cap, .func (.func 60) #[] #[]] w fun e w' => (∃ r : Int, e = .returned (.int .i64 r) ∧ (0 ≤ r ↔ ¬ ∀ t ∈ ts, t.few)) ∧ Own ε w' R := by
  have hl := (hA w H).1
  have HH := Lib.hid H; clear H
  replace hA := Lib.hid hA
  go_enter Try.func84, Try.ntmps84
  go_wp2_with fail
  go_loopw [5, 8] (fun _ i wr => ∃ k : Nat, k ≤ n ∧ i = .int .i64 k ∧ (∀ t ∈ ts.take k, t.few) ∧ Own ε wr R) (fun _ i _ => n - (intOf i).toNat)
  case atStart => exact ⟨0, Nat.zero_le _, rfl, by simp, HH.out⟩
  case round =>
    obtain ⟨k, hk, rfl, hT, HR⟩ := hrel
    replace HH := Lib.hid HR
    clear HR
    replace hT := Lib.hid hT
    by_cases hlt : k < n
    · obtain ⟨g, off, t, rfl, ht, hc⟩ := (hA.out _ HH.out).get hlt
      have c0 := hc 0 _ rfl
      have c1 := hc 1 _ rfl
      have c2 := hc 2 _ rfl
      rw [Nat.add_zero] at c0
      clear hc
      replace ht := Lib.hid ht
      by_cases hf : t.few
      · have hd : decide (¬ t.few) = false := by simpa using hf
        go_wp2_with fail
        refine (mRun1_c _ t).mono ?_
        rw [hd]
        clear c0 c1 c2 hd
        rintro e w9 ⟨rfl, hbel⟩
        replace HH := Lib.hid (HH.out.below hbel)
        clear hbel
        go_wp2_with fail
        go_roundw
        case rel =>
          refine ⟨k + 1, by omega, by go_num, ?_, HH.out⟩
          intro x hx
          rw [List.take_add_one, ht.out] at hx
          rcases List.mem_append.1 hx with hx | hx
          · exact hT.out x hx
          · simp at hx; rw [hx]; exact hf
        case measure => simp [intOf]; omega
      · have hd : decide (¬ t.few) = true := by simpa using hf
        have hne : ¬ ∀ t ∈ ts, t.few := fun h => hf (h t (List.mem_of_getElem? ht.out))
        replace hne := Lib.hid hne
        go_wp2_with fail
        refine (mRun1_c _ t).mono ?_
        rw [hd]
        clear c0 c1 c2 hd hf
        rintro e w9 ⟨rfl, hbel⟩
        replace HH := Lib.hid (HH.out.below hbel)
        clear hbel
        go_wp2_with fail
        go_ret
        exact ⟨⟨_, rfl, by simp [hne.out]⟩, HH.out⟩
    · have hkn : k = n := by omega
      subst hkn
      have hall : ∀ t ∈ ts, t.few := by have := hT.out; rwa [List.take_of_length_le (by omega)] at this
      replace hall := Lib.hid hall
      go_wp2_with fail
      go_ret
      exact ⟨⟨_, rfl, by simp; exact hall.out⟩, HH.out⟩
end
end Go.Proofs.Ytoimbdbajpjmjaa
