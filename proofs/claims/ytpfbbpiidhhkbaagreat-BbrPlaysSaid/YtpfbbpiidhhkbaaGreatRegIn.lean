/- Regions that draw, in a round of a range over a function. -/
import Derived.RangeFuncNested
import Derived.RangeFuncBound
import Derived.RangeFuncCalls
import Derived.RangeFuncLeaves
import Derived.Test.YtpfbbpiidhhkbaaGreatRingC
import Derived.Test.YtpfbbpiidhhkbaaGreatEv
import Derived.Test.YtpfbbpiidhhkbaaGreatConf
import Derived.Sort.QuietTacIn
import Derived.Shelf.Abstract
import Derived.OrdersIn
namespace Go.Proofs.YtpfbbpiidhhkbaaGreat
open Go.RowKit
def lrec (fn : FuncId) (tmps : Array Value) (ps : Array Tmp) (assign body : Code) (D : Nat) (st : LoopState) (pe : Option Code) : Loop := { state := st, pending := pe, fn, tmps, params := ps, assign, body, defers := D }
theorem Own.putObj {ε w : World} {R : List Asn} {b : Nat} {o : Obj} (o' : Obj) (H : Own ε w (pts b o :: R)) : Own ε (w.putObj b o') (pts b o' :: R) :=
  H.put rfl rfl rfl (World.putObj_heap_same (Array.getElem?_eq_some_iff.1 H.blk).1) (fun _ _ hk => World.putObj_heap_other hk)
def roundOut (ε : World) (l : Nat) (rec : LoopState → Option Code → Loop) (Rp : Ending → World → Prop) : Exit → World → Prop
  | .normal, W => ∃ B, Own ε W (pts l (.loop (rec .busy none)) :: B) ∧ ∀ W2, Own ε W2 (pts l (.loop (rec .ready none)) :: B) → Rp (.returned (.bool true)) W2
  | .ret, W => ∃ B, Own ε W (pts l (.loop (rec .busy none)) :: B) ∧ ∀ W2, Own ε W2 (pts l (.loop (rec .done (some .ret))) :: B) → Rp (.returned (.bool false)) W2
  | .exit id, W => ∃ B, Own ε W (pts l (.loop (rec .busy none)) :: B) ∧ ∀ W2, Own ε W2 (pts l (.loop (rec .done (some (.exit id)))) :: B) → Rp (.returned (.bool false)) W2
  | _, _ => False
section
variable {P : Program} {ε : World} {m l D fn : Nat} {tmps : Array Value} {ps : Array Tmp} {assign body : Code}
theorem yieldAt_own {W : World} {args : Array Value} (hs : args.size = ps.size) {A : List Asn} {Rp : Ending → World → Prop} (H : Own ε W (pts l (.loop (lrec fn tmps ps assign body D .ready none)) :: A))
    (hwalk : assign.wpIn (Fence.wide.inRound l) m P (Exit.then (fun a' W' => ∃ A', Own ε W' (pts l (.loop (lrec fn tmps ps assign body D .ready none)) :: A') ∧
        ∀ W2, Own ε W2 (pts l (.loop (lrec fn tmps ps assign body D .busy none)) :: A') → body.wpIn (Fence.wide.inRound l) m P (fun e _ W3 => roundOut ε l (lrec fn tmps ps assign body D) Rp e W3) a' W2) (fun _ _ _ => False))
      { tmps := (ps.zip args).foldl (fun t (p, v) => t.setIfInBounds p v) tmps, defers := [] } W) :
    YieldAt Fence.wide m P l args W Rp := by
  refine ⟨fn, _, assign, body, run_yield H.blk hs, roundIn_of_wpIn trivial (wpIn_mono hwalk ?_)⟩
  rintro e a' W' hq
  cases e with
  | normal =>
    obtain ⟨A', H', hb⟩ := hq
    refine ⟨_, run_beginRound H'.blk rfl, ?_⟩
    refine wpIn_mono (hb _ (H'.putObj _)) ?_
    rintro e a3 W3 hr
    cases e with
    | normal =>
      obtain ⟨B, HB, hR⟩ := hr
      exact ⟨_, _, run_endRound none HB.blk, hR _ (HB.putObj _)⟩
    | ret =>
      obtain ⟨B, HB, hR⟩ := hr
      exact ⟨_, _, run_endRound (some .ret) HB.blk, hR _ (HB.putObj _)⟩
    | exit id =>
      obtain ⟨B, HB, hR⟩ := hr
      exact ⟨_, _, run_endRound (some (.exit id)) HB.blk, hR _ (HB.putObj _)⟩
    | goto t => exact hr.elim
    | panic c => exact hr.elim
    | outgrown => exact hr.elim
  | _ => exact hq.elim
theorem wpIn_rangeFunc_sep {n : Nat} {g : Operand} {Q : Exit → Act → World → Prop} {a : Act} {w : World} {gf : Nat} {lb : Array Value} (hg : a.eval g = .func (.func gf) #[] lb) (eg : ∀ args w, (callFunc gf args).run P w = .ok (.enter gf args) w)
    {A : List Asn} (H : Own ε w A)
    (hit : ∀ fn l D W, Own ε W (pts l (.loop (lrec fn a.tmps ps assign body D .ready none)) :: pts D (.deferred (some [])) :: A) →
      CallsIn Fence.wide (n - 1) P gf (#[.func (.yield l) #[] #[]] ++ lb) W fun e W2 => (∃ v, e = .returned v) ∧
        ((∃ B, Own ε W2 (pts l (.loop (lrec fn a.tmps ps assign body D .ready none)) :: pts D (.deferred (some [])) :: B) ∧ ∀ W3, Own ε W3 (pts D (.deferred (some [])) :: B) → Q .normal { a with defers := { target := .collected D, args := #[] } :: a.defers } W3) ∨
         (∃ c B, Own ε W2 (pts l (.loop (lrec fn a.tmps ps assign body D .done (some c))) :: pts D (.deferred (some [])) :: B) ∧ ∀ W3, Own ε W3 (pts D (.deferred (some [])) :: B) → c.wpIn Fence.wide n P Q { a with defers := { target := .collected D, args := #[] } :: a.defers } W3))) :
    (Code.rangeFunc g ps assign body).wpIn Fence.wide n P Q a w := by
  refine wpIn_rangeFunc ?_
  intro fn hfn
  have H1 := (H.alloc (.deferred (some []))).alloc (.loop (lrec fn a.tmps ps assign body w.heap.size .ready none))
  rw [World.size_alloc] at H1
  have he := run_enterLoop_outer (P := P) (w := w) fn a.tmps ps assign body
  obtain ⟨W1, hW1⟩ : ∃ W1, (w.alloc (.deferred (some []))).alloc (.loop (lrec fn a.tmps ps assign body w.heap.size .ready none)) = W1 := ⟨_, rfl⟩
  rw [hW1] at H1
  replace he : (Instr.enterLoop fn a.tmps ps assign body none).run P w = .ok (w.heap.size + 1, [{ target := .collected w.heap.size, args := #[] }]) W1 := by rw [← hW1]; exact he
  clear hW1
  refine ⟨w.heap.size + 1, [{ target := .collected w.heap.size, args := #[] }], W1, { target := .fn (.func gf) lb, args := #[.func (.yield (w.heap.size + 1)) #[] #[]] }, W1, gf,
    #[.func (.yield (w.heap.size + 1)) #[] #[]] ++ lb, W1, he, ?_, fun _ _ => trivial, ?_, fun h => by simp [Fence.wide] at h, ?_⟩
  · simp only [resolve, hg]
    simp [go_sem]
  · simp [invoke, go_sem, eg]
  · refine (hit fn _ _ _ H1).mono ?_
    rintro e W2 ⟨⟨v, rfl⟩, (⟨B, HB, hd⟩ | ⟨c, B, HB, hd⟩)⟩
    · exact ⟨none, _, run_endLoop HB.blk (by simp [lrec]), hd _ (HB.putObj _).tail⟩
    · exact ⟨some c, _, run_endLoop HB.blk (by simp [lrec]), hd _ (HB.putObj _).tail⟩
end
end Go.Proofs.YtpfbbpiidhhkbaaGreat
namespace Go.Proofs.YtpfbbpiidhhkbaaGreat
open Go.RowKit
section
variable {P : Program} {l n : Nat} {Q : Exit → Act → World → Prop} {a : Act} {w : World}
theorem wpIn_of_wp {o : Oper} {K : Act → World → Prop} (hd : ∀ c, o.op ≠ .defer c) (h : o.wp P a w K Q) : o.wpIn (Fence.wide.inRound l) n P a w K Q := by
  refine ⟨fun _ _ => trivial, ?_⟩
  rw [show o.semAt (Fence.wide.inRound l).round a.eval = execOp a.eval o from Oper.semAt_some l _ _ hd]
  unfold Oper.wp at h
  revert h
  generalize (execOp a.eval o).run P w = r
  intro h
  cases r with
  | ok v w' =>
    cases v with
    | enter f args => exact ⟨fun h => by simp [Fence.wide, Fence.inRound] at h, (callsIn_wide.2 h).inRound l⟩
    | row r args =>
      refine ⟨fun h => by simp [Fence.wide, Fence.inRound] at h, fun c cs _ => ?_⟩
      obtain ⟨v, w', hr, hs⟩ := h c cs
      exact ⟨v, w', hr, stepsIn_wide.2 hs⟩
    | value v => exact h
    | skip => exact h
    | defer d => exact h
    | round => exact h.elim
    | _ => exact h.elim
  | halt x w' =>
    cases x with
    | panic v => exact h
    | _ => exact h.elim
def oneQ (P : Program) (l n : Nat) (ops : Array Oper) (Q : Exit → Act → World → Prop) (rest : List Oper) : Exit → Act → World → Prop
  | .normal, a, w => wpListIn (Fence.wide.inRound l) n P ops Q rest a w
  | _, _, _ => False
theorem in_of_list {ops : Array Oper} {o : Oper} {rest : List Oper} (hg : o.guard = none) (hd : ∀ c, o.op ≠ .defer c) (h : wpList P ops (oneQ P l n ops Q rest) [o] a w) : wpListIn (Fence.wide.inRound l) n P ops Q (o :: rest) a w := by
  have h2 : o.wp P a w (wpListIn (Fence.wide.inRound l) n P ops Q rest) (oneQ P l n ops Q rest) := by
    have hw : Region.wanted o (yielded ops a.tmps) = true := by simp [Region.wanted, hg]
    unfold wpList at h
    rw [if_pos hw] at h
    rcases h with h | ⟨_, a', w', h⟩
    · exact h
    · exact h.elim
  refine wpListIn_plain hg fun K hK => ?_
  have h3 := wpIn_of_wp (l := l) (n := n) hd h2
  refine ⟨h3.1, ?_⟩
  have h4 := h3.2
  revert h4
  generalize Sem.run P (o.semAt (Fence.wide.inRound l).round a.eval) w = r
  intro h4
  cases r with
  | ok v w' =>
    cases v with
    | enter f args =>
      refine ⟨h4.1, h4.2.mono ?_⟩
      intro e w2 hq
      cases e with
      | returned v => exact hK _ _ hq
      | panicked c => exact hq.elim
      | outgrown => obtain ⟨_, _, hq⟩ := hq; exact hq.elim
    | row r args => exact ⟨h4.1, h4.2.mono fun v w2 hq => hK _ _ hq⟩
    | value v => exact hK _ _ h4
    | skip => exact hK _ _ h4
    | defer d => exact hK _ _ h4
    | round l2 f tmps assign body =>
      refine ⟨h4.1, h4.2.mono ?_⟩
      intro e w2 hq
      cases e with
      | returned v => exact hK _ _ hq
      | panicked c => exact hq.elim
      | outgrown => obtain ⟨_, _, hq⟩ := hq; exact hq.elim
    | _ => exact h4.elim
  | halt x w' =>
    cases x with
    | panic v => exact h4.elim
    | _ => exact h4.elim
theorem in_back {ops ops' : Array Oper} {rest : List Oper} (h : wpListIn (Fence.wide.inRound l) n P ops Q rest a w) : wpList P ops' (oneQ P l n ops Q rest) [] a w := h
end
section
variable {F : Fence} {n : Nat} {P : Program} {ops : Array Oper} {Q : Exit → Act → World → Prop} {d : Option Tmp} {ty : TypeId} {pos : String} {aft : Array Edge} {g : Option (Tmp × Bool)} {rest : List Oper} {a : Act} {w : World}
theorem stopI_st {t : TypeId} {x y : Operand} (h : Stop (wpListIn F n P ops Q (⟨d, .store t x y, ty, pos, aft, g⟩ :: rest) a w)) : wpListIn F n P ops Q (⟨d, .store t x y, ty, pos, aft, g⟩ :: rest) a w := h
theorem stopI_al {e : TypeId} (h : Stop (wpListIn F n P ops Q (⟨d, .alloc e, ty, pos, aft, g⟩ :: rest) a w)) : wpListIn F n P ops Q (⟨d, .alloc e, ty, pos, aft, g⟩ :: rest) a w := h
theorem stop_rf {g : Operand} {ps : Array Tmp} {as' bd : Code} (h : Stop (Code.wp P (.rangeFunc g ps as' bd) Q a w)) : Code.wp P (.rangeFunc g ps as' bd) Q a w := h
end
theorem calls_of_wp_marks {P : Program} {f : FuncId} {fn : Func} {c : Code} {args : Array Value} {w : World} {R : Ending → World → Prop} (n : Nat) (hf : P.funcs[f]? = some fn) (hb : fn.body = some c)
    (h : c.wp P (bodyPostM Fence.wide n P fn R) { tmps := args ++ Array.replicate (fn.ntmps - args.size) undef, defers := [] } w) : Calls P f args w R :=
  (callsIn_wide (n := n)).1 (callsIn_of_wp_marks hf hb trivial (wpIn_wide.2 h))
end Go.Proofs.YtpfbbpiidhhkbaaGreat
namespace Go.Proofs.YtpfbbpiidhhkbaaGreat
open Go.RowKit Go.Shelf
attribute [local go_sem] Oper.semAt_some
section
variable (ε w : World) (A : List Asn)
abbrev capCf (kb cb : Nat) : Asn := pts kb (.cells #[.pointer (some ⟨cb, 0, none⟩)] 100 (0, 0))
abbrev cnfB (cb : Nat) (c : Cnf) : Asn := pts cb (.cells #[.int .u64 c.mss, .int .u64 c.init, .int .u64 c.reorder, .int .u64 c.window, .int .u64 c.probe, .int .u64 c.loss] 24 (0, 0))
def Cnf.all (c : Cnf) : Bool := inB c.mss 1 65535 && inB c.init 4 1000 && inB c.reorder 1 100 && inB c.window 1 1099511627776 && inB c.probe 1 1099511627776 && inB c.loss 0 1000
theorem Cnf.all_right {c : Cnf} (h : c.Ok) : c.all = c.right := by
  unfold Cnf.all Cnf.right
  have : inB c.loss 0 1000 = decide (c.loss ≤ 1000) := by unfold inB; have := h.loss.1; simp [this]
  rw [this]
def YOut (ε : World) (F G : List Asn) (b : Bool) (e : Ending) (w' : World) : Prop := e = .returned (.bool b) ∧ (b = true → Own ε w' F) ∧ (b = false → Own ε w' G)
def IOut (ε : World) (F G : List Asn) (b : Bool) (e : Ending) (w' : World) : Prop := (∃ v, e = .returned v) ∧ (b = true → Own ε w' F) ∧ (b = false → Own ε w' G)
set_option maxHeartbeats 3200000 in
theorem confIter_c (m l kb cb : Nat) (c : Cnf) (F G : List Asn)
    (hY : ∀ nm o lo hi x W, c.cells[o]? = some (.int .u64 x) → Own ε W (capCf kb cb :: cnfB cb c :: F) → YieldAt Fence.wide m Tryz.prog l #[.string nm, .agg #[.pointer (some ⟨cb, o, none⟩), .int .u64 lo, .int .u64 hi]] W (YOut ε (capCf kb cb :: cnfB cb c :: F) G (inB x lo hi)))
    (H : Own ε w (capCf kb cb :: cnfB cb c :: F)) :
    Calls Tryz.prog 108 #[.func (.yield l) #[] #[], .pointer (some ⟨kb, 0, none⟩)] w (IOut ε (capCf kb cb :: cnfB cb c :: F) G c.all) := by
  have HH := Lib.hid H; clear H
  replace hY := Lib.hid hY
  unfold Cnf.all
  obtain ⟨b1, e1⟩ : ∃ x, inB c.mss 1 65535 = x := ⟨_, rfl⟩
  obtain ⟨b2, e2⟩ : ∃ x, inB c.init 4 1000 = x := ⟨_, rfl⟩
  obtain ⟨b3, e3⟩ : ∃ x, inB c.reorder 1 100 = x := ⟨_, rfl⟩
  obtain ⟨b4, e4⟩ : ∃ x, inB c.window 1 1099511627776 = x := ⟨_, rfl⟩
  obtain ⟨b5, e5⟩ : ∃ x, inB c.probe 1 1099511627776 = x := ⟨_, rfl⟩
  obtain ⟨b6, e6⟩ : ∃ x, inB c.loss 0 1000 = x := ⟨_, rfl⟩
  rw [e1, e2, e3, e4, e5, e6]
  replace e1 := Lib.hid e1
  replace e2 := Lib.hid e2
  replace e3 := Lib.hid e3
  replace e4 := Lib.hid e4
  replace e5 := Lib.hid e5
  replace e6 := Lib.hid e6
  go_enter Tryz.func108, Tryz.ntmps108
  (try clear cc1_); (try clear cc2_); (try clear cc3_); (try clear cc4_); (try clear cc5_); (try clear cc6_); (try clear cc7_)
  have cc1_ := HH.out.cells
  obtain ⟨fn, tmps, assign, body, hy, hR⟩ := hY.out ⟨#[109, 115, 115]⟩ 0 1 65535 c.mss _ rfl HH.out
  refine (wpIn_wide (n := m + 1)).1 ?_
  gi_wp2
  refine hR.mono ?_
  clear hy hR
  rw [e1.out]
  rintro e w1 ⟨rfl, hT, hF⟩
  cases b1
  case' false =>
    have H9 := Lib.hid (hF rfl)
    clear hT hF HH
    gi_wp2
    (repeat (refine ⟨fun _ h => (nomatch h), ?_⟩; gi_wp2))
    go_wp2_with fail
    first | go_end0 | ((try simp only [Exit.inBlock, Exit.then]); refine bodyPost_ret (results_none rfl _ _ _) rfl ?_)
    exact ⟨⟨_, rfl⟩, fun h => by simp at h, fun _ => H9.out⟩
  replace HH := Lib.hid (hT rfl)
  clear hT hF
  (try clear cc1_); (try clear cc2_); (try clear cc3_); (try clear cc4_); (try clear cc5_); (try clear cc6_); (try clear cc7_)
  have cc1_ := HH.out.cells
  obtain ⟨fn, tmps, assign, body, hy, hR⟩ := hY.out ⟨#[105, 110, 105, 116]⟩ 1 4 1000 c.init _ rfl HH.out
  gi_wp2
  refine hR.mono ?_
  clear hy hR
  rw [e2.out]
  rintro e w2 ⟨rfl, hT, hF⟩
  cases b2
  case' false =>
    have H9 := Lib.hid (hF rfl)
    clear hT hF HH
    gi_wp2
    (repeat (refine ⟨fun _ h => (nomatch h), ?_⟩; gi_wp2))
    go_wp2_with fail
    first | go_end0 | ((try simp only [Exit.inBlock, Exit.then]); refine bodyPost_ret (results_none rfl _ _ _) rfl ?_)
    exact ⟨⟨_, rfl⟩, fun h => by simp at h, fun _ => H9.out⟩
  replace HH := Lib.hid (hT rfl)
  clear hT hF
  (try clear cc1_); (try clear cc2_); (try clear cc3_); (try clear cc4_); (try clear cc5_); (try clear cc6_); (try clear cc7_)
  have cc1_ := HH.out.cells
  obtain ⟨fn, tmps, assign, body, hy, hR⟩ := hY.out ⟨#[114, 101, 111, 114, 100, 101, 114]⟩ 2 1 100 c.reorder _ rfl HH.out
  gi_wp2
  refine hR.mono ?_
  clear hy hR
  rw [e3.out]
  rintro e w3 ⟨rfl, hT, hF⟩
  cases b3
  case' false =>
    have H9 := Lib.hid (hF rfl)
    clear hT hF HH
    gi_wp2
    (repeat (refine ⟨fun _ h => (nomatch h), ?_⟩; gi_wp2))
    go_wp2_with fail
    first | go_end0 | ((try simp only [Exit.inBlock, Exit.then]); refine bodyPost_ret (results_none rfl _ _ _) rfl ?_)
    exact ⟨⟨_, rfl⟩, fun h => by simp at h, fun _ => H9.out⟩
  replace HH := Lib.hid (hT rfl)
  clear hT hF
  (try clear cc1_); (try clear cc2_); (try clear cc3_); (try clear cc4_); (try clear cc5_); (try clear cc6_); (try clear cc7_)
  have cc1_ := HH.out.cells
  obtain ⟨fn, tmps, assign, body, hy, hR⟩ := hY.out ⟨#[119, 105, 110, 100, 111, 119]⟩ 3 1 1099511627776 c.window _ rfl HH.out
  gi_wp2
  refine hR.mono ?_
  clear hy hR
  rw [e4.out]
  rintro e w4 ⟨rfl, hT, hF⟩
  cases b4
  case' false =>
    have H9 := Lib.hid (hF rfl)
    clear hT hF HH
    gi_wp2
    (repeat (refine ⟨fun _ h => (nomatch h), ?_⟩; gi_wp2))
    go_wp2_with fail
    first | go_end0 | ((try simp only [Exit.inBlock, Exit.then]); refine bodyPost_ret (results_none rfl _ _ _) rfl ?_)
    exact ⟨⟨_, rfl⟩, fun h => by simp at h, fun _ => H9.out⟩
  replace HH := Lib.hid (hT rfl)
  clear hT hF
  (try clear cc1_); (try clear cc2_); (try clear cc3_); (try clear cc4_); (try clear cc5_); (try clear cc6_); (try clear cc7_)
  have cc1_ := HH.out.cells
  obtain ⟨fn, tmps, assign, body, hy, hR⟩ := hY.out ⟨#[112, 114, 111, 98, 101]⟩ 4 1 1099511627776 c.probe _ rfl HH.out
  gi_wp2
  refine hR.mono ?_
  clear hy hR
  rw [e5.out]
  rintro e w5 ⟨rfl, hT, hF⟩
  cases b5
  case' false =>
    have H9 := Lib.hid (hF rfl)
    clear hT hF HH
    gi_wp2
    (repeat (refine ⟨fun _ h => (nomatch h), ?_⟩; gi_wp2))
    go_wp2_with fail
    first | go_end0 | ((try simp only [Exit.inBlock, Exit.then]); refine bodyPost_ret (results_none rfl _ _ _) rfl ?_)
    exact ⟨⟨_, rfl⟩, fun h => by simp at h, fun _ => H9.out⟩
  replace HH := Lib.hid (hT rfl)
  clear hT hF
  (try clear cc1_); (try clear cc2_); (try clear cc3_); (try clear cc4_); (try clear cc5_); (try clear cc6_); (try clear cc7_)
  have cc1_ := HH.out.cells
  obtain ⟨fn, tmps, assign, body, hy, hR⟩ := hY.out ⟨#[108, 111, 115, 115]⟩ 5 0 1000 c.loss _ rfl HH.out
  gi_wp2
  refine hR.mono ?_
  clear hy hR
  rw [e6.out]
  rintro e w6 ⟨rfl, hT, hF⟩
  cases b6
  case' false =>
    have H9 := Lib.hid (hF rfl)
    clear hT hF HH
    gi_wp2
    (repeat (refine ⟨fun _ h => (nomatch h), ?_⟩; gi_wp2))
    go_wp2_with fail
    first | go_end0 | ((try simp only [Exit.inBlock, Exit.then]); refine bodyPost_ret (results_none rfl _ _ _) rfl ?_)
    exact ⟨⟨_, rfl⟩, fun h => by simp at h, fun _ => H9.out⟩
  replace HH := Lib.hid (hT rfl)
  clear hT hF
  gi_wp2
  go_wp2_with fail
  first | go_end0 | ((try simp only [Exit.inBlock, Exit.then]); refine bodyPost_ret (results_none rfl _ _ _) rfl ?_)
  exact ⟨⟨_, rfl⟩, fun _ => HH.out, fun h => by simp at h⟩
end
end Go.Proofs.YtpfbbpiidhhkbaaGreat
namespace Go.Proofs.YtpfbbpiidhhkbaaGreat
open Go.RowKit
section
variable {P : Program} {l n : Nat} {md : Region.Mode} {ops : Array Oper} {Q : Exit → Act → World → Prop}
theorem wpOpIn_of_op (hd : ∀ (i : Nat) (o : Oper), ops[i]? = some o → ∀ c, o.op ≠ .defer c) (hq : ¬ LetsOut Q) {i : Nat} {K : Act → World → Prop} {a : Act} {w : World} (h : wpOp P ops Q i K a w) : wpOpIn (Fence.wide.inRound l) n P ops Q i K a w := by
  unfold wpOp at h
  unfold wpOpIn
  cases ho : ops[i]? with
  | none => simp only [ho] at h ⊢; exact h
  | some o =>
    simp only [ho] at h ⊢
    split
    · rename_i hw
      rw [if_pos hw] at h
      rcases h with h | ⟨_, h⟩
      · exact wpIn_of_wp (hd i o ho) h
      · exact absurd h hq
    · rename_i hw
      rw [if_neg hw] at h
      exact ⟨fun _ _ => trivial, h⟩
theorem wpAnyIn_of_any (hd : ∀ (i : Nat) (o : Oper), ops[i]? = some o → ∀ c, o.op ≠ .defer c) (hq : ¬ LetsOut Q) : ∀ (fuel : Nat) (listed : Array Bool) (a : Act) (w : World), wpAny P md ops Q fuel listed a w → wpAnyIn (Fence.wide.inRound l) n P md ops Q fuel listed a w
  | 0, _, _, _, h => h
  | fuel + 1, _, _, _, h => ⟨h.1, fun i hi => wpOpIn_mono (fun a w => wpAnyIn_of_any hd hq fuel _ a w) (wpOpIn_of_op hd hq (h.2 i hi))⟩
def noDefer (ops : Array Oper) : Bool := ops.toList.all fun (o : Oper) => match o.op with
  | .defer _ => false
  | _ => true
theorem noDefer_spec (h : noDefer ops = true) : ∀ (i : Nat) (o : Oper), ops[i]? = some o → ∀ c, o.op ≠ .defer c := by
  intro i o ho c e
  have hm : o ∈ ops.toList := by
    have := Array.mem_of_getElem? ho
    exact Array.mem_toList_iff.2 this
  have := List.all_eq_true.1 h o hm
  rw [e] at this
  simp at this
theorem wpIn_region_reg {ε : World} {L : List Asn} (last : Option Nat) {w : World} (H : Own ε w L) {id : Nat} {a : Act} (hm : P.follows .mixedOrders = true) (hd : noDefer ops = true) (hq : ¬ LetsOut Q)
    (h : ∀ wm, Own ε wm L → wpMixK P .any ops Q (fun w' => Own ε w' L) last ops.size (Array.replicate ops.size false) a wm) : (Code.region id ops true).wpIn (Fence.wide.inRound l) n P Q a w :=
  wpIn_region_any hm (wpAnyIn_of_any (noDefer_spec hd) hq _ _ _ _ (wpAny_of_mixK _ _ _ _ (h _ H.drew)))
end
end Go.Proofs.YtpfbbpiidhhkbaaGreat
