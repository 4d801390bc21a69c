/- round, and its reference: rounds, counted, and whether a pipe is full. -/
import Derived.Test.YtpfbbpiidhhkbaaGreatEv
import Derived.Test.YtpfbbpiidhhkbaaGreatRow
import Derived.Test.YtpfbbpiidhhkbaaGreatRingC
import Derived.Test.YtpfbbpiidhhkbaaGreatSlc
import Derived.Test.YtpfbbpiidhhkbaaGreatFiltE
import Derived.Outline
import Derived.Test.YtpfbbpiidhhkbaaGreatFix
namespace Go.Proofs.YtpfbbpiidhhkbaaGreat
open Go.RowKit
def itAt {α : Type} (enc : α → List Value) (sz : Nat) (w : World) (A : Option Addr) (n : Nat) (l : List α) : Prop := l.length = n ∧ ∀ i, ∀ h : i < l.length, ∃ g off, A = some ⟨g, off, none⟩ ∧ ∀ j u, (enc l[i])[j]? = some u → w.cell? ⟨g, off + i * sz + j, none⟩ = some u
def encs {α : Type} (enc : α → List Value) (l : List α) : List Value := (l.map enc).flatten
section
variable {α : Type} {enc : α → List Value} {sz : Nat}
theorem encs_snoc (l : List α) (x : α) : encs enc (l ++ [x]) = encs enc l ++ enc x := by simp [encs]
theorem encs_len (he : ∀ x, (enc x).length = sz) (l : List α) : (encs enc l).length = l.length * sz := by
  unfold encs
  rw [flat_len (sz := sz) _ (by intro c hc; obtain ⟨p, _, rfl⟩ := List.mem_map.1 hc; exact he p), List.length_map]
theorem itAt.get {w : World} {A : Option Addr} {n : Nat} {l : List α} (h : itAt enc sz w A n l) {i : Nat} (hi : i < n) : ∃ g off x, A = some ⟨g, off, none⟩ ∧ l[i]? = some x ∧ ∀ j u, (enc x)[j]? = some u → w.cell? ⟨g, off + i * sz + j, none⟩ = some u := by
  obtain ⟨hl, h⟩ := h
  obtain ⟨g, off, e, hc⟩ := h i (by omega)
  exact ⟨g, off, l[i]'(by omega), e, List.getElem?_eq_getElem (by omega), hc⟩
theorem Own.slc_it {ε w : World} {R : List Asn} {T : TypeId} {v : Value} {l : List α} (he : ∀ x, (enc x).length = sz) (hz : 0 < sz) (H : Own ε w (slc T sz v (encs enc l) :: R)) : ∃ A n cap, v = .slice A n cap ∧ n ≤ cap ∧ cap ≤ maxLen ∧ itAt enc sz w A n l := by
  rcases H.slc_val with ⟨rfl, h⟩ | ⟨g, n, cap, rfl, h1, h2, h3, h4, _⟩
  · have hl : l = [] := by
      have := encs_len he l
      rw [h] at this
      simp only [List.length_nil] at this
      refine List.eq_nil_of_length_eq_zero ?_
      rcases Nat.eq_zero_or_pos l.length with q | q
      · exact q
      · have := Nat.mul_pos q hz; omega
    subst hl
    exact ⟨none, 0, 0, rfl, Nat.le_refl _, Nat.zero_le _, rfl, fun i hi => by simp at hi⟩
  · rw [encs_len he] at h3
    have hl : l.length = n := Nat.eq_of_mul_eq_mul_right hz h3
    refine ⟨_, n, cap, rfl, h1, h2, hl, fun i hi => ⟨g, 0, rfl, fun j u hu => ?_⟩⟩
    rw [Nat.zero_add]
    refine h4 _ _ ?_
    have hj : j < sz := by
      rcases Nat.lt_or_ge j sz with q | q
      · exact q
      · rw [List.getElem?_eq_none (by rw [he]; exact q)] at hu; cases hu
    unfold encs
    rw [flat_at (sz := sz) (l.map enc) (by intro c hc; obtain ⟨p, _, rfl⟩ := List.mem_map.1 hc; exact he p) i j (enc l[i]) (by simp [hi]) hj]
    exact hu
theorem itAt_rd {β : Type} {Rd' : Rd β} {w : World} {A : Option Addr} {len cap : Nat} {xs : List β} (f : β → α) (hf : ∀ c x, Rd' w c x → c = enc (f x)) (hr : rdSlice Rd' sz w [.slice A len cap] xs) : itAt enc sz w A len (xs.map f) ∧ len ≤ 9223372036854775807 := by
  obtain ⟨hl, hm, hx⟩ := rdSlice_cases hr
  refine ⟨⟨by simpa using hl, fun i hi => ?_⟩, hm⟩
  have hi' : i < xs.length := by simpa using hi
  rcases hx with hz | ⟨ab, off, rfl, hx⟩
  · omega
  · obtain ⟨c, _, hcell, hR⟩ := hx i hi'
    refine ⟨ab, off, rfl, fun j u hu => ?_⟩
    have e := hf _ _ hR
    have e2 : (xs.map f)[i] = f xs[i] := by simp
    rw [e2, ← e] at hu
    exact hcell j u hu
theorem itAt.old {ε w wx : World} {R : List Asn} {A : Option Addr} {n : Nat} {l : List α} (h : itAt enc sz w A n l) (H : Own ε wx (old w :: R)) : itAt enc sz wx A n l := ⟨h.1, fun i hi => by
  obtain ⟨g, off, e, hc⟩ := h.2 i hi
  exact ⟨g, off, e, fun j u hu => H.old_cell (hc j u hu)⟩⟩
end
end Go.Proofs.YtpfbbpiidhhkbaaGreat
namespace Go.Proofs.YtpfbbpiidhhkbaaGreat
open Go.RowKit
theorem ite_max (a b : Int) : (if a < b then b else a) = max a b := by split <;> omega
theorem rdInts_U {w : World} {A : Option Addr} {len cap : Nat} {xs : List Int} (h : rdSlice (rdInt .u64) 1 w [.slice A len cap] xs) : ∀ x ∈ xs, U x := by
  intro x hx
  obtain ⟨A', len', cap', e, hl, hc, hm, h⟩ := h
  obtain ⟨i, hi, rfl⟩ := List.getElem_of_mem hx
  obtain ⟨b, off, _, c, _, _, _, h2⟩ := h i hi
  exact U_of_wf h2
theorem rdInts_cell {w : World} {A : Option Addr} {len cap : Nat} {xs : List Int} (h : rdSlice (rdInt .u64) 1 w [.slice A len cap] xs) :
    xs.length = len ∧ len ≤ 9223372036854775807 ∧ (len ≤ 0 ∨ ∃ b off, A = some ⟨b, off, none⟩ ∧ ∀ i, ∀ h : i < xs.length, w.cell? ⟨b, off + i, none⟩ = some (.int .u64 xs[i]) ∧ U xs[i]) := by
  have hU := rdInts_U h
  obtain ⟨h1, h2, h3⟩ := rdSlice_cases h
  refine ⟨h1, h2, h3.imp id fun ⟨b, off, e, hx⟩ => ⟨b, off, e, fun i hi => ?_⟩⟩
  obtain ⟨c, _, hcell, hR⟩ := hx i hi
  obtain ⟨rfl, _⟩ := hR
  exact ⟨by simpa using hcell 0 _ rfl, hU _ (List.getElem_mem hi)⟩
theorem rdInts_mk {w : World} {b off len cap : Nat} {xs : List Int} (hl : xs.length = len) (hlc : len ≤ cap) (hcap : cap ≤ maxLen) (hU : ∀ x ∈ xs, (Lit.int .u64 x).wf = true)
    (h : ∀ i, ∀ h : i < xs.length, w.cell? ⟨b, off + i, none⟩ = some (.int .u64 xs[i])) : rdSlice (rdInt .u64) 1 w [.slice (some ⟨b, off, none⟩) len cap] xs :=
  ⟨_, _, _, rfl, hl, hlc, hcap, fun i hi => ⟨b, off, rfl, [.int .u64 xs[i]], rfl, fun j u hj => by
    cases j with
    | zero => simp at hj; subst hj; simpa using h i hi
    | succ j => simp at hj, rfl, hU _ (List.getElem_mem hi)⟩⟩
theorem wf_of_U {x : Int} (h : U x) : (Lit.int .u64 x).wf = true := by
  obtain ⟨h1, h2⟩ := h
  simp only [Lit.wf, IntKind.min, IntKind.max, IntKind.signed, IntKind.bits]
  simp
  omega
theorem rdSlice_drew {α : Type} {R : Rd α} (hR : RdMono R) {sz : Nat} {w : World} {cs : List Value} {xs : List α} (h : rdSlice R sz w cs xs) : rdSlice R sz w.drew cs xs := mono_slice hR sz w w.drew cs xs (fun _ _ h => h) h
def nums (l : List Int) : List Value := l.map (Value.int .u64)
theorem nums_one (l : List Int) : ∀ u ∈ nums l, u.oneCell' = true := by
  intro u h
  obtain ⟨x, _, rfl⟩ := List.mem_map.1 h
  rfl
def own64 (v : Value) (l : List Int) : Asn := slc 22 1 v (nums l)
theorem Own.nums_rd {ε w : World} {v : Value} {l : List Int} {R : List Asn} (H : Own ε w (own64 v l :: R)) (hU : ∀ x ∈ l, U x) : ∃ A n cap, v = .slice A n cap ∧ rdSlice (rdInt .u64) 1 w [.slice A n cap] l := by
  rcases H.slc_val with ⟨rfl, h⟩ | ⟨g, n, cap, rfl, h1, h2, h3, h4, _⟩
  · have hl : l = [] := by simpa [nums] using h
    subst hl
    exact ⟨none, 0, 0, rfl, none, 0, 0, rfl, rfl, Nat.le_refl _, Nat.zero_le _, fun i hi => by simp at hi⟩
  · have hl : l.length = n := by simpa [nums] using h3
    refine ⟨_, n, cap, rfl, rdInts_mk hl h1 h2 (fun x hx => wf_of_U (hU x hx)) (fun i hi => ?_)⟩
    rw [Nat.zero_add]
    exact h4 i _ (by simp [nums, hi])
theorem srcAt_rd {w : World} {A : Option Addr} {n cap : Nat} {l : List Int} (h : rdSlice (rdInt .u64) 1 w [.slice A n cap] l) : srcAt w A n 1 (nums l) := by
  obtain ⟨h1, _, h3⟩ := rdInts_cell h
  refine ⟨by simp [nums, h1], h3.imp (by omega) fun ⟨b, off, e, hx⟩ => ⟨b, off, e, fun j u hj => ?_⟩⟩
  have hjl : j < l.length := by
    rcases Nat.lt_or_ge j l.length with q | q
    · exact q
    · rw [List.getElem?_eq_none (by simpa [nums] using q)] at hj; cases hj
  rw [(hx j hjl).1, ← hj]
  simp [nums, hjl]
end Go.Proofs.YtpfbbpiidhhkbaaGreat
namespace Go.Proofs.YtpfbbpiidhhkbaaGreat
open Go.RowKit
theorem slc_rdF {α : Type} {enc : α → List Value} {sz : Nat} {T : TypeId} {A : Option Addr} {n cap : Nat} {l : List α} (he : ∀ x, (enc x).length = sz) (hz : 0 < sz) {ε wx : World} {R : List Asn} (H : Own ε wx (slc T sz (.slice A n cap) (encs enc l) :: R)) : itAt enc sz wx A n l := by
  obtain ⟨_, _, _, e, _, _, h⟩ := H.slc_it he hz
  cases e
  exact h
theorem encR_len (x : Int × Int) : (encR x).length = 2 := rfl
section
variable (w : World)
abbrev ActF := Bool × Int × Int × Unit
def rdActF : Rd ActF := rdPair rdBool (rdPair (rdInt .u64) (rdPair (rdInt .u64) rdUnit))
theorem Fil.ok_to {s : Fil} {t : Int} (h : s.Ok) (ht : U t) : (s.to t).2.Ok := by
  unfold Fil.to
  split
  · exact h
  · exact ⟨h.1, ht, fun r hr => h.2.2 r ((List.dropWhile_sublist _).subset hr)⟩
theorem Fil.ok_put {s : Fil} {t x : Int} (h : s.Ok) (ht : U t) (hx : U x) : (s.put t x).2.Ok := by
  unfold Fil.put
  split
  · exact h
  · refine ⟨h.1, ht, fun r hr => ?_⟩
    rcases List.mem_append.1 hr with hr | hr
    · exact h.2.2 r ((List.dropWhile_sublist _).subset (worse_sub _ _ _ r hr))
    · rw [List.mem_singleton.1 hr]; exact ⟨ht, hx⟩
theorem sadd_ge {t win : Int} (ht : U t) (hw : U win) : ¬ sadd t win < t := by
  unfold sadd; unfold U at *; split <;> omega
def cntB (win now : Int) (r : Int × Int) : Bool := !decide (sadd r.1 win < now)
end
end Go.Proofs.YtpfbbpiidhhkbaaGreat
namespace Go.Proofs.YtpfbbpiidhhkbaaGreat
open Go.RowKit
def rfil (b : Nat) (s : Fil) : Asn := exA fun v : Value => sep (pts b (.cells #[.int .u64 s.win, .bool s.least, .int .u64 s.now, v] 69 (0, 0))) (slc 151 2 v (encs encR s.l))
def Fil.rto (s : Fil) (t : Int) : Int × Fil := if t < s.now then (2, s) else (0, { s with now := t })
def Fil.rput (s : Fil) (t x : Int) : Int × Fil := if t < s.now then (2, s) else (0, { s with now := t, l := s.l ++ [(t, x)] })
structure CRel (s m : Fil) : Prop where
  win : m.win = s.win
  least : m.least = s.least
  now : m.now = s.now
  rise : m.l.reverse.Pairwise fun a b => b.1 ≤ a.1
  le : ∀ r ∈ m.l, r.1 ≤ s.now
  row : s.l = Fil.old s.win s.now (surv s.least m.l)
  us : ∀ r ∈ m.l, U r.1 ∧ U r.2
  ok : s.Ok
theorem CRel.zero {win : Int} (h : U win) (least : Bool) : CRel ⟨win, 0, least, []⟩ ⟨win, 0, least, []⟩ :=
  ⟨rfl, rfl, rfl, by simp, by simp, rfl, by simp, ⟨h, U_zero, by simp⟩⟩
theorem CRel.to {s m : Fil} (h : CRel s m) {t : Int} (ht : U t) : (s.to t).1 = (m.rto t).1 ∧ CRel (s.to t).2 (m.rto t).2 := by
  have hk := Fil.ok_to h.ok ht
  unfold Fil.to at *
  unfold Fil.rto
  rw [h.now]
  split
  · exact ⟨rfl, h⟩
  · rename_i hlt
    rw [if_neg hlt] at hk
    refine ⟨rfl, h.win, h.least, rfl, h.rise, fun r hr => ?_, ?_, h.us, hk⟩
    · have := h.le r hr; simp only; omega
    · simp only
      rw [h.row, old_old (by omega)]
theorem CRel.put {s m : Fil} (h : CRel s m) {t x : Int} (ht : U t) (hx : U x) : (s.put t x).1 = (m.rput t x).1 ∧ CRel (s.put t x).2 (m.rput t x).2 := by
  have hk := Fil.ok_put h.ok ht hx
  unfold Fil.put at *
  unfold Fil.rput
  rw [h.now]
  split
  · exact ⟨rfl, h⟩
  · rename_i hlt
    rw [if_neg hlt] at hk
    refine ⟨rfl, h.win, h.least, rfl, ?_, fun r hr => ?_, ?_, fun r hr => ?_, hk⟩
    · simp only [List.reverse_append, List.reverse_cons, List.reverse_nil, List.nil_append, List.singleton_append]
      rw [List.pairwise_cons]
      refine ⟨fun r hr => ?_, h.rise⟩
      have := h.le r (List.mem_reverse.1 hr); simp only; omega
    · simp only at hr ⊢
      rcases List.mem_append.1 hr with hr | hr
      · have := h.le r hr; omega
      · rw [List.mem_singleton.1 hr]; exact Int.le_refl _
    · simp only
      rw [surv_snoc, h.row, old_old (by omega)]
      exact (old_worse (surv s.least m.l) (t, x) (sadd_ge ht h.ok.1)).symm
    · simp only at hr
      rcases List.mem_append.1 hr with hr | hr
      · exact h.us r hr
      · rw [List.mem_singleton.1 hr]; exact ⟨ht, hx⟩
theorem CRel.best {s m : Fil} (h : CRel s m) : refBest m.win m.now m.least m.l = s.best := by
  have e := refBest_head (win := m.win) (now := m.now) (least := m.least) m.l.reverse h.rise
  rw [List.reverse_reverse, h.win, h.now, h.least, ← h.row] at e
  rw [h.win, h.now, h.least, e]
  unfold Fil.best headR
  cases s.l <;> rfl
theorem refBest_step {win now : Int} {least : Bool} {l : List (Int × Int)} {k : Nat} {r : Int × Int} (h : l[k]? = some r) : refBest win now least (l.take (k + 1)) = bestF win now least (refBest win now least (l.take k)) r := by
  rw [List.take_add_one, h]
  exact refBest_snoc win now least _ r
section
variable (ε w : World) (R : List Asn) (b : Nat)
end
end Go.Proofs.YtpfbbpiidhhkbaaGreat
namespace Go.Proofs.YtpfbbpiidhhkbaaGreat
open Go.RowKit
structure Ctr where
  mark : Int
  n : Int
structure Pip where
  best : Int
  n : Int
def Ctr.zero : Ctr := ⟨0, 0⟩
def Pip.zero : Pip := ⟨0, 0⟩
def Ctr.ack (s : Ctr) (stamp delivered : Int) : Bool × Ctr := if stamp < s.mark then (false, s) else (true, ⟨delivered, IntKind.u64.wrap (s.n + 1)⟩)
def Pip.put (s : Pip) (rate : Int) (round limited : Bool) : Pip :=
  if 3 ≤ s.n ∨ round = false ∨ limited = true then s else if smul s.best 5 ≤ smul rate 4 then ⟨rate, 0⟩ else ⟨s.best, s.n + 1⟩
def Pip.full (s : Pip) : Bool := decide (3 ≤ s.n)
def Pip.Ok (s : Pip) : Prop := U s.best ∧ 0 ≤ s.n ∧ s.n ≤ 3
theorem Pip.ok_put {s : Pip} {rate : Int} {r l : Bool} (hr : U rate) (h : s.Ok) : (s.put rate r l).Ok := by
  unfold Pip.Ok at *; unfold Pip.put; split
  · exact h
  · split
    · exact ⟨hr, by simp, by simp⟩
    · refine ⟨h.1, ?_, ?_⟩ <;> simp only <;> omega
def ctr (b : Nat) (s : Ctr) : Asn := pts b (.cells #[.int .u64 s.mark, .int .u64 s.n] 113 (0, 0))
def pip (b : Nat) (s : Pip) : Asn := pts b (.cells #[.int .u64 s.best, .int .i64 s.n] 105 (0, 0))
def rctr (b : Nat) (s : Ctr) : Asn := pts b (.cells #[.int .u64 s.mark, .int .u64 s.n] 71 (0, 0))
def rpip (b : Nat) (s : Pip) : Asn := pts b (.cells #[.int .u64 s.best, .int .i64 s.n] 73 (0, 0))
section
variable (ε w : World) (R : List Asn) (b : Nat)
theorem ctrNew_c {L : List Asn} (H : Own ε w L) :
    Calls Tryz.prog 23 #[] w fun e w' => ∃ b, e = .returned (.pointer (some ⟨b, 0, none⟩)) ∧ Own ε w' (ctr b Ctr.zero :: L) := by
  have HH := Lib.hid H; clear H
  go_enter Tryz.func23, Tryz.ntmps23
  go_wp2_with fail
  go_ret
  exact ⟨_, rfl, HH.out.alloc _⟩
theorem pipNew_c {L : List Asn} (H : Own ε w L) :
    Calls Tryz.prog 19 #[] w fun e w' => ∃ b, e = .returned (.pointer (some ⟨b, 0, none⟩)) ∧ Own ε w' (pip b Pip.zero :: L) := by
  have HH := Lib.hid H; clear H
  go_enter Tryz.func19, Tryz.ntmps19
  go_wp2_with fail
  go_ret
  exact ⟨_, rfl, HH.out.alloc _⟩
set_option maxHeartbeats 400000 in
theorem ctrAck_c (s : Ctr) (x y : Int) (H : Own ε w (ctr b s :: R)) :
    Calls Tryz.prog 72 #[.pointer (some ⟨b, 0, none⟩), .int .u64 x, .int .u64 y] w fun e w' => e = .returned (.bool (s.ack x y).1) ∧ Own ε w' (ctr b (s.ack x y).2 :: R) := by
  obtain ⟨m, n⟩ := s
  obtain ⟨c0, f0⟩ := H.cells
  have HH := Lib.hid H; clear H
  by_cases h : x < m
  · rw [show (⟨m, n⟩ : Ctr).ack x y = (false, ⟨m, n⟩) by simp [Ctr.ack, h]]
    go_enter Tryz.func72, Tryz.ntmps72
    go_wp2_with fail
    go_ret
    exact ⟨rfl, HH.out⟩
  · rw [show (⟨m, n⟩ : Ctr).ack x y = (true, ⟨y, IntKind.u64.wrap (n + 1)⟩) by simp [Ctr.ack, h]]
    go_enter Tryz.func72, Tryz.ntmps72
    go_wp2_with fail
    go_ret
    exact ⟨rfl, (HH.out.set 0 (.int .u64 y)).set 1 (.int .u64 (IntKind.u64.wrap (n + 1)))⟩
theorem pipFull_c (s : Pip) (H : Own ε w (pip b s :: R)) :
    Calls Tryz.prog 79 #[.pointer (some ⟨b, 0, none⟩)] w fun e w' => e = .returned (.bool (decide (3 ≤ s.n))) ∧ w = w' := by
  obtain ⟨m, n⟩ := s
  obtain ⟨c0, f0⟩ := H.cells
  clear H
  go_enter Tryz.func79, Tryz.ntmps79
  go_wp2_with fail
  go_ret
  exact ⟨rfl, rfl⟩
set_option maxHeartbeats 800000 in
theorem pipPut_c (s : Pip) (x : Int) (r l : Bool) (hx : U x) (hs : s.Ok) (H : Own ε w (pip b s :: R)) :
    Calls Tryz.prog 74 #[.pointer (some ⟨b, 0, none⟩), .int .u64 x, .bool r, .bool l] w fun e w' => e = .returned (.tuple #[]) ∧ Own ε w' (pip b (s.put x r l) :: R) := by
  obtain ⟨m, n⟩ := s
  obtain ⟨hu, hn0, hn3⟩ := hs
  simp only at hu hn0 hn3
  obtain ⟨c0, f0⟩ := H.cells
  have HH := Lib.hid H; clear H
  by_cases h3 : 3 ≤ n
  · rw [show (⟨m, n⟩ : Pip).put x r l = ⟨m, n⟩ by simp [Pip.put, h3]]
    go_enter Tryz.func74, Tryz.ntmps74
    go_wp2_with fail
    first | go_end0 | ((try simp only [Exit.inBlock, Exit.then]); refine bodyPost_ret (results_none rfl _ _ _) rfl ?_)
    exact ⟨rfl, HH.out⟩
  cases r
  · rw [show (⟨m, n⟩ : Pip).put x false l = ⟨m, n⟩ by simp [Pip.put]]
    go_enter Tryz.func74, Tryz.ntmps74
    go_wp2_with fail
    first | go_end0 | ((try simp only [Exit.inBlock, Exit.then]); refine bodyPost_ret (results_none rfl _ _ _) rfl ?_)
    exact ⟨rfl, HH.out⟩
  cases l
  · have k4 := fun w => fixMul_c w x 4 hx ⟨by decide, by decide⟩
    have k5 := fun w => fixMul_c w m 5 hu ⟨by decide, by decide⟩
    by_cases hg : smul m 5 ≤ smul x 4
    · rw [show (⟨m, n⟩ : Pip).put x true false = ⟨x, 0⟩ by unfold Pip.put; rw [if_neg (by rintro (q | q | q); exact h3 q; cases q; cases q)]; first | rw [if_pos hg] | rw [if_neg hg]]
      go_enter Tryz.func74, Tryz.ntmps74
      go_wp2_with fail
      go_quiet ((go_at_call 59; first | (with_reducible exact quiet_c (k4 _)) | (with_reducible exact quiet_c (k5 _))))
      go_wp2_with fail
      first | go_end0 | ((try simp only [Exit.inBlock, Exit.then]); refine bodyPost_ret (results_none rfl _ _ _) rfl ?_)
      exact ⟨rfl, (((HH.out.drewN _).set 0 (.int .u64 x)).set 1 (.int .i64 (-1))).set 1 (.int .i64 0)⟩
    · rw [show (⟨m, n⟩ : Pip).put x true false = ⟨m, n + 1⟩ by unfold Pip.put; rw [if_neg (by rintro (q | q | q); exact h3 q; cases q; cases q)]; first | rw [if_pos hg] | rw [if_neg hg]]
      go_enter Tryz.func74, Tryz.ntmps74
      go_wp2_with fail
      go_quiet ((go_at_call 59; first | (with_reducible exact quiet_c (k4 _)) | (with_reducible exact quiet_c (k5 _))))
      go_wp2_with fail
      first | go_end0 | ((try simp only [Exit.inBlock, Exit.then]); refine bodyPost_ret (results_none rfl _ _ _) rfl ?_)
      exact ⟨rfl, (HH.out.drewN _).set 1 (.int .i64 (n + 1))⟩
  · rw [show (⟨m, n⟩ : Pip).put x true true = ⟨m, n⟩ by simp [Pip.put]]
    go_enter Tryz.func74, Tryz.ntmps74
    go_wp2_with fail
    first | go_end0 | ((try simp only [Exit.inBlock, Exit.then]); refine bodyPost_ret (results_none rfl _ _ _) rfl ?_)
    exact ⟨rfl, HH.out⟩
end
end Go.Proofs.YtpfbbpiidhhkbaaGreat
