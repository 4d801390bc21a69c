/- math/bits.Len64, LeadingZeros64: how many bits a number has. -/
import Derived.IntWalk
import Derived.Test.YtmkcpnlbicijoaaGreatRows
import Derived.Test.YtmkcpnlbicijoaaGreatBase
import Derived.ProofKit
import Derived.OpenShut
import Derived.ShutString
import Derived.ChangeOld
import Derived.Deep.Slices
import Derived.Test.YtmkcpnlbicijoaaGreatProg
import Derived.Lib.Mul64
import Derived.Laws.Bits64b
import Derived.Laws.Externs
import Derived.Laws.MathBits
namespace Go.Proofs.YtmkcpnlbicijoaaGreat
def sadd (a b : Int) : Int := if 18446744073709551615 < a + b then 18446744073709551615 else a + b
def ssub (a b : Int) : Int := if a < b then 0 else a - b
def smul (a b : Int) : Int := if 18446744073709551615 < a * b then 18446744073709551615 else a * b
def U (a : Int) : Prop := 0 ≤ a ∧ a ≤ 18446744073709551615
instance (a : Int) : Decidable (U a) := inferInstanceAs (Decidable (_ ∧ _))
def ssum (l : List Int) : Int := l.foldl sadd 0
def sless (a : Int) (l : List Int) : Int := l.foldl ssub a
theorem U_of_wf {x : Int} (h : (Lit.int .u64 x).wf = true) : U x := by
 simp [Lit.wf, IntKind.min, IntKind.max, IntKind.signed, IntKind.bits] at h
 unfold U; omega
theorem U_sadd {a b : Int} (ha : U a) (hb : U b) : U (sadd a b) := by unfold U sadd at *; split <;> omega
theorem U_ssub {a b : Int} (ha : U a) (hb : U b) : U (ssub a b) := by unfold U ssub at *; split <;> omega
theorem U_smul {a b : Int} (ha : U a) (hb : U b) : U (smul a b) := by
 have := Int.mul_nonneg ha.1 hb.1
 unfold U smul at *; split <;> omega
theorem U_zero : U 0 := by unfold U; omega
theorem U_foldl {l : List Int} : ∀ {a : Int}, U a → (∀ x ∈ l, U x) → U (l.foldl sadd a) := by
 induction l with
 | nil => intro a ha _; exact ha
 | cons x l ih => intro a ha h; exact ih (U_sadd ha (h x (by simp))) (fun y hy => h y (by simp [hy]))
theorem U_ssum {l : List Int} (h : ∀ x ∈ l, U x) : U (ssum l) := U_foldl U_zero h
theorem sadd_zero {a : Int} (h : U a) : sadd 0 a = a := by unfold U sadd at *; split <;> omega
theorem ssum_two {a b : Int} (ha : U a) : ssum [a, b] = sadd a b := by simp [ssum, sadd_zero ha]
theorem ssum_snoc (l : List Int) (x : Int) : ssum (l ++ [x]) = sadd (ssum l) x := by simp [ssum]
theorem take_snoc_getD (l : List Int) (k : Nat) (h : k < l.length) : l.take (k + 1) = l.take k ++ [l.getD k 0] := by
 rw [List.take_succ_eq_append_getElem h]; simp [List.getD, h]
theorem foldl_most {l : List Int} (h : ∀ x ∈ l, U x) : l.foldl sadd 18446744073709551615 = 18446744073709551615 := by
 induction l with
 | nil => rfl
 | cons x l ih =>
  have hx := h x (by simp)
  have e : sadd 18446744073709551615 x = 18446744073709551615 := by unfold U at hx; unfold sadd; split <;> omega
  rw [List.foldl_cons, e]
  exact ih (fun y hy => h y (by simp [hy]))
theorem ssum_great {l : List Int} (h : ∀ x ∈ l, U x) {k : Nat} (hk : k < l.length) (hs : 18446744073709551615 < ssum (l.take k) + l.getD k 0) : ssum l = 18446744073709551615 := by
 have e : l = l.take k ++ l.getD k 0 :: l.drop (k + 1) := by
  rw [List.getD, List.getElem?_eq_getElem hk, Option.getD_some, ← List.drop_eq_getElem_cons hk, List.take_append_drop]
 have e2 : ssum l = (l.drop (k + 1)).foldl sadd (sadd (ssum (l.take k)) (l.getD k 0)) := by
  conv => lhs; rw [e]
  unfold ssum
  rw [List.foldl_append, List.foldl_cons]
 rw [e2, show sadd (ssum (l.take k)) (l.getD k 0) = 18446744073709551615 from by unfold sadd; rw [if_pos hs]]
 exact foldl_most (fun x hx => h x (List.mem_of_mem_drop hx))
end Go.Proofs.YtmkcpnlbicijoaaGreat
namespace Go.Proofs.YtmkcpnlbicijoaaGreat
open Go.ChangeShapes Go.WideShapes Go.ChangeAt Go.RowKit

abbrev Rd (α : Type) := World → List Value → α → Prop
def rdInt (k : IntKind) : Rd Int := fun _ cs x => cs = [.int k x] ∧ (Lit.int k x).wf = true
def rdBool : Rd Bool := fun _ cs x => cs = [.bool x]
def rdStr : Rd ByteArray := fun _ cs x => cs = [.string x] ∧ x.size ≤ maxLen
def rdUnit : Rd Unit := fun _ cs _ => cs = []
def rdPair {α β : Type} (R : Rd α) (S : Rd β) : Rd (α × β) := fun w cs p => ∃ c1 c2, cs = c1 ++ c2 ∧ R w c1 p.1 ∧ S w c2 p.2
def rdSlice {α : Type} (R : Rd α) (sz : Nat) : Rd (List α) := fun w cs xs => ∃ A len cap, cs = [.slice A len cap] ∧ xs.length = len ∧ len ≤ cap ∧ cap ≤ maxLen ∧
 ∀ i, ∀ h : i < xs.length, ∃ b off, A = some ⟨b, off, none⟩ ∧ ∃ c, c.length = sz ∧ (∀ j u, c[j]? = some u → w.cell? ⟨b, off + i * sz + j, none⟩ = some u) ∧ R w c xs[i]
def RdMono {α : Type} (R : Rd α) : Prop := ∀ w w' cs x, (∀ a v, w.cell? a = some v → w'.cell? a = some v) → R w cs x → R w' cs x
theorem mono_int (k : IntKind) : RdMono (rdInt k) := fun _ _ _ _ _ h => h
theorem mono_slice {α : Type} {R : Rd α} (hR : RdMono R) (sz : Nat) : RdMono (rdSlice R sz) := fun w w' _ _ hw ⟨A, len, cap, e, h1, h2, h3, h4⟩ =>
 ⟨A, len, cap, e, h1, h2, h3, fun i hi => let ⟨b, off, ea, c, hc, hcell, hr⟩ := h4 i hi; ⟨b, off, ea, c, hc, fun j u hj => hw _ _ (hcell j u hj), hR w w' _ _ hw hr⟩⟩

section
variable {H : Type} (enc : TypeId × Value → H) (P : Program) (w : World)
def Opens {α : Type} (t : TypeId) (R : Rd α) : Prop := ∀ spare n cs d, DataW.trod enc P w 0 spare true n t cs = some d → ∃ x, R w cs x
def OpensF {α : Type} (total : Nat) (fs : List Field) (o : Nat) (R : Rd α) : Prop :=
 ∀ (spare : Nat → Bool) (n : Nat) (cs : List Value), cs.length = total → (∀ f ∈ fs, ∃ y, DataW.trod enc P w 0 spare true n f.type ((cs.drop f.offset).take (P.cellsOf f.type)) = some y) → ∃ x, R w (cs.drop o) x
variable {enc P w}
theorem opens_int {t : TypeId} {k : IntKind} (ht : P.underlying t = some (.int k)) : Opens enc P w t (rdInt k) := fun _ _ _ _ h =>
 let ⟨n, e, _, hw⟩ := DataW.trod_int ht h; ⟨n, e, hw⟩
theorem opensF_nil {total : Nat} : OpensF enc P w total [] total rdUnit := fun _ _ cs hl _ => ⟨(), by rw [List.drop_of_length_le (by omega)]; rfl⟩
theorem opensF_cons {α β : Type} {R : Rd α} {S : Rd β} {total o : Nat} {f : Field} {fs : List Field} (n : Nat) (hn : P.cellsOf f.type = n) (ho : f.offset = o) (h : Opens enc P w f.type R) (hs : OpensF enc P w total fs (o + n) S) :
  OpensF enc P w total (f :: fs) o (rdPair R S) := fun spare m cs hl hall => by
 obtain ⟨y, hy⟩ := hall f (by simp)
 obtain ⟨x, hx⟩ := h _ _ _ _ hy
 obtain ⟨z, hz⟩ := hs spare m cs hl (fun g hg => hall g (by simp [hg]))
 refine ⟨(x, z), _, _, ?_, hx, hz⟩
 rw [ho, hn, ← List.drop_drop, List.take_append_drop]
theorem opens_struct {α : Type} {R : Rd α} {t : TypeId} {fs : Array Field} (total : Nat) (ht : P.underlying t = some (.struct fs)) (hl : P.cellsOf t = total) (h : OpensF enc P w total fs.toList 0 R) : Opens enc P w t R := fun spare n cs d hd => by
 obtain ⟨xs, m, _, _, hlen, hx, hf⟩ := DataW.trod_struct ht hd
 have := h spare m cs (by rw [hlen, hl]) (fun f hf' => by
  obtain ⟨i, hi, rfl⟩ := List.getElem_of_mem hf'
  have hi' : i < fs.size := by simpa using hi
  have := hf i fs[i] (Array.getElem?_eq_getElem hi')
  rw [List.getElem?_eq_getElem (by omega)] at this
  exact ⟨_, by simpa using this⟩)
 simpa using this
def OpensA {α : Type} (e : TypeId) (sz total i n : Nat) (R : Rd α) : Prop :=
 ∀ (spare : Nat → Bool) (m : Nat) (cs : List Value), cs.length = total → (∀ j, j < n → ∃ y, DataW.trod enc P w 0 spare true m e ((cs.drop (j * sz)).take sz) = some y) → ∃ x, R w (cs.drop (i * sz)) x
theorem list_of_lt {α : Type} {p : Nat → α → Prop} {n : Nat} (h : ∀ i, i < n → ∃ x, p i x) : ∃ xs : List α, xs.length = n ∧ ∀ i (h : i < xs.length), p i xs[i] := by
 induction n with
 | zero => exact ⟨[], rfl, fun i h => absurd h (Nat.not_lt_zero _)⟩
 | succ n ih =>
  obtain ⟨xs, hl, hxs⟩ := ih (fun i hi => h i (by omega))
  obtain ⟨x, hx⟩ := h n (by omega)
  refine ⟨xs ++ [x], by simp [hl], fun i hi => ?_⟩
  rcases Nat.lt_or_ge i n with q | q
  ·rw [List.getElem_append_left (by omega)]; exact hxs i (by omega)
  ·have hi' : i = n := by simp [hl] at hi; omega
   subst hi'
   rw [List.getElem_append_right (by omega)]
   simpa [hl] using hx
theorem opens_slice {α : Type} {R : Rd α} {t e : TypeId} (sz : Nat) (hpos : 0 < sz) (ht : P.underlying t = some (.slice e)) (hsz : P.cellsOf e = sz) (he : Opens enc P w e R) : Opens enc P w t (rdSlice R sz) := fun spare n cs d hd => by
 rcases Deep.open_slice ht hd with ⟨rfl, _⟩ | ⟨a, len, cap, m, n', D, Pl, rfl, _, hlc, hcap, hm, _, hx⟩
 ·exact ⟨[], none, 0, 0, rfl, rfl, Nat.le_refl _, Nat.zero_le _, fun i hi => absurd hi (Nat.not_lt_zero _)⟩
 ·have hml : len ≤ m := by rw [hm]; split <;> omega
  have key : ∀ i, i < len → ∃ x : α, ∃ c, w.cells? 0 (a.add (i * sz)) sz = some c ∧ R w c x := fun i hi => by
   obtain ⟨cs', h1, h2⟩ := hx i (by omega)
   rw [hsz] at h1
   obtain ⟨x, hx'⟩ := he _ _ _ _ h2
   exact ⟨x, cs', h1, hx'⟩
  have key2 := list_of_lt (p := fun i x => ∃ c, w.cells? 0 (a.add (i * sz)) sz = some c ∧ R w c x) key
  obtain ⟨xs, hl, hxs⟩ := key2
  refine ⟨xs, some a, len, cap, rfl, hl, hlc, hcap, fun i hi => ?_⟩
  have hz := hxs 0 (by omega)
  obtain ⟨c, h1, h2⟩ := hxs i hi
  obtain ⟨_, hlen, hcell⟩ := World.cells?_some h1
  have hadd : ∀ j, (a.add (i * sz)).add j = a.add (i * sz + j) := fun j => Deep.add_add a _ _
  obtain ⟨ab, ao, sp⟩ := a
  have hspot : sp = none := by
   obtain ⟨c', h1', _⟩ := hz
   obtain ⟨_, hlen', hcell'⟩ := World.cells?_some h1'
   have h0 := hcell' 0 (by omega)
   have hc0 : c'[0]? = some c'[0] := List.getElem?_eq_getElem (by omega)
   rw [hc0] at h0
   have := World.cell?_spot h0
   simpa [Addr.add] using this
  subst hspot
  refine ⟨ab, ao, rfl, c, hlen, fun j u hj => ?_, h2⟩
  have hj' : j < sz := by
   rcases Nat.lt_or_ge j sz with q | q
   ·exact q
   ·rw [List.getElem?_eq_none (by omega)] at hj; cases hj
  have := hcell j hj'
  rw [hadd, hj] at this
  rw [← this]
  congr 1
  unfold Addr.add
  split <;> simp_all [Nat.add_assoc]
end
theorem arr_of_list {cs : Array Value} {l : List Value} (h : cs.toList = l) : cs = l.toArray := by subst h; simp
theorem rdSlice_cases {α : Type} {R : Rd α} {sz : Nat} {w : World} {A : Option Addr} {len cap : Nat} {xs : List α} (h : rdSlice R sz w [.slice A len cap] xs) :
  xs.length = len ∧ len ≤ 9223372036854775807 ∧ (len ≤ 0 ∨ ∃ b off, A = some ⟨b, off, none⟩ ∧ ∀ i, ∀ h : i < xs.length, ∃ c, c.length = sz ∧ (∀ j u, c[j]? = some u → w.cell? ⟨b, off + i * sz + j, none⟩ = some u) ∧ R w c xs[i]) := by
 obtain ⟨A', len', cap', e, hl, hc, hm, hx⟩ := h
 simp only [List.cons.injEq, Value.slice.injEq, and_true] at e
 obtain ⟨rfl, rfl, rfl⟩ := e
 refine ⟨hl, by unfold maxLen at hm; omega, ?_⟩
 rcases Nat.eq_zero_or_pos len with h0 | h0
 ·exact .inl (by omega)
 ·right
  obtain ⟨b, off, e, _⟩ := hx 0 (by omega)
  refine ⟨b, off, e, fun i hi => ?_⟩
  obtain ⟨b', off', e', r⟩ := hx i hi
  rw [e] at e'
  cases e'
  exact r
end Go.Proofs.YtmkcpnlbicijoaaGreat
namespace Go.Proofs.YtmkcpnlbicijoaaGreat
open Go.RowKit

theorem add64_run (x y : Int) (hx : U x) (hy : U y) (w : World) :
  (callFunc 89 #[.int .u64 x, .int .u64 y, .int .u64 0]).run Tryz.prog w = .ok (.value (.tuple #[.int .u64 ((x + y) % 18446744073709551616), .int .u64 ((x + y) / 18446744073709551616)])) w := by
 obtain ⟨hx0, hx1⟩ := hx
 obtain ⟨hy0, hy1⟩ := hy
 have h := run_add64 (P := Tryz.prog) x y 0 (by omega) (by omega) (by omega) (by omega) w
 rw [run_callFunc_extern Tryz.func89 (by kernel_rfl) (by kernel_rfl) (by kernel_rfl) (e := add64Entry) (by kernel_rfl), h]
 simp only [Result.andThen, Int.add_zero]
theorem add64_small (x y : Int) (hx : U x) (hy : U y) (h : ¬ 18446744073709551615 < x + y) (w : World) :
  (callFunc 89 #[.int .u64 x, .int .u64 y, .int .u64 0]).run Tryz.prog w = .ok (.value (.tuple #[.int .u64 (x + y), .int .u64 0])) w := by
 rw [add64_run x y hx hy w]
 unfold U at hx hy
 rw [show (x + y) % 18446744073709551616 = x + y from by omega, show (x + y) / 18446744073709551616 = 0 from by omega]
theorem add64_great (x y : Int) (hx : U x) (hy : U y) (h : 18446744073709551615 < x + y) (w : World) :
  (callFunc 89 #[.int .u64 x, .int .u64 y, .int .u64 0]).run Tryz.prog w = .ok (.value (.tuple #[.int .u64 (x + y - 18446744073709551616), .int .u64 1])) w := by
 rw [add64_run x y hx hy w]
 unfold U at hx hy
 rw [show (x + y) % 18446744073709551616 = x + y - 18446744073709551616 from by omega, show (x + y) / 18446744073709551616 = 1 from by omega]

set_option maxHeartbeats 400000 in
theorem fixAdd_c (w : World) (b off len cap : Nat) (xs : List Int) (hl : xs.length = len) (hm : len ≤ 9223372036854775807) (hr : ∀ x ∈ xs, U x)
  (hx : ∀ i, i < len → w.cell? ⟨b, off + i, none⟩ = some (.int .u64 (xs.getD i 0))) :
  Calls Tryz.prog 46 #[.slice (some ⟨b, off, none⟩) len cap] w fun e w' => e = .returned (.int .u64 (ssum xs)) ∧ w = w' := by
 go_enter Tryz.func46, Tryz.ntmps46
 go_wp2
 go_loop [3, 9] (fun n i => ∃ k : Nat, k ≤ len ∧ i = .int .i64 k ∧ n = .int .u64 (ssum (xs.take k))) (fun _ i => len - (intOf i).toNat)
 case atStart => exact ⟨0, Nat.zero_le _, rfl, rfl⟩
 case round =>
  obtain ⟨k, hk, rfl, rfl⟩ := hrel
  by_cases hlt : k < len
  ·have hu := U_ssum (l := xs.take k) (fun x h => hr x (List.mem_of_mem_take h))
   have hv : U (xs.getD k 0) := by
    refine hr _ ?_
    rw [List.getD, List.getElem?_eq_getElem (by omega)]
    exact List.getElem_mem _
   have hc := hx k hlt
   have HT := Lib.hid (take_snoc_getD xs k (by omega))
   have HL := Lib.hid hl
   have HG := Lib.hid (ssum_great hr (show k < xs.length by omega))
   generalize hxk : xs.getD k 0 = v at *
   generalize hsk : ssum (xs.take k) = s at *
   have HS := Lib.hid hsk
   have HX := Lib.hid hxk
   clear hxk hsk hx hr hl
   by_cases hs : 18446744073709551615 < s + v
   ·have ha := fun w => add64_great s v hu hv hs w
    unfold U at hu hv
    go_wp2
    go_ret
    exact ⟨by rw [HG.out hs]; rfl, rfl⟩
   ·have ha := fun w => add64_small s v hu hv hs w
    unfold U at hu hv
    go_wp2
    go_round
    case rel => exact ⟨k + 1, by omega, by go_num, by rw [HT.out, ssum_snoc, HS.out]; unfold sadd; rw [if_neg hs]⟩
    case measure => simp [intOf]; omega
  ·go_wp2
   go_ret
   exact ⟨by rw [List.take_of_length_le (by omega)]; rfl, rfl⟩

theorem fixAdd2_c (w : World) (b : Nat) (x y : Int) (hx : U x) (hy : U y) (h0 : w.cell? ⟨b, 0, none⟩ = some (.int .u64 x)) (h1 : w.cell? ⟨b, 1, none⟩ = some (.int .u64 y)) :
  Calls Tryz.prog 46 #[.slice (some ⟨b, 0, none⟩) 2 2] w fun e w' => e = .returned (.int .u64 (sadd x y)) ∧ w = w' := by
 rw [← ssum_two hx]
 refine fixAdd_c w b 0 2 2 [x, y] rfl (by omega) (fun z hz => ?_) (fun i hi => ?_)
 ·rcases List.mem_cons.1 hz with rfl | hz
  ·exact hx
  ·rw [List.mem_singleton.1 hz]; exact hy
 ·rcases Nat.lt_or_ge i 1 with h | h
  ·obtain rfl : i = 0 := by omega
   exact h0
  ·obtain rfl : i = 1 := by omega
   exact h1
namespace M64
theorem maskN (a : Nat) (ha : a < 18446744073709551616) : bits .and .u64 (a : Int) 4294967295 = ((a % 4294967296 : Nat) : Int) := by
 have h := bits_and_u64_nat a 4294967295 ha (by omega)
 have e : a &&& 4294967295 = a % 4294967296 := Nat.and_two_pow_sub_one_eq_mod a 32
 rw [e] at h
 exact h
theorem divN (a : Nat) : (a : Int) / 4294967296 = ((a / 4294967296 : Nat) : Int) := by omega
theorem mulN (a b : Nat) : (a : Int) * (b : Int) = ((a * b : Nat) : Int) := (Int.natCast_mul a b).symm
theorem addN (a b : Nat) : (a : Int) + (b : Int) = ((a + b : Nat) : Int) := (Int.natCast_add a b).symm
theorem wrapN (a : Nat) (ha : a < 18446744073709551616) : IntKind.u64.wrap (a : Int) = (a : Int) := by rw [IntKind.wrap_u64]; omega
theorem wrapM (a : Nat) : IntKind.u64.wrap (a : Int) = ((a % 18446744073709551616 : Nat) : Int) := by rw [IntKind.wrap_u64]; omega
theorem up (q r : Nat) (hq : q < 4294967296) (hr : r < 4294967296) : q * 4294967296 < 18446744073709551616 ∧ q * 4294967296 + r < 18446744073709551616 := by omega
end M64
set_option maxHeartbeats 1000000 in
theorem mul64_nat (x y : Nat) (hx : x < 18446744073709551616) (hy : y < 18446744073709551616) (w : World) :
  Calls Tryz.prog 101 #[.int .u64 x, .int .u64 y] w fun e w' => e = .returned (.tuple #[.int .u64 ((x * y / 18446744073709551616 : Nat) : Int), .int .u64 ((x * y % 18446744073709551616 : Nat) : Int)]) ∧ w = w' := by
 obtain ⟨bd, bt, bw, hhi⟩ := Lib.mul64_hi x y hx hy
 have ba := Lib.half_mul_le (a := x / 4294967296) (b := y / 4294967296) (by omega) (by omega)
 have bb := Lib.half_mul_le (a := x / 4294967296) (b := y % 4294967296) (by omega) (by omega)
 have bc := Lib.half_mul_le (a := x % 4294967296) (b := y / 4294967296) (by omega) (by omega)
 have ba' : x / 4294967296 * (y / 4294967296) < 18446744073709551616 := by omega
 have bb' : x / 4294967296 * (y % 4294967296) < 18446744073709551616 := by omega
 have bc' : x % 4294967296 * (y / 4294967296) < 18446744073709551616 := by omega
 have bh1 : x / 4294967296 * (y / 4294967296) + (x / 4294967296 * (y % 4294967296) + x % 4294967296 * (y % 4294967296) / 4294967296) / 4294967296 < 18446744073709551616 := by omega
 have bh : x / 4294967296 * (y / 4294967296) + (x / 4294967296 * (y % 4294967296) + x % 4294967296 * (y % 4294967296) / 4294967296) / 4294967296 + ((x / 4294967296 * (y % 4294967296) + x % 4294967296 * (y % 4294967296) / 4294967296) % 4294967296 + x % 4294967296 * (y / 4294967296)) / 4294967296 < 18446744073709551616 := by omega
 go_enter Tryz.func101, Tryz.ntmps101
 go_wp2
 simp only [M64.maskN x hx, M64.maskN y hy, M64.divN, M64.mulN, M64.addN, M64.wrapN _ bd, M64.wrapN _ bb', M64.wrapN _ bt, M64.maskN _ bt, M64.wrapN _ bc', M64.wrapN _ bw, M64.wrapN _ ba', M64.wrapN _ bh1, M64.wrapN _ bh, M64.wrapM]
 rw [hhi]
 go_ret2
 exact ⟨rfl, rfl⟩
def hi64 (x y : Int) : Int := x * y / 18446744073709551616
def lo64 (x y : Int) : Int := x * y % 18446744073709551616
theorem mul64_c (w : World) (x y : Int) (hx : U x) (hy : U y) :
  Calls Tryz.prog 101 #[.int .u64 x, .int .u64 y] w fun e w' => e = .returned (.tuple #[.int .u64 (hi64 x y), .int .u64 (lo64 x y)]) ∧ w = w' := by
 obtain ⟨a, rfl⟩ := Int.eq_ofNat_of_zero_le hx.1
 obtain ⟨b, rfl⟩ := Int.eq_ofNat_of_zero_le hy.1
 unfold U at hx hy
 refine (mul64_nat a b (by omega) (by omega) w).mono fun e w' h => ⟨h.1.trans ?_, h.2⟩
 unfold hi64 lo64
 congr 3
theorem hi64_pos {x y : Int} (hx : U x) (hy : U y) : 0 < hi64 x y ↔ 18446744073709551615 < x * y := by
 have := Int.mul_nonneg hx.1 hy.1
 unfold hi64; omega
theorem U_hi64 {x y : Int} (hx : U x) (hy : U y) : U (hi64 x y) := by
 have h0 := Int.mul_nonneg hx.1 hy.1
 have h1 : x * y ≤ 18446744073709551615 * 18446744073709551615 := Int.mul_le_mul hx.2 hy.2 hy.1 (by omega)
 unfold U hi64; omega
theorem U_lo64 (x y : Int) : U (lo64 x y) := by unfold U lo64; omega
theorem lo64_small {x y : Int} (hx : U x) (hy : U y) (h : ¬ 0 < hi64 x y) : lo64 x y = x * y := by
 have h0 := Int.mul_nonneg hx.1 hy.1
 unfold hi64 at h; unfold lo64; omega

set_option maxHeartbeats 400000 in
theorem fixMul_c (w : World) (x y : Int) (hx : U x) (hy : U y) :
  Calls Tryz.prog 62 #[.int .u64 x, .int .u64 y] w fun e w' => e = .returned (.int .u64 (smul x y)) ∧ w = w' := by
 have hp := hi64_pos hx hy
 by_cases h : 0 < hi64 x y
 ·have e : smul x y = 18446744073709551615 := by unfold smul; rw [if_pos (hp.1 h)]
  rw [e]
  clear hp e
  go_enter Tryz.func62, Tryz.ntmps62
  go_wp2_with (go_at_call 101; refine (mul64_c _ x y hx hy).mono ?_; rintro e w' ⟨rfl, rfl⟩)
  go_ret
  exact ⟨rfl, rfl⟩
 ·have e : smul x y = lo64 x y := by unfold smul; rw [if_neg (fun q => h (hp.2 q)), lo64_small hx hy h]
  rw [e]
  clear hp e
  go_enter Tryz.func62, Tryz.ntmps62
  go_wp2_with (go_at_call 101; refine (mul64_c _ x y hx hy).mono ?_; rintro e w' ⟨rfl, rfl⟩)
  go_ret
  exact ⟨rfl, rfl⟩

end Go.Proofs.YtmkcpnlbicijoaaGreat
namespace Go.Proofs.YtmkcpnlbicijoaaGreat
namespace Dv
theorem dlt (a b c : Nat) (h : a < c * b) : a / b < c := Nat.div_lt_of_lt_mul (by rw [Nat.mul_comm]; exact h)
structure Try (u d y1 y0 q r : Nat) : Prop where
 sum : q * y1 + r = u
 big : (u * 4294967296 + d) / (y1 * 4294967296 + y0) ≤ q
theorem mulY (q y1 y0 : Nat) : q * (y1 * 4294967296 + y0) = q * y1 * 4294967296 + q * y0 := by
 rw [Nat.mul_add, Nat.mul_assoc]
section
variable {u d y1 y0 q r : Nat}
theorem Try.first (h1 : 0 < y1) (hd : d < 4294967296) : Try u d y1 y0 (u / y1) (u % y1) := by
 refine ⟨Nat.div_add_mod' u y1, ?_⟩
 refine (Nat.le_div_iff_mul_le h1).2 ?_
 have hq : (u * 4294967296 + d) / (y1 * 4294967296 + y0) * (y1 * 4294967296 + y0) ≤ u * 4294967296 + d := Nat.div_mul_le_self _ _
 rw [mulY] at hq
 generalize (u * 4294967296 + d) / (y1 * 4294967296 + y0) = k at *
 generalize k * y1 = a at *
 generalize k * y0 = b at *
 omega
theorem Try.lt (hu : u < y1 * 4294967296 + y0) (hd : d < 4294967296) : (u * 4294967296 + d) / (y1 * 4294967296 + y0) < 4294967296 := by
 apply dlt
 omega
theorem Try.next (h : Try u d y1 y0 q r) (hu : u < y1 * 4294967296 + y0) (hd : d < 4294967296) (ht : 4294967296 ≤ q ∨ 4294967296 * r + d < q * y0) : 0 < q ∧ Try u d y1 y0 (q - 1) (r + y1) := by
 have hl := Try.lt (y1 := y1) (y0 := y0) hu hd
 have hq : (u * 4294967296 + d) / (y1 * 4294967296 + y0) < q := by
  rcases ht with ht | ht
  ·exact Nat.lt_of_lt_of_le hl ht
  ·apply dlt
   rw [mulY]
   have := h.sum
   generalize q * y1 = a at *
   generalize q * y0 = b at *
   omega
 have h0 : 0 < q := Nat.lt_of_le_of_lt (Nat.zero_le _) hq
 refine ⟨h0, ?_, by omega⟩
 obtain ⟨k, rfl⟩ : ∃ k, q = k + 1 := ⟨q - 1, by omega⟩
 have := h.sum
 rw [Nat.succ_mul] at this
 simp only [Nat.add_sub_cancel]
 omega
theorem Try.done (h : Try u d y1 y0 q r) (hu : u < y1 * 4294967296 + y0) (ht : q * y0 ≤ 4294967296 * r + d) : q = (u * 4294967296 + d) / (y1 * 4294967296 + y0) := by
 refine Nat.le_antisymm ((Nat.le_div_iff_mul_le (by omega)).2 ?_) h.big
 rw [mulY]
 have := h.sum
 generalize q * y1 = a at *
 generalize q * y0 = b at *
 omega
theorem Try.out (h : Try u d y1 y0 q r) (hu : u < y1 * 4294967296 + y0) (hq : q ≤ 4294967296) (hy : y0 < 4294967296) (hr : 4294967296 ≤ r) : q = (u * 4294967296 + d) / (y1 * 4294967296 + y0) := by
 refine h.done hu ?_
 have h1 : q * y0 ≤ 4294967296 * y0 := Nat.mul_le_mul_right _ hq
 omega
theorem Try.most (h1 : 2147483648 ≤ y1) (hy : y0 < 4294967296) (hu : u < y1 * 4294967296 + y0) : u / y1 ≤ 4294967297 := by
 have : u / y1 < 4294967298 := by
  apply dlt
  omega
 omega
end
theorem two_steps {N y p u d1 d0 : Nat} (hp : 0 < p) (hy : 0 < y) (hM : N * p = (u * 4294967296 + d1) * 4294967296 + d0) :
  N / y = (u * 4294967296 + d1) / (y * p) * 4294967296 + ((u * 4294967296 + d1) % (y * p) * 4294967296 + d0) / (y * p) ∧ N % y * p = ((u * 4294967296 + d1) % (y * p) * 4294967296 + d0) % (y * p) := by
 have hyp : 0 < y * p := Nat.mul_pos hy hp
 rw [← Nat.mul_div_mul_right N y hp, ← Nat.mul_mod_mul_right p N y, hM]
 clear hM
 obtain ⟨a, ha⟩ : ∃ a, u * 4294967296 + d1 = a := ⟨_, rfl⟩
 obtain ⟨z, hz⟩ : ∃ z, y * p = z := ⟨_, rfl⟩
 rw [ha, hz]
 rw [hz] at hyp
 clear ha hz
 have e : a * 4294967296 + d0 = z * (a / z * 4294967296) + (a % z * 4294967296 + d0) := by
  have := Nat.div_add_mod a z
  have e2 : z * (a / z * 4294967296) = z * (a / z) * 4294967296 := by rw [Nat.mul_assoc]
  rw [e2]
  generalize z * (a / z) = t at *
  omega
 constructor
 ·conv => lhs; rw [e]
  rw [Nat.mul_add_div hyp]
 ·conv => lhs; rw [e]
  rw [Nat.mul_add_mod]
theorem shifted {hi lo y p r : Nat} (hpr : p * r = 18446744073709551616) (hlo : lo < 18446744073709551616) (hhi : hi < y) :
  (hi * 18446744073709551616 + lo) * p = (hi * p + lo / r) * 18446744073709551616 + lo * p % 18446744073709551616 ∧ hi * p + lo / r < y * p := by
 have hr : 0 < r := by rcases Nat.eq_zero_or_pos r with h | h; · subst h; simp at hpr
                       exact h
 have e : lo / r = lo * p / 18446744073709551616 := by
  have hp : 0 < p := by rcases Nat.eq_zero_or_pos p with h | h; · subst h; simp at hpr
                        exact h
  rw [← hpr, Nat.mul_comm lo p, Nat.mul_div_mul_left _ _ hp]
 have hl : lo / r < p := by
  apply dlt; rw [hpr]; exact hlo
 refine ⟨?_, ?_⟩
 ·rw [e, Nat.add_mul, Nat.add_mul]
  have := Nat.div_add_mod (lo * p) 18446744073709551616
  rw [Nat.mul_right_comm]
  generalize lo * p = t at *
  omega
 ·have : (hi + 1) * p ≤ y * p := Nat.mul_le_mul_right _ hhi
  rw [Nat.succ_mul] at this
  omega
def BitsAt (N c i q r lo : Nat) : Prop := ∃ P R L, P * R = 18446744073709551616 ∧ R = 2 ^ i ∧ L < P ∧ lo = L * R ∧ (q * c + r) * P + L = N ∧ r < c
theorem BitsAt.next {N c i q r lo : Nat} (h : BitsAt N c i q r lo) (hi : i < 64) :
  BitsAt N c (i + 1) (if c ≤ 2 * r + lo / 9223372036854775808 then 2 * q + 1 else 2 * q) (if c ≤ 2 * r + lo / 9223372036854775808 then 2 * r + lo / 9223372036854775808 - c else 2 * r + lo / 9223372036854775808) (2 * lo % 18446744073709551616) := by
 obtain ⟨P, R, L, hPR, hR, hL, hlo, hN, hr⟩ := h
 obtain ⟨P', hP'⟩ : ∃ P', P = 2 * P' := by
  refine ⟨2 ^ (63 - i), ?_⟩
  have h1 : 2 ^ (64 - i) * R = 18446744073709551616 := by rw [hR, ← Nat.pow_add, Nat.sub_add_cancel (by omega)]
  have h0 : 0 < R := by rw [hR]; exact Nat.pow_pos (by omega)
  have h2 : P = 2 ^ (64 - i) := Nat.eq_of_mul_eq_mul_right h0 (hPR.trans h1.symm)
  rw [h2, show 64 - i = (63 - i) + 1 from by omega, Nat.pow_succ, Nat.mul_comm]
 subst hP'
 have h0 : 0 < R := by rw [hR]; exact Nat.pow_pos (by omega)
 have hPR' : P' * R = 9223372036854775808 := by have := hPR; rw [Nat.mul_assoc] at this; omega
 have hP0 : 0 < P' := by rcases Nat.eq_zero_or_pos P' with h | h; · subst h; simp at hPR'
                         exact h
 have hb : lo / 9223372036854775808 = L / P' := by rw [hlo, ← hPR', Nat.mul_div_mul_right _ _ h0]
 have hb1 : L / P' < 2 := Nat.div_lt_of_lt_mul (by rw [Nat.mul_comm]; exact hL)
 have hLd := Nat.div_add_mod L P'
 rw [hb]
 have hlo2 : 2 * lo % 18446744073709551616 = L % P' * (2 * R) := by
  rw [hlo, ← hPR, show 2 * (L * R) = L * (2 * R) from by rw [Nat.mul_left_comm], show 2 * P' * R = P' * (2 * R) from by rw [Nat.mul_assoc, Nat.mul_left_comm], Nat.mul_mod_mul_right]
 refine ⟨P', 2 * R, L % P', by rw [Nat.mul_left_comm]; omega, by rw [hR, Nat.pow_succ, Nat.mul_comm], Nat.mod_lt _ hP0, hlo2, ?_, ?_⟩
 ·have key : (2 * (q * c + r) + L / P') * P' + L % P' = N := by
   rw [← hN, Nat.add_mul, Nat.mul_comm (L / P') P']
   have e : (q * c + r) * (2 * P') = 2 * ((q * c + r) * P') := by rw [Nat.mul_left_comm]
   have e2 : 2 * (q * c + r) * P' = 2 * ((q * c + r) * P') := by rw [Nat.mul_assoc]
   rw [e, e2]
   omega
  rw [← key]
  congr 2
  split
  ·rw [Nat.add_mul, Nat.one_mul, Nat.mul_assoc]; omega
  ·rw [Nat.mul_assoc]; omega
 ·split <;> omega
theorem BitsAt.done {N c q r lo : Nat} (h : BitsAt N c 64 q r lo) : q = N / c ∧ r = N % c := by
 obtain ⟨P, R, L, hPR, hR, hL, hlo, hN, hr⟩ := h
 have hR' : R = 18446744073709551616 := by rw [hR]
 have hP : P = 1 := by rw [hR'] at hPR; omega
 subst hP
 obtain rfl : L = 0 := by omega
 have hN' : N = c * q + r := by rw [← hN, Nat.mul_comm c]; omega
 constructor
 ·rw [hN', Nat.mul_add_div (by omega), Nat.div_eq_of_lt hr]; rfl
 ·rw [hN', Nat.mul_add_mod, Nat.mod_eq_of_lt hr]
end Dv
end Go.Proofs.YtmkcpnlbicijoaaGreat
namespace Go.Proofs.YtmkcpnlbicijoaaGreat
open Go.RowKit
def lenI (x : Int) : Int := (bitLen x.toNat : Nat)
theorem lenI_step (x p : Int) (b : Nat) (hp : p = ((2 ^ b : Nat) : Int)) (h0 : 0 < p) (h : p ≤ x) : lenI x = b + lenI (x / p) := by
 obtain ⟨n, rfl⟩ := Int.eq_ofNat_of_zero_le (show 0 ≤ x by omega)
 subst hp
 have hpn : 0 < 2 ^ b := Nat.two_pow_pos b
 have hn : 2 ^ b ≤ n := by omega
 have h1 : 1 ≤ n / 2 ^ b := (Nat.le_div_iff_mul_le hpn).2 (by omega)
 have := bitLen_shift n b (by omega)
 unfold lenI
 rw [show ((n : Int) / ((2 ^ b : Nat) : Int)).toNat = n / 2 ^ b from by rw [← Int.natCast_ediv]; rfl, show (n : Int).toNat = n from rfl, this]
 omega
theorem lenI_small (x : Int) (h : x ≤ 255) : 0 ≤ lenI x ∧ lenI x ≤ 8 := by
 have := bitLen_le8 x.toNat (by omega)
 unfold lenI; omega
theorem len_ret {k : IntKind} {a b : Int} (h : a = b) : Ending.returned (.int k a) = .returned (.int k b) := by rw [h]
set_option maxRecDepth 100000 in
set_option maxHeartbeats 1000000 in
theorem len64_c (w : World) (x : Int) (h0 : 0 ≤ x) (hx : x ≤ 18446744073709551615) :
  Calls Tryz.prog 167 #[.int .u64 x] w fun e w' => e = .returned (.int .i64 (lenI x)) ∧ w = w' := by
 have f1 := Lib.hid (lenI_step x 4294967296 32 rfl (by omega))
 have f2 := Lib.hid (lenI_step x 65536 16 rfl (by omega))
 have f3 := Lib.hid (lenI_step (x / 4294967296) 65536 16 rfl (by omega))
 have f4 := Lib.hid (fun y => lenI_step y 256 8 rfl (by omega))
 go_enter Tryz.func167, Tryz.ntmps167
 go_wp2
 all_goals
  simp only [len8tab_get]
  go_ret
  refine ⟨len_ret ?_, rfl⟩
  replace f1 := f1.out
  replace f2 := f2.out
  replace f3 := f3.out
  have g1 := f4.out x
  have g2 := f4.out (x / 4294967296)
  have g3 := f4.out (x / 65536)
  have g4 := f4.out (x / 4294967296 / 65536)
  clear f4
  have s0 := lenI_small x
  have s1 := lenI_small (x / 4294967296)
  have s2 := lenI_small (x / 65536)
  have s3 := lenI_small (x / 4294967296 / 65536)
  have s4 := lenI_small (x / 256)
  have s5 := lenI_small (x / 4294967296 / 256)
  have s6 := lenI_small (x / 65536 / 256)
  have s7 := lenI_small (x / 4294967296 / 65536 / 256)
  simp only [lenI, wrap64] at *
  omega
theorem lenI_le (x : Int) (h0 : 0 ≤ x) (hx : x ≤ 18446744073709551615) : 0 ≤ lenI x ∧ lenI x ≤ 64 := by
 have f1 := lenI_step x 4294967296 32 rfl (by omega)
 have f2 := lenI_step x 65536 16 rfl (by omega)
 have f3 := lenI_step (x / 4294967296) 65536 16 rfl (by omega)
 have f4 := fun y => lenI_step y 256 8 rfl (by omega)
 have g1 := f4 x
 have g2 := f4 (x / 4294967296)
 have g3 := f4 (x / 65536)
 have g4 := f4 (x / 4294967296 / 65536)
 have s0 := lenI_small x
 have s1 := lenI_small (x / 4294967296)
 have s2 := lenI_small (x / 65536)
 have s3 := lenI_small (x / 4294967296 / 65536)
 have s4 := lenI_small (x / 256)
 have s5 := lenI_small (x / 4294967296 / 256)
 have s6 := lenI_small (x / 65536 / 256)
 have s7 := lenI_small (x / 4294967296 / 65536 / 256)
 omega
theorem lead_pow (y : Nat) (h0 : 0 < y) (hy : y < 18446744073709551616) : ∃ s : Nat, 64 - lenI y = (s : Int) ∧ s < 64 ∧ 2 ^ s * 2 ^ (64 - s) = 18446744073709551616 ∧ 9223372036854775808 ≤ y * 2 ^ s ∧ y * 2 ^ s < 18446744073709551616 := by
 obtain ⟨h1, h2⟩ := bitLen_spec y
 have h3 := h2 (by omega)
 have hle := (lenI_le y (by omega) (by omega)).2
 unfold lenI at hle ⊢
 simp only [Int.toNat_natCast] at hle ⊢
 have hb : 0 < bitLen y := by
  rcases Nat.eq_zero_or_pos (bitLen y) with h | h
  ·rw [h] at h1; simp at h1; omega
  ·exact h
 have hpow : ∀ a b : Nat, a + b = 64 → 2 ^ a * 2 ^ b = 18446744073709551616 := fun a b h => by rw [← Nat.pow_add, h]
 have hpow' : ∀ a b : Nat, a + b = 63 → 2 ^ a * 2 ^ b = 9223372036854775808 := fun a b h => by rw [← Nat.pow_add, h]
 refine ⟨64 - bitLen y, by omega, by omega, hpow _ _ (by omega), ?_, ?_⟩
 ·rw [← hpow' (bitLen y - 1) (64 - bitLen y) (by omega)]
  exact Nat.mul_le_mul_right _ h3
 ·rw [← hpow (bitLen y) (64 - bitLen y) (by omega)]
  exact Nat.mul_lt_mul_of_pos_right h1 (Nat.two_pow_pos _)
theorem leadingZeros64_c (w : World) (x : Int) (h0 : 0 ≤ x) (hx : x ≤ 18446744073709551615) :
  Calls Tryz.prog 163 #[.int .u64 x] w fun e w' => e = .returned (.int .i64 (64 - lenI x)) ∧ w = w' := by
 have hl := lenI_le x h0 hx
 go_enter Tryz.func163, Tryz.ntmps163
 go_wp2_with fail
 refine (len64_c _ x h0 hx).mono ?_
 rintro e w' ⟨rfl, rfl⟩
 go_wp2_with fail
 go_ret
 exact ⟨rfl, rfl⟩
end Go.Proofs.YtmkcpnlbicijoaaGreat
