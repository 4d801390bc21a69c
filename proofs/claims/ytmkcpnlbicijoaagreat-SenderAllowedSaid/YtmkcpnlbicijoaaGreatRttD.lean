/- rtt: round trips, smoothed, as plain data. -/
import Derived.Test.YtmkcpnlbicijoaaGreatBase
import Derived.Test.YtmkcpnlbicijoaaGreatDiv64
namespace Go.Proofs.YtmkcpnlbicijoaaGreat
open Go.RowKit
theorem star_ext {L : List Asn} : ∀ {h1 h2 h : PH}, star L h2 → (∀ k, h1 k = none ∨ h2 k = none) → (∀ k, h k = (h1 k).or (h2 k)) → star L h := by
 induction L with
 | nil => intro _ _ _ _ _ _; trivial
 | cons A L ih =>
  rintro h1 h2 h ⟨ha, hb, a, b, d, e⟩ hd he
  refine ⟨ha, fun k => (h1 k).or (hb k), a, ih b (fun k => ?_) (fun _ => rfl), fun k => ?_, fun k => ?_⟩
  ·rcases hd k with q | q
   ·exact .inl q
   ·right
    rw [e k] at q
    rcases d k with r | r
    ·rw [r] at q; simpa using q
    ·exact r
  ·rcases hd k with q | q
   ·rcases d k with r | r
    ·exact .inl r
    ·right; show (h1 k).or (hb k) = none; rw [q, r]; rfl
   ·left
    rw [e k] at q
    cases r : ha k with
    | none => rfl
    | some x => rw [r] at q; cases q
  ·show h k = (ha k).or ((h1 k).or (hb k))
   rw [he k, e k]
   rcases hd k with q | q
   ·rw [q]; simp
   ·rw [e k] at q
    cases r : ha k with
    | none => simp
    | some x => rw [r] at q; cases q
def Pm (L L' : List Asn) : Prop := ∀ h, star L h → star L' h
section
variable {A B C D E F G J : Asn} {L L' : List Asn}
theorem Pm.refl (L : List Asn) : Pm L L := fun _ x => x
theorem Pm.nil (L : List Asn) : Pm L [] := fun _ _ => trivial
theorem Pm.here (f : Pm L L') : Pm (A :: L) (A :: L') := fun _ x => star_in f x
theorem Pm.at2 (f : Pm (B :: L) L') : Pm (B :: A :: L) (A :: L') := fun _ x => star_in f (star_r2 x)
theorem Pm.at3 (f : Pm (B :: C :: L) L') : Pm (B :: C :: A :: L) (A :: L') := fun _ x => star_in f (star_r3 x)
theorem Pm.at4 (f : Pm (B :: C :: D :: L) L') : Pm (B :: C :: D :: A :: L) (A :: L') := fun _ x => star_in f (star_r4 x)
theorem Pm.at5 (f : Pm (B :: C :: D :: E :: L) L') : Pm (B :: C :: D :: E :: A :: L) (A :: L') := fun _ x => star_in f (star_r5 x)
theorem Pm.at6 (f : Pm (B :: C :: D :: E :: F :: L) L') : Pm (B :: C :: D :: E :: F :: A :: L) (A :: L') := fun _ x => star_in f (star_r6 x)
theorem Pm.at7 (f : Pm (B :: C :: D :: E :: F :: G :: L) L') : Pm (B :: C :: D :: E :: F :: G :: A :: L) (A :: L') := fun _ x => star_in f (star_r7 x)
theorem star_r8 {R : List Asn} {h : PH} (x : star (A :: B :: C :: D :: E :: F :: G :: J :: R) h) : star (J :: A :: B :: C :: D :: E :: F :: G :: R) h := star_r2 (star_in (fun _ y => star_r7 y) x)
theorem Pm.at8 (f : Pm (B :: C :: D :: E :: F :: G :: J :: L) L') : Pm (B :: C :: D :: E :: F :: G :: J :: A :: L) (A :: L') := fun _ x => star_in f (star_r8 x)
theorem Pm.skip (f : Pm L L') : Pm (A :: L) L' := fun h x => by
 obtain ⟨h1, h2, _, b, d, e⟩ := x
 exact f h (star_ext b d e)
end
theorem Own.pm {ε w : World} {L L' : List Asn} (H : Own ε w L) (f : Pm L L') : Own ε w L' := H.map f
def Kp (w w' : World) : Prop := ∀ ε L, Own ε w L → Own ε w' L
theorem Kp.same {w w' : World} (h : w = w') : Kp w w' := fun _ _ H => h ▸ H
theorem Kp.drew {w w' : World} (h : ∃ n, w' = w.drewN n) : Kp w w' := fun _ _ H => by
 obtain ⟨n, rfl⟩ := h
 exact H.drewN n
theorem Kp.below {w w' : World} (h : Below w.heap.size w w') : Kp w w' := fun _ _ H => H.below h
theorem Below.of_drewN (w : World) (n : Nat) : Below w.heap.size w (w.drewN n) := ⟨rfl, rfl, rfl, Nat.le_refl _, fun _ _ => rfl⟩
theorem Below.of_drewN_alloc (w : World) (n : Nat) (o : Obj) : Below w.heap.size w ((w.alloc o).drewN n) := ⟨rfl, rfl, rfl, by show _ ≤ (w.heap.push o).size; simp, fun k hk => by show (w.heap.push o)[k]? = _; rw [Array.getElem?_push, if_neg (by omega)]⟩
theorem Own.pn {ε w : World} {L L' : List Asn} (H : Own ε w L) (f : Pm L L' := by with_reducible repeat (first | exact .refl _ | exact .nil _ | refine .here ?_ | refine .at2 ?_ | refine .at3 ?_ | refine .at4 ?_ | refine .at5 ?_ | refine .at6 ?_ | refine .at7 ?_ | refine .at8 ?_ | refine .skip ?_)) : Own ε w L' := H.pm f
end Go.Proofs.YtmkcpnlbicijoaaGreat
namespace Go.Proofs.YtmkcpnlbicijoaaGreat
open Go.RowKit
def sshare (a b c : Int) : Int := if c ≤ hi64 a b then 18446744073709551615 else a * b / c
def sover (a b c : Int) : Int := if c ≤ hi64 a b then 18446744073709551615 else if 0 < a * b % c then sadd (a * b / c) 1 else a * b / c
theorem hi_lo (a b : Int) : hi64 a b * 18446744073709551616 + lo64 a b = a * b := by unfold hi64 lo64; omega
theorem quo_U {a b c : Int} (ha : U a) (hb : U b) (h : hi64 a b < c) : U (a * b / c) ∧ 0 ≤ a * b % c ∧ a * b % c < c := by
 have h0 := (U_hi64 ha hb).1
 have hm := Int.mul_nonneg ha.1 hb.1
 have hc : 0 < c := by omega
 refine ⟨⟨Int.ediv_nonneg hm (by omega), ?_⟩, Int.emod_nonneg _ (by omega), Int.emod_lt_of_pos _ hc⟩
 have h1 := hi_lo a b
 have h2 := U_lo64 a b
 unfold U at h2
 have : a * b < c * 18446744073709551616 := by
  rw [← h1]; omega
 have := Int.ediv_lt_of_lt_mul hc (show a * b < 18446744073709551616 * c by rw [Int.mul_comm 18446744073709551616]; exact this)
 omega
theorem U_sshare {a b c : Int} (ha : U a) (hb : U b) : U (sshare a b c) := by
 unfold sshare
 split
 ·unfold U; omega
 ·exact (quo_U ha hb (by omega)).1
theorem U_sover {a b c : Int} (ha : U a) (hb : U b) : U (sover a b c) := by
 unfold sover
 split
 ·unfold U; omega
 ·have := (quo_U ha hb (show hi64 a b < c by omega)).1
  split
  ·exact U_sadd this (by unfold U; omega)
  ·exact this
section
variable (w : World) (a b c : Int) (ha : U a) (hb : U b) (hc : U c)
include ha hb hc
omit hc in
theorem fixDivide_no (h : c ≤ hi64 a b) :
  Calls Tryz.prog 126 #[.int .u64 a, .int .u64 b, .int .u64 c] w fun e w' => e = .returned (.tuple #[.int .u64 0, .int .u64 0, .bool false]) ∧ w = w' := by
 go_enter Tryz.func126, Tryz.ntmps126
 go_wp2_with fail
 refine (mul64_c _ a b ha hb).mono ?_
 rintro e w' ⟨rfl, rfl⟩
 go_wp2
 go_ret3
 exact ⟨rfl, rfl⟩
theorem fixDivide_yes (h : hi64 a b < c) :
  Calls Tryz.prog 126 #[.int .u64 a, .int .u64 b, .int .u64 c] w fun e w' => e = .returned (.tuple #[.int .u64 (a * b / c), .int .u64 (a * b % c), .bool true]) ∧ ∃ n, w' = w.drewN n := by
 have hd := div64_c w (hi64 a b) (lo64 a b) c (U_lo64 a b) hc (U_hi64 ha hb).1 h
 rw [hi_lo] at hd
 go_enter Tryz.func126, Tryz.ntmps126
 go_wp2_with fail
 refine (mul64_c _ a b ha hb).mono ?_
 rintro e w' ⟨rfl, rfl⟩
 go_wp2_with fail
 refine hd.mono ?_
 rintro e w' ⟨rfl, n, rfl⟩
 go_wp2
 go_ret3
 exact ⟨rfl, n, rfl⟩
theorem fixShare_c :
  Calls Tryz.prog 97 #[.int .u64 a, .int .u64 b, .int .u64 c] w fun e w' => e = .returned (.int .u64 (sshare a b c)) ∧ ∃ n, w' = w.drewN n := by
 by_cases h : c ≤ hi64 a b
 ·unfold sshare
  rw [if_pos h]
  go_enter Tryz.func97, Tryz.ntmps97
  go_wp2_with fail
  refine (fixDivide_no _ a b c ha hb h).mono ?_
  rintro e w' ⟨rfl, rfl⟩
  go_wp2_with fail
  go_ret
  exact ⟨rfl, 0, rfl⟩
 ·unfold sshare
  rw [if_neg h]
  have hd := fixDivide_yes w a b c ha hb hc (by omega)
  go_enter Tryz.func97, Tryz.ntmps97
  go_wp2_with fail
  refine hd.mono ?_
  rintro e w' ⟨rfl, n, rfl⟩
  go_wp2_with fail
  go_ret
  exact ⟨rfl, n, rfl⟩
theorem fixOver_c :
  Calls Tryz.prog 88 #[.int .u64 a, .int .u64 b, .int .u64 c] w fun e w' => e = .returned (.int .u64 (sover a b c)) ∧ Below w.heap.size w w' := by
 by_cases h : c ≤ hi64 a b
 ·unfold sover
  rw [if_pos h]
  go_enter Tryz.func88, Tryz.ntmps88
  go_wp2_with fail
  refine (fixDivide_no _ a b c ha hb h).mono ?_
  rintro e w' ⟨rfl, rfl⟩
  go_wp2_with fail
  go_ret
  exact ⟨rfl, Below.refl _ _⟩
 ·unfold sover
  rw [if_neg h]
  have hd := fixDivide_yes w a b c ha hb hc (by omega)
  have hq := quo_U ha hb (show hi64 a b < c by omega)
  have hqU := Lib.hid hq.1
  clear hq
  by_cases hr : 0 < a * b % c
  ·rw [if_pos hr]
   go_enter Tryz.func88, Tryz.ntmps88
   go_wp2_with fail
   refine hd.mono ?_
   rintro e w' ⟨rfl, n, rfl⟩
   go_wp2_with fail
   refine (fixAdd2_c _ _ (a * b / c) 1 hqU.out (by unfold U; omega) (cell_new _ _ _ 0) (cell_new _ _ _ 1)).mono ?_
   rintro e w' ⟨rfl, rfl⟩
   go_wp2_with fail
   go_ret
   exact ⟨rfl, Below.of_drewN_alloc w n _⟩
  ·rw [if_neg hr]
   go_enter Tryz.func88, Tryz.ntmps88
   go_wp2_with fail
   refine hd.mono ?_
   rintro e w' ⟨rfl, n, rfl⟩
   go_wp2_with fail
   go_ret
   exact ⟨rfl, Below.of_drewN w n⟩
end
end Go.Proofs.YtmkcpnlbicijoaaGreat
namespace Go.Proofs.YtmkcpnlbicijoaaGreat
end Go.Proofs.YtmkcpnlbicijoaaGreat
namespace Go.Proofs.YtmkcpnlbicijoaaGreat
structure Rtt where
 last : Int
 smooth : Int
 spread : Int
 some : Bool
 dbl : Int
def Rtt.zero : Rtt := ⟨0, 0, 0, false, 0⟩
structure Rtt.Ok (s : Rtt) : Prop where
 last : U s.last
 smooth : U s.smooth
 spread : U s.spread
 d0 : 0 ≤ s.dbl
 d6 : s.dbl ≤ 6
def Rtt.far (s : Rtt) (x : Int) : Int := max (ssub s.smooth x) (ssub x s.smooth)
def Rtt.put (s : Rtt) (x : Int) : Rtt := if s.some = true then ⟨x, sadd (smul 7 s.smooth) x / 8, sadd (smul 3 s.spread) (s.far x) / 4, true, 0⟩ else ⟨x, x, x / 2, true, 0⟩
def Rtt.double (s : Rtt) : Rtt := { s with dbl := min (s.dbl + 1) 6 }
def Rtt.base (s : Rtt) : Int := if s.some = true then max (sadd s.smooth (max (smul 4 s.spread) 1000)) 10000 else 1000000
def Rtt.limit (s : Rtt) : Int := smul s.base (2 ^ s.dbl.toNat)
def Rtt.delay (s : Rtt) : Int := max (sover (max s.smooth s.last) 9 8) 1000
theorem Rtt.ok_zero : Rtt.zero.Ok := ⟨U_zero, U_zero, U_zero, Int.le_refl _, by decide⟩
theorem U_div {x : Int} (h : U x) (k : Int) (hk : 0 < k) : U (x / k) := by
 unfold U at *
 refine ⟨Int.ediv_nonneg h.1 (by omega), Int.le_trans (Int.ediv_le_self k h.1) h.2⟩
theorem Rtt.ok_far {s : Rtt} (h : s.Ok) {x : Int} (hx : U x) : U (s.far x) := by
 have a := U_ssub h.smooth hx
 have b := U_ssub hx h.smooth
 unfold Rtt.far U at *
 omega
theorem Rtt.ok_put {s : Rtt} (h : s.Ok) {x : Int} (hx : U x) : (s.put x).Ok := by
 unfold Rtt.put
 split
 ·exact ⟨hx, U_div (U_sadd (U_smul (by decide) h.smooth) hx) 8 (by decide), U_div (U_sadd (U_smul (by decide) h.spread) (Rtt.ok_far h hx)) 4 (by decide), Int.le_refl _, show (0 : Int) ≤ 6 by decide⟩
 ·exact ⟨hx, hx, U_div hx 2 (by decide), Int.le_refl _, show (0 : Int) ≤ 6 by decide⟩
theorem Rtt.ok_double {s : Rtt} (h : s.Ok) : s.double.Ok := by
 have a := h.d0
 have b := h.d6
 exact ⟨h.last, h.smooth, h.spread, show (0 : Int) ≤ min (s.dbl + 1) 6 by omega, show min (s.dbl + 1) 6 ≤ 6 by omega⟩
theorem U_max2 {a b : Int} (h : U a) (h' : U b) : U (max a b) := by unfold U at *; omega
theorem Rtt.U_base {s : Rtt} (h : s.Ok) : U s.base := by
 unfold Rtt.base
 split
 ·exact U_max2 (U_sadd h.smooth (U_max2 (U_smul (by decide) h.spread) (by decide))) (by decide)
 ·decide
theorem pow_small {d : Int} (h0 : 0 ≤ d) (h6 : d ≤ 6) : U (2 ^ d.toNat) ∧ (2 : Int) ^ d.toNat ≤ 64 := by
 rcases (show d = 0 ∨ d = 1 ∨ d = 2 ∨ d = 3 ∨ d = 4 ∨ d = 5 ∨ d = 6 by omega) with rfl | rfl | rfl | rfl | rfl | rfl | rfl <;> decide
theorem Rtt.U_limit {s : Rtt} (h : s.Ok) : U s.limit := U_smul (Rtt.U_base h) (pow_small h.d0 h.d6).1
theorem Rtt.U_delay {s : Rtt} (h : s.Ok) : U s.delay := U_max2 (U_sover (U_max2 h.smooth h.last) (by decide)) (by decide)
end Go.Proofs.YtmkcpnlbicijoaaGreat
