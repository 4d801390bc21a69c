/- filt: the last of the best, in plain words. -/
import Derived.Test.YtpfbbpiidhhkbaaGreatFilt2
import Derived.Test.YtpfbbpiidhhkbaaGreatFiltD
namespace Go.Proofs.YtpfbbpiidhhkbaaGreat
open Go.RowKit
section
variable (ε w : World) (R : List Asn) (b : Nat)
set_option maxHeartbeats 1600000 in
theorem filBest_c (s : Fil) (H : Own ε w (fil b s :: R)) :
    Calls Tryz.prog 52 #[.pointer (some ⟨b, 0, none⟩)] w fun e w' => e = .returned (.tuple #[.int .u64 s.best.1.2, .int .u64 s.best.1.1, .bool s.best.2]) ∧ Own ε w' (fil b s :: R) := by
  obtain ⟨rb, H⟩ := H.fil_open
  have HH := Lib.hid H; clear H
  obtain ⟨win, now, least, l⟩ := s
  have hat : atC [.int .u64 0, .int .u64 0] (l.map encR) 0 = ([.int .u64 (⟨win, now, least, l⟩ : Fil).best.1.1, .int .u64 (⟨win, now, least, l⟩ : Fil).best.1.2], (⟨win, now, least, l⟩ : Fil).best.2) := by
    cases l with
    | nil => simp [atC, Fil.best]
    | cons r l => rw [show (0 : Int) = ((0 : Nat) : Int) from rfl, atC_in (by simp)]; rfl
  generalize (⟨win, now, least, l⟩ : Fil).best = r at hat ⊢
  obtain ⟨⟨p, q⟩, fl⟩ := r
  replace hat := Lib.hid hat
  go_enter Tryz.func52, Tryz.ntmps52
  (try clear cc1_); (try clear cc2_); (try clear cc3_); (try clear cc4_); (try clear cc5_); (try clear cc6_); (try clear cc7_)
  have cc1_ := HH.out.cells
  go_wp2_with fail
  refine (rgAt_c ε _ _ rb (l.map encR) 0 HH.out.r2).mono ?_
  rw [hat.out]
  rintro e w1_ ⟨rfl, H9_⟩
  replace HH := Lib.hid H9_
  clear H9_
  (try clear cc1_); (try clear cc2_); (try clear cc3_); (try clear cc4_); (try clear cc5_); (try clear cc6_); (try clear cc7_)
  go_wp2_with (with_reducible refine stop_al ?_)
  refine Stop.go ?_
  refine wpList_alloc_own HH.out [.int .u64 0, .int .u64 0] (by kernel_rfl) ?_
  intro sx w2_ H9_
  replace HH := Lib.hid H9_
  clear H9_
  go_wp2_with (with_reducible refine stop_st ?_)
  refine Stop.go ?_
  refine wpList_store_own _ #[_, _] rfl rfl HH.out (by kernel_rfl) rfl (by repeat (first | (refine List.forall_mem_cons.2 ⟨(by first | with_reducible assumption | rfl), ?_⟩) | exact fun _ h => absurd h List.not_mem_nil)) ?_
  intro w3_ H9_
  replace HH := Lib.hid H9_
  clear H9_
  go_wp2_with fail
  refine wp_region_reg none HH.out (by kernel_rfl) ?_
  intro wm H9_
  replace HH := Lib.hid H9_
  clear H9_
  refine reg_p (i := 0) rfl (by kernel_rfl) (fun _ _ _ _ h => h) HH.out (fun K hK => ?_)
  go_simp
  (first | refine hK _ ?_ | (apply Exists.intro; refine ⟨?_, hK _ ?_⟩; focus intro wx; first | (go_simp; rfl) | rfl)); clear hK K
  refine mixk_q (i := 1) rfl (by kernel_rfl) (fun _ _ _ _ h => h) HH.out (fun K hK => ?_)
  go_simp
  (first | refine hK _ ?_ | (apply Exists.intro; refine ⟨?_, hK _ ?_⟩; focus intro wx hx; have x1_ := hx.cells; first | (go_simp; first | rfl | exact ⟨rfl, rfl⟩) | rfl | exact ⟨rfl, rfl⟩)); clear hK K
  refine reg_p (i := 2) rfl (by kernel_rfl) (fun _ _ _ _ h => h) HH.out (fun K hK => ?_)
  go_simp
  (first | refine hK _ ?_ | (apply Exists.intro; refine ⟨?_, hK _ ?_⟩; focus intro wx; first | (go_simp; rfl) | rfl)); clear hK K
  refine mixk_q (i := 3) rfl (by kernel_rfl) (fun _ _ _ _ h => h) HH.out (fun K hK => ?_)
  go_simp
  (first | refine hK _ ?_ | (apply Exists.intro; refine ⟨?_, hK _ ?_⟩; focus intro wx hx; have x1_ := hx.cells; first | (go_simp; first | rfl | exact ⟨rfl, rfl⟩) | rfl | exact ⟨rfl, rfl⟩)); clear hK K
  refine reg_p (i := 4) rfl (by kernel_rfl) (fun _ _ _ _ h => h) HH.out (fun K hK => ?_)
  go_simp
  (first | refine hK _ ?_ | (apply Exists.intro; refine ⟨?_, hK _ ?_⟩; focus intro wx; first | (go_simp; rfl) | rfl)); clear hK K
  refine reg_p (i := 5) rfl (by kernel_rfl) (fun _ _ _ _ h => h) HH.out (fun K hK => ?_)
  go_simp
  (first | refine hK _ ?_ | (apply Exists.intro; refine ⟨?_, hK _ ?_⟩; focus intro wx; first | (go_simp; rfl) | rfl)); clear hK K
  refine reg_p (i := 6) rfl (by kernel_rfl) (fun _ _ _ _ h => h) HH.out (fun K hK => ?_)
  go_simp
  (first | refine hK _ ?_ | (apply Exists.intro; refine ⟨?_, hK _ ?_⟩; focus intro wx; first | (go_simp; rfl) | rfl)); clear hK K
  refine reg_p (i := 7) rfl (by kernel_rfl) (fun _ _ _ _ h => h) HH.out (fun K hK => ?_)
  go_simp
  (first | refine hK _ ?_ | (apply Exists.intro; refine ⟨?_, hK _ ?_⟩; focus intro wx; first | (go_simp; rfl) | rfl)); clear hK K
  refine mixk_done (by kernel_rfl) (fun w4_ hk => ?_) _
  replace HH := Lib.hid (hk _ _ HH.out)
  clear hk
  go_wp2_with fail
  go_ret3
  have H9 := ((Own.pm (HH.out) (by with_reducible repeat (first | exact .refl _ | exact .nil _ | refine .here ?_ | refine .at2 ?_ | refine .at3 ?_ | refine .at4 ?_ | refine .at5 ?_ | refine .at6 ?_ | refine .at7 ?_ | refine .at8 ?_ | refine .skip ?_))) : Own ε _ (pts b _ :: rgRing rb _ :: R))
  exact ⟨rfl, Own.fil_mk ε _ R b (s := ⟨win, now, least, l⟩) H9⟩
end
end Go.Proofs.YtpfbbpiidhhkbaaGreat
namespace Go.Proofs.YtpfbbpiidhhkbaaGreat
def bestF (win now : Int) (least : Bool) (acc : (Int × Int) × Bool) (r : Int × Int) : (Int × Int) × Bool :=
  if sadd r.1 win < now then acc else if acc.2 = false ∨ aheadOf least acc.1.2 r.2 = false then (r, true) else acc
def refBest (win now : Int) (least : Bool) (all : List (Int × Int)) : (Int × Int) × Bool := all.foldl (bestF win now least) ((0, 0), false)
def surv (least : Bool) (all : List (Int × Int)) : List (Int × Int) := all.foldl (fun row r => Fil.worse least r.2 row ++ [r]) []
theorem refBest_snoc (win now : Int) (least : Bool) (all : List (Int × Int)) (r : Int × Int) : refBest win now least (all ++ [r]) = bestF win now least (refBest win now least all) r := by simp [refBest]
theorem surv_snoc (least : Bool) (all : List (Int × Int)) (r : Int × Int) : surv least (all ++ [r]) = Fil.worse least r.2 (surv least all) ++ [r] := by simp [surv]
theorem old_old {win now t : Int} (h : now ≤ t) (l : List (Int × Int)) : Fil.old win t (Fil.old win now l) = Fil.old win t l := by
  induction l with
  | nil => rfl
  | cons q l ih =>
    rw [Fil.old_cons win now]
    split
    · rw [ih, Fil.old_cons win t, if_pos (by omega)]
    · rfl
theorem old_snoc {win t : Int} (l : List (Int × Int)) (r : Int × Int) (hc : ¬ sadd r.1 win < t) : Fil.old win t (l ++ [r]) = Fil.old win t l ++ [r] := by
  induction l with
  | nil => rw [List.nil_append, Fil.old_cons, if_neg hc]; rfl
  | cons q l ih =>
    rw [List.cons_append, Fil.old_cons, Fil.old_cons]
    split
    · exact ih
    · rfl
theorem dropWhile_all {α : Type} {p : α → Bool} {l : List α} (h : ∀ r ∈ l, p r = true) : l.dropWhile p = [] := by
  induction l with
  | nil => rfl
  | cons q l ih => rw [List.dropWhile_cons, if_pos (h q (List.mem_cons_self ..))]; exact ih fun r hr => h r (List.mem_cons_of_mem _ hr)
theorem worse_gone {least : Bool} {x : Int} {gone : List (Int × Int)} (h : ∀ r ∈ gone, aheadOf least r.2 x = false) : Fil.worse least x gone = [] := by
  unfold Fil.worse
  rw [List.reverse_eq_nil_iff]
  refine dropWhile_all fun r hr => ?_
  rw [h r (List.mem_reverse.1 hr)]; rfl
theorem worse_keep {least : Bool} {x : Int} {k gone : List (Int × Int)} (h : ∀ r ∈ gone, aheadOf least r.2 x = false) {q : Int × Int} (hq : k.getLast? = some q) (ha : aheadOf least q.2 x = true) : Fil.worse least x (k ++ gone) = k := by
  unfold Fil.worse
  rw [List.reverse_append, List.dropWhile_append]
  have e : (gone.reverse.dropWhile fun r => !aheadOf least r.2 x) = [] := by
    refine dropWhile_all fun r hr => ?_
    rw [h r (List.mem_reverse.1 hr)]; rfl
  rw [e]
  rcases List.eq_nil_or_concat k with e | ⟨k0, p, e⟩
  · rw [e] at hq; cases hq
  · have e2 : k = k0 ++ [p] := by simpa using e
    subst e2
    rw [List.getLast?_append] at hq
    have hp : p = q := by simpa using hq
    subst hp
    simp [ha]
theorem last_old {win t : Int} {l : List (Int × Int)} (h : Fil.old win t l ≠ []) : (Fil.old win t l).getLast? = l.getLast? := by
  induction l with
  | nil => exact absurd rfl h
  | cons q l ih =>
    rw [Fil.old_cons] at h ⊢
    split
    · rename_i hq
      rw [if_pos hq] at h
      rw [ih h]
      cases l with
      | nil => exact absurd rfl h
      | cons p l => simp [List.getLast?_cons_cons]
    · rfl
theorem old_append (win t : Int) (k gone : List (Int × Int)) : Fil.old win t (k ++ gone) = if Fil.old win t k = [] then Fil.old win t gone else Fil.old win t k ++ gone := by
  unfold Fil.old
  rw [List.dropWhile_append]
  simp only [List.isEmpty_iff]
theorem old_worse {win t : Int} {least : Bool} (l : List (Int × Int)) (r : Int × Int) (hc : ¬ sadd r.1 win < t) : Fil.old win t (Fil.worse least r.2 l ++ [r]) = Fil.worse least r.2 (Fil.old win t l) ++ [r] := by
  rw [old_snoc _ _ hc]
  congr 1
  obtain ⟨gone, h1, h2, h3⟩ := worse_split least r.2 l
  generalize Fil.worse least r.2 l = k at h1 h3
  subst h1
  rw [old_append]
  by_cases e : Fil.old win t k = []
  · have hg : Fil.worse least r.2 (Fil.old win t gone) = [] := worse_gone fun q hq => h2 q ((List.dropWhile_sublist _).subset hq)
    rw [if_pos e, e, hg]
  · rw [if_neg e]
    have hl := last_old e
    cases hk : k.getLast? with
    | none =>
      have : k = [] := List.getLast?_eq_none_iff.1 hk
      subst this
      exact absurd rfl e
    | some q => rw [worse_keep h2 (hl.trans hk) (h3 q hk)]
theorem worse_sorted {least : Bool} {l : List (Int × Int)} (r : Int × Int) (hs : l.Pairwise fun a b => aheadOf least a.2 b.2 = true) : (Fil.worse least r.2 l ++ [r]).Pairwise fun a b => aheadOf least a.2 b.2 = true := by
  obtain ⟨gone, h1, h2, h3⟩ := worse_split least r.2 l
  generalize Fil.worse least r.2 l = k at *
  rw [h1, List.pairwise_append] at hs
  rw [List.pairwise_append]
  refine ⟨hs.1, List.pairwise_singleton .., ?_⟩
  intro a ha b hb
  rw [List.mem_singleton.1 hb]
  rcases List.eq_nil_or_concat k with e | ⟨k0, q, e⟩
  · rw [e] at ha; cases ha
  · have e2 : k = k0 ++ [q] := by simpa using e
    have hq := h3 q (by rw [e2]; simp)
    rw [e2] at ha
    rcases List.mem_append.1 ha with ha | ha
    · have hp := hs.1
      rw [e2, List.pairwise_append] at hp
      exact ahead_trans (hp.2.2 a ha q (by simp)) hq
    · rw [List.mem_singleton.1 ha]; exact hq
theorem surv_sorted (least : Bool) (rev : List (Int × Int)) : (surv least rev.reverse).Pairwise fun a b => aheadOf least a.2 b.2 = true := by
  induction rev with
  | nil => exact List.Pairwise.nil
  | cons r rev ih => rw [List.reverse_cons, surv_snoc]; exact worse_sorted r ih
def headR (l : List (Int × Int)) : (Int × Int) × Bool := match l with
  | [] => ((0, 0), false)
  | q :: _ => (q, true)
theorem worse_sub (least : Bool) (x : Int) (l : List (Int × Int)) : ∀ r ∈ Fil.worse least x l, r ∈ l := by
  obtain ⟨gone, h1, _, _⟩ := worse_split least x l
  intro r hr
  rw [h1]; exact List.mem_append_left _ hr
theorem surv_sub (least : Bool) (rev : List (Int × Int)) : ∀ r ∈ surv least rev.reverse, r ∈ rev := by
  induction rev with
  | nil => intro r h; cases h
  | cons q rev ih =>
    intro r hr
    rw [List.reverse_cons, surv_snoc] at hr
    rcases List.mem_append.1 hr with hr | hr
    · exact List.mem_cons_of_mem _ (ih r (worse_sub _ _ _ r hr))
    · rw [List.mem_singleton.1 hr]; exact List.mem_cons_self ..
theorem refBest_none {win now : Int} {least : Bool} {rev : List (Int × Int)} (h : ∀ r ∈ rev, sadd r.1 win < now) : refBest win now least rev.reverse = ((0, 0), false) := by
  induction rev with
  | nil => rfl
  | cons q rev ih =>
    rw [List.reverse_cons, refBest_snoc, ih fun r hr => h r (List.mem_cons_of_mem _ hr)]
    unfold bestF
    rw [if_pos (h q (List.mem_cons_self ..))]
theorem worse_head {least : Bool} {q : Int × Int} {l : List (Int × Int)} (r : Int × Int) (hs : (q :: l).Pairwise fun a b => aheadOf least a.2 b.2 = true) : headR (Fil.worse least r.2 (q :: l) ++ [r]) = if aheadOf least q.2 r.2 = false then (r, true) else (q, true) := by
  obtain ⟨gone, h1, h2, h3⟩ := worse_split least r.2 (q :: l)
  rw [List.pairwise_cons] at hs
  split
  · rename_i ha
    have e : Fil.worse least r.2 (q :: l) = [] := by
      refine worse_gone fun p hp => ?_
      rcases List.mem_cons.1 hp with rfl | hp
      · exact ha
      · cases hb : aheadOf least p.2 r.2 with
        | false => rfl
        | true => have := ahead_trans (hs.1 p hp) hb; rw [ha] at this; cases this
    rw [e]; rfl
  · rename_i ha
    generalize Fil.worse least r.2 (q :: l) = k at *
    cases k with
    | nil => exact absurd (h2 q (by have : q :: l = gone := h1; rw [← this]; exact List.mem_cons_self ..)) ha
    | cons p k =>
      have : q = p := (List.cons.inj h1).1
      subst this; rfl
theorem refBest_head {win now : Int} {least : Bool} (rev : List (Int × Int)) (hs : rev.Pairwise fun a b => b.1 ≤ a.1) : refBest win now least rev.reverse = headR (Fil.old win now (surv least rev.reverse)) := by
  induction rev with
  | nil => rfl
  | cons r rev ih =>
    have hs2 := List.pairwise_cons.1 hs
    by_cases hc : sadd r.1 win < now
    · have hn : ∀ p ∈ r :: rev, sadd p.1 win < now := by
        intro p hp
        rcases List.mem_cons.1 hp with rfl | hp
        · exact hc
        · have := sadd_mono (win := win) (hs2.1 p hp); omega
      rw [refBest_none hn]
      have e : Fil.old win now (surv least (r :: rev).reverse) = [] := by
        unfold Fil.old
        exact dropWhile_all fun p hp => decide_eq_true (hn p (surv_sub least _ p hp))
      rw [e]; rfl
    · rw [List.reverse_cons, refBest_snoc, surv_snoc, old_worse _ _ hc, ih hs2.2]
      have hso := List.Pairwise.sublist (List.dropWhile_sublist fun p : Int × Int => decide (sadd p.1 win < now)) (surv_sorted least rev)
      change (Fil.old win now (surv least rev.reverse)).Pairwise _ at hso
      generalize Fil.old win now (surv least rev.reverse) = B at hso
      unfold bestF
      rw [if_neg hc]
      cases B with
      | nil => rfl
      | cons q B =>
        rw [worse_head r hso]
        show (if true = false ∨ aheadOf least q.2 r.2 = false then (r, true) else (q, true)) = _
        simp
end Go.Proofs.YtpfbbpiidhhkbaaGreat
