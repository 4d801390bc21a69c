/- meter: MeterMore. -/
import Derived.Test.YtoimbdbajpjmjaaMeter12
namespace Go.Proofs.Ytoimbdbajpjmjaa
open Go.RowKit
/-- The turns with no less waste. -/
def MTurn.more (t : MTurn) (m : Int) : MTurn := ⟨t.g, t.c, max t.v (min m 1099511627776)⟩
def moreL : List MTurn → List Int → List MTurn
  | [], _ => []
  | t :: ts, [] => t :: moreL ts []
  | t :: ts, m :: ms => t.more m :: moreL ts ms
theorem more_few {t : MTurn} {m : Int} : (t.more m).few ↔ t.few := by
  unfold MTurn.few MTurn.more
  simp only
  omega
theorem more_ok {t : MTurn} {m : Int} (h : t.Ok) (hm : U m) : (t.more m).Ok := by
  obtain ⟨⟨_, _⟩, ⟨_, _⟩, ⟨_, _⟩⟩ := h
  obtain ⟨_, _⟩ := hm
  unfold MTurn.Ok MTurn.more U
  simp only
  omega
theorem moreL_len (ts : List MTurn) : ∀ ms : List Int, (moreL ts ms).length = ts.length := by
  induction ts with
  | nil => intro ms; rfl
  | cons t ts ih => intro ms; cases ms <;> simp [moreL, ih]
theorem moreL_few (ts : List MTurn) : ∀ ms : List Int, (∀ t ∈ moreL ts ms, t.few) ↔ ∀ t ∈ ts, t.few := by
  induction ts with
  | nil => intro ms; simp [moreL]
  | cons t ts ih => intro ms; cases ms <;> simp [moreL, ih, more_few]
theorem moreL_ok (ts : List MTurn) : ∀ ms : List Int, (∀ t ∈ ts, t.Ok) → (∀ m ∈ ms, U m) → ∀ t ∈ moreL ts ms, t.Ok := by
  induction ts with
  | nil => intro ms _ _ t ht; cases ht
  | cons t ts ih =>
    intro ms h hm x hx
    cases ms with
    | nil =>
      rcases List.mem_cons.1 hx with rfl | hx
      · exact h _ (by simp)
      · exact ih [] (fun t ht => h t (by simp [ht])) hm x hx
    | cons m ms =>
      rcases List.mem_cons.1 hx with rfl | hx
      · exact more_ok (h t (by simp)) (hm m (by simp))
      · exact ih ms (fun t ht => h t (by simp [ht])) (fun m hm2 => hm m (by simp [hm2])) x hx
theorem moreRows {room : Int} (ts : List MTurn) : ∀ (ms : List Int) (x y : MRow) (B : Int), x.Less y → x.In room B → y.In room B → B + ts.length * 1099511627776 ≤ 1152921504606846976 → (∀ t ∈ ts, t.few ∧ t.Ok) → (∀ m ∈ ms, U m) →
    ∀ (i : Nat) (p q : MRow), (mRows room x ts)[i]? = some p → (mRows room y (moreL ts ms))[i]? = some q → p.Less q ∧ p.In room 1152921504606846976 ∧ q.In room 1152921504606846976 := by
  induction ts with
  | nil => intro ms x y B _ _ _ _ _ _ i p q hp; simp [mRows] at hp
  | cons t ts ih =>
    intro ms x y B hL hx hy hB hf hm i p q hp hq
    have h1 := hf t (by simp)
    simp only [List.length_cons] at hB
    have key : ∀ (t' : MTurn) (ms' : List Int), moreL (t :: ts) ms = t' :: moreL ts ms' → t'.few → t'.Ok → (x.next room t).Less (y.next room t') → (∀ m ∈ ms', U m) → p.Less q ∧ p.In room 1152921504606846976 ∧ q.In room 1152921504606846976 := by
      intro t' ms' e hf' ho' hL' hm'
      have hx2 := MRow.in_next hx h1.1 h1.2
      have hy2 := MRow.in_next hy hf' ho'
      rw [e, mRows] at hq
      rw [mRows] at hp
      cases i with
      | zero =>
        simp at hp hq
        subst hp hq
        exact ⟨hL', hx2.mono (by omega), hy2.mono (by omega)⟩
      | succ i =>
        simp at hp hq
        exact ih ms' _ _ _ hL' hx2 hy2 (by omega) (fun t ht => hf t (by simp [ht])) hm' i p q hp hq
    cases ms with
    | nil => exact key t [] rfl h1.1 h1.2 (Less.next hL hx hy h1.2 (Int.le_refl _)) hm
    | cons m ms => exact key (t.more m) ms rfl (more_few.2 h1.1) (more_ok h1.2 (hm m (by simp))) (Less.next hL hx hy h1.2 (by show t.v ≤ max t.v _; omega)) (fun m hm2 => hm m (by simp [hm2]))
theorem mRun_len (room : Int) (ts : List MTurn) : (mRun room ts).1.length ≤ ts.length := by
  unfold mRun
  split
  · simp
  · simp only; rw [mRows_len]; omega
theorem Less.zero : MRow.zero.Less MRow.zero := ⟨rfl, rfl, Int.le_refl _, Int.le_refl _, Int.le_refl _, .inl rfl, .inl rfl⟩
section
variable (w : World)
set_option maxRecDepth 100000 in
set_option maxHeartbeats 6400000 in
theorem meterMore_c (room : Int) (hr0 : (Lit.int .u64 room).wf = true) (A : Option Addr) (len cap : Nat) (xs : List TurnT) (hr : rdSlice rdTurn 3 w [.slice A len cap] xs) (A' : Option Addr) (len' cap' : Nat) (ms : List Int) (hr' : rdSlice (rdInt .u64) 1 w [.slice A' len' cap'] ms) :
    Calls Try.prog 4 #[.int .u64 room, .slice A len cap, .slice A' len' cap'] w fun e w' => e = .returned (.bool true) ∧ Own w w' [old w] := by
  have HH := Lib.hid (Own.init w)
  have hroom := U_of_wf hr0
  have hr1 := hroom.1
  replace hroom := Lib.hid hroom
  clear hr0
  obtain ⟨hA, hm⟩ := itAt_rd turnOf (fun _ _ h => (rdTurn_open h).1) hr
  have hok := turns_ok hr
  have hmU := rdInts_U hr'
  obtain ⟨hml, hmm, hmc⟩ := rdInts_cell hr'
  clear hr hr'
  generalize xs.map turnOf = ts at hA hok
  by_cases hbig : 200 < len
  · clear hA hok hmc hmU
    go_enter Try.func4, Try.ntmps4
    go_wp2_with fail
    refine (alive22_k _).mono ?_
    rintro e w1_ ⟨rfl, hbel⟩
    replace HH := Lib.hid ((by first | exact Kp.same hbel | exact Kp.drew hbel | exact Kp.below hbel : Kp _ w1_) _ _ (by first | exact HH.out | exact HH.out.drewN _ | exact (HH.out.alloc _).tail | exact ((HH.out.alloc _).drewN _).tail | exact ((HH.out.alloc _).alloc _).tail.tail))
    clear hbel
    go_wp2_with fail
    go_ret
    exact ⟨rfl, HH.out⟩
  have hlen := hA.1
  have hmget : ∀ k, k < len' → ∃ g off m, A' = some ⟨g, off, none⟩ ∧ ms.drop k = m :: ms.drop (k + 1) ∧ w.cell? ⟨g, off + k, none⟩ = some (.int .u64 m) := fun k hk => by
    rcases hmc with h | ⟨g, off, e, h⟩
    · omega
    · exact ⟨g, off, ms[k]'(by omega), e, List.drop_eq_getElem_cons (by omega), (h k (by omega)).1⟩
  obtain ⟨ot, hot⟩ : ∃ ot, moreL ts ms = ot := ⟨_, rfl⟩
  have hol : ot.length = len := by rw [← hot, moreL_len, hlen]
  have hoo : ∀ t ∈ ot, t.Ok := by rw [← hot]; exact moreL_ok ts ms hok hmU
  obtain ⟨⟨rx, ex⟩, hrx⟩ : ∃ r, mRun room ts = r := ⟨_, rfl⟩
  obtain ⟨⟨ry, ey⟩, hry⟩ : ∃ r, mRun room ot = r := ⟨_, rfl⟩
  have hboth : ex = ey ∧ rx.length = ry.length ∧ ∀ (i : Nat) (p q : MRow), rx[i]? = some p → ry[i]? = some q → p.Less q ∧ p.In room 1152921504606846976 ∧ q.In room 1152921504606846976 := by
    have hbi : mBad room ot ↔ mBad room ts := by
      unfold mBad
      rw [hol, hlen, ← hot, moreL_few]
    by_cases hb : mBad room ts
    · rw [mRun_bad hb] at hrx
      rw [mRun_bad (hbi.2 hb)] at hry
      cases hrx
      cases hry
      exact ⟨rfl, rfl, fun i p q hp => by simp at hp⟩
    · rw [mRun_good hb] at hrx
      rw [mRun_good (fun h => hb (hbi.1 h))] at hry
      cases hrx
      cases hry
      unfold mBad at hb
      have hf : ∀ t ∈ ts, t.few := Decidable.not_not.1 (fun h => hb (.inr (.inr h)))
      refine ⟨rfl, by rw [mRows_len, mRows_len, hol, hlen], fun i p q hp hq => ?_⟩
      rw [← hot] at hq
      exact moreRows ts ms MRow.zero MRow.zero 0 Less.zero (MRow.in_zero hr1) (MRow.in_zero hr1) (by omega) (fun t ht => ⟨hf t ht, hok t ht⟩) hmU i p q hp hq
  obtain ⟨rfl, hxy, hless⟩ := hboth
  have hrl : rx.length ≤ len := by have := mRun_len room ts; rw [hrx, hlen] at this; exact this
  clear hmc hr1 hmm
  replace hA := Lib.hid hA
  replace hok := Lib.hid hok
  replace hoo := Lib.hid hoo
  replace hmget := Lib.hid hmget
  replace hmU := Lib.hid hmU
  replace hml := Lib.hid hml
  replace hrx := Lib.hid hrx
  replace hry := Lib.hid hry
  replace hless := Lib.hid hless
  replace hot := Lib.hid hot
  have im := min_ite
  have ix := ite_max
  go_enter Try.func4, Try.ntmps4
  replace HH := Lib.hid (HH.out.slc_none (T := 39) (sz := 3))
  go_wp2_with fail
  go_loopw [7, 8] (fun v i wr => ∃ (k : Nat) (T0 : List MTurn), k ≤ len ∧ i = .int .i64 k ∧ T0.length = k ∧ T0 ++ moreL (ts.drop k) (ms.drop k) = ot ∧ Own w wr [slc 39 3 v (encs MTurn.cells T0), old w]) (fun _ i _ => len - (intOf i).toNat)
  case atStart => exact ⟨0, [], Nat.zero_le _, rfl, rfl, hot.out, HH.out⟩
  case round =>
    obtain ⟨k, T0, hk, rfl, hT0, hC, HR⟩ := hrel
    replace HH := Lib.hid HR
    clear HR
    by_cases hlt : k < len
    · obtain ⟨g, off, t, rfl, ht, hc⟩ := (hA.out.old HH.out.tail).get hlt
      have c0 := hc 0 _ rfl
      have c1 := hc 1 _ rfl
      have c2 := hc 2 _ rfl
      rw [Nat.add_zero] at c0
      have hdr := drop_cons_get ht
      rw [hdr] at hC
      have hlenT : (encs MTurn.cells T0).length = k * 3 := by rw [encs_len MTurn.len, hT0]
      obtain ⟨t1, t2, t3⟩ := t
      clear hc ht hdr
      replace hlenT := Lib.hid hlenT
      replace hT0 := Lib.hid hT0
      go_wp2_with (with_reducible refine stop_al ?_)
      refine Stop.go ?_
      refine wpList_alloc_own HH.out [.int .u64 0, .int .u64 0, .int .u64 0] (by kernel_rfl) ?_
      intro bt w2_ H9_
      replace HH := Lib.hid H9_
      clear H9_
      go_wp2_with (with_reducible refine stop_st ?_)
      refine Stop.go ?_
      refine wpList_store_own _ #[_, _, _] rfl rfl HH.out (by kernel_rfl) rfl (by repeat (first | (refine List.forall_mem_cons.2 ⟨(by first | with_reducible assumption | rfl), ?_⟩) | exact fun _ h => absurd h List.not_mem_nil)) ?_
      intro w3_ H9_
      replace HH := Lib.hid H9_
      clear H9_
      clear c0 c1 c2
      by_cases hmk : k < len'
      case' pos =>
        obtain ⟨g', off', m, rfl, hmd, hmcell⟩ := hmget.out k hmk
        rw [hmd] at hC
        have hC2 : (T0 ++ [MTurn.more ⟨t1, t2, t3⟩ m]) ++ moreL (ts.drop (k + 1)) (ms.drop (k + 1)) = ot := by rw [← hC]; simp [moreL]
        clear hC hmd
        replace hC2 := Lib.hid hC2
        replace hmcell := Lib.hid hmcell
        go_wp2_with fail
        go_wp2_with fail
        refine wp_region_reg (some 9) HH.out (by kernel_rfl) ?_
        intro wm H9_
        replace HH := Lib.hid H9_
        clear H9_
        refine reg_p (i := 0) rfl (by kernel_rfl) (fun _ _ _ _ h => h) HH.out (fun K hK => ?_)
        go_simp
        first | (refine hK _ ?_; clear hK K) | (apply Exists.intro; refine ⟨?_, hK _ ?_⟩; (focus (intro wx; first | (go_simp; first | rfl) | rfl)); clear hK K)
        refine mixk_q (i := 1) rfl (by kernel_rfl) (fun _ _ _ _ h => h) HH.out (fun K hK => ?_)
        go_simp
        first | (refine hK _ ?_; clear hK K) | (apply Exists.intro; refine ⟨?_, hK _ ?_⟩; (focus (intro wx hx; have x1_ := hx.cells; have km_ := hx.r3.old_cell hmcell.out; first | (go_simp; first | rfl | exact ⟨rfl, rfl⟩) | rfl | exact ⟨rfl, rfl⟩)); clear hK K)
        refine reg_p (i := 2) rfl (by kernel_rfl) (fun _ _ _ _ h => h) HH.out (fun K hK => ?_)
        go_simp
        first | (refine hK _ ?_; clear hK K) | (apply Exists.intro; refine ⟨?_, hK _ ?_⟩; (focus (intro wx; first | (go_simp; first | rfl) | rfl)); clear hK K)
        refine reg_p (i := 3) rfl (by kernel_rfl) (fun _ _ _ _ h => h) HH.out (fun K hK => ?_)
        go_simp
        first | (refine hK _ ?_; clear hK K) | (apply Exists.intro; refine ⟨?_, hK _ ?_⟩; (focus (intro wx; first | (go_simp; first | rfl) | rfl)); clear hK K)
        refine reg_p (i := 4) rfl (by kernel_rfl) (fun _ _ _ _ h => h) HH.out (fun K hK => ?_)
        go_simp
        first | (refine hK _ ?_; clear hK K) | (apply Exists.intro; refine ⟨?_, hK _ ?_⟩; (focus (intro wx; first | (go_simp; first | rfl) | rfl)); clear hK K)
        refine mixk_q (i := 5) rfl (by kernel_rfl) (fun _ _ _ _ h => h) HH.out (fun K hK => ?_)
        go_simp
        first | (refine hK _ ?_; clear hK K) | (apply Exists.intro; refine ⟨?_, hK _ ?_⟩; (focus (intro wx hx; have x1_ := hx.cells; have km_ := hx.r3.old_cell hmcell.out; first | (go_simp; first | rfl | exact ⟨rfl, rfl⟩) | rfl | exact ⟨rfl, rfl⟩)); clear hK K)
        refine reg_p (i := 6) rfl (by kernel_rfl) (fun _ _ _ _ h => h) HH.out (fun K hK => ?_)
        go_simp
        first | (refine hK _ ?_; clear hK K) | (apply Exists.intro; refine ⟨?_, hK _ ?_⟩; (focus (intro wx; first | (go_simp; first | rfl) | rfl)); clear hK K)
        refine reg_p (i := 7) rfl (by kernel_rfl) (fun _ _ _ _ h => h) HH.out (fun K hK => ?_)
        go_simp
        first | (refine hK _ ?_; clear hK K) | (apply Exists.intro; refine ⟨?_, hK _ ?_⟩; (focus (intro wx; first | (go_simp; first | rfl) | rfl)); clear hK K)
        refine reg_p (i := 8) rfl (by kernel_rfl) (fun _ _ _ _ h => h) HH.out (fun K hK => ?_)
        go_simp
        first | (refine hK _ ?_; clear hK K) | (apply Exists.intro; refine ⟨?_, hK _ ?_⟩; (focus (intro wx; first | (go_simp; first | rfl) | rfl)); clear hK K)
        refine reg_l none (i := 9) rfl (by kernel_rfl) (fun wn hk K hK => ?_)
        replace HH := Lib.hid (hk _ _ HH.out)
        clear hk
        have hx := HH.out
        have x1_ := hx.cells
        have km_ := hx.r3.old_cell hmcell.out
        go_simp
        replace HH := Lib.hid (HH.out.set 2 (.int .u64 (max t3 (min m 1099511627776))))
        simp only [List.setIfInBounds_toArray, List.set_cons_succ, List.set_cons_zero] at HH
        generalize wn.setCell ⟨bt, 2, none⟩ (.int .u64 (max t3 (min m 1099511627776))) = wm at *
        clear hx x1_
        refine hK _ _ _ HH.out (.inl (by kernel_rfl)) ?_
        clear hK K
        refine mixk_done (by kernel_rfl) (fun w4_ hk => ?_) _
        replace HH := Lib.hid (hk _ _ HH.out)
        clear hk
        obtain ⟨t', hT', HH'⟩ : ∃ t' : MTurn, Hid ((T0 ++ [t']) ++ moreL (ts.drop (k + 1)) (ms.drop (k + 1)) = ot) ∧ Hid (Own w _ [pts bt (.cells #[.int .u64 t'.g, .int .u64 t'.c, .int .u64 t'.v] 39 (0, 0)), slc 39 3 _ _, old w]) := ⟨_, hC2, HH⟩
        clear HH hC2
        replace HH := HH'
        clear HH'
      case' neg =>
        have hmd : ms.drop k = [] := List.drop_of_length_le (by have := hml.out; omega)
        have hmd2 : ms.drop (k + 1) = [] := List.drop_of_length_le (by have := hml.out; omega)
        rw [hmd] at hC
        have hC2 : (T0 ++ [⟨t1, t2, t3⟩]) ++ moreL (ts.drop (k + 1)) (ms.drop (k + 1)) = ot := by rw [← hC, hmd2]; simp [moreL]
        clear hC hmd hmd2
        replace hC2 := Lib.hid hC2
        obtain ⟨t', hT', HH'⟩ : ∃ t' : MTurn, Hid ((T0 ++ [t']) ++ moreL (ts.drop (k + 1)) (ms.drop (k + 1)) = ot) ∧ Hid (Own w _ [pts bt (.cells #[.int .u64 t'.g, .int .u64 t'.c, .int .u64 t'.v] 39 (0, 0)), slc 39 3 _ _, old w]) := ⟨_, hC2, HH⟩
        clear HH hC2
        replace HH := HH'
        clear HH'
      all_goals
        obtain ⟨s1, s2, s3⟩ := t'
        (try clear cc1_); (try clear cc2_); (try clear cc3_); (try clear cc4_); (try clear cc5_); (try clear cc6_); (try clear cc7_)
        have cc1_ := HH.out.cells
        replace HH := Lib.hid HH.out.r2
        go_wp2_with (with_reducible refine stop_bs ?_)
        refine Stop.go ?_
        refine wpList_bs1_own HH.out #[_, _, _] 3 24 Try.underlying23 (by kernel_rfl) (by decide) (by decide) rfl rfl ?_
        intro g_ w5_ H9_
        replace HH := Lib.hid H9_
        clear H9_
        go_wp2_with (with_reducible refine stop_app ?_)
        refine Stop.go ?_
        refine wpList_app1_own rfl _ _ 23 rfl 39 3 24 Try.underlying23 (by kernel_rfl) (by decide) (k) rfl rfl HH.out (hlenT.out) rfl (by repeat (first | (refine List.forall_mem_cons.2 ⟨(by first | with_reducible assumption | rfl), ?_⟩) | exact fun _ h => absurd h List.not_mem_nil)) (by simp only [maxLen]; omega) (by omega) ?_
        intro v5 w6_ H9_
        obtain ⟨A_v5, n_v5, c_v5, rfl⟩ := H9_.slc_isv
        replace HH := Lib.hid H9_
        clear H9_
        go_wp2_with fail
        go_roundw
        case rel =>
          refine ⟨k + 1, T0 ++ [⟨s1, s2, s3⟩], by omega, by go_num, by rw [List.length_append, hT0.out]; rfl, hT'.out, ?_⟩
          rw [encs_snoc]
          exact HH.out.r2.tail
        case measure => simp [intOf]; omega
    · have hkn : k = len := by omega
      subst hkn
      have hd : ts.drop k = [] := List.drop_of_length_le (by omega)
      rw [hd, show moreL [] (ms.drop k) = [] from rfl, List.append_nil] at hC
      subst hC
      obtain ⟨A2, n2, c2, rfl, _, hcm2, hit2⟩ := HH.out.slc_it MTurn.len (by decide)
      obtain rfl : n2 = k := by rw [← hit2.1, hT0]
      clear hit2 hmget
      go_wp2_with fail
      refine (mRun_c w _ _ room hroom.out A n2 cap ts hok.out (fun wx Hx => hA.out.old Hx.tail) hm HH.out).mono ?_
      rw [hrx.out]
      rintro e w7_ ⟨v1, rfl, H9_⟩
      replace HH := Lib.hid H9_
      clear H9_
      obtain ⟨A3, n3, c3, rfl, _, hcm3, hit3⟩ := HH.out.slc_it MRow.len (by decide)
      have hn3 : rx.length = n3 := hit3.1
      clear hit3
      go_wp2_with fail
      refine (mRun_c w _ _ room hroom.out A2 n2 c2 T0 hoo.out (fun wx Hx => slc_rd MTurn.len (by decide) Hx.r2) hm HH.out).mono ?_
      rw [hry.out]
      rintro e w8_ ⟨v3, rfl, H9_⟩
      replace HH := Lib.hid H9_
      clear H9_
      obtain ⟨A4, n4, c4, rfl, _, hcm4, hit4⟩ := HH.out.slc_it MRow.len (by decide)
      have hn4 : ry.length = n4 := hit4.1
      clear hit4
      obtain rfl : n4 = n3 := by omega
      replace HH := Lib.hid ((Own.pm (HH.out) (by repeat (first | with_reducible exact Pm.refl _ | with_reducible exact Pm.nil _ | with_reducible refine Pm.here ?_ | with_reducible refine Pm.at2 ?_ | with_reducible refine Pm.at3 ?_ | with_reducible refine Pm.at4 ?_ | with_reducible refine Pm.at5 ?_ | with_reducible refine Pm.at6 ?_ | with_reducible refine Pm.at7 ?_ | with_reducible refine Pm.at8 ?_ | with_reducible refine Pm.skip ?_))) : Own w _ [slc 41 5 (.slice A3 n4 c3) (encs MRow.cells rx), slc 41 5 (.slice A4 n4 c4) (encs MRow.cells ry), old w])
      have hn4b : n4 ≤ 200 := by omega
      clear hxy hn3 hn4
      go_wp2_with fail
      go_loopw [14] (fun i wr => ∃ k : Nat, k ≤ n4 ∧ i = .int .i64 k ∧ Own w wr [slc 41 5 (.slice A3 n4 c3) (encs MRow.cells rx), slc 41 5 (.slice A4 n4 c4) (encs MRow.cells ry), old w]) (fun i _ => n4 - (intOf i).toNat)
      case atStart => exact ⟨0, Nat.zero_le _, rfl, HH.out⟩
      case round =>
        obtain ⟨j, hj, rfl, HR⟩ := hrel
        replace HH := Lib.hid HR
        clear HR
        by_cases hjl : j < n4
        · obtain ⟨g3, off3, p, rfl, hp, hc⟩ := (slc_rd MRow.len (by decide) HH.out).get hjl
          obtain ⟨g4, off4, q, rfl, hq, hd⟩ := (slc_rd MRow.len (by decide) HH.out.r2).get hjl
          obtain ⟨⟨l1, l2, l3, l4, l5, _, _⟩, ⟨_, _, pc, pd, ps, _, pq, _, _⟩, ⟨_, _, qc, qd, qs, _, qq, _, _⟩⟩ := hless.out j p q hp hq
          obtain ⟨p1, p2, p3, p4, p5⟩ := p
          obtain ⟨q1, q2, q3, q4, q5⟩ := q
          simp only [MRow.queue, MRow.tokens] at l1 l2 l3 l4 l5 pc pd ps pq qc qd qs qq
          have k1 := hc 1 _ rfl
          have k2 := hc 2 _ rfl
          have k3 := hc 3 _ rfl
          have m1 := hd 1 _ rfl
          have m2 := hd 2 _ rfl
          have m3 := hd 3 _ rfl
          have d1 : decide (p4 < q4) = false := decide_eq_false (by omega)
          have d2 : decide (q3 < p3) = false := decide_eq_false (by omega)
          have d3 : decide (q2 - q3 - q4 < p2 - p3 - p4) = false := decide_eq_false (by omega)
          have w1 : IntKind.u64.wrap (q2 - q3) = q2 - q3 := by rw [IntKind.wrap_u64]; omega
          have w2 : IntKind.u64.wrap (q2 - q3 - q4) = q2 - q3 - q4 := by rw [IntKind.wrap_u64]; omega
          have w3 : IntKind.u64.wrap (p2 - p3) = p2 - p3 := by rw [IntKind.wrap_u64]; omega
          have w4 : IntKind.u64.wrap (p2 - p3 - p4) = p2 - p3 - p4 := by rw [IntKind.wrap_u64]; omega
          clear hc hd hp hq l1 l2 l3 l4 l5 pc pd ps pq qc qd qs qq
          go_wp2_with fail
          go_quiet (fail)
          replace HH := Lib.hid (HH.out.drewN nq)
          clear k1 k2 k3 m1 m2 m3 d1 d2 d3 w1 w2 w3 w4
          go_wp2_with fail
          go_roundw
          case rel => exact ⟨j + 1, by omega, by go_num, HH.out⟩
          case measure => simp [intOf]; omega
        · have hjn : j = n4 := by omega
          subst hjn
          replace HH := Lib.hid ((Own.pm (HH.out) (by repeat (first | with_reducible exact Pm.refl _ | with_reducible exact Pm.nil _ | with_reducible refine Pm.here ?_ | with_reducible refine Pm.at2 ?_ | with_reducible refine Pm.at3 ?_ | with_reducible refine Pm.at4 ?_ | with_reducible refine Pm.at5 ?_ | with_reducible refine Pm.at6 ?_ | with_reducible refine Pm.at7 ?_ | with_reducible refine Pm.at8 ?_ | with_reducible refine Pm.skip ?_))) : Own w wr [old w])
          go_wp2_with fail
          refine (alive22_k _).mono ?_
          rintro e w9_ ⟨rfl, hbel⟩
          replace HH := Lib.hid ((by first | exact Kp.same hbel | exact Kp.drew hbel | exact Kp.below hbel : Kp _ w9_) _ _ (by first | exact HH.out | exact HH.out.drewN _ | exact (HH.out.alloc _).tail | exact ((HH.out.alloc _).drewN _).tail | exact ((HH.out.alloc _).alloc _).tail.tail))
          clear hbel
          go_wp2_with fail
          go_ret
          exact ⟨rfl, HH.out⟩
end
end Go.Proofs.Ytoimbdbajpjmjaa
