/- meter: Run. -/
import Derived.Test.YtoimbdbajpjmjaaMeter
namespace Go.Proofs.Ytoimbdbajpjmjaa
open Go.RowKit
section
variable (ε w : World) (R : List Asn)
theorem mCon_c (A : Option Addr) (n cap : Nat) (ts : List MTurn) (hA : ∀ wx, Own ε wx R → itAt MTurn.cells 3 wx A n ts) (hn : n ≤ 9223372036854775807) (H : Own ε w R) :
    Calls Try.prog 59 #[.slice A n cap, .func (.func 60) #[] #[]] w fun e w' => e = .returned (.bool (decide (¬ ∀ t ∈ ts, t.few))) ∧ Own ε w' R := by
  go_enter Try.func59, Try.ntmps59
  go_wp2_with fail
  refine (mIdx_c ε _ R A n cap ts hA hn H).mono ?_
  rintro e w9 ⟨⟨r, rfl, hr⟩, H9⟩
  have hd : decide (¬ ∀ t ∈ ts, t.few) = decide (0 ≤ r) := by
    congr 1
    exact propext hr.symm
  replace hd := Lib.hid hd
  clear hr H hA
  go_wp2_with fail
  go_ret
  exact ⟨congrArg (fun x => Ending.returned (Value.bool x)) hd.out.symm, H9⟩
theorem mRun_bad {room : Int} {ts : List MTurn} (h : mBad room ts) : mRun room ts = ([], 1) := if_pos h
theorem mRun_good {room : Int} {ts : List MTurn} (h : ¬ mBad room ts) : mRun room ts = (mRows room MRow.zero ts, 0) := if_neg h
set_option maxHeartbeats 3200000 in
theorem mRun_c (room : Int) (hr : U room) (A : Option Addr) (n cap : Nat) (ts : List MTurn) (hU : ∀ t ∈ ts, t.Ok) (hA : ∀ wx, Own ε wx R → itAt MTurn.cells 3 wx A n ts) (hn : n ≤ 9223372036854775807) (H : Own ε w R) :
    Calls Try.prog 17 #[.int .u64 room, .slice A n cap] w fun e w' => ∃ v, e = .returned (.tuple #[v, .int .i64 (mRun room ts).2]) ∧ Own ε w' (slc 41 5 v (encs MRow.cells (mRun room ts).1) :: R) := by
  have hl := (hA w H).1
  have HH := Lib.hid H; clear H
  by_cases h1 : 72057594037927936 < room
  · rw [mRun_bad (.inl h1)]
    go_enter Try.func17, Try.ntmps17
    go_wp2_with fail
    go_ret2
    exact ⟨_, rfl, HH.out.slc_none⟩
  by_cases h2 : 65536 < n
  · rw [mRun_bad (.inr (.inl (by omega)))]
    go_enter Try.func17, Try.ntmps17
    go_wp2_with fail
    go_ret2
    exact ⟨_, rfl, HH.out.slc_none⟩
  have hcon := mCon_c ε w R A n cap ts hA hn HH.out
  replace hA := Lib.hid hA
  by_cases h3 : ∀ t ∈ ts, t.few
  case neg =>
    have hd : decide (¬ ∀ t ∈ ts, t.few) = true := decide_eq_true h3
    rw [hd] at hcon
    rw [mRun_bad (.inr (.inr h3))]
    clear hd h3
    replace hcon := Lib.hid hcon
    go_enter Try.func17, Try.ntmps17
    go_wp2_with fail
    refine (hcon.out).mono ?_
    rintro e w1_ ⟨rfl, H9_⟩
    replace HH := Lib.hid H9_
    clear H9_
    go_wp2_with fail
    go_ret2
    exact ⟨_, rfl, HH.out.slc_none⟩
  case pos =>
    have hd : decide (¬ ∀ t ∈ ts, t.few) = false := by simpa using h3
    rw [hd] at hcon
    rw [mRun_good (by rintro (h | h | h) <;> first | omega | exact h h3)]
    clear hd
    have hboth : ∀ t ∈ ts, t.few ∧ t.Ok := fun t ht => ⟨h3 t ht, hU t ht⟩
    clear h3 hU
    replace hcon := Lib.hid hcon
    replace hboth := Lib.hid hboth
    have hr0 := hr.1
    clear hr
    go_enter Try.func17, Try.ntmps17
    go_wp2_with fail
    refine (hcon.out).mono ?_
    rintro e w2_ ⟨rfl, H9_⟩
    replace HH := Lib.hid H9_
    clear H9_
    clear hcon
    go_wp2_with (with_reducible refine stop_al ?_)
    refine Stop.go ?_
    refine wpList_alloc_own HH.out [.int .u64 0, .int .u64 0, .int .u64 0, .int .u64 0, .int .u64 0] (by kernel_rfl) ?_
    intro bx w3_ H9_
    replace HH := Lib.hid H9_
    clear H9_
    replace HH := Lib.hid (HH.out.slc_none (T := 41) (sz := 5))
    go_wp2_with fail
    go_loopw [6, 9, 23] (fun v _ i wr => ∃ k : Nat, k ≤ n ∧ i = .int .i64 k ∧ Own ε wr (slc 41 5 v (encs MRow.cells (mRows room MRow.zero (ts.take k))) :: pts bx (.cells ((ts.take k).foldl (MRow.next room) MRow.zero).cells.toArray 41 (0, 0)) :: R)) (fun _ _ i _ => n - (intOf i).toNat)
    case atStart => exact ⟨0, Nat.zero_le _, rfl, HH.out⟩
    case round =>
      obtain ⟨k, hk, rfl, HR⟩ := hrel
      replace HH := Lib.hid HR
      clear HR
      by_cases hlt : k < n
      · obtain ⟨g, off, t, rfl, ht, hc⟩ := (hA.out _ HH.out.tail.tail).get hlt
        have c0 := hc 0 _ rfl
        have c1 := hc 1 _ rfl
        have c2 := hc 2 _ rfl
        rw [Nat.add_zero] at c0
        clear hc
        have hin := mFold_in (l := ts.take k) hr0 (fun t ht => hboth.out t (List.mem_of_mem_take ht))
        have htk : (ts.take k).length = k := by rw [List.length_take]; omega
        rw [htk] at hin
        have htt := hboth.out t (List.mem_of_getElem? ht)
        have e1 : ts.take (k + 1) = ts.take k ++ [t] := by rw [List.take_add_one, ht]; rfl
        have e2 : mRows room MRow.zero (ts.take (k + 1)) = mRows room MRow.zero (ts.take k) ++ [((ts.take k).foldl (MRow.next room) MRow.zero).next room t] := by rw [e1, mRows_snoc]
        have e3 : (ts.take (k + 1)).foldl (MRow.next room) MRow.zero = ((ts.take k).foldl (MRow.next room) MRow.zero).next room t := by rw [e1, List.foldl_append]; rfl
        have hlen : (encs MRow.cells (mRows room MRow.zero (ts.take k))).length = k * 5 := by rw [encs_len MRow.len, mRows_len, htk]
        clear e1 htk ht
        generalize (ts.take k).foldl (MRow.next room) MRow.zero = x at hin e2 e3 HH
        have hnx := fun wx => mNext_c wx room _ x t hin (by omega) (by omega) htt.1 htt.2
        generalize x.next room t = y at e2 e3 hnx
        obtain ⟨x1, x2, x3, x4, x5⟩ := x
        obtain ⟨y1, y2, y3, y4, y5⟩ := y
        obtain ⟨t1, t2, t3⟩ := t
        simp only [MRow.cells] at HH
        replace hnx := Lib.hid hnx
        replace e2 := Lib.hid e2
        replace e3 := Lib.hid e3
        replace hlen := Lib.hid hlen
        clear hin htt
        go_wp2_with (with_reducible refine stop_al ?_)
        refine Stop.go ?_
        refine wpList_alloc_own HH.out [.int .u64 0, .int .u64 0, .int .u64 0] (by kernel_rfl) ?_
        intro bt w4_ H9_
        replace HH := Lib.hid H9_
        clear H9_
        go_wp2_with (with_reducible refine stop_st ?_)
        refine Stop.go ?_
        refine wpList_store_own _ #[_, _, _] rfl rfl HH.out (by kernel_rfl) rfl (by repeat (first | (refine List.forall_mem_cons.2 ⟨(by first | with_reducible assumption | rfl), ?_⟩) | exact fun _ h => absurd h List.not_mem_nil)) ?_
        intro w5_ H9_
        replace HH := Lib.hid H9_
        clear H9_
        clear c0 c1 c2
        replace HH := Lib.hid ((Own.pm (HH.out) (by repeat (first | with_reducible exact Pm.refl _ | with_reducible exact Pm.nil _ | with_reducible refine Pm.here ?_ | with_reducible refine Pm.at2 ?_ | with_reducible refine Pm.at3 ?_ | with_reducible refine Pm.at4 ?_ | with_reducible refine Pm.at5 ?_ | with_reducible refine Pm.at6 ?_ | with_reducible refine Pm.at7 ?_ | with_reducible refine Pm.at8 ?_ | with_reducible refine Pm.skip ?_))) : Own ε _ (pts bx _ :: slc _ 5 _ _ :: pts bt _ :: R))
        (try clear cc1_); (try clear cc2_); (try clear cc3_); (try clear cc4_); (try clear cc5_); (try clear cc6_); (try clear cc7_)
        have cc1_ := HH.out.cells
        have cc3_ := HH.out.r3.cells
        go_wp2_with fail
        refine (hnx.out _).mono ?_
        rintro e w6_ ⟨rfl, hbel⟩
        replace HH := Lib.hid ((by first | exact Kp.same hbel | exact Kp.drew hbel | exact Kp.below hbel : Kp _ w6_) _ _ (by first | exact HH.out | exact HH.out.drewN _ | exact (HH.out.alloc _).tail | exact ((HH.out.alloc _).drewN _).tail | exact ((HH.out.alloc _).alloc _).tail.tail))
        clear hbel
        go_wp2_with (with_reducible refine stop_st ?_)
        refine Stop.go ?_
        refine wpList_store_own _ #[_, _, _, _, _] rfl rfl HH.out (by kernel_rfl) rfl (by repeat (first | (refine List.forall_mem_cons.2 ⟨(by first | with_reducible assumption | rfl), ?_⟩) | exact fun _ h => absurd h List.not_mem_nil)) ?_
        intro w7_ H9_
        replace HH := Lib.hid H9_
        clear H9_
        (try clear cc1_); (try clear cc2_); (try clear cc3_); (try clear cc4_); (try clear cc5_); (try clear cc6_); (try clear cc7_)
        have cc1_ := HH.out.cells
        replace HH := Lib.hid HH.out.r2
        go_wp2_with (with_reducible refine stop_bs ?_)
        refine Stop.go ?_
        refine wpList_bs1_own HH.out #[_, _, _, _, _] 5 40 Try.underlying25 (by kernel_rfl) (by decide) (by decide) rfl rfl ?_
        intro g_ w8_ H9_
        replace HH := Lib.hid H9_
        clear H9_
        go_wp2_with (with_reducible refine stop_app ?_)
        refine Stop.go ?_
        refine wpList_app1_own rfl _ _ 25 rfl 41 5 40 Try.underlying25 (by kernel_rfl) (by decide) (k) rfl rfl HH.out (hlen.out) rfl (by repeat (first | (refine List.forall_mem_cons.2 ⟨(by first | with_reducible assumption | rfl), ?_⟩) | exact fun _ h => absurd h List.not_mem_nil)) (by simp only [maxLen]; omega) (by omega) ?_
        intro v5 w9_ H9_
        obtain ⟨A_v5, n_v5, c_v5, rfl⟩ := H9_.slc_isv
        replace HH := Lib.hid H9_
        clear H9_
        go_wp2_with fail
        go_roundw
        case rel =>
          refine ⟨k + 1, by omega, by go_num, ?_⟩
          rw [e2.out, e3.out, encs_snoc]
          exact ((Own.pm (HH.out) (by repeat (first | with_reducible exact Pm.refl _ | with_reducible exact Pm.nil _ | with_reducible refine Pm.here ?_ | with_reducible refine Pm.at2 ?_ | with_reducible refine Pm.at3 ?_ | with_reducible refine Pm.at4 ?_ | with_reducible refine Pm.at5 ?_ | with_reducible refine Pm.at6 ?_ | with_reducible refine Pm.at7 ?_ | with_reducible refine Pm.at8 ?_ | with_reducible refine Pm.skip ?_))) : Own ε _ (slc _ 5 _ _ :: pts bx _ :: R))
        case measure => simp [intOf]; omega
      · have hkn : k = n := by omega
        subst hkn
        have e1 : ts.take k = ts := List.take_of_length_le (by omega)
        rw [e1] at HH
        go_wp2_with fail
        go_ret2
        exact ⟨_, rfl, HH.out.r2.tail⟩
end
end Go.Proofs.Ytoimbdbajpjmjaa
