/- link: serving, a tick, the counts. -/
import Derived.Test.YtklohjjkpobneaaLink
import Derived.Deep.Cut
namespace Go.Proofs.Ytklohjjkpobneaa
open Go.RowKit
section
variable (ε w : World) (R : List Asn) (b : Nat)
theorem sumF_step {n : Int} {l : List Pk} {k : Nat} {p : Pk} (h : l[k]? = some p) : sumF n (l.take (k + 1)) = sadd (sumF n (l.take k)) p.size := by
  unfold sumF
  rw [List.take_add_one, h]
  simp
set_option maxRecDepth 100000 in
set_option maxHeartbeats 6400000 in
theorem linkServe_c (s : Lnk) (hs : s.Ok) (A : Option Addr) (n cap : Nat) (ch : List Int) (hch : ∀ c ∈ ch, U c) (hn2 : n ≤ 9223372036854775807) (hnc : n ≤ cap) (hA : ∀ wx, Own ε wx R → nsAt wx A n ch) (hl : s.len ≤ 1000000) (H : Own ε w (lnk b s :: R)) :
    Calls Try.prog 101 #[.pointer (some ⟨b, 0, none⟩), .slice A n cap] w fun e w' => e = .returned (.tuple #[]) ∧ Own ε w' (lnk b (s.serve ch) :: R) := by
  have HH := Lib.hid H; clear H
  replace hA := Lib.hid hA
  replace hch := Lib.hid hch
  replace hs := Lib.hid hs
  replace hl := Lib.hid hl
  go_enter Try.func101, Try.ntmps101
  go_wp2_with fail
  go_loopg [1] s.q.l.length (fun k v wr => ∃ (A' : Option Addr) (n' c' : Nat) (ch' : List Int) (s' : Lnk), v = .slice A' n' c' ∧ n' ≤ 9223372036854775807 ∧ n' ≤ c' ∧ s'.q.l.length = k ∧ Lnk.serveN k ch' s' = s.serve ch ∧ s'.Ok ∧ s'.len = s.len ∧ (∀ c ∈ ch', U c) ∧ (∀ wx, Own ε wx R → nsAt wx A' n' ch') ∧ Own ε wr (lnk b s' :: R))
  case atStart => exact ⟨A, n, cap, ch, s, rfl, hn2, hnc, rfl, rfl, hs.out, rfl, hch.out, hA.out, HH.out⟩
  case round =>
    clear HH
    obtain ⟨A', n', c', ch', s', rfl, hn3, hnc', hk, hres, hok, hlen, hch', hA', HR⟩ := hrel
    have HH := Lib.hid HR
    clear HR hA hch hs hn2 hnc
    replace hres := Lib.hid hres
    replace hlen := Lib.hid hlen
    replace hk := Lib.hid hk
    replace hch' := Lib.hid hch'
    replace hA' := Lib.hid hA'
    obtain ⟨bb, qb, xb, H2⟩ := HH.out.lnk_open
    replace HH := Lib.hid H2
    clear H2
    have hqo := Lib.hid hok.q
    have hbo := Lib.hid hok.b
    have hxo := Lib.hid hok.x
    have hno := Lib.hid hok.now
    have hso := Lib.hid hok.served
    cases hq : s'.q.l
    case' nil =>
      have hhd : headP s'.q.l = (Pk.zero, false) := by rw [hq]; rfl
      have hend : s.serve ch = s' := by rw [← hres.out]; exact serveN_none hq
      replace hhd := Lib.hid hhd
      replace hend := Lib.hid hend
      replace hok := Lib.hid hok
      clear hq
      (try clear cc1_); (try clear cc2_); (try clear cc3_); (try clear cc4_); (try clear cc5_); (try clear cc6_); (try clear cc7_)
      have cc1_ := HH.out.cells
      go_wp2_with fail
      refine (queHead_c ε wr _ qb s'.q HH.out.r3).mono ?_
      rw [hhd.out]
      rintro e w1_ ⟨rfl, H9_⟩
      replace HH := Lib.hid H9_
      clear H9_
      go_wp2_with (with_reducible refine stop_al ?_)
      refine Stop.go ?_
      refine wpList_alloc_own HH.out [.int .u64 0, .int .u64 0, .int .u64 0, .int .u64 0, .int .u64 0, .int .u64 0, .bool false] (by kernel_rfl) ?_
      intro px w2_ H9_
      replace HH := Lib.hid H9_
      clear H9_
      go_wp2_with (with_reducible refine stop_st ?_)
      refine Stop.go ?_
      refine wpList_store_own _ #[_, _, _, _, _, _, _] rfl rfl HH.out (by kernel_rfl) rfl (by repeat (first | (refine List.forall_mem_cons.2 ⟨(by first | with_reducible assumption | rfl), ?_⟩) | exact fun _ h => absurd h List.not_mem_nil)) ?_
      intro w3_ H9_
      replace HH := Lib.hid H9_
      clear H9_
      go_wp2_with fail
      refine wp_region_reg none HH.out (by kernel_rfl) ?_
      intro wm H9_
      replace HH := Lib.hid H9_
      clear H9_
      refine reg_p (i := 0) rfl (by kernel_rfl) (fun _ _ _ _ h => h) HH.out (fun K hK => ?_)
      go_simp
      first | (refine hK _ ?_; clear hK K) | (apply Exists.intro; refine ⟨?_, hK _ ?_⟩; (focus (intro wx; first | (go_simp; first | rfl) | rfl)); clear hK K)
      refine reg_p (i := 1) rfl (by kernel_rfl) (fun _ _ _ _ h => h) HH.out (fun K hK => ?_)
      go_simp
      first | (refine hK _ ?_; clear hK K) | (apply Exists.intro; refine ⟨?_, hK _ ?_⟩; (focus (intro wx; first | (go_simp; first | rfl) | rfl)); clear hK K)
      refine reg_p (i := 2) rfl (by kernel_rfl) (fun _ _ _ _ h => h) HH.out (fun K hK => ?_)
      go_simp
      first | (refine hK _ ?_; clear hK K) | (apply Exists.intro; refine ⟨?_, hK _ ?_⟩; (focus (intro wx; first | (go_simp; first | rfl) | rfl)); clear hK K)
      refine reg_p (i := 3) rfl (by kernel_rfl) (fun _ _ _ _ h => h) HH.out (fun K hK => ?_)
      go_simp
      first | (refine hK _ ?_; clear hK K) | (apply Exists.intro; refine ⟨?_, hK _ ?_⟩; (focus (intro wx; first | (go_simp; first | rfl) | rfl)); clear hK K)
      refine reg_p (i := 4) rfl (by kernel_rfl) (fun _ _ _ _ h => h) HH.out (fun K hK => ?_)
      go_simp
      first | (refine hK _ ?_; clear hK K) | (apply Exists.intro; refine ⟨?_, hK _ ?_⟩; (focus (intro wx; first | (go_simp; first | rfl) | rfl)); clear hK K)
      refine reg_p (i := 5) rfl (by kernel_rfl) (fun _ _ _ _ h => h) HH.out (fun K hK => ?_)
      go_simp
      first | (refine hK _ ?_; clear hK K) | (apply Exists.intro; refine ⟨?_, hK _ ?_⟩; (focus (intro wx; first | (go_simp; first | rfl) | rfl)); clear hK K)
      refine mixk_q (i := 6) rfl (by kernel_rfl) (fun _ _ _ _ h => h) HH.out (fun K hK => ?_)
      go_simp
      first | (refine hK _ ?_; clear hK K) | (apply Exists.intro; refine ⟨?_, hK _ ?_⟩; (focus (intro wx hx; first | (go_simp; first | rfl | exact ⟨rfl, rfl⟩) | rfl | exact ⟨rfl, rfl⟩)); clear hK K)
      refine reg_p (i := 7) rfl (by kernel_rfl) (fun _ _ _ _ h => h) HH.out (fun K hK => ?_)
      go_simp
      first | (refine hK _ ?_; clear hK K) | (apply Exists.intro; refine ⟨?_, hK _ ?_⟩; (focus (intro wx; first | (go_simp; first | rfl) | rfl)); clear hK K)
      refine mixk_q (i := 8) rfl (by kernel_rfl) (fun _ _ _ _ h => h) HH.out (fun K hK => ?_)
      go_simp
      first | (refine hK _ ?_; clear hK K) | (apply Exists.intro; refine ⟨?_, hK _ ?_⟩; (focus (intro wx hx; first | (go_simp; first | rfl | exact ⟨rfl, rfl⟩) | rfl | exact ⟨rfl, rfl⟩)); clear hK K)
      refine reg_l none (i := 9) rfl (by kernel_rfl) (fun wn hk K hK => ?_)
      replace HH := Lib.hid (hk _ _ HH.out)
      clear hk
      go_simp
      refine hK _ _ _ HH.out (.inr ⟨rfl, fun _ h => h⟩) ?_
      clear hK K
      refine reg_p (i := 10) rfl (by kernel_rfl) (fun _ _ _ _ h => h) HH.out (fun K hK => ?_)
      go_simp
      first | (refine hK _ ?_; clear hK K) | (apply Exists.intro; refine ⟨?_, hK _ ?_⟩; (focus (intro wx; first | (go_simp; first | rfl) | rfl)); clear hK K)
      refine reg_p (i := 11) rfl (by kernel_rfl) (fun _ _ _ _ h => h) HH.out (fun K hK => ?_)
      go_simp
      first | (refine hK _ ?_; clear hK K) | (apply Exists.intro; refine ⟨?_, hK _ ?_⟩; (focus (intro wx; first | (go_simp; first | rfl) | rfl)); clear hK K)
      refine mixk_done (by kernel_rfl) (fun w4_ hk => ?_) _
      replace HH := Lib.hid (hk _ _ HH.out)
      clear hk
      go_wp2_with fail
      go_wp2_with fail
      first | go_end0 | ((try simp only [Exit.inBlock, Exit.then]); refine bodyPost_ret (results_none rfl _ _ _) rfl ?_)
      refine ⟨rfl, ?_⟩
      rw [hend.out]
      exact Own.lnk_mk ε _ R b ((Own.pm (HH.out) (by repeat (first | with_reducible exact Pm.refl _ | with_reducible exact Pm.nil _ | with_reducible refine Pm.here ?_ | with_reducible refine Pm.at2 ?_ | with_reducible refine Pm.at3 ?_ | with_reducible refine Pm.at4 ?_ | with_reducible refine Pm.at5 ?_ | with_reducible refine Pm.at6 ?_ | with_reducible refine Pm.at7 ?_ | with_reducible refine Pm.at8 ?_ | with_reducible refine Pm.skip ?_))) : Own ε _ (pts b _ :: bkt bb s'.b :: que qb s'.q :: box xb s'.x :: R))
    case' cons p l =>
      have hhd : headP s'.q.l = (p, true) := by rw [hq]; rfl
      have hpo : p.Ok := hok.q.all p (by rw [hq]; exact List.mem_cons_self ..)
      have hsz := Lib.hid hpo.2.1
      have hst := serveN_step (n := l.length) (ch := ch') (s := s') hq
      have hk1 : gk = l.length + 1 := by rw [← hk.out, hq]; rfl
      have hl1 := Lnk.len_serve1 (c := ch'.headD 0) hq
      rw [hk1] at hres
      rw [hres.out] at hst
      have hxl : s'.x.l.length ≤ 1000000 := by have := hl.out; rw [← hlen.out] at this; unfold Lnk.len at this; omega
      have hok2 := Lnk.ok_serve1 (c := ch'.headD 0) hok hpo (U_headD hch'.out)
      have hql : (s'.serve1 p (ch'.headD 0)).q.l.length = l.length := by show (s'.q.l.drop 1).length = _; rw [hq]; rfl
      obtain ⟨⟨tk, b2⟩, htk⟩ : ∃ r, s'.b.take p.size = r := ⟨_, rfl⟩
      obtain ⟨q2, hq2⟩ : ∃ r, s'.q.shift.2 = r := ⟨_, rfl⟩
      have hs1 : s'.serve1 p (ch'.headD 0) = { s' with b := b2, q := q2, served := sadd s'.served p.size, x := s'.x.put p s'.now (ch'.headD 0) } := by unfold Lnk.serve1; rw [htk, hq2]
      rw [htk] at hst
      replace hhd := Lib.hid hhd
      replace hst := Lib.hid hst
      replace hl1 := Lib.hid hl1
      replace hxl := Lib.hid hxl
      replace hok2 := Lib.hid hok2
      replace hql := Lib.hid hql
      replace htk := Lib.hid htk
      replace hq2 := Lib.hid hq2
      replace hs1 := Lib.hid hs1
      replace hk1 := Lib.hid hk1
      replace hok := Lib.hid hok
      clear hq
      obtain ⟨pn, ps, p3, p4, p5, p6, p7⟩ := p
      simp only at hsz
      (try clear cc1_); (try clear cc2_); (try clear cc3_); (try clear cc4_); (try clear cc5_); (try clear cc6_); (try clear cc7_)
      have cc1_ := HH.out.cells
      go_wp2_with fail
      refine (queHead_c ε wr _ qb s'.q HH.out.r3).mono ?_
      rw [hhd.out]
      rintro e w5_ ⟨rfl, H9_⟩
      replace HH := Lib.hid H9_
      clear H9_
      go_wp2_with (with_reducible refine stop_al ?_)
      refine Stop.go ?_
      refine wpList_alloc_own HH.out [.int .u64 0, .int .u64 0, .int .u64 0, .int .u64 0, .int .u64 0, .int .u64 0, .bool false] (by kernel_rfl) ?_
      intro px w6_ H9_
      replace HH := Lib.hid H9_
      clear H9_
      go_wp2_with (with_reducible refine stop_st ?_)
      refine Stop.go ?_
      refine wpList_store_own _ #[_, _, _, _, _, _, _] rfl rfl HH.out (by kernel_rfl) rfl (by repeat (first | (refine List.forall_mem_cons.2 ⟨(by first | with_reducible assumption | rfl), ?_⟩) | exact fun _ h => absurd h List.not_mem_nil)) ?_
      intro w7_ H9_
      replace HH := Lib.hid H9_
      clear H9_
      replace HH := Lib.hid ((Own.pm (HH.out) (by repeat (first | with_reducible exact Pm.refl _ | with_reducible exact Pm.nil _ | with_reducible refine Pm.here ?_ | with_reducible refine Pm.at2 ?_ | with_reducible refine Pm.at3 ?_ | with_reducible refine Pm.at4 ?_ | with_reducible refine Pm.at5 ?_ | with_reducible refine Pm.at6 ?_ | with_reducible refine Pm.at7 ?_ | with_reducible refine Pm.at8 ?_ | with_reducible refine Pm.skip ?_))) : Own ε _ (pts px _ :: pts b _ :: bkt bb s'.b :: que qb s'.q :: box xb s'.x :: R))
      (try clear cc1_); (try clear cc2_); (try clear cc3_); (try clear cc4_); (try clear cc5_); (try clear cc6_); (try clear cc7_)
      go_wp2_with fail
      refine wp_region_reg (some 9) HH.out (by kernel_rfl) ?_
      intro wm H9_
      replace HH := Lib.hid H9_
      clear H9_
      refine reg_p (i := 0) rfl (by kernel_rfl) (fun _ _ _ _ h => h) HH.out (fun K hK => ?_)
      go_simp
      first | (refine hK _ ?_; clear hK K) | (apply Exists.intro; refine ⟨?_, hK _ ?_⟩; (focus (intro wx; first | (go_simp; first | rfl) | rfl)); clear hK K)
      refine reg_p (i := 1) rfl (by kernel_rfl) (fun _ _ _ _ h => h) HH.out (fun K hK => ?_)
      go_simp
      first | (refine hK _ ?_; clear hK K) | (apply Exists.intro; refine ⟨?_, hK _ ?_⟩; (focus (intro wx; first | (go_simp; first | rfl) | rfl)); clear hK K)
      refine reg_p (i := 2) rfl (by kernel_rfl) (fun _ _ _ _ h => h) HH.out (fun K hK => ?_)
      go_simp
      first | (refine hK _ ?_; clear hK K) | (apply Exists.intro; refine ⟨?_, hK _ ?_⟩; (focus (intro wx; first | (go_simp; first | rfl) | rfl)); clear hK K)
      refine reg_p (i := 3) rfl (by kernel_rfl) (fun _ _ _ _ h => h) HH.out (fun K hK => ?_)
      go_simp
      first | (refine hK _ ?_; clear hK K) | (apply Exists.intro; refine ⟨?_, hK _ ?_⟩; (focus (intro wx; first | (go_simp; first | rfl) | rfl)); clear hK K)
      refine reg_p (i := 4) rfl (by kernel_rfl) (fun _ _ _ _ h => h) HH.out (fun K hK => ?_)
      go_simp
      first | (refine hK _ ?_; clear hK K) | (apply Exists.intro; refine ⟨?_, hK _ ?_⟩; (focus (intro wx; first | (go_simp; first | rfl) | rfl)); clear hK K)
      refine reg_p (i := 5) rfl (by kernel_rfl) (fun _ _ _ _ h => h) HH.out (fun K hK => ?_)
      go_simp
      first | (refine hK _ ?_; clear hK K) | (apply Exists.intro; refine ⟨?_, hK _ ?_⟩; (focus (intro wx; first | (go_simp; first | rfl) | rfl)); clear hK K)
      refine mixk_q (i := 6) rfl (by kernel_rfl) (fun _ _ _ _ h => h) HH.out (fun K hK => ?_)
      go_simp
      first | (refine hK _ ?_; clear hK K) | (apply Exists.intro; refine ⟨?_, hK _ ?_⟩; (focus (intro wx hx; have x1_ := hx.cells; have x2_ := hx.r2.cells; first | (go_simp; first | rfl | exact ⟨rfl, rfl⟩) | rfl | exact ⟨rfl, rfl⟩)); clear hK K)
      refine reg_p (i := 7) rfl (by kernel_rfl) (fun _ _ _ _ h => h) HH.out (fun K hK => ?_)
      go_simp
      first | (refine hK _ ?_; clear hK K) | (apply Exists.intro; refine ⟨?_, hK _ ?_⟩; (focus (intro wx; first | (go_simp; first | rfl) | rfl)); clear hK K)
      refine mixk_q (i := 8) rfl (by kernel_rfl) (fun _ _ _ _ h => h) HH.out (fun K hK => ?_)
      go_simp
      first | (refine hK _ ?_; clear hK K) | (apply Exists.intro; refine ⟨?_, hK _ ?_⟩; (focus (intro wx hx; have x1_ := hx.cells; have x2_ := hx.r2.cells; first | (go_simp; first | rfl | exact ⟨rfl, rfl⟩) | rfl | exact ⟨rfl, rfl⟩)); clear hK K)
      refine reg_l none (i := 9) rfl (by kernel_rfl) (fun wn hk K hK => ?_)
      replace HH := Lib.hid (hk _ _ HH.out)
      clear hk
      go_simp
      refine (bktTake_c ε wn _ bb s'.b ps hbo.out hsz.out HH.out.r3).mono ?_
      rw [htk.out]
      rintro e wm ⟨rfl, H9_⟩
      replace HH := Lib.hid H9_
      clear H9_
      refine hK _ _ _ HH.out (.inl (by kernel_rfl)) ?_
      clear hK K
      refine reg_p (i := 10) rfl (by kernel_rfl) (fun _ _ _ _ h => h) HH.out (fun K hK => ?_)
      go_simp
      first | (refine hK _ ?_; clear hK K) | (apply Exists.intro; refine ⟨?_, hK _ ?_⟩; (focus (intro wx; first | (go_simp; first | rfl) | rfl)); clear hK K)
      refine reg_p (i := 11) rfl (by kernel_rfl) (fun _ _ _ _ h => h) HH.out (fun K hK => ?_)
      go_simp
      first | (refine hK _ ?_; clear hK K) | (apply Exists.intro; refine ⟨?_, hK _ ?_⟩; (focus (intro wx; first | (go_simp; first | rfl) | rfl)); clear hK K)
      refine mixk_done (by kernel_rfl) (fun w8_ hk => ?_) _
      replace HH := Lib.hid (hk _ _ HH.out)
      clear hk
      replace HH := Lib.hid ((Own.pm (HH.out) (by repeat (first | with_reducible exact Pm.refl _ | with_reducible exact Pm.nil _ | with_reducible refine Pm.here ?_ | with_reducible refine Pm.at2 ?_ | with_reducible refine Pm.at3 ?_ | with_reducible refine Pm.at4 ?_ | with_reducible refine Pm.at5 ?_ | with_reducible refine Pm.at6 ?_ | with_reducible refine Pm.at7 ?_ | with_reducible refine Pm.at8 ?_ | with_reducible refine Pm.skip ?_))) : Own _ _ (pts px _ :: pts b _ :: bkt bb b2 :: que qb s'.q :: box xb s'.x :: R))
      cases tk
      case' false =>
        go_wp2_with fail
        go_wp2_with fail
        first | go_end0 | ((try simp only [Exit.inBlock, Exit.then]); refine bodyPost_ret (results_none rfl _ _ _) rfl ?_)
        refine ⟨rfl, ?_⟩
        have e9 : s.serve ch = s' := by have := hst.out; simpa using this
        have e8 : b2 = s'.b := by have h1 := htk.out; unfold Bkt.take at h1; split at h1 <;> cases h1; rfl
        rw [e9]
        rw [e8] at HH
        exact Own.lnk_mk ε _ R b ((Own.pm (HH.out) (by repeat (first | with_reducible exact Pm.refl _ | with_reducible exact Pm.nil _ | with_reducible refine Pm.here ?_ | with_reducible refine Pm.at2 ?_ | with_reducible refine Pm.at3 ?_ | with_reducible refine Pm.at4 ?_ | with_reducible refine Pm.at5 ?_ | with_reducible refine Pm.at6 ?_ | with_reducible refine Pm.at7 ?_ | with_reducible refine Pm.at8 ?_ | with_reducible refine Pm.skip ?_))) : Own ε _ (pts b _ :: bkt bb s'.b :: que qb s'.q :: box xb s'.x :: R))
      case' true =>
        (try clear cc1_); (try clear cc2_); (try clear cc3_); (try clear cc4_); (try clear cc5_); (try clear cc6_); (try clear cc7_)
        have cc2_ := HH.out.r2.cells
        go_wp2_with fail
        refine (queShift_c ε _ _ qb s'.q hqo.out HH.out.r4).mono ?_
        rw [hq2.out]
        rintro e w9_ ⟨rfl, H9_⟩
        replace HH := Lib.hid H9_
        clear H9_
        replace HH := Lib.hid ((Own.pm (HH.out) (by repeat (first | with_reducible exact Pm.refl _ | with_reducible exact Pm.nil _ | with_reducible refine Pm.here ?_ | with_reducible refine Pm.at2 ?_ | with_reducible refine Pm.at3 ?_ | with_reducible refine Pm.at4 ?_ | with_reducible refine Pm.at5 ?_ | with_reducible refine Pm.at6 ?_ | with_reducible refine Pm.at7 ?_ | with_reducible refine Pm.at8 ?_ | with_reducible refine Pm.skip ?_))) : Own ε _ (pts px _ :: pts b _ :: bkt bb b2 :: que qb q2 :: box xb s'.x :: R))
        (try clear cc1_); (try clear cc2_); (try clear cc3_); (try clear cc4_); (try clear cc5_); (try clear cc6_); (try clear cc7_)
        have hcU := U_headD hch'.out
        obtain ⟨c0, hc0⟩ : ∃ c0, ch'.headD 0 = c0 := ⟨_, rfl⟩
        obtain ⟨ct, hct⟩ : ∃ ct, ch'.tail = ct := ⟨_, rfl⟩
        have hctU : ∀ c ∈ ct, U c := fun c hc => hch'.out c (List.mem_of_mem_tail (by rw [hct]; exact hc))
        rw [hc0] at hcU hs1 hl1 hok2 hql hst
        rw [hct] at hst
        replace hcU := Lib.hid hcU
        replace hctU := Lib.hid hctU
        replace hc0 := Lib.hid hc0
        replace hct := Lib.hid hct
        go_upto_if 34 with (fail)
        go_cut [1, 6] from 64 (fun v1 v6 wc => ∃ A2 n2 c2, v1 = .slice A2 n2 c2 ∧ v6 = .int .u64 c0 ∧ n2 ≤ 9223372036854775807 ∧ n2 ≤ c2 ∧ (∀ wx, Own ε wx R → nsAt wx A2 n2 ct) ∧ Own ε wc (pts px (.cells #[.int .u64 pn, .int .u64 ps, .int .u64 p3, .int .u64 p4, .int .u64 p5, .int .u64 p6, .bool p7] 42 (0, 0)) :: pts b (.cells #[.int .u64 s'.rate, .int .u64 s'.delay, .int .u64 s'.jit, .int .u64 s'.buf, .int .u64 s'.now, .pointer (some ⟨bb, 0, none⟩), .pointer (some ⟨qb, 0, none⟩), .pointer (some ⟨xb, 0, none⟩), .int .u64 s'.came, .int .u64 0, .int .u64 0, .int .u64 s'.served, .int .u64 0, .int .u64 s'.deliv] 179 (0, 0)) :: bkt bb b2 :: que qb q2 :: box xb s'.x :: R))
        case first =>
          cases hce : ch' with
          | nil =>
            have hz := (hA'.out _ (Own.pm (HH.out) (by repeat (first | with_reducible exact Pm.refl _ | with_reducible exact Pm.nil _ | with_reducible refine Pm.here ?_ | with_reducible refine Pm.at2 ?_ | with_reducible refine Pm.at3 ?_ | with_reducible refine Pm.at4 ?_ | with_reducible refine Pm.at5 ?_ | with_reducible refine Pm.at6 ?_ | with_reducible refine Pm.at7 ?_ | with_reducible refine Pm.at8 ?_ | with_reducible refine Pm.skip ?_)))).1
            rw [hce] at hz
            have hz2 : n' = 0 := hz.symm
            subst hz2
            have e1 : c0 = 0 := by rw [← hc0.out, hce]; rfl
            have e2 : ct = [] := by rw [← hct.out, hce]; rfl
            clear hz hce
            subst e1
            replace e2 := Lib.hid e2
            go_wp2_with fail
            go_meet
            case rel => exact ⟨_, _, _, rfl, rfl, hn3, Nat.zero_le _, by rw [e2.out]; exact fun wx _ => nsAt.zero wx _, HH.out⟩
          | cons c1 ct1 =>
            have e1 : c1 = c0 := by rw [← hc0.out, hce]; rfl
            have e2 : ct1 = ct := by rw [← hct.out, hce]; rfl
            subst e1 e2
            have hA2 := hA'.out
            rw [hce] at hA2
            obtain ⟨g, off, rfl, rfl, _, _⟩ := (hA2 _ (Own.pm (HH.out) (by repeat (first | with_reducible exact Pm.refl _ | with_reducible exact Pm.nil _ | with_reducible refine Pm.here ?_ | with_reducible refine Pm.at2 ?_ | with_reducible refine Pm.at3 ?_ | with_reducible refine Pm.at4 ?_ | with_reducible refine Pm.at5 ?_ | with_reducible refine Pm.at6 ?_ | with_reducible refine Pm.at7 ?_ | with_reducible refine Pm.at8 ?_ | with_reducible refine Pm.skip ?_)))).head
            have hcl : ∀ wx, Own ε wx R → wx.cell? ⟨g, off, none⟩ = some (.int .u64 c1) ∧ nsAt wx (some ⟨g, off + 1, none⟩) ct1.length ct1 := fun wx Hx => by
              obtain ⟨g', off', e3, _, h1, h2⟩ := (hA2 wx Hx).head
              cases e3
              exact ⟨h1, h2⟩
            clear hA2 hce
            replace hcl := Lib.hid hcl
            have f1 : (1 : Int) ≤ (ct1.length : Int) + 1 := by omega
            by_cases hd1 : c' = 1
            · subst hd1
              have hz2 : ct1 = [] := List.eq_nil_of_length_eq_zero (by omega)
              subst hz2
              clear f1
              simp only [List.length_nil, Nat.zero_add] at hnc' hn3
              go_wp2_with fail
              go_wp2_with fail
              refine wp_region_reg none HH.out (by kernel_rfl) ?_
              intro wm H9_
              replace HH := Lib.hid H9_
              clear H9_
              refine reg_p (i := 0) rfl (by kernel_rfl) (fun _ _ _ _ h => h) HH.out (fun K hK => ?_)
              go_simp
              first | (refine hK _ ?_; clear hK K) | (apply Exists.intro; refine ⟨?_, hK _ ?_⟩; (focus (intro wx; first | (go_simp; first | rfl) | rfl)); clear hK K)
              refine reg_p (i := 1) rfl (by kernel_rfl) (fun _ _ _ _ h => h) HH.out (fun K hK => ?_)
              go_simp
              first | (refine hK _ ?_; clear hK K) | (apply Exists.intro; refine ⟨?_, hK _ ?_⟩; (focus (intro wx; first | (go_simp; first | rfl) | rfl)); clear hK K)
              refine mixk_q (i := 2) rfl (by kernel_rfl) (fun _ _ _ _ h => h) HH.out (fun K hK => ?_)
              go_simp
              first | (refine hK _ ?_; clear hK K) | (apply Exists.intro; refine ⟨?_, hK _ ?_⟩; (focus (intro wx hx; have y1_ := (hcl.out wx (Own.pm (hx) (by repeat (first | with_reducible exact Pm.refl _ | with_reducible exact Pm.nil _ | with_reducible refine Pm.here ?_ | with_reducible refine Pm.at2 ?_ | with_reducible refine Pm.at3 ?_ | with_reducible refine Pm.at4 ?_ | with_reducible refine Pm.at5 ?_ | with_reducible refine Pm.at6 ?_ | with_reducible refine Pm.at7 ?_ | with_reducible refine Pm.at8 ?_ | with_reducible refine Pm.skip ?_)))).1; first | (go_simp; first | rfl | exact ⟨rfl, rfl⟩) | rfl | exact ⟨rfl, rfl⟩)); clear hK K)
              refine reg_p (i := 3) rfl (by kernel_rfl) (fun _ _ _ _ h => h) HH.out (fun K hK => ?_)
              go_simp
              first | (refine hK _ ?_; clear hK K) | (apply Exists.intro; refine ⟨?_, hK _ ?_⟩; (focus (intro wx; first | (go_simp; first | rfl) | rfl)); clear hK K)
              refine reg_p (i := 4) rfl (by kernel_rfl) (fun _ _ _ _ h => h) HH.out (fun K hK => ?_)
              go_simp
              first | (refine hK _ ?_; clear hK K) | (apply Exists.intro; refine ⟨?_, hK _ ?_⟩; (focus (intro wx; first | (go_simp; first | rfl) | rfl)); clear hK K)
              refine reg_p (i := 5) rfl (by kernel_rfl) (fun _ _ _ _ h => h) HH.out (fun K hK => ?_)
              go_simp
              first | (refine hK _ ?_; clear hK K) | (apply Exists.intro; refine ⟨?_, hK _ ?_⟩; (focus (intro wx; first | (go_simp; first | rfl) | rfl)); clear hK K)
              refine reg_p (i := 6) rfl (by kernel_rfl) (fun _ _ _ _ h => h) HH.out (fun K hK => ?_)
              go_simp
              first | (refine hK _ ?_; clear hK K) | (apply Exists.intro; refine ⟨?_, hK _ ?_⟩; (focus (intro wx; first | (go_simp; first | rfl) | rfl)); clear hK K)
              refine mixk_done (by kernel_rfl) (fun w10_ hk => ?_) _
              replace HH := Lib.hid (hk _ _ HH.out)
              clear hk
              go_wp2_with fail
              go_meet
              case rel => exact ⟨_, _, _, rfl, rfl, by first | omega | simp, by first | omega | simp, fun wx Hx => nsAt.zero wx _, HH.out⟩
            · go_wp2_with fail
              go_wp2_with fail
              refine wp_region_reg none HH.out (by kernel_rfl) ?_
              intro wm H9_
              replace HH := Lib.hid H9_
              clear H9_
              refine reg_p (i := 0) rfl (by kernel_rfl) (fun _ _ _ _ h => h) HH.out (fun K hK => ?_)
              go_simp
              first | (refine hK _ ?_; clear hK K) | (apply Exists.intro; refine ⟨?_, hK _ ?_⟩; (focus (intro wx; first | (go_simp; first | rfl) | rfl)); clear hK K)
              refine reg_p (i := 1) rfl (by kernel_rfl) (fun _ _ _ _ h => h) HH.out (fun K hK => ?_)
              go_simp
              first | (refine hK _ ?_; clear hK K) | (apply Exists.intro; refine ⟨?_, hK _ ?_⟩; (focus (intro wx; first | (go_simp; first | rfl) | rfl)); clear hK K)
              refine mixk_q (i := 2) rfl (by kernel_rfl) (fun _ _ _ _ h => h) HH.out (fun K hK => ?_)
              go_simp
              first | (refine hK _ ?_; clear hK K) | (apply Exists.intro; refine ⟨?_, hK _ ?_⟩; (focus (intro wx hx; have y1_ := (hcl.out wx (Own.pm (hx) (by repeat (first | with_reducible exact Pm.refl _ | with_reducible exact Pm.nil _ | with_reducible refine Pm.here ?_ | with_reducible refine Pm.at2 ?_ | with_reducible refine Pm.at3 ?_ | with_reducible refine Pm.at4 ?_ | with_reducible refine Pm.at5 ?_ | with_reducible refine Pm.at6 ?_ | with_reducible refine Pm.at7 ?_ | with_reducible refine Pm.at8 ?_ | with_reducible refine Pm.skip ?_)))).1; first | (go_simp; first | rfl | exact ⟨rfl, rfl⟩) | rfl | exact ⟨rfl, rfl⟩)); clear hK K)
              refine reg_p (i := 3) rfl (by kernel_rfl) (fun _ _ _ _ h => h) HH.out (fun K hK => ?_)
              go_simp
              first | (refine hK _ ?_; clear hK K) | (apply Exists.intro; refine ⟨?_, hK _ ?_⟩; (focus (intro wx; first | (go_simp; first | rfl) | rfl)); clear hK K)
              refine reg_p (i := 4) rfl (by kernel_rfl) (fun _ _ _ _ h => h) HH.out (fun K hK => ?_)
              go_simp
              first | (refine hK _ ?_; clear hK K) | (apply Exists.intro; refine ⟨?_, hK _ ?_⟩; (focus (intro wx; first | (go_simp; first | rfl) | rfl)); clear hK K)
              refine reg_p (i := 5) rfl (by kernel_rfl) (fun _ _ _ _ h => h) HH.out (fun K hK => ?_)
              go_simp
              first | (refine hK _ ?_; clear hK K) | (apply Exists.intro; refine ⟨?_, hK _ ?_⟩; (focus (intro wx; first | (go_simp; first | rfl) | rfl)); clear hK K)
              refine reg_p (i := 6) rfl (by kernel_rfl) (fun _ _ _ _ h => h) HH.out (fun K hK => ?_)
              go_simp
              first | (refine hK _ ?_; clear hK K) | (apply Exists.intro; refine ⟨?_, hK _ ?_⟩; (focus (intro wx; first | (go_simp; first | rfl) | rfl)); clear hK K)
              refine mixk_done (by kernel_rfl) (fun w11_ hk => ?_) _
              replace HH := Lib.hid (hk _ _ HH.out)
              clear hk
              go_wp2_with fail
              go_meet
              case rel => exact ⟨_, _, _, rfl, rfl, by omega, by omega, fun wx Hx => (hcl.out wx Hx).2, HH.out⟩
        case rest =>
          clear HH
          obtain ⟨A2, n2, c2, rfl, rfl, hn4, hnc4, hA2, HR⟩ := hcut
          have HH := Lib.hid HR
          clear HR
          replace hA2 := Lib.hid hA2
          go_wp2_with fail
          go_wp2_with fail
          refine wp_region_reg (some 13) HH.out (by kernel_rfl) ?_
          intro wm H9_
          replace HH := Lib.hid H9_
          clear H9_
          refine reg_p (i := 0) rfl (by kernel_rfl) (fun _ _ _ _ h => h) HH.out (fun K hK => ?_)
          go_simp
          first | (refine hK _ ?_; clear hK K) | (apply Exists.intro; refine ⟨?_, hK _ ?_⟩; (focus (intro wx; first | (go_simp; first | rfl) | rfl)); clear hK K)
          refine reg_p (i := 1) rfl (by kernel_rfl) (fun _ _ _ _ h => h) HH.out (fun K hK => ?_)
          go_simp
          first | (refine hK _ ?_; clear hK K) | (apply Exists.intro; refine ⟨?_, hK _ ?_⟩; (focus (intro wx; first | (go_simp; first | rfl) | rfl)); clear hK K)
          refine reg_p (i := 2) rfl (by kernel_rfl) (fun _ _ _ _ h => h) HH.out (fun K hK => ?_)
          go_simp
          first | (refine hK _ ?_; clear hK K) | (apply Exists.intro; refine ⟨?_, hK _ ?_⟩; (focus (intro wx; first | (go_simp; first | rfl) | rfl)); clear hK K)
          refine reg_p (i := 3) rfl (by kernel_rfl) (fun _ _ _ _ h => h) HH.out (fun K hK => ?_)
          go_simp
          first | (refine hK _ ?_; clear hK K) | (apply Exists.intro; refine ⟨?_, hK _ ?_⟩; (focus (intro wx; first | (go_simp; first | rfl) | rfl)); clear hK K)
          refine reg_p (i := 4) rfl (by kernel_rfl) (fun _ _ _ _ h => h) HH.out (fun K hK => ?_)
          go_simp
          first | (refine hK _ ?_; clear hK K) | (apply Exists.intro; refine ⟨?_, hK _ ?_⟩; (focus (intro wx; first | (go_simp; first | rfl) | rfl)); clear hK K)
          refine mixk_q (i := 5) rfl (by kernel_rfl) (fun _ _ _ _ h => h) HH.out (fun K hK => ?_)
          go_simp
          first | (refine hK _ ?_; clear hK K) | (apply Exists.intro; refine ⟨?_, hK _ ?_⟩; (focus (intro wx hx; have x1_ := hx.cells; have x2_ := hx.r2.cells; first | (go_simp; first | rfl | exact ⟨rfl, rfl⟩) | rfl | exact ⟨rfl, rfl⟩)); clear hK K)
          refine reg_p (i := 6) rfl (by kernel_rfl) (fun _ _ _ _ h => h) HH.out (fun K hK => ?_)
          go_simp
          first | (refine hK _ ?_; clear hK K) | (apply Exists.intro; refine ⟨?_, hK _ ?_⟩; (focus (intro wx; first | (go_simp; first | rfl) | rfl)); clear hK K)
          refine mixk_q (i := 7) rfl (by kernel_rfl) (fun _ _ _ _ h => h) HH.out (fun K hK => ?_)
          go_simp
          first | (refine hK _ ?_; clear hK K) | (apply Exists.intro; refine ⟨?_, hK _ ?_⟩; (focus (intro wx hx; have x1_ := hx.cells; have x2_ := hx.r2.cells; first | (go_simp; first | rfl | exact ⟨rfl, rfl⟩) | rfl | exact ⟨rfl, rfl⟩)); clear hK K)
          refine reg_l (some 13) (i := 8) rfl (by kernel_rfl) (fun wn hk K hK => ?_)
          replace HH := Lib.hid (hk _ _ HH.out)
          clear hk
          go_simp
          replace HH := Lib.hid (HH.out.alloc (.cells #[.int .u64 s'.served, .int .u64 ps] 27))
          generalize wn.alloc (.cells #[.int .u64 s'.served, .int .u64 ps] 27) = wm at *
          generalize wn.heap.size = sb at *
          refine hK _ _ _ HH.out (.inr ⟨rfl, fun _ h => h.tail⟩) ?_
          clear hK K
          refine reg_l (some 13) (i := 9) rfl (by kernel_rfl) (fun wn hk K hK => ?_)
          replace HH := Lib.hid (hk _ _ HH.out)
          clear hk
          go_simp
          refine (fixAdd2_c wn sb s'.served ps hso.out hsz.out (HH.out.cells.1 0) (HH.out.cells.1 1)).mono ?_
          rintro e wm ⟨rfl, hbel⟩
          replace HH := Lib.hid ((by first | exact Kp.same hbel | exact Kp.drew hbel | exact Kp.below hbel : Kp wn wm) _ _ HH.out)
          clear hbel
          refine hK _ _ _ HH.out (.inr ⟨rfl, fun _ h => h⟩) ?_
          clear hK K
          refine reg_p (i := 10) rfl (by kernel_rfl) (fun _ _ _ _ h => h) HH.out (fun K hK => ?_)
          go_simp
          first | (refine hK _ ?_; clear hK K) | (apply Exists.intro; refine ⟨?_, hK _ ?_⟩; (focus (intro wx; first | (go_simp; first | rfl) | rfl)); clear hK K)
          refine reg_p (i := 11) rfl (by kernel_rfl) (fun _ _ _ _ h => h) HH.out (fun K hK => ?_)
          go_simp
          first | (refine hK _ ?_; clear hK K) | (apply Exists.intro; refine ⟨?_, hK _ ?_⟩; (focus (intro wx; first | (go_simp; first | rfl) | rfl)); clear hK K)
          refine reg_p (i := 12) rfl (by kernel_rfl) (fun _ _ _ _ h => h) HH.out (fun K hK => ?_)
          go_simp
          first | (refine hK _ ?_; clear hK K) | (apply Exists.intro; refine ⟨?_, hK _ ?_⟩; (focus (intro wx; first | (go_simp; first | rfl) | rfl)); clear hK K)
          refine reg_l none (i := 13) rfl (by kernel_rfl) (fun wn hk K hK => ?_)
          replace HH := Lib.hid (hk _ _ HH.out)
          clear hk
          have hx := HH.out
          have x1_ := hx.r2.cells
          have x2_ := hx.r3.cells
          go_simp
          replace HH := Lib.hid (HH.out.r3.set 11 (.int .u64 (sadd s'.served ps)))
          simp only [List.setIfInBounds_toArray, List.set_cons_succ, List.set_cons_zero] at HH
          generalize wn.setCell ⟨b, 11, none⟩ (.int .u64 (sadd s'.served ps)) = wm at *
          clear hx x1_ x2_
          refine hK _ _ _ HH.out (.inl (by kernel_rfl)) ?_
          clear hK K
          refine mixk_done (by kernel_rfl) (fun w12_ hk => ?_) _
          replace HH := Lib.hid (hk _ _ HH.out)
          clear hk
          replace HH := Lib.hid ((Own.pm (HH.out) (by repeat (first | with_reducible exact Pm.refl _ | with_reducible exact Pm.nil _ | with_reducible refine Pm.here ?_ | with_reducible refine Pm.at2 ?_ | with_reducible refine Pm.at3 ?_ | with_reducible refine Pm.at4 ?_ | with_reducible refine Pm.at5 ?_ | with_reducible refine Pm.at6 ?_ | with_reducible refine Pm.at7 ?_ | with_reducible refine Pm.at8 ?_ | with_reducible refine Pm.skip ?_))) : Own _ _ (pts px _ :: pts b _ :: bkt bb b2 :: que qb q2 :: box xb s'.x :: R))
          go_wp2_with fail
          go_wp2_with fail
          refine wp_region_reg (some 10) HH.out (by kernel_rfl) ?_
          intro wm H9_
          replace HH := Lib.hid H9_
          clear H9_
          refine reg_p (i := 0) rfl (by kernel_rfl) (fun _ _ _ _ h => h) HH.out (fun K hK => ?_)
          go_simp
          first | (refine hK _ ?_; clear hK K) | (apply Exists.intro; refine ⟨?_, hK _ ?_⟩; (focus (intro wx; first | (go_simp; first | rfl) | rfl)); clear hK K)
          refine reg_p (i := 1) rfl (by kernel_rfl) (fun _ _ _ _ h => h) HH.out (fun K hK => ?_)
          go_simp
          first | (refine hK _ ?_; clear hK K) | (apply Exists.intro; refine ⟨?_, hK _ ?_⟩; (focus (intro wx; first | (go_simp; first | rfl) | rfl)); clear hK K)
          refine reg_p (i := 2) rfl (by kernel_rfl) (fun _ _ _ _ h => h) HH.out (fun K hK => ?_)
          go_simp
          first | (refine hK _ ?_; clear hK K) | (apply Exists.intro; refine ⟨?_, hK _ ?_⟩; (focus (intro wx; first | (go_simp; first | rfl) | rfl)); clear hK K)
          refine mixk_q (i := 3) rfl (by kernel_rfl) (fun _ _ _ _ h => h) HH.out (fun K hK => ?_)
          go_simp
          first | (refine hK _ ?_; clear hK K) | (apply Exists.intro; refine ⟨?_, hK _ ?_⟩; (focus (intro wx hx; have x1_ := hx.cells; have x2_ := hx.r2.cells; first | (go_simp; first | rfl | exact ⟨rfl, rfl⟩) | rfl | exact ⟨rfl, rfl⟩)); clear hK K)
          refine mixk_q (i := 4) rfl (by kernel_rfl) (fun _ _ _ _ h => h) HH.out (fun K hK => ?_)
          go_simp
          first | (refine hK _ ?_; clear hK K) | (apply Exists.intro; refine ⟨?_, hK _ ?_⟩; (focus (intro wx hx; have x1_ := hx.cells; have x2_ := hx.r2.cells; first | (go_simp; first | rfl | exact ⟨rfl, rfl⟩) | rfl | exact ⟨rfl, rfl⟩)); clear hK K)
          refine reg_p (i := 5) rfl (by kernel_rfl) (fun _ _ _ _ h => h) HH.out (fun K hK => ?_)
          go_simp
          first | (refine hK _ ?_; clear hK K) | (apply Exists.intro; refine ⟨?_, hK _ ?_⟩; (focus (intro wx; first | (go_simp; first | rfl) | rfl)); clear hK K)
          refine reg_p (i := 6) rfl (by kernel_rfl) (fun _ _ _ _ h => h) HH.out (fun K hK => ?_)
          go_simp
          first | (refine hK _ ?_; clear hK K) | (apply Exists.intro; refine ⟨?_, hK _ ?_⟩; (focus (intro wx; first | (go_simp; first | rfl) | rfl)); clear hK K)
          refine reg_p (i := 7) rfl (by kernel_rfl) (fun _ _ _ _ h => h) HH.out (fun K hK => ?_)
          go_simp
          first | (refine hK _ ?_; clear hK K) | (apply Exists.intro; refine ⟨?_, hK _ ?_⟩; (focus (intro wx; first | (go_simp; first | rfl) | rfl)); clear hK K)
          refine mixk_q (i := 8) rfl (by kernel_rfl) (fun _ _ _ _ h => h) HH.out (fun K hK => ?_)
          go_simp
          first | (refine hK _ ?_; clear hK K) | (apply Exists.intro; refine ⟨?_, hK _ ?_⟩; (focus (intro wx hx; have x1_ := hx.cells; have x2_ := hx.r2.cells; first | (go_simp; first | rfl | exact ⟨rfl, rfl⟩) | rfl | exact ⟨rfl, rfl⟩)); clear hK K)
          refine reg_p (i := 9) rfl (by kernel_rfl) (fun _ _ _ _ h => h) HH.out (fun K hK => ?_)
          go_simp
          first | (refine hK _ ?_; clear hK K) | (apply Exists.intro; refine ⟨?_, hK _ ?_⟩; (focus (intro wx; first | (go_simp; first | rfl) | rfl)); clear hK K)
          refine reg_l none (i := 10) rfl (by kernel_rfl) (fun wn hk K hK => ?_)
          replace HH := Lib.hid (hk _ _ HH.out)
          clear hk
          go_simp
          refine (boxPut_c ε wn _ xb s'.x ⟨pn, ps, p3, p4, p5, p6, p7⟩ s'.now c0 hxo.out hno.out hcU.out hxl.out HH.out.r5).mono ?_
          rintro e wm ⟨rfl, H9_⟩
          replace HH := Lib.hid H9_
          clear H9_
          refine hK _ _ _ HH.out (.inl (by kernel_rfl)) ?_
          clear hK K
          refine mixk_done (by kernel_rfl) (fun w13_ hk => ?_) _
          replace HH := Lib.hid (hk _ _ HH.out)
          clear hk
          replace HH := Lib.hid ((Own.pm (HH.out) (by repeat (first | with_reducible exact Pm.refl _ | with_reducible exact Pm.nil _ | with_reducible refine Pm.here ?_ | with_reducible refine Pm.at2 ?_ | with_reducible refine Pm.at3 ?_ | with_reducible refine Pm.at4 ?_ | with_reducible refine Pm.at5 ?_ | with_reducible refine Pm.at6 ?_ | with_reducible refine Pm.at7 ?_ | with_reducible refine Pm.at8 ?_ | with_reducible refine Pm.skip ?_))) : Own _ _ (pts b _ :: bkt bb b2 :: que qb q2 :: box xb (s'.x.put ⟨pn, ps, p3, p4, p5, p6, p7⟩ s'.now c0) :: R))
          go_wp2_with fail
          go_roundg l.length
          case measure => have := hk1.out; omega
          case rel =>
            have h1 := hst.out
            rw [if_pos trivial] at h1
            refine ⟨A2, n2, c2, ct, s'.serve1 ⟨pn, ps, p3, p4, p5, p6, p7⟩ c0, rfl, hn4, hnc4, hql.out, h1.symm, hok2.out, by rw [hl1.out]; exact hlen.out, hctU.out, hA2.out, ?_⟩
            rw [hs1.out]
            exact Own.lnk_mk ε _ R b HH.out
set_option maxRecDepth 100000 in
set_option maxHeartbeats 6400000 in
theorem linkTick_c (m : Nat) (s : Lnk) (hs : s.Ok) (t wst : Int) (ht : U t) (hw : U wst) (hlt : s.now ≤ t) (A : Option Addr) (n cap : Nat) (ch : List Int) (hch : ∀ c ∈ ch, U c) (hn2 : n ≤ 9223372036854775807) (hnc : n ≤ cap) (hA : ∀ wx, Own ε wx R → nsAt wx A n ch) (hl : s.len ≤ 1000000) (H : Own ε w (lnk b s :: R)) :
    Calls Try.prog 46 #[.pointer (some ⟨b, 0, none⟩), .int .u64 t, .int .u64 wst, .slice A n cap] w fun e w' => ∃ v, e = .returned (.tuple #[v, .int .i64 0]) ∧ Own ε w' (slcP v (s.outs t wst ch) :: lnk b (s.tick t wst ch) :: R) := by
  obtain ⟨bb, qb, xb, H⟩ := H.lnk_open
  have HH := Lib.hid H; clear H
  have hlt2 : ¬ t < s.now := by omega
  have hsv := fun w2 (Hx : Own ε w2 (lnk b (s.begin t) :: R)) => linkServe_c ε w2 R b (s.begin t) (Lnk.ok_begin hs ht) A n cap ch hch hn2 hnc hA hl Hx
  have hbo := hs.b
  have hok1 : ((s.begin t).serve ch).Ok := Lnk.ok_serveN (Lnk.ok_begin hs ht) hch
  have hokm : (s.mid t wst ch).Ok := Lnk.ok_mid hs ht hw hch
  have hlm : (s.mid t wst ch).len = s.len := Lnk.len_mid s t wst ch
  have htk : s.tick t wst ch = (s.mid t wst ch).out t := rfl
  have hou : s.outs t wst ch = ((s.mid t wst ch).x.out t).1 := rfl
  have hmd : s.mid t wst ch = ((s.begin t).serve ch).spill wst := rfl
  rw [htk, hou]
  clear htk hou hch hA
  generalize s.mid t wst ch = s3 at *
  obtain ⟨ol, hol⟩ : ∃ ol, (s3.x.out t).1 = ol := ⟨_, rfl⟩
  rw [hol]
  have hfin : s3.out t = { s3 with x := (s3.x.out t).2, deliv := sumF s3.deliv ol } := by rw [← hol]; rfl
  have hpo : ∀ p ∈ ol, p.Ok := by rw [← hol]; exact outL_ok hokm.ps
  replace hol := Lib.hid hol
  replace hpo := Lib.hid hpo
  replace hfin := Lib.hid hfin
  generalize (s.begin t).serve ch = s2 at *
  replace hs := Lib.hid hs
  replace hsv := Lib.hid hsv
  replace hbo := Lib.hid hbo
  replace hok1 := Lib.hid hok1
  replace hokm := Lib.hid hokm
  replace hlm := Lib.hid hlm
  replace hmd := Lib.hid hmd
  replace ht := Lib.hid ht
  replace hw := Lib.hid hw
  replace hl := Lib.hid hl
  clear hn2 hnc hlt
  go_enter Try.func46, Try.ntmps46
  (try clear cc1_); (try clear cc2_); (try clear cc3_); (try clear cc4_); (try clear cc5_); (try clear cc6_); (try clear cc7_)
  have cc1_ := HH.out.cells
  go_wp2_with (with_reducible refine stop_st ?_)
  refine Stop.go ?_
  refine wpList_store1_own (v := .int .u64 t) (k := 4) rfl rfl HH.out (by kernel_rfl) (by simp) (by first | rfl | assumption) ?_
  intro w14_ H9_
  replace HH := Lib.hid H9_
  clear H9_
  simp only [List.setIfInBounds_toArray, List.set_cons_succ, List.set_cons_zero] at HH
  (try clear cc1_); (try clear cc2_); (try clear cc3_); (try clear cc4_); (try clear cc5_); (try clear cc6_); (try clear cc7_)
  have cc1_ := HH.out.cells
  go_wp2_with fail
  refine (bktTo_c ε _ _ bb s.b t hbo.out ht.out HH.out.r2).mono ?_
  rintro e w15_ ⟨rfl, H9_⟩
  replace HH := Lib.hid H9_
  clear H9_
  have H8 := ((Own.pm (HH.out) (by repeat (first | with_reducible exact Pm.refl _ | with_reducible exact Pm.nil _ | with_reducible refine Pm.here ?_ | with_reducible refine Pm.at2 ?_ | with_reducible refine Pm.at3 ?_ | with_reducible refine Pm.at4 ?_ | with_reducible refine Pm.at5 ?_ | with_reducible refine Pm.at6 ?_ | with_reducible refine Pm.at7 ?_ | with_reducible refine Pm.at8 ?_ | with_reducible refine Pm.skip ?_))) : Own ε _ (pts b _ :: bkt bb (s.b.to t) :: que qb s.q :: box xb s.x :: R))
  replace HH := Lib.hid (Own.lnk_mk ε _ R b (s := s.begin t) (bb := bb) (qb := qb) (xb := xb) H8)
  clear H8
  (try clear cc1_); (try clear cc2_); (try clear cc3_); (try clear cc4_); (try clear cc5_); (try clear cc6_); (try clear cc7_)
  go_wp2_with fail
  refine (hsv.out _ HH.out).mono ?_
  rintro e w16_ ⟨rfl, H9_⟩
  replace HH := Lib.hid H9_
  clear H9_
  clear hsv
  obtain ⟨bb2, qb2, xb2, H9⟩ := HH.out.lnk_open
  replace HH := Lib.hid H9
  clear H9
  (try clear cc1_); (try clear cc2_); (try clear cc3_); (try clear cc4_); (try clear cc5_); (try clear cc6_); (try clear cc7_)
  have cc1_ := HH.out.cells
  have hhd : ∃ p0 fl, headP s2.q.l = (p0, fl) ∧ (fl = false ∧ s3 = { s2 with b := (s2.b.waste wst).2 } ∨ fl = true ∧ s3 = s2) := by
    cases hq : s2.q.l with
    | nil => exact ⟨_, _, rfl, .inl ⟨rfl, by rw [hmd.out]; exact if_pos hq⟩⟩
    | cons p l => exact ⟨_, _, rfl, .inr ⟨rfl, by rw [hmd.out]; exact if_neg (by rw [hq]; exact List.cons_ne_nil _ _)⟩⟩
  obtain ⟨p0, fl, hhd, h31⟩ := hhd
  have hs3x : s3.x = s2.x := by rcases h31 with ⟨_, h⟩ | ⟨_, h⟩ <;> rw [h]
  replace h31 := Lib.hid h31
  replace hhd := Lib.hid hhd
  replace hs3x := Lib.hid hs3x
  go_wp2_with fail
  refine (queHead_c ε _ _ qb2 s2.q HH.out.r3).mono ?_
  rw [hhd.out]
  rintro e w17_ ⟨rfl, H9_⟩
  replace HH := Lib.hid H9_
  clear H9_
  go_wp2_with (with_reducible refine stop_al ?_)
  refine Stop.go ?_
  refine wpList_alloc_own HH.out [.int .u64 0, .int .u64 0, .int .u64 0, .int .u64 0, .int .u64 0, .int .u64 0, .bool false] (by kernel_rfl) ?_
  intro px w18_ H9_
  replace HH := Lib.hid H9_
  clear H9_
  go_wp2_with (with_reducible refine stop_st ?_)
  refine Stop.go ?_
  refine wpList_store_own _ #[_, _, _, _, _, _, _] rfl rfl HH.out (by kernel_rfl) rfl (by repeat (first | (refine List.forall_mem_cons.2 ⟨(by first | with_reducible assumption | rfl), ?_⟩) | exact fun _ h => absurd h List.not_mem_nil)) ?_
  intro w19_ H9_
  replace HH := Lib.hid H9_
  clear H9_
  replace HH := Lib.hid ((Own.pm (HH.out) (by repeat (first | with_reducible exact Pm.refl _ | with_reducible exact Pm.nil _ | with_reducible refine Pm.here ?_ | with_reducible refine Pm.at2 ?_ | with_reducible refine Pm.at3 ?_ | with_reducible refine Pm.at4 ?_ | with_reducible refine Pm.at5 ?_ | with_reducible refine Pm.at6 ?_ | with_reducible refine Pm.at7 ?_ | with_reducible refine Pm.at8 ?_ | with_reducible refine Pm.skip ?_))) : Own ε _ (pts b _ :: bkt bb2 s2.b :: que qb2 s2.q :: box xb2 s2.x :: R))
  have hbo2 := Lib.hid hok1.out.b
  have hxl : s3.x.l.length ≤ 1000000 := by have h1 := hl.out; have h2 := hlm.out; unfold Lnk.len at h1 h2; omega
  replace hxl := Lib.hid hxl
  (try clear cc1_); (try clear cc2_); (try clear cc3_); (try clear cc4_); (try clear cc5_); (try clear cc6_); (try clear cc7_)
  have cc1_ := HH.out.cells
  rcases h31.out with ⟨rfl, h32⟩ | ⟨rfl, h32⟩
  case' inl =>
    replace h32 := Lib.hid h32
    go_wp2_with fail
    refine (bktWaste_c ε _ _ bb2 s2.b wst hbo2.out hw.out HH.out.r2).mono ?_
    rintro e w20_ ⟨rfl, H9_⟩
    replace HH := Lib.hid H9_
    clear H9_
    replace HH := Lib.hid (Own.lnk_mk ε _ R b (s := { s2 with b := (s2.b.waste wst).2 }) ((Own.pm (HH.out) (by repeat (first | with_reducible exact Pm.refl _ | with_reducible exact Pm.nil _ | with_reducible refine Pm.here ?_ | with_reducible refine Pm.at2 ?_ | with_reducible refine Pm.at3 ?_ | with_reducible refine Pm.at4 ?_ | with_reducible refine Pm.at5 ?_ | with_reducible refine Pm.at6 ?_ | with_reducible refine Pm.at7 ?_ | with_reducible refine Pm.at8 ?_ | with_reducible refine Pm.skip ?_))) : Own ε _ (pts b _ :: bkt bb2 (s2.b.waste wst).2 :: que qb2 s2.q :: box xb2 s2.x :: R)))
    rw [← h32.out] at HH
  case' inr =>
    replace h32 := Lib.hid h32
    replace HH := Lib.hid (Own.lnk_mk ε _ R b (s := s2) HH.out)
    rw [← h32.out] at HH
  all_goals
    clear h31 h32 hhd
    obtain ⟨bb3, qb3, xb3, H9⟩ := HH.out.lnk_open
    replace HH := Lib.hid H9
    clear H9
    (try clear cc1_); (try clear cc2_); (try clear cc3_); (try clear cc4_); (try clear cc5_); (try clear cc6_); (try clear cc7_)
    have cc1_ := HH.out.cells
    go_wp2_with fail
    refine (boxOut_c ε _ m _ xb3 s3.x t hxl.out HH.out.r4).mono ?_
    rintro e w21_ ⟨v, rfl, H9_⟩
    replace HH := Lib.hid H9_
    clear H9_
    obtain ⟨A1, n1, c1, rfl, hc1, hcm1, hpk⟩ := HH.out.slcP_val
    have hn1 := hpk.1
    have hn2 : n1 ≤ 9223372036854775807 := by unfold maxLen at hcm1; omega
    have hdv := Lib.hid hokm.out.deliv
    rw [hol.out] at HH hn1
    clear hpk hcm1 hol
    replace HH := Lib.hid ((Own.pm (HH.out) (by repeat (first | with_reducible exact Pm.refl _ | with_reducible exact Pm.nil _ | with_reducible refine Pm.here ?_ | with_reducible refine Pm.at2 ?_ | with_reducible refine Pm.at3 ?_ | with_reducible refine Pm.at4 ?_ | with_reducible refine Pm.at5 ?_ | with_reducible refine Pm.at6 ?_ | with_reducible refine Pm.at7 ?_ | with_reducible refine Pm.at8 ?_ | with_reducible refine Pm.skip ?_))) : Own ε _ (slcP (.slice A1 n1 c1) ol :: pts b _ :: bkt bb3 s3.b :: que qb3 s3.q :: box xb3 (s3.x.out t).2 :: R))
    (try clear cc1_); (try clear cc2_); (try clear cc3_); (try clear cc4_); (try clear cc5_); (try clear cc6_); (try clear cc7_)
    go_wp2_with fail
    go_loopw [62] (fun i wr => ∃ k : Nat, k ≤ n1 ∧ i = .int .i64 k ∧ Own ε wr (slcP (.slice A1 n1 c1) ol :: pts b (.cells #[.int .u64 s3.rate, .int .u64 s3.delay, .int .u64 s3.jit, .int .u64 s3.buf, .int .u64 s3.now, .pointer (some ⟨bb3, 0, none⟩), .pointer (some ⟨qb3, 0, none⟩), .pointer (some ⟨xb3, 0, none⟩), .int .u64 s3.came, .int .u64 0, .int .u64 0, .int .u64 s3.served, .int .u64 0, .int .u64 (sumF s3.deliv (ol.take k))] 179 (0, 0)) :: bkt bb3 s3.b :: que qb3 s3.q :: box xb3 (s3.x.out t).2 :: R)) (fun i _ => n1 - (intOf i).toNat)
    case atStart => exact ⟨0, Nat.zero_le _, rfl, HH.out⟩
    case round =>
      clear HH
      obtain ⟨k, hk, rfl, HR⟩ := hrel
      have HH := Lib.hid HR
      clear HR
      by_cases hlt : k < n1
      · obtain ⟨_, _, _, e9, _, _, hpk⟩ := HH.out.slcP_val
        cases e9
        obtain ⟨g, off, p, rfl, hp, c0, c1', c2, c3, c4, c5, c6⟩ := hpk.cells hlt
        have hst := sumF_step (n := s3.deliv) hp
        have hpo1 := hpo.out p (List.mem_of_getElem? hp)
        have hsz := Lib.hid hpo1.2.1
        have hsf : U (sumF s3.deliv (ol.take k)) := U_sumF hdv.out fun q hq => hpo.out q (List.mem_of_mem_take hq)
        clear hpk hp hpo1
        generalize sumF s3.deliv (ol.take k) = dv at *
        replace hst := Lib.hid hst
        replace hsf := Lib.hid hsf
        obtain ⟨pn, ps, p3, p4, p5, p6, p7⟩ := p
        simp only at c0 c1' c2 c3 c4 c5 c6 hsz hst
        go_wp2_with (with_reducible refine stop_al ?_)
        refine Stop.go ?_
        refine wpList_alloc_own HH.out [.int .u64 0, .int .u64 0, .int .u64 0, .int .u64 0, .int .u64 0, .int .u64 0, .bool false] (by kernel_rfl) ?_
        intro py w22_ H9_
        replace HH := Lib.hid H9_
        clear H9_
        go_wp2_with (with_reducible refine stop_st ?_)
        refine Stop.go ?_
        refine wpList_store_own _ #[_, _, _, _, _, _, _] rfl rfl HH.out (by kernel_rfl) rfl (by repeat (first | (refine List.forall_mem_cons.2 ⟨(by first | with_reducible assumption | rfl), ?_⟩) | exact fun _ h => absurd h List.not_mem_nil)) ?_
        intro w23_ H9_
        replace HH := Lib.hid H9_
        clear H9_
        clear c0 c1' c2 c3 c4 c5 c6
        replace HH := Lib.hid ((Own.pm (HH.out) (by repeat (first | with_reducible exact Pm.refl _ | with_reducible exact Pm.nil _ | with_reducible refine Pm.here ?_ | with_reducible refine Pm.at2 ?_ | with_reducible refine Pm.at3 ?_ | with_reducible refine Pm.at4 ?_ | with_reducible refine Pm.at5 ?_ | with_reducible refine Pm.at6 ?_ | with_reducible refine Pm.at7 ?_ | with_reducible refine Pm.at8 ?_ | with_reducible refine Pm.skip ?_))) : Own ε _ (pts py _ :: pts b _ :: slcP _ ol :: bkt bb3 s3.b :: que qb3 s3.q :: box xb3 (s3.x.out t).2 :: R))
        go_wp2_with fail
        refine wp_region_reg (some 13) HH.out (by kernel_rfl) ?_
        intro wm H9_
        replace HH := Lib.hid H9_
        clear H9_
        refine reg_p (i := 0) rfl (by kernel_rfl) (fun _ _ _ _ h => h) HH.out (fun K hK => ?_)
        go_simp
        first | (refine hK _ ?_; clear hK K) | (apply Exists.intro; refine ⟨?_, hK _ ?_⟩; (focus (intro wx; first | (go_simp; first | rfl) | rfl)); clear hK K)
        refine reg_p (i := 1) rfl (by kernel_rfl) (fun _ _ _ _ h => h) HH.out (fun K hK => ?_)
        go_simp
        first | (refine hK _ ?_; clear hK K) | (apply Exists.intro; refine ⟨?_, hK _ ?_⟩; (focus (intro wx; first | (go_simp; first | rfl) | rfl)); clear hK K)
        refine reg_p (i := 2) rfl (by kernel_rfl) (fun _ _ _ _ h => h) HH.out (fun K hK => ?_)
        go_simp
        first | (refine hK _ ?_; clear hK K) | (apply Exists.intro; refine ⟨?_, hK _ ?_⟩; (focus (intro wx; first | (go_simp; first | rfl) | rfl)); clear hK K)
        refine reg_p (i := 3) rfl (by kernel_rfl) (fun _ _ _ _ h => h) HH.out (fun K hK => ?_)
        go_simp
        first | (refine hK _ ?_; clear hK K) | (apply Exists.intro; refine ⟨?_, hK _ ?_⟩; (focus (intro wx; first | (go_simp; first | rfl) | rfl)); clear hK K)
        refine reg_p (i := 4) rfl (by kernel_rfl) (fun _ _ _ _ h => h) HH.out (fun K hK => ?_)
        go_simp
        first | (refine hK _ ?_; clear hK K) | (apply Exists.intro; refine ⟨?_, hK _ ?_⟩; (focus (intro wx; first | (go_simp; first | rfl) | rfl)); clear hK K)
        refine mixk_q (i := 5) rfl (by kernel_rfl) (fun _ _ _ _ h => h) HH.out (fun K hK => ?_)
        go_simp
        first | (refine hK _ ?_; clear hK K) | (apply Exists.intro; refine ⟨?_, hK _ ?_⟩; (focus (intro wx hx; have x1_ := hx.cells; have x2_ := hx.r2.cells; first | (go_simp; first | rfl | exact ⟨rfl, rfl⟩) | rfl | exact ⟨rfl, rfl⟩)); clear hK K)
        refine reg_p (i := 6) rfl (by kernel_rfl) (fun _ _ _ _ h => h) HH.out (fun K hK => ?_)
        go_simp
        first | (refine hK _ ?_; clear hK K) | (apply Exists.intro; refine ⟨?_, hK _ ?_⟩; (focus (intro wx; first | (go_simp; first | rfl) | rfl)); clear hK K)
        refine mixk_q (i := 7) rfl (by kernel_rfl) (fun _ _ _ _ h => h) HH.out (fun K hK => ?_)
        go_simp
        first | (refine hK _ ?_; clear hK K) | (apply Exists.intro; refine ⟨?_, hK _ ?_⟩; (focus (intro wx hx; have x1_ := hx.cells; have x2_ := hx.r2.cells; first | (go_simp; first | rfl | exact ⟨rfl, rfl⟩) | rfl | exact ⟨rfl, rfl⟩)); clear hK K)
        refine reg_l (some 13) (i := 8) rfl (by kernel_rfl) (fun wn hk K hK => ?_)
        replace HH := Lib.hid (hk _ _ HH.out)
        clear hk
        go_simp
        replace HH := Lib.hid (HH.out.alloc (.cells #[.int .u64 dv, .int .u64 ps] 27))
        generalize wn.alloc (.cells #[.int .u64 dv, .int .u64 ps] 27) = wm at *
        generalize wn.heap.size = sb at *
        refine hK _ _ _ HH.out (.inr ⟨rfl, fun _ h => h.tail⟩) ?_
        clear hK K
        refine reg_l (some 13) (i := 9) rfl (by kernel_rfl) (fun wn hk K hK => ?_)
        replace HH := Lib.hid (hk _ _ HH.out)
        clear hk
        go_simp
        refine (fixAdd2_c wn sb dv ps hsf.out hsz.out (HH.out.cells.1 0) (HH.out.cells.1 1)).mono ?_
        rintro e wm ⟨rfl, hbel⟩
        replace HH := Lib.hid ((by first | exact Kp.same hbel | exact Kp.drew hbel | exact Kp.below hbel : Kp wn wm) _ _ HH.out)
        clear hbel
        refine hK _ _ _ HH.out (.inr ⟨rfl, fun _ h => h⟩) ?_
        clear hK K
        refine reg_p (i := 10) rfl (by kernel_rfl) (fun _ _ _ _ h => h) HH.out (fun K hK => ?_)
        go_simp
        first | (refine hK _ ?_; clear hK K) | (apply Exists.intro; refine ⟨?_, hK _ ?_⟩; (focus (intro wx; first | (go_simp; first | rfl) | rfl)); clear hK K)
        refine reg_p (i := 11) rfl (by kernel_rfl) (fun _ _ _ _ h => h) HH.out (fun K hK => ?_)
        go_simp
        first | (refine hK _ ?_; clear hK K) | (apply Exists.intro; refine ⟨?_, hK _ ?_⟩; (focus (intro wx; first | (go_simp; first | rfl) | rfl)); clear hK K)
        refine reg_p (i := 12) rfl (by kernel_rfl) (fun _ _ _ _ h => h) HH.out (fun K hK => ?_)
        go_simp
        first | (refine hK _ ?_; clear hK K) | (apply Exists.intro; refine ⟨?_, hK _ ?_⟩; (focus (intro wx; first | (go_simp; first | rfl) | rfl)); clear hK K)
        refine reg_l none (i := 13) rfl (by kernel_rfl) (fun wn hk K hK => ?_)
        replace HH := Lib.hid (hk _ _ HH.out)
        clear hk
        have hx := HH.out
        have x1_ := hx.r2.cells
        have x2_ := hx.r3.cells
        go_simp
        replace HH := Lib.hid (HH.out.r3.set 13 (.int .u64 (sadd dv ps)))
        simp only [List.setIfInBounds_toArray, List.set_cons_succ, List.set_cons_zero] at HH
        generalize wn.setCell ⟨b, 13, none⟩ (.int .u64 (sadd dv ps)) = wm at *
        clear hx x1_ x2_
        refine hK _ _ _ HH.out (.inl (by kernel_rfl)) ?_
        clear hK K
        refine mixk_done (by kernel_rfl) (fun w24_ hk => ?_) _
        replace HH := Lib.hid (hk _ _ HH.out)
        clear hk
        replace HH := Lib.hid ((Own.pm (HH.out) (by repeat (first | with_reducible exact Pm.refl _ | with_reducible exact Pm.nil _ | with_reducible refine Pm.here ?_ | with_reducible refine Pm.at2 ?_ | with_reducible refine Pm.at3 ?_ | with_reducible refine Pm.at4 ?_ | with_reducible refine Pm.at5 ?_ | with_reducible refine Pm.at6 ?_ | with_reducible refine Pm.at7 ?_ | with_reducible refine Pm.at8 ?_ | with_reducible refine Pm.skip ?_))) : Own _ _ (slcP _ ol :: pts b _ :: bkt bb3 s3.b :: que qb3 s3.q :: box xb3 (s3.x.out t).2 :: R))
        go_wp2_with fail
        go_roundw
        case rel => exact ⟨k + 1, by omega, by go_num, by rw [hst.out]; exact HH.out⟩
        case measure => simp [intOf]; omega
      · have hkn : k = n1 := by omega
        subst hkn
        rw [List.take_of_length_le (show ol.length ≤ k by omega)] at HH
        have H8 := ((Own.pm (HH.out) (by repeat (first | with_reducible exact Pm.refl _ | with_reducible exact Pm.nil _ | with_reducible refine Pm.here ?_ | with_reducible refine Pm.at2 ?_ | with_reducible refine Pm.at3 ?_ | with_reducible refine Pm.at4 ?_ | with_reducible refine Pm.at5 ?_ | with_reducible refine Pm.at6 ?_ | with_reducible refine Pm.at7 ?_ | with_reducible refine Pm.at8 ?_ | with_reducible refine Pm.skip ?_))) : Own ε _ (pts b _ :: bkt bb3 s3.b :: que qb3 s3.q :: box xb3 (s3.x.out t).2 :: slcP (.slice A1 k c1) ol :: R))
        have H9 := (Own.lnk_mk ε _ _ b (s := { s3 with x := (s3.x.out t).2, deliv := sumF s3.deliv ol }) H8).r2
        rw [← hfin.out] at H9
        replace H9 := Lib.hid H9
        clear H8
        go_wp2_with fail
        go_ret2
        exact ⟨_, rfl, H9.out⟩
set_option maxRecDepth 100000 in
set_option maxHeartbeats 6400000 in
theorem linkCount_c (s : Lnk) (hs : s.Ok) (hl : s.len ≤ 1000000) (H : Own ε w (lnk b s :: R)) :
    Calls Try.prog 50 #[.pointer (some ⟨b, 0, none⟩)] w fun e w' => e = .returned (.agg #[.int .u64 s.came, .int .u64 s.q.gone, .int .u64 s.q.bytes, .int .u64 s.served, .int .u64 s.under, .int .u64 s.deliv]) ∧ Own ε w' (lnk b s :: R) := by
  obtain ⟨bb, qb, xb, H⟩ := H.lnk_open
  have HH := Lib.hid H; clear H
  have hxl : s.x.l.length ≤ 1000000 := by unfold Lnk.len at hl; omega
  have hpo : ∀ p ∈ s.x.l.map Du.p, p.Ok := by
    intro p hp
    obtain ⟨d, hd, rfl⟩ := List.mem_map.1 hp
    exact hs.ps d hd
  have hun : s.under = sumF 0 (s.x.l.map Du.p) := rfl
  obtain ⟨ol, hol⟩ : ∃ ol, s.x.l.map Du.p = ol := ⟨_, rfl⟩
  rw [hol] at hpo hun
  rw [hun]
  clear hun hl
  replace hs := Lib.hid hs
  replace hpo := Lib.hid hpo
  replace hxl := Lib.hid hxl
  go_enter Try.func50, Try.ntmps50
  go_wp2_with (with_reducible refine stop_al ?_)
  refine Stop.go ?_
  refine wpList_alloc_own HH.out [.int .u64 0, .int .u64 0, .int .u64 0, .int .u64 0, .int .u64 0, .int .u64 0] (by kernel_rfl) ?_
  intro rt w25_ H9_
  replace HH := Lib.hid H9_
  clear H9_
  (try clear cc1_); (try clear cc2_); (try clear cc3_); (try clear cc4_); (try clear cc5_); (try clear cc6_); (try clear cc7_)
  have cc2_ := HH.out.r2.cells
  go_wp2_with (with_reducible refine stop_al ?_)
  refine Stop.go ?_
  refine wpList_alloc_own HH.out [.int .u64 0, .int .u64 0, .int .u64 0, .int .u64 0, .int .u64 0, .int .u64 0] (by kernel_rfl) ?_
  intro cb w26_ H9_
  replace HH := Lib.hid H9_
  clear H9_
  go_wp2_with (with_reducible refine stop_st ?_)
  refine Stop.go ?_
  refine wpList_store_own _ #[_, _, _, _, _, _] rfl rfl HH.out (by kernel_rfl) rfl (by repeat (first | (refine List.forall_mem_cons.2 ⟨(by first | with_reducible assumption | rfl), ?_⟩) | exact fun _ h => absurd h List.not_mem_nil)) ?_
  intro w27_ H9_
  replace HH := Lib.hid H9_
  clear H9_
  (try clear cc1_); (try clear cc2_); (try clear cc3_); (try clear cc4_); (try clear cc5_); (try clear cc6_); (try clear cc7_)
  have cc3_ := HH.out.r3.cells
  go_wp2_with fail
  refine (queDropped_c ε _ _ qb s.q HH.out.r5).mono ?_
  rintro e w28_ ⟨rfl, nd, hnd⟩
  replace HH := Lib.hid (HH.out.drewN nd)
  rw [← hnd] at HH
  clear hnd
  go_wp2_with (with_reducible refine stop_st ?_)
  refine Stop.go ?_
  refine wpList_store1_own (v := .int .u64 s.q.gone) (k := 1) rfl rfl HH.out (by kernel_rfl) (by simp) (by first | rfl | assumption) ?_
  intro w29_ H9_
  replace HH := Lib.hid H9_
  clear H9_
  simp only [List.setIfInBounds_toArray, List.set_cons_succ, List.set_cons_zero] at HH
  (try clear cc1_); (try clear cc2_); (try clear cc3_); (try clear cc4_); (try clear cc5_); (try clear cc6_); (try clear cc7_)
  have cc3_ := HH.out.r3.cells
  go_wp2_with fail
  refine (queBytes_c ε _ _ qb s.q HH.out.r5).mono ?_
  rintro e w30_ ⟨rfl, hbel⟩
  replace HH := Lib.hid ((by first | exact Kp.same hbel | exact Kp.drew hbel | exact Kp.below hbel : Kp _ w30_) _ _ (by first | exact HH.out | exact HH.out.drewN _ | exact (HH.out.alloc _).tail | exact ((HH.out.alloc _).drewN _).tail | exact ((HH.out.alloc _).alloc _).tail.tail))
  clear hbel
  go_wp2_with (with_reducible refine stop_st ?_)
  refine Stop.go ?_
  refine wpList_store1_own (v := .int .u64 s.q.bytes) (k := 2) rfl rfl HH.out (by kernel_rfl) (by simp) (by first | rfl | assumption) ?_
  intro w31_ H9_
  replace HH := Lib.hid H9_
  clear H9_
  simp only [List.setIfInBounds_toArray, List.set_cons_succ, List.set_cons_zero] at HH
  (try clear cc1_); (try clear cc2_); (try clear cc3_); (try clear cc4_); (try clear cc5_); (try clear cc6_); (try clear cc7_)
  have cc3_ := HH.out.r3.cells
  go_wp2_with fail
  refine (boxAll_c ε _ _ xb s.x hxl.out HH.out.r6).mono ?_
  rintro e w32_ ⟨v, rfl, H9_⟩
  replace HH := Lib.hid H9_
  clear H9_
  rw [hol] at HH
  obtain ⟨A1, n1, c1, rfl, hc1, hcm1, hpk⟩ := HH.out.slcP_val
  have hn1 := hpk.1
  have hn2 : n1 ≤ 9223372036854775807 := by unfold maxLen at hcm1; omega
  clear hpk hcm1
  replace hol := Lib.hid hol
  replace HH := Lib.hid ((Own.pm (HH.out) (by repeat (first | with_reducible exact Pm.refl _ | with_reducible exact Pm.nil _ | with_reducible refine Pm.here ?_ | with_reducible refine Pm.at2 ?_ | with_reducible refine Pm.at3 ?_ | with_reducible refine Pm.at4 ?_ | with_reducible refine Pm.at5 ?_ | with_reducible refine Pm.at6 ?_ | with_reducible refine Pm.at7 ?_ | with_reducible refine Pm.at8 ?_ | with_reducible refine Pm.skip ?_))) : Own ε _ (pts cb _ :: slcP (.slice A1 n1 c1) ol :: pts rt _ :: pts b _ :: bkt bb s.b :: que qb s.q :: box xb s.x :: R))
  (try clear cc1_); (try clear cc2_); (try clear cc3_); (try clear cc4_); (try clear cc5_); (try clear cc6_); (try clear cc7_)
  go_wp2_with fail
  go_loopw [34] (fun i wr => ∃ k : Nat, k ≤ n1 ∧ i = .int .i64 k ∧ Own ε wr (pts cb (.cells #[.int .u64 s.came, .int .u64 s.q.gone, .int .u64 s.q.bytes, .int .u64 s.served, .int .u64 (sumF 0 (ol.take k)), .int .u64 s.deliv] 93 (0, 0)) :: slcP (.slice A1 n1 c1) ol :: pts rt (.cells #[.int .u64 0, .int .u64 0, .int .u64 0, .int .u64 0, .int .u64 0, .int .u64 0] 93 (0, 0)) :: pts b (.cells #[.int .u64 s.rate, .int .u64 s.delay, .int .u64 s.jit, .int .u64 s.buf, .int .u64 s.now, .pointer (some ⟨bb, 0, none⟩), .pointer (some ⟨qb, 0, none⟩), .pointer (some ⟨xb, 0, none⟩), .int .u64 s.came, .int .u64 0, .int .u64 0, .int .u64 s.served, .int .u64 0, .int .u64 s.deliv] 179 (0, 0)) :: bkt bb s.b :: que qb s.q :: box xb s.x :: R)) (fun i _ => n1 - (intOf i).toNat)
  case atStart => exact ⟨0, Nat.zero_le _, rfl, HH.out⟩
  case round =>
    clear HH
    obtain ⟨k, hk, rfl, HR⟩ := hrel
    have HH := Lib.hid HR
    clear HR
    by_cases hlt : k < n1
    · obtain ⟨_, _, _, e9, _, _, hpk⟩ := HH.out.r2.slcP_val
      cases e9
      obtain ⟨g, off, p, rfl, hp, c0, c1', c2, c3, c4, c5, c6⟩ := hpk.cells hlt
      have hst := sumF_step (n := 0) hp
      have hpo1 := hpo.out p (List.mem_of_getElem? hp)
      have hsz := Lib.hid hpo1.2.1
      have hsf : U (sumF 0 (ol.take k)) := U_sumF U_zero fun q hq => hpo.out q (List.mem_of_mem_take hq)
      clear hpk hp hpo1
      generalize sumF 0 (ol.take k) = dv at *
      replace hst := Lib.hid hst
      replace hsf := Lib.hid hsf
      obtain ⟨pn, ps, p3, p4, p5, p6, p7⟩ := p
      simp only at c0 c1' c2 c3 c4 c5 c6 hsz hst
      go_wp2_with (with_reducible refine stop_al ?_)
      refine Stop.go ?_
      refine wpList_alloc_own HH.out [.int .u64 0, .int .u64 0, .int .u64 0, .int .u64 0, .int .u64 0, .int .u64 0, .bool false] (by kernel_rfl) ?_
      intro py w33_ H9_
      replace HH := Lib.hid H9_
      clear H9_
      go_wp2_with (with_reducible refine stop_st ?_)
      refine Stop.go ?_
      refine wpList_store_own _ #[_, _, _, _, _, _, _] rfl rfl HH.out (by kernel_rfl) rfl (by repeat (first | (refine List.forall_mem_cons.2 ⟨(by first | with_reducible assumption | rfl), ?_⟩) | exact fun _ h => absurd h List.not_mem_nil)) ?_
      intro w34_ H9_
      replace HH := Lib.hid H9_
      clear H9_
      clear c0 c1' c2 c3 c4 c5 c6
      (try clear cc1_); (try clear cc2_); (try clear cc3_); (try clear cc4_); (try clear cc5_); (try clear cc6_); (try clear cc7_)
      have cc1_ := HH.out.cells
      have cc2_ := HH.out.r2.cells
      go_wp2_with (with_reducible refine stop_bs ?_)
      refine Stop.go ?_
      refine wpList_bsv_own HH.out [.int .u64 dv, .int .u64 ps] 1 8 [.int .u64 0] Try.underlying80 (by kernel_rfl) (by kernel_rfl) (by decide) (by decide) (by kernel_rfl) ?_
      intro sb w35_ H9_
      replace HH := Lib.hid H9_
      clear H9_
      (try clear cc1_); (try clear cc2_); (try clear cc3_); (try clear cc4_); (try clear cc5_); (try clear cc6_); (try clear cc7_)
      have cc3_ := HH.out.r3.cells
      go_wp2_with fail
      refine (fixAdd2_c _ sb dv ps hsf.out hsz.out (HH.out.cells.1 0) (HH.out.cells.1 1)).mono ?_
      rintro e w36_ ⟨rfl, hbel⟩
      replace HH := Lib.hid ((by first | exact Kp.same hbel | exact Kp.drew hbel | exact Kp.below hbel : Kp _ w36_) _ _ (by first | exact HH.out | exact HH.out.drewN _ | exact (HH.out.alloc _).tail | exact ((HH.out.alloc _).drewN _).tail | exact ((HH.out.alloc _).alloc _).tail.tail))
      clear hbel
      go_wp2_with (with_reducible refine stop_st ?_)
      refine Stop.go ?_
      refine wpList_store1_own (v := .int .u64 (sadd dv ps)) (k := 4) rfl rfl HH.out.r3 (by kernel_rfl) (by simp) (by first | rfl | assumption) ?_
      intro w37_ H9_
      replace HH := Lib.hid H9_
      clear H9_
      simp only [List.setIfInBounds_toArray, List.set_cons_succ, List.set_cons_zero] at HH
      replace HH := Lib.hid ((Own.pm (HH.out) (by repeat (first | with_reducible exact Pm.refl _ | with_reducible exact Pm.nil _ | with_reducible refine Pm.here ?_ | with_reducible refine Pm.at2 ?_ | with_reducible refine Pm.at3 ?_ | with_reducible refine Pm.at4 ?_ | with_reducible refine Pm.at5 ?_ | with_reducible refine Pm.at6 ?_ | with_reducible refine Pm.at7 ?_ | with_reducible refine Pm.at8 ?_ | with_reducible refine Pm.skip ?_))) : Own ε _ (pts cb _ :: slcP _ ol :: pts rt _ :: pts b _ :: bkt bb s.b :: que qb s.q :: box xb s.x :: R))
      (try clear cc1_); (try clear cc2_); (try clear cc3_); (try clear cc4_); (try clear cc5_); (try clear cc6_); (try clear cc7_)
      go_wp2_with fail
      go_roundw
      case rel => exact ⟨k + 1, by omega, by go_num, by rw [hst.out]; exact HH.out⟩
      case measure => simp [intOf]; omega
    · have hkn : k = n1 := by omega
      subst hkn
      rw [List.take_of_length_le (show ol.length ≤ k by omega)] at HH
      (try clear cc1_); (try clear cc2_); (try clear cc3_); (try clear cc4_); (try clear cc5_); (try clear cc6_); (try clear cc7_)
      have cc1_ := HH.out.cells
      replace HH := Lib.hid ((Own.pm (HH.out) (by repeat (first | with_reducible exact Pm.refl _ | with_reducible exact Pm.nil _ | with_reducible refine Pm.here ?_ | with_reducible refine Pm.at2 ?_ | with_reducible refine Pm.at3 ?_ | with_reducible refine Pm.at4 ?_ | with_reducible refine Pm.at5 ?_ | with_reducible refine Pm.at6 ?_ | with_reducible refine Pm.at7 ?_ | with_reducible refine Pm.at8 ?_ | with_reducible refine Pm.skip ?_))) : Own ε _ (pts rt _ :: pts cb _ :: pts b _ :: bkt bb s.b :: que qb s.q :: box xb s.x :: R))
      (try clear cc1_); (try clear cc2_); (try clear cc3_); (try clear cc4_); (try clear cc5_); (try clear cc6_); (try clear cc7_)
      have cc2_ := HH.out.r2.cells
      go_wp2_with (with_reducible refine stop_st ?_)
      refine Stop.go ?_
      refine wpList_store_own _ #[_, _, _, _, _, _] rfl rfl HH.out (by kernel_rfl) rfl (by repeat (first | (refine List.forall_mem_cons.2 ⟨(by first | with_reducible assumption | rfl), ?_⟩) | exact fun _ h => absurd h List.not_mem_nil)) ?_
      intro w38_ H9_
      replace HH := Lib.hid H9_
      clear H9_
      go_wp2_with fail
      refine bodyPost_ret (results_cell_row rfl _ _ _ _ _ _ _ rfl HH.out.blk Try.underlying93 rfl (by kernel_rfl)) rfl (⟨rfl, Own.lnk_mk ε _ R b ((Own.pm (HH.out) (by repeat (first | with_reducible exact Pm.refl _ | with_reducible exact Pm.nil _ | with_reducible refine Pm.here ?_ | with_reducible refine Pm.at2 ?_ | with_reducible refine Pm.at3 ?_ | with_reducible refine Pm.at4 ?_ | with_reducible refine Pm.at5 ?_ | with_reducible refine Pm.at6 ?_ | with_reducible refine Pm.at7 ?_ | with_reducible refine Pm.at8 ?_ | with_reducible refine Pm.skip ?_))) : Own ε _ (pts b _ :: bkt bb s.b :: que qb s.q :: box xb s.x :: R))⟩)
end
end Go.Proofs.Ytklohjjkpobneaa
