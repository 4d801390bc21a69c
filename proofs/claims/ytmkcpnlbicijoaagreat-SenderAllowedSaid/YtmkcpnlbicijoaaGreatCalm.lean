/- Regions that draw, all of whose operations keep what is owned: each has one value in every world that owns these; whatever the order, the region ends in some world that owns them. -/
import Derived.Test.YtmkcpnlbicijoaaGreatLed7
import Derived.Test.YtmkcpnlbicijoaaGreatLen
import Derived.Test.YtmkcpnlbicijoaaGreatRttD
import Derived.Test.YtmkcpnlbicijoaaGreatRdU
import Derived.Deep.Quiet
import Derived.Deep.QuietTactic
namespace Go.Proofs.YtmkcpnlbicijoaaGreat
open Go.RowKit
theorem sqIn_nil (n : Nat) : SqIn [] n := ⟨apart_nil, fun _ hr => absurd hr List.not_mem_nil, Nat.zero_le _⟩
theorem putsL_in : ∀ (xs l : List Rg) (n : Nat), SqIn l n → (∀ x ∈ xs, U x.1 ∧ U x.2) → xs.any badR = false → SqIn (putsL l xs) (n + xs.length)
 | [], l, n, h, _, _ => h
 | x :: xs, l, n, h, hU, hb => by
  simp only [List.any_cons, Bool.or_eq_false_iff] at hb
  have hx := hU x (List.mem_cons_self ..)
  have h2 := putsL_in xs (putL x l) (n + 1) (h.put hb.1 hx.1.1 hx.2).1 (fun y hy => hU y (List.mem_cons_of_mem _ hy)) hb.2
  rw [show n + (x :: xs).length = n + 1 + xs.length by simp; omega]
  exact h2
def Led.ackTop (s : Led) (out : List Pk) : Led := match out.getLast? with
 | .none => s
 | .some p => { s with top := max s.top p.n, some := true }
def Led.ack (s : Led) (xs : List Rg) : List Pk × Int × Led :=
 if xs.any badR then ([], 1, s) else (taken (ackB (putsL [] xs)) s.row, 0, (s.take (ackB (putsL [] xs))).ackTop (taken (ackB (putsL [] xs)) s.row))
def Led.lost (s : Led) (now delay limit : Int) : List Pk × Led := (taken (lostB s.re s.top s.some now delay limit) s.row, s.take (lostB s.re s.top s.some now delay limit))
theorem pk_n {ε w : World} {R : List Asn} {g off n cap i : Nat} {l : List Pk} {p : Pk} (H : Own ε w (slcP (.slice (some ⟨g, off, none⟩) n cap) l :: R)) (hp : l[i]? = some p) : w.cell? ⟨g, off + i * 7, none⟩ = some (.int .u64 p.n) := by
 obtain ⟨_, _, _, e, _, _, h⟩ := H.slcP_val
 cases e
 obtain ⟨hi, rfl⟩ := List.getElem?_eq_some_iff.1 hp
 obtain ⟨g', off', e, hc⟩ := h.2 i hi
 cases e
 exact hc 0 _ rfl
section
variable (ε w : World) (R : List Asn) (b : Nat)
set_option maxRecDepth 100000 in
set_option maxHeartbeats 3200000 in
theorem ledAck_c (s : Led) (hn : s.row.length ≤ 1000000) (hok : ∀ e ∈ s.row, e.p.Ok) (xs : List Rg) (hU : ∀ x ∈ xs, U x.1 ∧ U x.2) (A : Option Addr) (len cap : Nat) (hA : ∀ wx, Own ε wx R → itAt encRg 2 wx A len xs) (hm : len ≤ 999999) (H : Own ε w (led b s :: R)) :
  Calls Tryz.prog 49 #[.pointer (some ⟨b, 0, none⟩), .slice A len cap] w fun e w' => ∃ v, e = .returned (.tuple #[v, .int .i64 (s.ack xs).2.1]) ∧ Own ε w' (slcP v (s.ack xs).1 :: led b (s.ack xs).2.2 :: R) := by
 have HH := Lib.hid H; clear H
 have hlen : xs.length = len := (hA w HH.out.tail).1
 replace hA := Lib.hid hA
 replace hU := Lib.hid hU
 replace hok := Lib.hid hok
 cases hb : xs.any badR with
 | true =>
  rw [show s.ack xs = ([], 1, s) from if_pos hb]
  replace hb := Lib.hid hb
  replace hlen := Lib.hid hlen
  go_enter Tryz.func49, Tryz.ntmps49
  go_wp2_with fail
  refine (seqNew_c ε _ _ HH.out).mono ?_
  rintro e w1_ ⟨sb, rfl, H9_⟩
  replace HH := Lib.hid H9_
  clear H9_
  go_wp2_with (with_reducible refine stop_al ?_)
  refine Stop.go ?_
  refine wpList_alloc_own HH.out [.pointer none] (by kernel_rfl) ?_
  intro gb w2_ H9_
  replace HH := Lib.hid H9_
  clear H9_
  go_wp2_with (with_reducible refine stop_st ?_)
  refine Stop.go ?_
  refine wpList_store1_own (v := .pointer (some ⟨sb, 0, none⟩)) (k := 0) rfl rfl HH.out (by kernel_rfl) (by simp) (by first | rfl | assumption) ?_
  intro w3_ H9_
  replace HH := Lib.hid H9_
  clear H9_
  simp only [List.setIfInBounds_toArray, List.set_cons_zero] at HH
  (try clear cc1_); (try clear cc4_)
  have cc1_ := HH.out.cells
  go_wp2_with fail
  refine (seqPut_bad ε _ _ sb [] xs (fun x hx => (hU.out x hx).2) A len cap (fun wx Hx => hA.out wx (Hx.tail.tail.tail)) (by omega) hb.out HH.out.r2).mono ?_
  rintro e w4_ ⟨rfl, H9_⟩
  replace HH := Lib.hid H9_
  clear H9_
  go_wp2_with fail
  go_ret2
  exact ⟨_, rfl, HH.out.tail.tail.slc_none⟩
 | false =>
  have hin := putsL_in xs [] 0 (sqIn_nil 0) hU.out hb
  rw [Nat.zero_add, hlen] at hin
  obtain ⟨q, hq⟩ : ∃ q, q = putsL [] xs := ⟨_, rfl⟩
  rw [show s.ack xs = (taken (ackB q) s.row, 0, (s.take (ackB q)).ackTop (taken (ackB q) s.row)) by rw [hq]; exact if_neg (by rw [hb]; decide)]
  rw [← hq] at hin
  obtain ⟨tk, htk⟩ : ∃ tk, tk = taken (ackB q) s.row := ⟨_, rfl⟩
  rw [← htk] at ⊢
  have htl : tk.length ≤ 1000000 := by
   have := taken_len (ackB q) s.row
   rw [← htk] at this
   omega
  replace htk := Lib.hid htk
  obtain ⟨s2, hs2⟩ : ∃ s2, s2 = s.take (ackB q) := ⟨_, rfl⟩
  rw [← hs2] at ⊢
  replace hs2 := Lib.hid hs2
  replace hq := Lib.hid hq
  replace hb := Lib.hid hb
  replace hin := Lib.hid hin
  replace hlen := Lib.hid hlen
  go_enter Tryz.func49, Tryz.ntmps49
  go_wp2_with fail
  refine (seqNew_c ε _ _ HH.out).mono ?_
  rintro e w5_ ⟨sb, rfl, H9_⟩
  replace HH := Lib.hid H9_
  clear H9_
  go_wp2_with (with_reducible refine stop_al ?_)
  refine Stop.go ?_
  refine wpList_alloc_own HH.out [.pointer none] (by kernel_rfl) ?_
  intro gb w6_ H9_
  replace HH := Lib.hid H9_
  clear H9_
  go_wp2_with (with_reducible refine stop_st ?_)
  refine Stop.go ?_
  refine wpList_store1_own (v := .pointer (some ⟨sb, 0, none⟩)) (k := 0) rfl rfl HH.out (by kernel_rfl) (by simp) (by first | rfl | assumption) ?_
  intro w7_ H9_
  replace HH := Lib.hid H9_
  clear H9_
  simp only [List.setIfInBounds_toArray, List.set_cons_zero] at HH
  (try clear cc1_); (try clear cc4_)
  have cc1_ := HH.out.cells
  go_wp2_with fail
  refine (seqPut_c ε _ _ sb [] xs 0 (sqIn_nil 0) hU.out A len cap (fun _ wx Hx => hA.out wx (Hx.tail.tail.tail)) (by omega) hb.out HH.out.r2).mono ?_
  rintro e w8_ ⟨rfl, H9_⟩
  replace HH := Lib.hid H9_
  clear H9_
  rw [← hq.out] at HH
  obtain ⟨rb, H2⟩ := (HH.out.pn : Own ε _ (led b s :: pts gb _ :: sqs sb q :: R)).led_open
  have H3 := show Own ε _ (capA gb sb q :: _) from (H2.pn : Own ε _ (pts gb _ :: sqs sb q :: ledN b rb s :: ringL rb (blks s.row) :: ents s.row :: R)).join
  replace HH := Lib.hid (H3.pn : Own ε _ (ledN b rb s :: ringL rb (blks s.row) :: ents s.row :: capA gb sb q :: R))
  clear H2 H3
  go_wp2_with fail
  refine (takeA_c ε _ _ b rb 0 s hn hok.out gb sb q len hin.out hm HH.out).mono ?_
  rintro e w9_ ⟨v, rfl, H9_⟩
  replace HH := Lib.hid H9_
  clear H9_
  rw [← htk.out, ← hs2.out] at HH
  rw [show ledN b rb s = ledN b rb s2 by rw [hs2.out]; rfl] at HH
  clear hs2
  obtain ⟨A2, n2, c2, rfl, hc1, hc2, hpk⟩ := HH.out.slcP_val
  replace hpk := Lib.hid hpk
  obtain ⟨re, next, top, sm, row⟩ := s2
  by_cases h0 : n2 = 0
  ·subst h0
   have e0 : tk = [] := List.eq_nil_of_length_eq_zero hpk.out.1
   subst e0
   go_wp2_with fail
   go_ret2
   refine ⟨_, rfl, ?_⟩
   have H9 := Own.led_mk (s := ⟨re, next, top, sm, row⟩) (HH.out.pn : Own ε _ (ledN b rb ⟨re, next, top, sm, row⟩ :: ringL rb (blks row) :: ents row :: slcP _ [] :: R))
   exact H9.l2
  ·obtain ⟨g, off, p, rfl, hp, _⟩ := hpk.out.cells (i := n2 - 1) (by omega)
   have hl : tk.getLast? = some p := by rw [List.getLast?_eq_getElem?, hpk.out.1]; exact hp
   have ea : Led.ackTop ⟨re, next, top, sm, row⟩ tk = ⟨re, next, max top p.n, true, row⟩ := by unfold Led.ackTop; rw [hl]
   clear hl
   have im := ite_max
   have hn2 : n2 ≤ 1000000 := by have := hpk.out.1; omega
   have hn3 : (0 : Int) < (n2 : Int) := by omega
   have hw : IntKind.i64.wrap ((n2 : Int) - 1) = ((n2 - 1 : Nat) : Int) := by rw [IntKind.wrap_i64]; omega
   obtain ⟨k, hk⟩ : ∃ k, n2 = k + 1 := ⟨n2 - 1, by omega⟩
   rw [show n2 - 1 = k by omega] at hw hp
   have hk2 : (k : Int) < (n2 : Int) := by omega
   replace hk := Lib.hid hk
   replace hp := Lib.hid hp
   replace ea := Lib.hid ea
   go_wp2_with fail
   refine wp_region_reg (some 15) HH.out (by kernel_rfl) ?_
   intro wm H9_
   replace HH := Lib.hid H9_
   clear H9_
   refine reg_s 0 HH.out ?_
   refine reg_s 1 HH.out ?_
   refine reg_s 2 HH.out ?_
   refine reg_s 3 HH.out ?_
   refine reg_s 4 HH.out ?_
   refine mixk_q (i := 5) rfl (by kernel_rfl) (fun _ _ _ _ h => h) HH.out (fun K hK => ?_)
   go_simp
   (first | refine hK _ ?_ | (apply Exists.intro; refine ⟨?_, hK _ ?_⟩; focus intro wx hx; have x2_ := hx.r2.cells; have y0_ := pk_n (hx.pn : Own ε _ (slcP (.slice (some ⟨g, off, none⟩) n2 c2) tk :: R)) hp.out; first | (go_simp; first | rfl | exact ⟨rfl, rfl⟩) | rfl | exact ⟨rfl, rfl⟩)); clear hK K
   refine reg_s 6 HH.out ?_
   refine reg_s 7 HH.out ?_
   refine reg_s 8 HH.out ?_
   refine reg_s 9 HH.out ?_
   refine reg_s 10 HH.out ?_
   refine mixk_q (i := 11) rfl (by kernel_rfl) (fun _ _ _ _ h => h) HH.out (fun K hK => ?_)
   go_simp
   (first | refine hK _ ?_ | (apply Exists.intro; refine ⟨?_, hK _ ?_⟩; focus intro wx hx; have x2_ := hx.r2.cells; have y0_ := pk_n (hx.pn : Own ε _ (slcP (.slice (some ⟨g, off, none⟩) n2 c2) tk :: R)) hp.out; first | (go_simp; first | rfl | exact ⟨rfl, rfl⟩) | rfl | exact ⟨rfl, rfl⟩)); clear hK K
   refine reg_s 12 HH.out ?_
   refine reg_s 13 HH.out ?_
   refine reg_s 14 HH.out ?_
   refine reg_l (some 18) (i := 15) rfl (by kernel_rfl) (fun wn hk K hK => ?_)
   replace HH := Lib.hid (hk _ _ HH.out)
   clear hk
   have hx := HH.out
   have x2_ := hx.r2.cells
   have y0_ := pk_n (hx.pn : Own ε _ (slcP (.slice (some ⟨g, off, none⟩) n2 c2) tk :: R)) hp.out
   go_simp
   replace HH := Lib.hid (HH.out.r2.set 3 (.int .u64 (max top p.n)))
   simp only [List.setIfInBounds_toArray, List.set_cons_succ, List.set_cons_zero] at HH
   generalize wn.setCell ⟨b, 3, none⟩ (.int .u64 (max top p.n)) = wm at *
   clear hx x2_
   refine hK _ _ _ HH.out (.inl (by kernel_rfl)) ?_
   clear hK K
   refine reg_s 16 HH.out ?_
   refine reg_s 17 HH.out ?_
   refine reg_l none (i := 18) rfl (by kernel_rfl) (fun wn hk K hK => ?_)
   replace HH := Lib.hid (hk _ _ HH.out)
   clear hk
   have hx := HH.out
   have x2_ := hx.cells
   have y0_ := pk_n (hx.pn : Own ε _ (slcP (.slice (some ⟨g, off, none⟩) n2 c2) tk :: R)) hp.out
   go_simp
   replace HH := Lib.hid (HH.out.set 4 (.bool true))
   simp only [List.setIfInBounds_toArray, List.set_cons_succ, List.set_cons_zero] at HH
   generalize wn.setCell ⟨b, 4, none⟩ (.bool true) = wm at *
   clear hx x2_
   refine hK _ _ _ HH.out (.inl (by kernel_rfl)) ?_
   clear hK K
   refine mixk_done (by kernel_rfl) (fun w10_ hk => ?_) _
   replace HH := Lib.hid (hk _ _ HH.out)
   clear hk
   replace HH := Lib.hid (HH.out.pn : Own _ _ (slcP (.slice (some ⟨g, off, none⟩) n2 c2) tk :: pts b _ :: ringL rb (blks row) :: ents row :: R))
   go_wp2_with fail
   go_ret2
   refine ⟨_, rfl, ?_⟩
   rw [ea.out]
   have H9 := Own.led_mk (s := ⟨re, next, max top p.n, true, row⟩) (HH.out.pn : Own ε _ (pts b _ :: ringL rb (blks row) :: ents row :: slcP (.slice (some ⟨g, off, none⟩) n2 c2) tk :: R))
   exact H9.l2
end
end Go.Proofs.YtmkcpnlbicijoaaGreat
namespace Go.Proofs.YtmkcpnlbicijoaaGreat
open Go.RowKit
def bytesP (l : List Pk) : Int := l.foldl (fun n p => sadd n p.size) 0
theorem bytesP_next {l : List Pk} {i : Nat} {p : Pk} (h : l[i]? = some p) : bytesP (l.take (i + 1)) = sadd (bytesP (l.take i)) p.size := by
 rw [take_next h]
 unfold bytesP
 rw [List.foldl_append]
 rfl
theorem outs_ok {l : List En} (h : ∀ e ∈ l, e.p.Ok) : ∀ p ∈ outs l, p.Ok := by
 intro p hp
 obtain ⟨e, he, rfl⟩ := List.mem_map.1 hp
 exact h e ((List.mem_filter.1 he).1)
section
variable (ε w : World) (R : List Asn) (b : Nat)
set_option maxRecDepth 100000 in
set_option maxHeartbeats 1600000 in
theorem ledLost_c (s : Led) (hn : s.row.length ≤ 1000000) (hok : ∀ e ∈ s.row, e.p.Ok) (now delay limit : Int) (h1 : U delay) (h2 : U limit) (h3 : U s.re) (H : Own ε w (led b s :: R)) :
  Calls Tryz.prog 69 #[.pointer (some ⟨b, 0, none⟩), .int .u64 now, .int .u64 delay, .int .u64 limit] w fun e w' => ∃ v, e = .returned v ∧ Own ε w' (slcP v (s.lost now delay limit).1 :: led b (s.lost now delay limit).2 :: R) := by
 obtain ⟨tk, htk⟩ : ∃ tk, tk = (s.lost now delay limit).1 := ⟨_, rfl⟩
 obtain ⟨s2, hs2⟩ : ∃ s2, s2 = (s.lost now delay limit).2 := ⟨_, rfl⟩
 rw [← htk, ← hs2]
 replace htk := Lib.hid htk
 replace hs2 := Lib.hid hs2
 have HH := Lib.hid H; clear H
 replace hok := Lib.hid hok
 replace hn := Lib.hid hn
 go_enter Tryz.func69, Tryz.ntmps69
 go_wp2_with (with_reducible refine stop_bx ?_)
 refine Stop.go ?_
 refine wpList_box_own HH.out [_] rfl ?_
 intro gb w1_ H9_
 replace HH := Lib.hid H9_
 clear H9_
 go_wp2_with (with_reducible refine stop_bx ?_)
 refine Stop.go ?_
 refine wpList_box_own HH.out [_] rfl ?_
 intro nb w2_ H9_
 replace HH := Lib.hid H9_
 clear H9_
 go_wp2_with (with_reducible refine stop_bx ?_)
 refine Stop.go ?_
 refine wpList_box_own HH.out [_] rfl ?_
 intro db w3_ H9_
 replace HH := Lib.hid H9_
 clear H9_
 go_wp2_with (with_reducible refine stop_bx ?_)
 refine Stop.go ?_
 refine wpList_box_own HH.out [_] rfl ?_
 intro lb w4_ H9_
 replace HH := Lib.hid H9_
 clear H9_
 have H1 := show Own ε _ (pts lb (.cells #[.int .u64 limit] 22 (0, 0)) :: pts db (.cells #[.int .u64 delay] 22 (0, 0)) :: pts nb (.cells #[.int .u64 now] 22 (0, 0)) :: pts gb (.cells #[.pointer (some ⟨b, 0, none⟩)] 60 (0, 0)) :: led b s :: R) from HH.out
 have cc4_ := H1.r4.cells
 obtain ⟨rb, H2⟩ := (H1.pn : Own ε _ (led b s :: pts lb _ :: pts nb _ :: pts db _ :: pts gb _ :: R)).led_open
 have H3 := show Own ε _ (capX lb nb gb db b now delay limit :: _) from (H2.pn : Own ε _ (pts lb _ :: pts nb _ :: pts db _ :: pts gb _ :: ledN b rb s :: ringL rb (blks s.row) :: ents s.row :: R)).capX_mk
 replace HH := Lib.hid (H3.pn : Own ε _ (ledN b rb s :: ringL rb (blks s.row) :: ents s.row :: capX lb nb gb db b now delay limit :: R))
 clear H1 H2 H3
 go_wp2_with fail
 refine (takeL_c ε _ _ b rb 0 s hn.out hok.out lb nb gb db now delay limit h1 h2 h3 HH.out).mono ?_
 rintro e w5_ ⟨v, rfl, H9_⟩
 replace HH := Lib.hid H9_
 clear H9_
 go_wp2_with fail
 go_ret
 refine ⟨_, rfl, ?_⟩
 rw [htk.out, hs2.out]
 exact (Own.led_mk (s := (s.lost now delay limit).2) (HH.out.pn : Own ε _ (ledN b rb s :: ringL rb (blks (s.take (lostB s.re s.top s.some now delay limit)).row) :: ents (s.take (lostB s.re s.top s.some now delay limit)).row :: slcP v (taken (lostB s.re s.top s.some now delay limit) s.row) :: R))).l2
set_option maxRecDepth 100000 in
set_option maxHeartbeats 1600000 in
theorem ledInFlight_c (s : Led) (hn : s.row.length ≤ 1000000) (hok : ∀ e ∈ s.row, e.p.Ok) (H : Own ε w (led b s :: R)) :
  Calls Tryz.prog 35 #[.pointer (some ⟨b, 0, none⟩)] w fun e w' => e = .returned (.int .u64 (bytesP (outs s.row))) ∧ Own ε w' (led b s :: R) := by
 have HH := Lib.hid H; clear H
 have hlen := outs_len s.row
 have hpo := outs_ok hok
 have hlen2 : (outs s.row).length ≤ 1000000 := Nat.le_trans hlen hn
 clear hlen hok
 replace hlen2 := Lib.hid hlen2
 replace hn := Lib.hid hn
 go_enter Tryz.func35, Tryz.ntmps35
 go_wp2_with fail
 refine (ledOut_c ε _ _ b 0 s hn.out HH.out).mono ?_
 rintro e w10_ ⟨v, rfl, H9_⟩
 replace HH := Lib.hid H9_
 clear H9_
 obtain ⟨l, hl⟩ : ∃ l, l = outs s.row := ⟨_, rfl⟩
 have hlen := hlen2.out
 rw [← hl] at HH hlen hpo
 replace hl := Lib.hid hl
 obtain ⟨A, n, c, rfl, _, _, hpk⟩ := HH.out.slcP_val
 have hln : l.length = n := hpk.1
 clear hpk
 replace hpo := Lib.hid hpo
 have hn2 : n ≤ 1000000 := by omega
 replace hln := Lib.hid hln
 clear hlen hlen2
 replace hn2 := Lib.hid hn2
 go_wp2_with fail
 go_loopw [3, 9] (fun t i wr => ∃ k : Nat, k ≤ n ∧ i = .int .i64 k ∧ t = .int .u64 (bytesP (l.take k)) ∧ U (bytesP (l.take k)) ∧ Own ε wr (slcP (.slice A n c) l :: led b s :: R)) (fun _ i _ => n - (intOf i).toNat)
 case atStart => exact ⟨0, Nat.zero_le _, rfl, rfl, U_zero, HH.out⟩
 case round =>
  clear HH
  obtain ⟨k, hk, rfl, rfl, hu, HR⟩ := hrel
  have HH := Lib.hid HR
  clear HR
  by_cases hlt : k < n
  ·obtain ⟨_, _, _, e, _, _, hpk⟩ := HH.out.slcP_val
   cases e
   obtain ⟨g, off, p, rfl, hp, y0_, y1_, y2_, y3_, y4_, y5_, y6_⟩ := hpk.cells hlt
   clear hpk
   have hps := (hpo.out p (List.mem_of_getElem? hp)).2.1
   have e1 := bytesP_next hp
   obtain ⟨t, ht⟩ : ∃ t, t = bytesP (l.take k) := ⟨_, rfl⟩
   rw [← ht] at e1 hu ⊢
   clear ht
   obtain ⟨pn, ps, p3, p4, p5, p6, p7⟩ := p
   replace hp := Lib.hid hp
   replace e1 := Lib.hid e1
   have hk9 : k ≤ 1000000 := Nat.le_trans hk hn2.out
   have hlti : (k : Int) < (n : Int) := by omega
   go_wp2_with (with_reducible refine stop_al ?_)
   refine Stop.go ?_
   refine wpList_alloc_own HH.out [.int .u64 0, .int .u64 0, .int .u64 0, .int .u64 0, .int .u64 0, .int .u64 0, .bool false] (by kernel_rfl) ?_
   intro pb w11_ H9_
   replace HH := Lib.hid H9_
   clear H9_
   go_wp2_with (with_reducible refine stop_st ?_)
   refine Stop.go ?_
   refine wpList_store_own _ #[_, _, _, _, _, _, _] rfl rfl HH.out (by kernel_rfl) rfl (by repeat (first | (refine List.forall_mem_cons.2 ⟨(by first | with_reducible assumption | rfl), ?_⟩) | exact fun _ h => absurd h List.not_mem_nil)) ?_
   intro w12_ H9_
   replace HH := Lib.hid H9_
   clear H9_
   clear y0_ y1_ y2_ y3_ y4_ y5_ y6_
   (try clear cc1_); (try clear cc4_)
   have cc1_ := HH.out.cells
   go_wp2_with (with_reducible refine stop_bs ?_)
   refine Stop.go ?_
   refine wpList_bsv_own HH.out [.int .u64 t, .int .u64 ps] 1 8 [.int .u64 0] Tryz.underlying141 (by kernel_rfl) (by kernel_rfl) (by decide) (by decide) (by kernel_rfl) ?_
   intro g1 w13_ H9_
   replace HH := Lib.hid H9_
   clear H9_
   go_wp2_with fail
   refine (fixAdd2_c _ g1 t ps hu hps (HH.out.cells.1 0) (HH.out.cells.1 1)).mono ?_
   rintro e w14_ ⟨rfl, hbel⟩
   replace HH := Lib.hid ((by first | exact .same hbel | exact .drew hbel | exact .below hbel : Kp _ w14_) _ _ (by first | exact HH.out | exact HH.out.drewN _ | exact (HH.out.alloc _).tail | exact ((HH.out.alloc _).drewN _).tail | exact ((HH.out.alloc _).alloc _).tail.tail))
   clear hbel
   go_wp2_with fail
   go_roundw
   case rel => exact ⟨k + 1, by omega, by go_num, by rw [e1.out], by rw [e1.out]; exact U_sadd hu hps, HH.out.pn⟩
   case measure => simp [intOf]; omega
  ·have hkn : ¬ (k : Int) < (n : Int) := by omega
   obtain rfl : k = n := by omega
   have e9 : bytesP (l.take k) = bytesP (outs s.row) := by rw [← hln.out, List.take_length, hl.out]
   replace e9 := Lib.hid e9
   go_wp2_with fail
   go_ret
   exact ⟨by rw [← e9.out]; rfl, HH.out.tail⟩
end
end Go.Proofs.YtmkcpnlbicijoaaGreat
namespace Go.Proofs.YtmkcpnlbicijoaaGreat
open Go.RowKit
structure Clk where
 t : Int
 n : Int
 past : Bool
def Clk.zero : Clk := ⟨0, 0, false⟩
def Clk.Ok (s : Clk) : Prop := 0 ≤ s.t ∧ s.t ≤ 4398046511104 ∧ 0 ≤ s.n ∧ s.n ≤ 72057594037927936
def Clk.to (s : Clk) (t : Int) : Int × Clk := if s.past = true then (3, s) else if t < s.t then (2, s) else if 4398046511104 < t then (3, ⟨s.t, s.n, true⟩) else (0, ⟨t, s.n, s.past⟩)
def Clk.count (s : Clk) (n : Int) : Int × Clk := if s.past = true then (3, s) else if 72057594037927936 < s.n + n then (3, ⟨s.t, s.n, true⟩) else (0, ⟨s.t, s.n + n, s.past⟩)
theorem Clk.ok_zero : Clk.zero.Ok := by unfold Clk.zero Clk.Ok; exact ⟨by decide, by decide, by decide, by decide⟩
theorem Clk.ok_to {s : Clk} {t : Int} (h : s.Ok) : (s.to t).2.Ok := by
 unfold Clk.Ok at h ⊢; unfold Clk.to; repeat' split
 all_goals (refine ⟨?_, ?_, ?_, ?_⟩ <;> simp only <;> omega)
theorem Clk.ok_count {s : Clk} {n : Int} (hn : 0 ≤ n) (h : s.Ok) : (s.count n).2.Ok := by
 unfold Clk.Ok at h ⊢; unfold Clk.count; repeat' split
 all_goals (refine ⟨?_, ?_, ?_, ?_⟩ <;> simp only <;> omega)

def clk (b : Nat) (s : Clk) : Asn := pts b (.cells #[.int .u64 s.t, .int .u64 s.n, .bool s.past] 111 (0, 0))
section
variable (ε w : World) (R : List Asn) (b : Nat) (s : Clk)
set_option maxHeartbeats 400000 in
theorem clkNew_c {L : List Asn} (H : Own ε w L) :
  Calls Tryz.prog 26 #[] w fun e w' => ∃ b, e = .returned (.pointer (some ⟨b, 0, none⟩)) ∧ Own ε w' (clk b Clk.zero :: L) := by
 have HH := Lib.hid H; clear H
 go_enter Tryz.func26, Tryz.ntmps26
 go_wp2
 go_ret
 exact ⟨_, rfl, HH.out.alloc _⟩
set_option maxHeartbeats 400000 in
theorem clkEnd_c (H : Own ε w (clk b s :: R)) :
  Calls Tryz.prog 68 #[.pointer (some ⟨b, 0, none⟩)] w fun e w' => e = .returned (.int .i64 3) ∧ Own ε w' (clk b ⟨s.t, s.n, true⟩ :: R) := by
 obtain ⟨t, n, past⟩ := s
 obtain ⟨c0, f0⟩ := H.cells
 have HH := Lib.hid H; clear H
 go_enter Tryz.func68, Tryz.ntmps68
 go_wp2
 go_ret
 exact ⟨rfl, HH.out.set 2 (.bool true)⟩
set_option maxHeartbeats 400000 in
theorem clkTo_c (t : Int) (H : Own ε w (clk b s :: R)) :
  Calls Tryz.prog 36 #[.pointer (some ⟨b, 0, none⟩), .int .u64 t] w fun e w' => e = .returned (.int .i64 (s.to t).1) ∧ Own ε w' (clk b (s.to t).2 :: R) := by
 obtain ⟨st, n, past⟩ := s
 obtain ⟨c0, f0⟩ := H.cells
 have HH := Lib.hid H; clear H
 cases past with
 | true =>
  go_enter Tryz.func36, Tryz.ntmps36
  go_wp2
  go_ret
  exact ⟨rfl, HH.out⟩
 | false =>
  by_cases h1 : t < st
  ·have e : (⟨st, n, false⟩ : Clk).to t = (2, ⟨st, n, false⟩) := by simp [Clk.to, h1]
   rw [e]; clear e
   go_enter Tryz.func36, Tryz.ntmps36
   go_wp2
   go_ret
   exact ⟨rfl, HH.out⟩
  ·by_cases h2 : 4398046511104 < t
   ·have e : (⟨st, n, false⟩ : Clk).to t = (3, ⟨st, n, true⟩) := by simp [Clk.to, h1, h2]
    rw [e]; clear e
    go_enter Tryz.func36, Tryz.ntmps36
    go_wp2_with (go_at_call 68; refine (clkEnd_c ε _ R b ⟨st, n, false⟩ HH.out).mono ?_; rintro e w' ⟨rfl, H1⟩)
    go_ret
    exact ⟨rfl, H1⟩
   ·have e : (⟨st, n, false⟩ : Clk).to t = (0, ⟨t, n, false⟩) := by simp [Clk.to, h1, h2]
    rw [e]; clear e
    go_enter Tryz.func36, Tryz.ntmps36
    go_wp2
    go_ret
    exact ⟨rfl, HH.out.set 0 (.int .u64 t)⟩
set_option maxHeartbeats 400000 in
theorem clkCount_c (n : Int) (hn : U n) (hs : s.Ok) (H : Own ε w (clk b s :: R)) :
  Calls Tryz.prog 45 #[.pointer (some ⟨b, 0, none⟩), .int .u64 n] w fun e w' => e = .returned (.int .i64 (s.count n).1) ∧ Own ε w' (clk b (s.count n).2 :: R) := by
 obtain ⟨st, sn, past⟩ := s
 obtain ⟨c0, f0⟩ := H.cells
 have hlt := H.lt
 have HH := Lib.hid H; clear H
 cases past with
 | true =>
  go_enter Tryz.func45, Tryz.ntmps45
  go_wp2
  go_ret
  exact ⟨rfl, HH.out⟩
 | false =>
  obtain ⟨hs1, hs2, hs3, hs4⟩ := hs
  simp only at hs1 hs2 hs3 hs4
  have hU : U sn := ⟨hs3, by omega⟩
  by_cases h1 : 72057594037927936 < sn + n
  ·have e : (⟨st, sn, false⟩ : Clk).count n = (3, ⟨st, sn, true⟩) := by simp [Clk.count, h1]
   rw [e]; clear e
   have h2 : 72057594037927936 < sadd sn n := by unfold sadd; split <;> omega
   go_enter Tryz.func45, Tryz.ntmps45
   go_wp2_with fail
   refine (fixAdd2_c _ _ sn n hU hn (cell_new _ _ _ 0) (cell_new _ _ _ 1)).mono ?_
   rintro e w' ⟨rfl, rfl⟩
   go_wp2_with (go_at_call 68; refine (clkEnd_c ε _ R b ⟨st, sn, false⟩ (HH.out.alloc _).tail).mono ?_; rintro e w' ⟨rfl, H1⟩)
   go_ret
   exact ⟨rfl, H1⟩
  ·have e : (⟨st, sn, false⟩ : Clk).count n = (0, ⟨st, sn + n, false⟩) := by simp [Clk.count, h1]
   rw [e]; clear e
   have h2 : ¬ 72057594037927936 < sadd sn n := by unfold sadd; unfold U at hn; split <;> omega
   go_enter Tryz.func45, Tryz.ntmps45
   go_wp2_with fail
   refine (fixAdd2_c _ _ sn n hU hn (cell_new _ _ _ 0) (cell_new _ _ _ 1)).mono ?_
   rintro e w' ⟨rfl, rfl⟩
   have hn1 := hn.1
   go_wp2
   go_ret
   exact ⟨rfl, ((HH.out.set 1 (.int .u64 (sn + n))).alloc _).tail⟩
theorem clkTime_c (H : Own ε w (clk b s :: R)) :
  Calls Tryz.prog 32 #[.pointer (some ⟨b, 0, none⟩)] w fun e w' => e = .returned (.int .u64 s.t) ∧ w = w' := by
 obtain ⟨st, n, past⟩ := s
 obtain ⟨c0, f0⟩ := H.cells
 clear H
 go_enter Tryz.func32, Tryz.ntmps32
 go_wp2
 go_ret
 exact ⟨rfl, rfl⟩
theorem clkPast_c (H : Own ε w (clk b s :: R)) :
  Calls Tryz.prog 42 #[.pointer (some ⟨b, 0, none⟩)] w fun e w' => e = .returned (.bool s.past) ∧ w = w' := by
 obtain ⟨st, n, past⟩ := s
 obtain ⟨c0, f0⟩ := H.cells
 clear H
 go_enter Tryz.func42, Tryz.ntmps42
 go_wp2
 go_ret
 exact ⟨rfl, rfl⟩
end
end Go.Proofs.YtmkcpnlbicijoaaGreat
namespace Go.Proofs.YtmkcpnlbicijoaaGreat
open Go.RowKit
theorem rdInts_getD {w : World} {A : Option Addr} {len cap : Nat} {xs : List Int} (h : rdSlice (rdInt .u64) 1 w [.slice A len cap] xs) :
  xs.length = len ∧ len ≤ 9223372036854775807 ∧ (len = 0 ∧ xs = [] ∨ ∃ b off, A = some ⟨b, off, none⟩ ∧ ∀ i, i < len → w.cell? ⟨b, off + i, none⟩ = some (.int .u64 (xs.getD i 0)) ∧ U (xs.getD i 0) ∧ xs.take (i + 1) = xs.take i ++ [xs.getD i 0]) := by
 obtain ⟨h1, h2, h3⟩ := rdInts_cell h
 refine ⟨h1, h2, ?_⟩
 rcases h3 with h | ⟨b, off, e, hx⟩
 ·exact .inl ⟨by omega, List.eq_nil_of_length_eq_zero (by omega)⟩
 ·refine .inr ⟨b, off, e, fun i hi => ?_⟩
  have hg : xs.getD i 0 = xs[i] := by rw [List.getD, List.getElem?_eq_getElem (by omega)]; rfl
  refine ⟨?_, ?_, take_snoc_getD xs i (by omega)⟩
  ·rw [hg]; exact (hx i (by omega)).1
  ·rw [hg]; exact (hx i (by omega)).2
theorem sless_snoc (a : Int) (l : List Int) (x : Int) : sless a (l ++ [x]) = ssub (sless a l) x := by simp [sless]
theorem U_sless {a : Int} {l : List Int} (ha : U a) (h : ∀ x ∈ l, U x) : U (sless a l) := by
 unfold sless
 induction l generalizing a with
 | nil => exact ha
 | cons x l ih => exact ih (U_ssub ha (h x (by simp))) (fun y hy => h y (by simp [hy]))
theorem ssub_ite (a b : Int) : a - (if b < a then b else a) = ssub a b := by unfold ssub; split <;> split <;> omega
theorem fixSub_c (w : World) (a : Int) (A : Option Addr) (len cap : Nat) (l : List Int) (ha : U a) (hr : rdSlice (rdInt .u64) 1 w [.slice A len cap] l) :
  Calls Tryz.prog 87 #[.int .u64 a, .slice A len cap] w fun e w' => e = .returned (.int .u64 (sless a l)) ∧ w = w' := by
 have hUl := Lib.hid (rdInts_U hr)
 obtain ⟨h1, h2, h3⟩ := rdInts_getD hr
 replace h1 := Lib.hid h1
 replace ha := Lib.hid ha
 clear hr
 rcases h3 with ⟨rfl, rfl⟩ | ⟨b, off, rfl, hx⟩
 ·go_enter Tryz.func87, Tryz.ntmps87
  go_wp2
  go_loop [0, 9] (fun n i => n = .int .u64 a ∧ i = .int .i64 0) (fun _ i => 0)
  case atStart => exact ⟨rfl, rfl⟩
  case round =>
   obtain ⟨rfl, rfl⟩ := hrel
   go_wp2
   go_ret
   exact ⟨rfl, rfl⟩
 ·replace hx := Lib.hid hx
  go_enter Tryz.func87, Tryz.ntmps87
  go_wp2
  go_loop [0, 6, 9] (fun n x i => ∃ k : Nat, k ≤ len ∧ i = .int .i64 k ∧ n = .int .u64 (sless a (l.take k))) (fun _ _ i => len - (intOf i).toNat)
  case atStart => exact ⟨0, Nat.zero_le _, rfl, rfl⟩
  case round =>
   obtain ⟨k, hk, rfl, rfl⟩ := hrel
   by_cases hlt : k < len
   ·obtain ⟨hc, hU, HT⟩ := hx.out k hlt
    have hs : U (sless a (l.take k)) := U_sless ha.out (fun x h => hUl.out x (List.mem_of_mem_take h))
    generalize l.getD k 0 = v at *
    have HQ := Lib.hid (sless_snoc a (l.take k) v)
    rw [← HT] at HQ
    generalize sless a (l.take k) = s at *
    clear HT
    unfold U at hU hs
    go_wp2
    go_round
    case rel => exact ⟨k + 1, by omega, by go_num, by rw [HQ.out, ← ssub_ite]⟩
    case measure => simp [intOf]; omega
   ·have HE := Lib.hid (show l.take k = l from List.take_of_length_le (by have := h1.out; omega))
    go_wp2
    go_ret
    exact ⟨by rw [HE.out]; rfl, rfl⟩
theorem rdInts_at {w : World} {b off : Nat} (l : List Int) (hc : ∀ i, i < l.length → w.cell? ⟨b, off + i, none⟩ = some (.int .u64 (l.getD i 0))) (hU : ∀ x ∈ l, U x) (hm : l.length ≤ maxLen) : rdSlice (rdInt .u64) 1 w [.slice (some ⟨b, off, none⟩) l.length l.length] l :=
 rdInts_mk rfl (Nat.le_refl _) hm (fun x hx => wf_of_U (hU x hx)) (fun i hi => by rw [hc i hi, List.getD, List.getElem?_eq_getElem hi]; rfl)
end Go.Proofs.YtmkcpnlbicijoaaGreat
namespace Go.Proofs.YtmkcpnlbicijoaaGreat
open Go.RowKit
theorem wp_region_calm {P : Program} {id : Nat} {Q : Exit → Act → World → Prop} {a : Act} {w : World} {l : List Oper} (ε : World) (L : List Asn) (hm : P.follows .mixedOrders = true) (hB : Region.lexB .any l.toArray = true) (H : Own ε w L)
  (h : wpQuiet P l.toArray (fun w' => Own ε w' L) (fun a' => ∀ w', Own ε w' L → Q .normal a' w') l a) : (Code.region id l.toArray true).wp P Q a w :=
 wp_region_quiet (C := fun w' => Own ε w' L) hm hB (H.drawn _) (by simpa using h)
theorem Below.drewN {B : Nat} {a w : World} (h : Below B a w) (n : Nat) : Below B a (w.drewN n) := ⟨h.os, h.tape, h.output, h.size, h.block⟩
end Go.Proofs.YtmkcpnlbicijoaaGreat
