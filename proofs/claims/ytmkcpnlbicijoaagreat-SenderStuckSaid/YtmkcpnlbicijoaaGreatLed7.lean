/- ledger: take, with what is asked by Lost: by mktake.py. -/
import Derived.Test.YtmkcpnlbicijoaaGreatLed6
namespace Go.Proofs.YtmkcpnlbicijoaaGreat
open Go.RowKit Go.Shelf
attribute [local go_sem] Oper.semAt_some

section
variable (ε w : World) (R : List Asn) (b rb : Nat)
set_option maxRecDepth 100000 in
set_option maxHeartbeats 3200000 in
theorem takeL_c (m : Nat) (s : Led) (hn : s.row.length ≤ 1000000) (hok : ∀ e ∈ s.row, e.p.Ok) (lb nb gb db : Nat) (now delay limit : Int) (h1 : U delay) (h2 : U limit) (h3 : U s.re) (H : Own ε w (ledN b rb s :: ringL rb (blks s.row) :: ents s.row :: capX lb nb gb db b now delay limit :: R)) :
  Calls Tryz.prog 93 #[.pointer (some ⟨b, 0, none⟩), .func (.func 105) #[] #[.pointer (some ⟨lb, 0, none⟩), .pointer (some ⟨nb, 0, none⟩), .pointer (some ⟨gb, 0, none⟩), .pointer (some ⟨db, 0, none⟩)]] w fun e w' => ∃ v, e = .returned v ∧
   Own ε w' (slcP v (taken (lostB s.re s.top s.some now delay limit) s.row) :: ledN b rb s :: ringL rb (blks (s.take (lostB s.re s.top s.some now delay limit)).row) :: ents (s.take (lostB s.re s.top s.some now delay limit)).row :: capX lb nb gb db b now delay limit :: R) := by
 have hI : ∀ (p : Pk) (X : List Asn) (W : World), p.Ok → Own ε W (ledN b rb s :: capX lb nb gb db b now delay limit :: X) → Calls Tryz.prog 105 #[.agg #[.int .u64 p.n, .int .u64 p.size, .int .u64 p.sent, .int .u64 p.first, .int .u64 p.deliv, .int .u64 p.at', .bool p.lim], .pointer (some ⟨lb, 0, none⟩), .pointer (some ⟨nb, 0, none⟩), .pointer (some ⟨gb, 0, none⟩), .pointer (some ⟨db, 0, none⟩)] W fun e W' => e = .returned (.bool ((lostB s.re s.top s.some now delay limit) p)) ∧ Own ε W' (ledN b rb s :: capX lb nb gb db b now delay limit :: X) :=
  fun p X W hp H => lost1_c ε W X b rb s lb nb gb db now delay limit h1 h2 h3 p hp H
 obtain ⟨is, his⟩ : ∃ is : Pk → Bool, is = (lostB s.re s.top s.some now delay limit) := ⟨_, rfl⟩
 obtain ⟨cap, hcap⟩ : ∃ cap : Asn, cap = capX lb nb gb db b now delay limit := ⟨_, rfl⟩
 rw [← his] at hI ⊢
 rw [← hcap] at hI H ⊢
 clear his hcap
 obtain ⟨row, hrow⟩ : ∃ row, row = s.row := ⟨_, rfl⟩
 rw [show (s.take is).row = (marked is row).dropWhile (fun e => !e.o) by rw [hrow]; rfl]
 rw [← hrow] at hn hok H ⊢
 clear hrow
 have HH := Lib.hid H; clear H
 replace hI := Lib.hid hI
 replace hok := Lib.hid hok
 refine calls_of_wp_marks (m + 1) Tryz.func93 rfl ?_; simp only [Tryz.ntmps93, List.size_toArray, List.length_cons, List.length_nil, Nat.reduceAdd, Nat.reduceSub, Array.replicate_succ, Array.replicate_zero, List.push_toArray, List.append_toArray, List.nil_append, List.cons_append]
 go_wp2_with (with_reducible refine stop_bx ?_)
 refine Stop.go ?_
 refine wpList_box_own HH.out [_] rfl ?_
 intro fb w1_ H9_
 replace HH := Lib.hid H9_
 clear H9_
 go_wp2_with (with_reducible refine stop_al ?_)
 refine Stop.go ?_
 refine wpList_alloc_own HH.out [.slice none 0 0] (by kernel_rfl) ?_
 intro ob w2_ H9_
 replace HH := Lib.hid H9_
 clear H9_
 go_wp2_with fail
 refine (ledSeq_c ε _ _ b HH.out).mono ?_
 rintro e w3_ ⟨bb, rfl, H9_⟩
 replace HH := Lib.hid H9_
 clear H9_
 go_wp2_with (with_reducible refine stop_rf ?_)
 refine Stop.go ?_
 refine (wpIn_wide (n := m + 1)).1 ?_
 refine wpIn_rangeFunc_sep (gf := 140) (lb := #[.pointer (some ⟨bb, 0, none⟩)]) rfl (enters_of Tryz.func140 (by kernel_rfl) rfl) HH.out ?_
 intro fn l D W H3
 clear HH
 have HH := Lib.hid (H3.pn : Own ε W (pts ob _ :: capL bb b :: ledN b rb s :: ringL rb (blks row) :: ents row :: pts l _ :: pts D _ :: pts fb _ :: cap :: R))
 clear H3
 replace HH := Lib.hid (outFr_mk (l := []) (HH.out.slc_none))
 replace HH := Lib.hid (HH.out.pn : Own ε W (capL bb b :: ledN b rb s :: ringL rb (blks row) :: ents row :: outFr ob [] :: pts l _ :: pts D _ :: pts fb _ :: cap :: R))
 refine callsIn_wide.2 ((ledIter_c ε W _ m l bb b rb s (blks row) (marks is row) (fun i => outFr ob (taken is (row.take i))) (by simpa using hn) (fun i hi => ?hB) (fun i e he ho => ?hN) ?hY (by rw [marks_zero]; exact HH.out)).mono ?hE)
 case hB =>
  have hi2 : i < row.length := by simpa using hi
  exact ⟨row[i], by rw [marks_at hi2]; exact List.getElem?_eq_getElem hi2, by simp [hi2]⟩
 case hN =>
  have he2 := marks_of he
  have hq : (e.o && is e.p) = false := by rw [ho]; rfl
  exact ⟨marks_same he2 hq, by simp only [taken_next he2, hq]; simp⟩
 case hE =>
  clear HH
  rintro e W2 ⟨hv, H4⟩
  simp only at H4
  rw [show (blks row).length = row.length from by simp, List.take_length, marks_all] at H4
  obtain ⟨tk, htk⟩ : ∃ tk, tk = taken is row := ⟨_, rfl⟩
  rw [← htk] at H4
  replace htk := Lib.hid htk
  obtain ⟨vo, H4⟩ := (H4.pn : Own ε W2 (outFr ob tk :: ledN b rb s :: ringL rb (blks row) :: ents (marked is row) :: pts l _ :: pts D _ :: cap :: R)).ex
  have hbl : blks row = blks (marked is row) := by rw [← marks_all, blks_marks]
  rw [hbl] at H4
  clear hbl
  obtain ⟨cur0, hcur0⟩ : ∃ cur0, cur0 = marked is row := ⟨_, rfl⟩
  have hcl : cur0.length ≤ 1000000 := by rw [hcur0]; unfold marked; simpa using hn
  rw [← hcur0] at H4
  replace hcur0 := Lib.hid hcur0
  refine ⟨hv, .inl ⟨pts ob _ :: slcP vo tk :: ledN b rb s :: ringL rb (blks cur0) :: ents cur0 :: cap :: R, H4.split.pn, ?_⟩⟩
  clear H4 hv
  intro W3 H5
  have HH := Lib.hid H5
  clear H5
  (try clear cc1_); (try clear cc2_); (try clear cc3_); (try clear cc4_); (try clear cc6_)
  have cc2_ := HH.out.r2.cells
  have cc4_ := HH.out.r4.cells
  go_wp2_with fail
  go_loopg [] cur0.length (fun k wr => ∃ cur : List En, cur.length = k ∧ cur.dropWhile (fun e => !e.o) = cur0.dropWhile (fun e => !e.o) ∧ Own ε wr (pts D (.deferred (some [])) :: pts ob (.cells #[vo] 33 (0, 0)) :: slcP vo tk :: ledN b rb s :: ringL rb (blks cur) :: ents cur :: cap :: R))
  case atStart => exact ⟨cur0, rfl, rfl, HH.out⟩
  case round =>
   clear HH
   obtain ⟨cur, hk, hdw, HR⟩ := hrel
   have HH := Lib.hid HR
   clear HR
   replace hk := Lib.hid hk
   replace hdw := Lib.hid hdw
   cases cur with
   | nil =>
    have hat : atP (blks []) 0 = (none, false) := rfl
    replace hat := Lib.hid hat
    (try clear cc1_); (try clear cc2_); (try clear cc3_); (try clear cc4_); (try clear cc6_)
    have cc2_ := HH.out.r2.cells
    have cc4_ := HH.out.r4.cells
    go_wp2_with fail
    refine (rlAt_c ε _ _ rb (blks []) 0 rfl HH.out.r5).mono ?_
    rw [hat.out]
    rintro e w4_ ⟨rfl, nd, hnd⟩
    replace HH := Lib.hid (HH.out.drewN nd)
    rw [← hnd] at HH
    clear hnd
    clear hat
    (try clear cc1_); (try clear cc2_); (try clear cc3_); (try clear cc4_); (try clear cc6_)
    have cc2_ := HH.out.r2.cells
    have cc4_ := HH.out.r4.cells
    go_wp2_with fail
    refine ⟨by simp, .inl ⟨_, _, rfl, run_takeDeferred HH.out.blk, ?_⟩⟩
    refine ⟨_, results_tmp rfl _ _ _, vo, rfl, ?_⟩
    have H6 := (HH.out.putObj (.deferred none)).tail.tail
    rw [← htk.out, ← hcur0.out, ← hdw.out]
    exact H6
   | cons e cur =>
    obtain ⟨eb, ⟨pn, ps, p3, p4, p5, p6, p7⟩, o⟩ := e
    have hat : atP (blks (⟨eb, ⟨pn, ps, p3, p4, p5, p6, p7⟩, o⟩ :: cur)) 0 = (some ⟨eb, 0, none⟩, true) := atP_in (k := 0) rfl
    replace hat := Lib.hid hat
    (try clear cc1_); (try clear cc2_); (try clear cc3_); (try clear cc4_); (try clear cc6_)
    have cc2_ := HH.out.r2.cells
    have cc4_ := HH.out.r4.cells
    go_wp2_with fail
    refine (rlAt_c ε _ _ rb (blks (⟨eb, ⟨pn, ps, p3, p4, p5, p6, p7⟩, o⟩ :: cur)) 0 rfl HH.out.r5).mono ?_
    rw [hat.out]
    rintro e w5_ ⟨rfl, nd, hnd⟩
    replace HH := Lib.hid (HH.out.drewN nd)
    rw [← hnd] at HH
    clear hnd
    clear hat
    have x1_ := ((HH.out.pn : Own ε _ (ents (⟨eb, ⟨pn, ps, p3, p4, p5, p6, p7⟩, o⟩ :: cur) :: R)).ents_at (i := 0) (e := ⟨eb, ⟨pn, ps, p3, p4, p5, p6, p7⟩, o⟩) rfl).cells
    (try clear cc1_); (try clear cc2_); (try clear cc3_); (try clear cc4_); (try clear cc6_)
    have cc2_ := HH.out.r2.cells
    have cc4_ := HH.out.r4.cells
    cases o with
    | true =>
     go_wp2_with fail
     refine ⟨by simp, .inl ⟨_, _, rfl, run_takeDeferred HH.out.blk, ?_⟩⟩
     refine ⟨_, results_tmp rfl _ _ _, vo, rfl, ?_⟩
     have H6 := (HH.out.putObj (.deferred none)).tail.tail
     rw [← htk.out, ← hcur0.out, ← hdw.out]
     exact H6
    | false =>
     go_wp2_with fail
     refine (rlShift_c ε _ _ rb (blks (⟨eb, ⟨pn, ps, p3, p4, p5, p6, p7⟩, false⟩ :: cur)) HH.out.r5).mono ?_
     rintro e w6_ ⟨rfl, H9_⟩
     replace HH := Lib.hid H9_
     clear H9_
     have HX := HH.out
     rw [show (blks (⟨eb, ⟨pn, ps, p3, p4, p5, p6, p7⟩, false⟩ :: cur)).drop 1 = blks cur from rfl] at HX
     replace HH := Lib.hid HX
     clear HX
     go_wp2_with fail
     go_roundg cur.length
     case measure => have := hk.out; simp at this; omega
     case rel =>
      have H6 := (HH.out.pn : Own ε _ (ents (⟨eb, ⟨pn, ps, p3, p4, p5, p6, p7⟩, false⟩ :: cur) :: pts D _ :: pts ob _ :: slcP vo tk :: ledN b rb s :: ringL rb (blks cur) :: cap :: R)).ents_tail
      exact ⟨cur, rfl, by rw [← hdw.out]; rfl, ((Own.pn ((H6.ents_nil))) : Own ε _ _)⟩
 case hY =>
  clear HH
  intro i e W1 he ho H4
  have he2 := marks_of he
  obtain ⟨eb, ⟨pn, ps, p3, p4, p5, p6, p7⟩, o⟩ := e
  obtain rfl : o = true := ho
  have hp : Pk.Ok ⟨pn, ps, p3, p4, p5, p6, p7⟩ := hok.out _ (List.mem_of_getElem? he2)
  have e1 := taken_next (is := is) he2
  have e2 := marks_next (is := is) he2
  have hil : i < (marks is row i).length := (List.getElem?_eq_some_iff.1 he).1
  simp only [Bool.true_and] at e1 H4
  obtain ⟨pre, hpre⟩ : ∃ pre, pre = taken is (row.take i) := ⟨_, rfl⟩
  rw [← hpre] at e1 H4
  have hpl : pre.length ≤ 1000000 := by
   have := taken_len is (row.take i)
   rw [← hpre] at this
   have h2 : (row.take i).length ≤ row.length := by simp; omega
   omega
  clear hpre
  cases hq : is ⟨pn, ps, p3, p4, p5, p6, p7⟩ with
  | false =>
   have e3 := marks_same (is := is) he2 (by simpa using hq)
   rw [hq] at e1
   simp only [Bool.false_eq_true, if_false, List.append_nil] at e1
   clear e2 hil hpl
   obtain ⟨mk, hmk⟩ : ∃ mk, mk = marks is row i := ⟨_, rfl⟩
   rw [← hmk] at H4 e3 he
   clear hmk
   replace e1 := Lib.hid e1
   replace e3 := Lib.hid e3
   replace he := Lib.hid he
   replace hq := Lib.hid hq
   replace hp := Lib.hid hp
   replace he2 := Lib.hid he2
   refine yieldAt_own (A := capL bb b :: ledN b rb s :: ringL rb (blks row) :: ents mk :: outFr ob pre :: pts D (.deferred (some [])) :: pts fb _ :: cap :: R) ?hs1 H4.pn ?_
   case hs1 => rfl
   have HH := Lib.hid (H4.pn : Own ε W1 (outFr ob pre :: pts l _ :: pts D _ :: capL bb b :: ledN b rb s :: ringL rb (blks row) :: ents mk :: pts fb _ :: cap :: R))
   clear H4
   gi_wp2
   refine ⟨pts D _ :: outFr ob pre :: capL bb b :: ledN b rb s :: ringL rb (blks row) :: ents mk :: pts fb _ :: cap :: R, HH.out.pn, ?_⟩
   clear HH
   intro W2 H5
   replace H5 := (H5.pn : Own ε W2 (ents mk :: cap :: ledN b rb s :: outFr ob pre :: pts fb _ :: pts l _ :: pts D _ :: capL bb b :: ringL rb (blks row) :: R)).ents_at he.out
   replace H5 := show Own ε W2 (pts eb (.cells #[.int .u64 pn, .int .u64 ps, .int .u64 p3, .int .u64 p4, .int .u64 p5, .int .u64 p6, .bool p7, .bool true] 185 (0, 0)) :: _) from H5
   have HH := Lib.hid (H5.pn : Own ε W2 (ledN b rb s :: cap :: pts eb _ :: ents (mk.eraseIdx i) :: outFr ob pre :: pts fb _ :: pts l _ :: pts D _ :: capL bb b :: ringL rb (blks row) :: R))
   clear H5
   (try clear cc1_); (try clear cc2_); (try clear cc3_); (try clear cc4_); (try clear cc6_)
   have cc3_ := HH.out.r3.cells
   have cc6_ := HH.out.r6.cells
   gi_wp2
   refine wpIn_region_reg (some 5) HH.out (by kernel_rfl) (by kernel_rfl) (by first | exact (fun ⟨_, _, h⟩ => h) | (simp [LetsOut, Exit.inBlock, roundOut]; done) | simp [LetsOut, Exit.then, Exit.inBlock, roundOut]) ?_
   intro wm H9_
   replace HH := Lib.hid H9_
   clear H9_
   refine mixk_s 0 HH.out (fun _ hx => And.intro hx.r3.cells hx.r6.cells) ?_
   refine reg_s 1 HH.out ?_
   refine reg_s 2 HH.out ?_
   refine reg_s 3 HH.out ?_
   refine mixk_s 4 HH.out (fun _ hx => And.intro hx.r3.cells hx.r6.cells) ?_
   refine reg_l none (i := 5) rfl (by kernel_rfl) (fun wn hk K hK => ?_)
   replace HH := Lib.hid (hk _ _ HH.out)
   clear hk
   go_simp
   refine (hI.out ⟨pn, ps, p3, p4, p5, p6, p7⟩ _ wn hp.out HH.out).mono ?_
   rw [hq.out]
   rintro e wm ⟨rfl, H9_⟩
   replace HH := Lib.hid H9_
   clear H9_
   refine hK _ _ _ HH.out (.inl (by kernel_rfl)) ?_
   clear hK K
   refine mixk_done (by kernel_rfl) (fun w7_ hk => ?_) _
   replace HH := Lib.hid (hk _ _ HH.out)
   clear hk
   gi_wp2
   have H7 := (HH.out.pn : Own ε _ (pts eb _ :: ents (mk.eraseIdx i) :: outFr ob pre :: pts fb _ :: pts l _ :: pts D _ :: capL bb b :: ledN b rb s :: ringL rb (blks row) :: cap :: R))
   have H8 := Own.ents_back he.out H7
   clear H7
   clear HH
   refine ⟨ents mk :: outFr ob pre :: pts fb _ :: pts D _ :: capL bb b :: ledN b rb s :: ringL rb (blks row) :: cap :: R, H8.pn, ?_⟩
   clear H8
   intro W6 H6
   refine ⟨rfl, ?_⟩
   rw [e1.out, e3.out]
   exact H6.pn
  | true =>
   rw [hq] at e1
   simp only [if_true] at e1
   have e4 : En.mark is ⟨eb, ⟨pn, ps, p3, p4, p5, p6, p7⟩, true⟩ = ⟨eb, ⟨pn, ps, p3, p4, p5, p6, p7⟩, false⟩ := by simp [En.mark, hq]
   rw [e4] at e2
   clear e4
   obtain ⟨mk, hmk⟩ : ∃ mk, mk = marks is row i := ⟨_, rfl⟩
   rw [← hmk] at H4 e2 he hil
   clear hmk
   replace e1 := Lib.hid e1
   replace e2 := Lib.hid e2
   replace he := Lib.hid he
   replace hq := Lib.hid hq
   replace hp := Lib.hid hp
   replace he2 := Lib.hid he2
   replace hil := Lib.hid hil
   refine yieldAt_own (A := capL bb b :: ledN b rb s :: ringL rb (blks row) :: ents mk :: outFr ob pre :: pts D (.deferred (some [])) :: pts fb _ :: cap :: R) ?hs2 H4.pn ?_
   case hs2 => rfl
   have HH := Lib.hid (H4.pn : Own ε W1 (outFr ob pre :: pts l _ :: pts D _ :: capL bb b :: ledN b rb s :: ringL rb (blks row) :: ents mk :: pts fb _ :: cap :: R))
   clear H4
   gi_wp2
   refine ⟨pts D _ :: outFr ob pre :: capL bb b :: ledN b rb s :: ringL rb (blks row) :: ents mk :: pts fb _ :: cap :: R, HH.out.pn, ?_⟩
   clear HH
   intro W2 H5
   replace H5 := (H5.pn : Own ε W2 (ents mk :: cap :: ledN b rb s :: outFr ob pre :: pts fb _ :: pts l _ :: pts D _ :: capL bb b :: ringL rb (blks row) :: R)).ents_at he.out
   replace H5 := show Own ε W2 (pts eb (.cells #[.int .u64 pn, .int .u64 ps, .int .u64 p3, .int .u64 p4, .int .u64 p5, .int .u64 p6, .bool p7, .bool true] 185 (0, 0)) :: _) from H5
   have HH := Lib.hid (H5.pn : Own ε W2 (ledN b rb s :: cap :: pts eb _ :: ents (mk.eraseIdx i) :: outFr ob pre :: pts fb _ :: pts l _ :: pts D _ :: capL bb b :: ringL rb (blks row) :: R))
   clear H5
   (try clear cc1_); (try clear cc2_); (try clear cc3_); (try clear cc4_); (try clear cc6_)
   have cc3_ := HH.out.r3.cells
   have cc6_ := HH.out.r6.cells
   gi_wp2
   refine wpIn_region_reg (some 5) HH.out (by kernel_rfl) (by kernel_rfl) (by first | exact (fun ⟨_, _, h⟩ => h) | (simp [LetsOut, Exit.inBlock, roundOut]; done) | simp [LetsOut, Exit.then, Exit.inBlock, roundOut]) ?_
   intro wm H9_
   replace HH := Lib.hid H9_
   clear H9_
   refine mixk_s 0 HH.out (fun _ hx => And.intro hx.r3.cells hx.r6.cells) ?_
   refine reg_s 1 HH.out ?_
   refine reg_s 2 HH.out ?_
   refine reg_s 3 HH.out ?_
   refine mixk_s 4 HH.out (fun _ hx => And.intro hx.r3.cells hx.r6.cells) ?_
   refine reg_l none (i := 5) rfl (by kernel_rfl) (fun wn hk K hK => ?_)
   replace HH := Lib.hid (hk _ _ HH.out)
   clear hk
   go_simp
   refine (hI.out ⟨pn, ps, p3, p4, p5, p6, p7⟩ _ wn hp.out HH.out).mono ?_
   rw [hq.out]
   rintro e wm ⟨rfl, H9_⟩
   replace HH := Lib.hid H9_
   clear H9_
   refine hK _ _ _ HH.out (.inl (by kernel_rfl)) ?_
   clear hK K
   refine mixk_done (by kernel_rfl) (fun w8_ hk => ?_) _
   replace HH := Lib.hid (hk _ _ HH.out)
   clear hk
   obtain ⟨vo, H5⟩ := (HH.out.pn : Own ε _ (outFr ob pre :: pts eb _ :: ents (mk.eraseIdx i) :: pts fb _ :: pts l _ :: pts D _ :: capL bb b :: ledN b rb s :: ringL rb (blks row) :: cap :: R)).ex
   replace HH := Lib.hid (H5.split.pn : Own ε _ (pts eb _ :: ents (mk.eraseIdx i) :: pts ob _ :: slcP vo pre :: pts l _ :: pts D _ :: capL bb b :: ledN b rb s :: ringL rb (blks row) :: pts fb _ :: cap :: R))
   clear H5
   (try clear cc1_); (try clear cc2_); (try clear cc3_); (try clear cc4_); (try clear cc6_)
   have cc1_ := HH.out.cells
   have cc3_ := HH.out.r3.cells
   (try (with_reducible refine in_back ?_)); gi_wp2_with (with_reducible refine stopI_st ?_)
   refine Stop.go ?_
   refine in_of_list rfl (fun _ h => nomatch h) ?_
   refine wpList_store1_own (v := .bool false) (k := 7) rfl rfl HH.out (by kernel_rfl) (by simp) (by first | rfl | assumption) ?_
   intro w9_ H9_
   replace HH := Lib.hid H9_
   clear H9_
   simp only [List.setIfInBounds_toArray, List.set_cons_succ, List.set_cons_zero] at HH
   with_reducible refine in_back ?_
   (try clear cc1_); (try clear cc2_); (try clear cc3_); (try clear cc4_); (try clear cc6_)
   have cc1_ := HH.out.cells
   have cc3_ := HH.out.r3.cells
   gi_wp2
   refine wpIn_region_reg (some 6) HH.out (by kernel_rfl) (by kernel_rfl) (by first | exact (fun ⟨_, _, h⟩ => h) | (simp [LetsOut, Exit.inBlock, roundOut]; done) | simp [LetsOut, Exit.then, Exit.inBlock, roundOut]) ?_
   intro wm H9_
   replace HH := Lib.hid H9_
   clear H9_
   refine mixk_s 0 HH.out (fun _ hx => And.intro hx.cells hx.r3.cells) ?_
   refine reg_s 1 HH.out ?_
   refine reg_s 2 HH.out ?_
   refine reg_s 3 HH.out ?_
   refine mixk_s 4 HH.out (fun _ hx => And.intro hx.cells hx.r3.cells) ?_
   refine reg_l (some 6) (i := 5) rfl (by kernel_rfl) (fun wn hk K hK => ?_)
   replace HH := Lib.hid (hk _ _ HH.out)
   clear hk
   go_simp
   replace HH := Lib.hid (HH.out.alloc (.cells #[.int .u64 pn, .int .u64 ps, .int .u64 p3, .int .u64 p4, .int .u64 p5, .int .u64 p6, .bool p7] 41))
   generalize wn.alloc (.cells #[.int .u64 pn, .int .u64 ps, .int .u64 p3, .int .u64 p4, .int .u64 p5, .int .u64 p6, .bool p7] 41) = wm at *
   generalize wn.heap.size = sb at *
   refine hK _ _ _ HH.out (.inr ⟨rfl, fun _ h => h.tail⟩) ?_
   clear hK K
   refine reg_l (some 7) (i := 6) rfl (by kernel_rfl) (fun wn hk K hK => ?_)
   replace HH := Lib.hid (hk _ _ HH.out)
   clear hk
   refine want rfl (wp_append_slc _ _ 33 rfl 41 7 56 Tryz.underlying33 (by kernel_rfl) (by decide) rfl (HH.out.r5) rfl (flat_pks_len pre) ((show srcAt wn (some ⟨sb, 0, none⟩) 1 7 [.int .u64 pn, .int .u64 ps, .int .u64 p3, .int .u64 p4, .int .u64 p5, .int .u64 p6, .bool p7] from ⟨rfl, .inr ⟨sb, 0, rfl, fun j u hj => by rw [Nat.zero_add, HH.out.cells.1 j]; simpa using hj⟩⟩)) ((by repeat (first | (refine List.forall_mem_cons.2 ⟨(by first | with_reducible assumption | rfl), ?_⟩) | exact fun _ h => absurd h List.not_mem_nil))) (by simp only [maxLen]; omega) (by omega) ?_)
   intro v1 wm H9_
   obtain ⟨A_v1, n_v1, c_v1, rfl⟩ := H9_.slc_isv
   replace HH := Lib.hid H9_
   clear H9_
   refine hK _ _ _ HH.out (.inl (by kernel_rfl)) ?_
   clear hK K
   refine reg_l none (i := 7) rfl (by kernel_rfl) (fun wn hk K hK => ?_)
   replace HH := Lib.hid (hk _ _ HH.out)
   clear hk
   have hx := HH.out
   have x1_ := hx.r3.cells
   have x3_ := hx.r5.cells
   go_simp
   replace HH := Lib.hid (HH.out.r5.set 0 (.slice A_v1 n_v1 c_v1))
   simp only [List.setIfInBounds_toArray, List.set_cons_zero] at HH
   generalize wn.setCell ⟨ob, 0, none⟩ (.slice A_v1 n_v1 c_v1) = wm at *
   clear hx x1_ x3_
   refine hK _ _ _ HH.out (.inl (by kernel_rfl)) ?_
   clear hK K
   refine mixk_done (by kernel_rfl) (fun w10_ hk => ?_) _
   replace HH := Lib.hid (hk _ _ HH.out)
   clear hk
   gi_wp2
   have H6 := HH.out
   clear HH
   rw [show (pks pre).flatten ++ [.int .u64 pn, .int .u64 ps, .int .u64 p3, .int .u64 p4, .int .u64 p5, .int .u64 p6, .bool p7] = (pks (pre ++ [⟨pn, ps, p3, p4, p5, p6, p7⟩])).flatten from (flat_pks_snoc pre (⟨pn, ps, p3, p4, p5, p6, p7⟩ : Pk)).symm] at H6
   have H7 := outFr_mk (l := pre ++ [⟨pn, ps, p3, p4, p5, p6, p7⟩]) (H6.pn : Own ε _ (slc 41 7 _ (pks (pre ++ [⟨pn, ps, p3, p4, p5, p6, p7⟩])).flatten :: pts ob _ :: pts eb _ :: ents (mk.eraseIdx i) :: pts l _ :: pts D _ :: capL bb b :: ledN b rb s :: ringL rb (blks row) :: pts fb _ :: cap :: R))
   clear H6
   have H8 := Own.ents_set (e' := ⟨eb, ⟨pn, ps, p3, p4, p5, p6, p7⟩, false⟩) hil.out (Own.l3 H7)
   clear H7
   rw [← e2.out] at H8
   refine ⟨ents (marks is row (i + 1)) :: outFr ob (pre ++ [⟨pn, ps, p3, p4, p5, p6, p7⟩]) :: pts D _ :: capL bb b :: ledN b rb s :: ringL rb (blks row) :: pts fb _ :: cap :: R, H8.pn, ?_⟩
   clear H8
   intro W6 H6
   refine ⟨rfl, ?_⟩
   rw [e1.out]
   exact H6.pn
end
end Go.Proofs.YtmkcpnlbicijoaaGreat
