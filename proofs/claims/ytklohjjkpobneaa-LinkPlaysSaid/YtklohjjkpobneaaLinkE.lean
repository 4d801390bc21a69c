/- link: what holds of it behind any acts, in plain words. -/
import Derived.Test.YtklohjjkpobneaaLinkD
namespace Go.Proofs.Ytklohjjkpobneaa
/-- Packets of sizes, numbered from one on. -/
def mkPks : Nat → List Int → List Pk
  | _, [] => []
  | f, x :: l => Pk.bare f x :: mkPks (f + 1) l
theorem mkPks_len (f : Nat) (l : List Int) : (mkPks f l).length = l.length := by
  induction l generalizing f with
  | nil => rfl
  | cons x l ih => simp [mkPks, ih]
theorem mkPks_ok {f : Nat} {l : List Int} (hf : f + l.length ≤ 1000000) (h : ∀ x ∈ l, U x) : ∀ p ∈ mkPks f l, p.Ok := by
  induction l generalizing f with
  | nil => intro p hp; cases hp
  | cons x l ih =>
    intro p hp
    rw [List.length_cons] at hf
    rcases List.mem_cons.1 hp with rfl | hp
    · exact ⟨⟨by show (0 : Int) ≤ (f : Int); omega, by show (f : Int) ≤ _; omega⟩, h x (List.mem_cons_self ..), U_zero, U_zero, U_zero, U_zero⟩
    · exact ih (by omega) (fun y hy => h y (List.mem_cons_of_mem _ hy)) p hp
theorem mkPks_snoc (f : Nat) (l : List Int) (x : Int) : mkPks f (l ++ [x]) = mkPks f l ++ [Pk.bare ((f + l.length : Nat) : Int) x] := by
  induction l generalizing f with
  | nil => rfl
  | cons y l ih =>
    show Pk.bare f y :: mkPks (f + 1) (l ++ [x]) = Pk.bare f y :: (mkPks (f + 1) l ++ _)
    rw [ih, show f + 1 + l.length = f + (l.length + 1) by omega]
    rfl
theorem mkPks_step {f k : Nat} {l : List Int} {x : Int} (h : l[k]? = some x) : mkPks f (l.take (k + 1)) = mkPks f (l.take k) ++ [Pk.bare ((f + k : Nat) : Int) x] := by
  have hk : k < l.length := by
    rcases Nat.lt_or_ge k l.length with q | q
    · exact q
    · rw [List.getElem?_eq_none q] at h; cases h
  rw [List.take_add_one, h]
  show mkPks f (l.take k ++ [x]) = _
  rw [mkPks_snoc, List.length_take, Nat.min_eq_left (by omega)]
/-- The numbers of all packets that are in it, in order. -/
def Lnk.ns (s : Lnk) : List Int := s.x.l.map (fun d => d.p.n) ++ s.q.l.map Pk.n
structure LInv (rate buf t c : Int) (frm : Nat) (s : Lnk) : Prop where
  ok : s.Ok
  rate1 : 1 ≤ rate
  rate2 : rate ≤ 1048576
  brate : s.b.rate = rate
  room : s.q.room = buf
  bnow : s.b.now = s.now
  now : s.now ≤ t
  came : s.came = s.q.gone + s.q.bytes + s.served
  cle : s.came ≤ c
  serv : s.served = psum (s.x.l.map Du.p) + s.deliv
  tok : s.served * 1000000 + s.b.was + s.b.tok = rate * s.now
  ord : s.ns.Pairwise (· < ·)
  lt : ∀ n ∈ s.ns, n < (frm : Int)
theorem rate_now {rate now : Int} (h1 : 1 ≤ rate) (h2 : rate ≤ 1048576) (h3 : 0 ≤ now) (h4 : now ≤ 68719476736) : 0 ≤ rate * now ∧ rate * now ≤ 72057594037927936 :=
  ⟨Int.mul_nonneg (by omega) h3, Int.le_trans (Int.mul_le_mul h2 h4 h3 (by omega)) (by omega)⟩
theorem psum_box {s : Lnk} (h : s.Ok) : 0 ≤ psum (s.x.l.map Du.p) := psum_nonneg fun p hp => by
  obtain ⟨d, hd, rfl⟩ := List.mem_map.1 hp
  exact h.ps d hd
theorem sumF_psum {n : Int} {l : List Pk} (hn : 0 ≤ n) (h : ∀ p ∈ l, p.Ok) (hb : n + psum l ≤ 18446744073709551615) : sumF n l = n + psum l := by
  induction l generalizing n with
  | nil => show n = n + 0; omega
  | cons p l ih =>
    have h1 := (h p (List.mem_cons_self ..)).2.1.1
    have h2 := psum_nonneg fun q hq => h q (List.mem_cons_of_mem _ hq)
    rw [psum_cons] at hb ⊢
    have e : sadd n p.size = n + p.size := by unfold sadd; rw [if_neg (by omega)]
    show sumF (sadd n p.size) l = _
    rw [e, ih (by omega) (fun q hq => h q (List.mem_cons_of_mem _ hq)) (by omega)]
    omega
section
variable {rate buf t c : Int} {frm : Nat} {s : Lnk}
theorem LInv.bounds (h : LInv rate buf t c frm s) : 0 ≤ s.now ∧ 0 ≤ s.q.gone ∧ 0 ≤ s.q.bytes ∧ 0 ≤ s.served ∧ 0 ≤ s.deliv ∧ 0 ≤ s.b.tok ∧ 0 ≤ s.b.was ∧ 0 ≤ psum (s.x.l.map Du.p) := by
  have o := h.ok
  exact ⟨o.now.1, o.q.gone.1, by rw [o.q.sum]; exact psum_nonneg o.q.all, o.served.1, o.deliv.1, o.b.2.2.1.1, o.b.2.2.2.1, psum_box o⟩
theorem LInv.new {delay jit : Int} (h1 : 1 ≤ rate) (h2 : rate ≤ 1048576) (h3 : U delay) (h4 : U jit) (h5 : U buf) : LInv rate buf 0 0 0 (Lnk.new rate delay jit buf) :=
  ⟨Lnk.ok_new ⟨by omega, by omega⟩ h3 h4 h5, h1, h2, rfl, rfl, rfl, Int.le_refl _, rfl, Int.le_refl _, rfl, by simp [Lnk.new, Bkt.new], by simp [Lnk.ns, Lnk.new, Bo.new, Que.new], by simp [Lnk.ns, Lnk.new, Bo.new, Que.new]⟩
theorem LInv.send1 (h : LInv rate buf t c frm s) (hc : c ≤ 8796093022208) {x : Int} (hx0 : 0 ≤ x) (hx : x ≤ 1073741824) (hf : (frm : Int) < 1000000) : LInv rate buf t (c + 1073741824) (frm + 1) (s.send1 (Pk.bare frm x)) := by
  obtain ⟨b1, b2, b3, b4, b5, b6, b7, b8⟩ := h.bounds
  have hce := h.came
  have hcl := h.cle
  have hpo : (Pk.bare (frm : Int) x).Ok := ⟨⟨by show (0 : Int) ≤ (frm : Int); omega, by show (frm : Int) ≤ _; omega⟩, ⟨hx0, by show x ≤ _; omega⟩, U_zero, U_zero, U_zero, U_zero⟩
  have hok := Lnk.ok_send1 h.ok hpo
  have e1 : sadd s.came x = s.came + x := by unfold sadd; rw [if_neg (by omega)]
  have e2 : sadd s.q.gone x = s.q.gone + x := by unfold sadd; rw [if_neg (by omega)]
  have hlt : ∀ n ∈ s.ns, n < ((frm + 1 : Nat) : Int) := fun n hn => by have := h.lt n hn; omega
  by_cases hfit : x ≤ s.q.room - s.q.bytes
  · have e : s.send1 (Pk.bare frm x) = { s with came := s.came + x, q := { s.q with bytes := s.q.bytes + x, l := s.q.l ++ [Pk.bare frm x] } } := by
      unfold Lnk.send1 Que.put
      rw [if_pos (show (Pk.bare (frm : Int) x).size ≤ _ from hfit)]
      show ({ s with came := sadd s.came x, q := _ } : Lnk) = _
      rw [e1]; rfl
    rw [e] at hok ⊢
    have hns : ({ s with came := s.came + x, q := { s.q with bytes := s.q.bytes + x, l := s.q.l ++ [Pk.bare frm x] } } : Lnk).ns = s.ns ++ [(frm : Int)] := by
      simp [Lnk.ns, Pk.bare]
    refine ⟨hok, h.rate1, h.rate2, h.brate, h.room, h.bnow, h.now, ?_, ?_, h.serv, h.tok, ?_, ?_⟩
    · simp only; omega
    · simp only; omega
    · rw [hns, List.pairwise_append]
      refine ⟨h.ord, List.pairwise_singleton .., fun a ha b hb => ?_⟩
      rw [List.mem_singleton.1 hb]
      exact h.lt a ha
    · rw [hns]
      intro n hn
      rcases List.mem_append.1 hn with hn | hn
      · exact hlt n hn
      · rw [List.mem_singleton.1 hn]; omega
  · have e : s.send1 (Pk.bare frm x) = { s with came := s.came + x, q := { s.q with dropped := sadd s.q.dropped 1, gone := s.q.gone + x } } := by
      unfold Lnk.send1 Que.put
      rw [if_neg (show ¬ (Pk.bare (frm : Int) x).size ≤ _ from hfit)]
      show ({ s with came := sadd s.came x, q := { s.q with dropped := sadd s.q.dropped 1, gone := sadd s.q.gone x } } : Lnk) = _
      rw [e1, e2]
    rw [e] at hok ⊢
    refine ⟨hok, h.rate1, h.rate2, h.brate, h.room, h.bnow, h.now, ?_, ?_, h.serv, h.tok, h.ord, hlt⟩
    · simp only; omega
    · simp only; omega
theorem LInv.mono (h : LInv rate buf t c frm s) {t' c' : Int} (ht : t ≤ t') (hc : c ≤ c') : LInv rate buf t' c' frm s :=
  ⟨h.ok, h.rate1, h.rate2, h.brate, h.room, h.bnow, Int.le_trans h.now ht, h.came, Int.le_trans h.cle hc, h.serv, h.tok, h.ord, h.lt⟩
theorem LInv.sendL {l : List Int} {m : Nat} (h : LInv rate buf t c frm s) (hc : c + l.length * 1073741824 ≤ 8796093022208) (hl : ∀ x ∈ l, 0 ≤ x ∧ x ≤ 1073741824) (hf : frm + l.length ≤ 1000000) : LInv rate buf t (c + l.length * 1073741824) (frm + l.length) ((mkPks frm l).foldl sendF (s, m)).1 := by
  induction l generalizing frm s c m with
  | nil => simpa [mkPks] using h
  | cons x l ih =>
    rw [List.length_cons] at hc hf ⊢
    have h1 := h.send1 (by omega) (hl x (List.mem_cons_self ..)).1 (hl x (List.mem_cons_self ..)).2 (by omega)
    have h2 := ih (m := if (s.q.put (Pk.bare frm x)).1 then m + 1 else m) h1 (by omega) (fun y hy => hl y (List.mem_cons_of_mem _ hy)) (by omega)
    have e1 : frm + 1 + l.length = frm + (l.length + 1) := by omega
    have e2 : c + 1073741824 + (l.length : Int) * 1073741824 = c + ((l.length + 1 : Nat) : Int) * 1073741824 := by omega
    rw [e1, e2] at h2
    exact h2
theorem LInv.send {l : List Int} (h : LInv rate buf t c frm s) (hc : c + l.length * 1073741824 ≤ 8796093022208) (hl : ∀ x ∈ l, 0 ≤ x ∧ x ≤ 1073741824) (hf : frm + l.length ≤ 1000000) : LInv rate buf t (c + l.length * 1073741824) (frm + l.length) (s.send (mkPks frm l)).1 := LInv.sendL h hc hl hf
theorem LInv.begin (h : LInv rate buf t c frm s) {a : Int} (ha0 : 0 ≤ a) (ht : t + a ≤ 68719476736) : LInv rate buf (t + a) c frm (s.begin (s.now + a)) := by
  obtain ⟨b1, b2, b3, b4, b5, b6, b7, b8⟩ := h.bounds
  have hn := h.now
  have htk := h.tok
  have hr1 := h.rate1
  have hr2 := h.rate2
  have hok := Lnk.ok_begin (t := s.now + a) h.ok ⟨by omega, by omega⟩
  have r1 := rate_now hr1 hr2 b1 (by omega)
  have r2 := rate_now hr1 hr2 ha0 (by omega)
  have e0 : rate * (s.now + a) = rate * s.now + rate * a := Int.mul_add _ _ _
  by_cases h0 : a = 0
  · have e : s.begin (s.now + a) = s := by
      unfold Lnk.begin Bkt.to
      rw [h0, Int.add_zero, if_pos (by rw [h.bnow]; exact Int.le_refl _)]
    rw [e]
    exact h.mono (by omega) (Int.le_refl _)
  · have e : s.begin (s.now + a) = { s with now := s.now + a, b := ⟨rate, s.now + a, s.b.tok + rate * a, s.b.was⟩ } := by
      unfold Lnk.begin Bkt.to
      rw [if_neg (by rw [h.bnow]; omega), h.brate, h.bnow, show s.now + a - s.now = a by omega]
      have e1 : smul rate a = rate * a := by unfold smul; rw [if_neg (by omega)]
      have e2 : sadd s.b.tok (rate * a) = s.b.tok + rate * a := by unfold sadd; rw [if_neg (by omega)]
      rw [e1, e2]
    rw [e] at hok ⊢
    refine ⟨hok, hr1, hr2, rfl, h.room, rfl, by simp only; omega, h.came, h.cle, h.serv, ?_, h.ord, h.lt⟩
    simp only
    rw [e0]; omega
theorem LInv.take {p : Pk} {l : List Pk} (h : LInv rate buf t c frm s) (hc : c ≤ 8796093022208) (hq : s.q.l = p :: l) : 0 ≤ p.size ∧ p.size ≤ s.q.bytes ∧ smul p.size 1000000 = p.size * 1000000 := by
  obtain ⟨b1, b2, b3, b4, b5, b6, b7, b8⟩ := h.bounds
  have hce := h.came
  have hcl := h.cle
  have h0 := (h.ok.q.all p (by rw [hq]; exact List.mem_cons_self ..)).2.1.1
  have h1 : s.q.bytes = p.size + psum l := by rw [h.ok.q.sum, hq, psum_cons]
  have h2 : 0 ≤ psum l := psum_nonneg fun q hq2 => h.ok.q.all q (by rw [hq]; exact List.mem_cons_of_mem _ hq2)
  refine ⟨h0, by omega, ?_⟩
  unfold smul; rw [if_neg (by omega)]
theorem LInv.serve1 {p : Pk} {l : List Pk} {ch : Int} (h : LInv rate buf t c frm s) (hc : c ≤ 8796093022208) (hq : s.q.l = p :: l) (hch : U ch) (ht : (s.b.take p.size).1 = true) : LInv rate buf t c frm (s.serve1 p ch) := by
  obtain ⟨b1, b2, b3, b4, b5, b6, b7, b8⟩ := h.bounds
  obtain ⟨p1, p2, p3⟩ := h.take hc hq
  have hce := h.came
  have hcl := h.cle
  have htk := h.tok
  have hsv := h.serv
  have hok := Lnk.ok_serve1 (c := ch) h.ok (h.ok.q.all p (by rw [hq]; exact List.mem_cons_self ..)) hch
  have hfit : ¬ s.b.tok < p.size * 1000000 := by
    unfold Bkt.take at ht
    rw [p3] at ht
    intro hlt
    rw [if_pos hlt] at ht
    cases ht
  have e1 : sadd s.served p.size = s.served + p.size := by unfold sadd; rw [if_neg (by omega)]
  have e : s.serve1 p ch = { s with b := ⟨s.b.rate, s.b.now, s.b.tok - p.size * 1000000, s.b.was⟩, q := { s.q with bytes := s.q.bytes - p.size, l := l }, served := s.served + p.size, x := s.x.put p s.now ch } := by
    unfold Lnk.serve1 Bkt.take Que.shift
    rw [p3, if_neg hfit, e1, hq]
    rfl
  rw [e] at hok ⊢
  have hns : ({ s with b := ⟨s.b.rate, s.b.now, s.b.tok - p.size * 1000000, s.b.was⟩, q := { s.q with bytes := s.q.bytes - p.size, l := l }, served := s.served + p.size, x := s.x.put p s.now ch } : Lnk).ns = s.ns := by
    unfold Lnk.ns
    rw [hq]
    simp [Bo.put]
  refine ⟨hok, h.rate1, h.rate2, h.brate, h.room, h.bnow, h.now, ?_, h.cle, ?_, ?_, ?_, ?_⟩
  · simp only; omega
  · simp only [Bo.put, List.map_append, List.map_cons, List.map_nil]
    rw [psum_append, psum_one]; omega
  · simp only; omega
  · rw [hns]; exact h.ord
  · rw [hns]; exact h.lt
theorem LInv.serveN {n : Nat} {ch : List Int} (h : LInv rate buf t c frm s) (hc : c ≤ 8796093022208) (hch : ∀ x ∈ ch, U x) : LInv rate buf t c frm (Lnk.serveN n ch s) := by
  induction n generalizing ch s with
  | zero => exact h
  | succ n ih =>
    cases hq : s.q.l with
    | nil => rw [serveN_none hq]; exact h
    | cons p l =>
      rw [serveN_step hq]
      split
      · rename_i ht
        exact ih (h.serve1 hc hq (U_headD hch) ht) fun x hx => hch x (List.mem_of_mem_tail hx)
      · exact h
theorem LInv.spill {w : Int} (h : LInv rate buf t c frm s) (ht : t ≤ 68719476736) (hw : U w) : LInv rate buf t c frm (s.spill w) ∧ s.b.was ≤ (s.spill w).b.was ∧ (s.b.was < (s.spill w).b.was → s.q.l = []) ∧ (s.spill w).q = s.q ∧ (s.spill w).served = s.served ∧ (s.spill w).x = s.x ∧ (s.spill w).now = s.now := by
  obtain ⟨b1, b2, b3, b4, b5, b6, b7, b8⟩ := h.bounds
  have htk := h.tok
  have hn := h.now
  have r1 := rate_now h.rate1 h.rate2 b1 (by omega)
  have hok := Lnk.ok_spill (w := w) h.ok hw
  unfold Lnk.spill at *
  by_cases hq : s.q.l = []
  · rw [if_pos hq] at hok ⊢
    unfold Bkt.waste at hok ⊢
    unfold U at hw
    by_cases hle : w ≤ s.b.tok
    · rw [if_pos hle] at hok ⊢
      have e : sadd s.b.was w = s.b.was + w := by unfold sadd; rw [if_neg (by omega)]
      rw [e] at hok ⊢
      refine ⟨⟨hok, h.rate1, h.rate2, h.brate, h.room, h.bnow, h.now, h.came, h.cle, h.serv, ?_, h.ord, h.lt⟩, ?_, fun _ => hq, rfl, rfl, rfl, rfl⟩
      · simp only; omega
      · simp only; omega
    · rw [if_neg hle] at hok ⊢
      have e : sadd s.b.was s.b.tok = s.b.was + s.b.tok := by unfold sadd; rw [if_neg (by omega)]
      rw [e] at hok ⊢
      refine ⟨⟨hok, h.rate1, h.rate2, h.brate, h.room, h.bnow, h.now, h.came, h.cle, h.serv, ?_, h.ord, h.lt⟩, ?_, fun _ => hq, rfl, rfl, rfl, rfl⟩
      · simp only; omega
      · simp only; omega
  · rw [if_neg hq]
    exact ⟨h, Int.le_refl _, fun h' => by omega, rfl, rfl, rfl, rfl⟩
theorem LInv.out {tt : Int} (h : LInv rate buf t c frm s) (hc : c ≤ 8796093022208) : LInv rate buf t c frm (s.out tt) ∧ s.ns = (s.x.out tt).1.map Pk.n ++ (s.out tt).ns := by
  obtain ⟨b1, b2, b3, b4, b5, b6, b7, b8⟩ := h.bounds
  have hce := h.came
  have hcl := h.cle
  have hsv := h.serv
  have hok := Lnk.ok_out (t := tt) h.ok
  have hsp : (s.x.out tt).1 ++ (s.x.out tt).2.l.map Du.p = s.x.l.map Du.p := by
    show (s.x.l.takeWhile _).map Du.p ++ (s.x.l.dropWhile _).map Du.p = _
    rw [← List.map_append, List.takeWhile_append_dropWhile]
  have hps : psum (s.x.l.map Du.p) = psum (s.x.out tt).1 + psum ((s.x.out tt).2.l.map Du.p) := by rw [← hsp, psum_append]
  have ho : ∀ p ∈ (s.x.out tt).1, p.Ok := outL_ok h.ok.ps
  have h1 := psum_nonneg ho
  have h2 : 0 ≤ psum ((s.x.out tt).2.l.map Du.p) := psum_box hok
  have e1 : sumF s.deliv (s.x.out tt).1 = s.deliv + psum (s.x.out tt).1 := sumF_psum b5 ho (by omega)
  have hns : s.ns = (s.x.out tt).1.map Pk.n ++ (s.out tt).ns := by
    have e2 : s.x.l.map (fun d => d.p.n) = (s.x.l.map Du.p).map Pk.n := by simp
    have e3 : (s.out tt).x.l.map (fun d => d.p.n) = ((s.x.out tt).2.l.map Du.p).map Pk.n := by simp [Lnk.out]
    unfold Lnk.ns
    rw [e2, e3, ← hsp, List.map_append, List.append_assoc]
    rfl
  refine ⟨⟨hok, h.rate1, h.rate2, h.brate, h.room, h.bnow, h.now, h.came, h.cle, ?_, h.tok, ?_, ?_⟩, hns⟩
  · show s.served = psum ((s.x.out tt).2.l.map Du.p) + sumF s.deliv (s.x.out tt).1
    rw [e1]; omega
  · have := h.ord
    rw [hns, List.pairwise_append] at this
    exact this.2.1
  · intro n hn
    exact h.lt n (by rw [hns]; exact List.mem_append_right _ hn)
theorem serveN_was (n : Nat) (ch : List Int) (s : Lnk) : (Lnk.serveN n ch s).b.was = s.b.was ∧ (Lnk.serveN n ch s).now = s.now := by
  induction n generalizing ch s with
  | zero => exact ⟨rfl, rfl⟩
  | succ n ih =>
    cases hq : s.q.l with
    | nil => rw [serveN_none hq]; exact ⟨rfl, rfl⟩
    | cons p l =>
      rw [serveN_step hq]
      split
      · obtain ⟨h1, h2⟩ := ih ch.tail (s.serve1 p (ch.headD 0))
        refine ⟨h1.trans ?_, h2⟩
        show (s.b.take p.size).2.was = s.b.was
        unfold Bkt.take; split <;> rfl
      · exact ⟨rfl, rfl⟩
theorem to_was (b : Bkt) (t : Int) : (b.to t).was = b.was := by unfold Bkt.to; split <;> rfl
/-- A tick. -/
theorem LInv.tick {a w : Int} {ch : List Int} (h : LInv rate buf t c frm s) (hc : c ≤ 8796093022208) (ha0 : 0 ≤ a) (ht : t + a ≤ 68719476736) (hw : U w) (hch : ∀ x ∈ ch, U x) :
    LInv rate buf (t + a) c frm (s.tick (s.now + a) w ch) ∧ s.b.was ≤ (s.tick (s.now + a) w ch).b.was ∧ (s.b.was < (s.tick (s.now + a) w ch).b.was → (s.tick (s.now + a) w ch).q.bytes = 0) ∧ s.ns = (s.outs (s.now + a) w ch).map Pk.n ++ (s.tick (s.now + a) w ch).ns := by
  have h1 := h.begin ha0 ht
  have h2 : LInv rate buf (t + a) c frm ((s.begin (s.now + a)).serve ch) := h1.serveN hc hch
  obtain ⟨h3, g1, g2, g3, g4, g5, g6⟩ := h2.spill (w := w) ht hw
  obtain ⟨h4, g7⟩ := h3.out (tt := s.now + a) hc
  have e1 : ((s.begin (s.now + a)).serve ch).b.was = s.b.was := ((serveN_was _ _ _).1).trans (to_was _ _)
  have hns0 : ∀ (n : Nat) (ch : List Int) (s : Lnk), (Lnk.serveN n ch s).ns = s.ns := by
    intro n
    induction n with
    | zero => intro ch s; rfl
    | succ n ih =>
      intro ch s
      cases hq : s.q.l with
      | nil => rw [serveN_none hq]
      | cons p l =>
        rw [serveN_step hq]
        split
        · rw [ih]
          show (s.x.put p s.now (ch.headD 0)).l.map (fun d => d.p.n) ++ (s.q.l.drop 1).map Pk.n = _
          unfold Lnk.ns
          rw [hq]
          simp [Bo.put]
        · rfl
  have e2 : ((s.begin (s.now + a)).serve ch).ns = s.ns := hns0 _ _ _
  have e3 : (((s.begin (s.now + a)).serve ch).spill w).ns = ((s.begin (s.now + a)).serve ch).ns := by unfold Lnk.ns; rw [g3, g5]
  refine ⟨h4, ?_, ?_, ?_⟩
  · rw [← e1]; exact g1
  · intro hlt
    rw [← e1] at hlt
    have hq := g2 hlt
    have hs := h2.ok.q.sum
    rw [hq] at hs
    show (((s.begin (s.now + a)).serve ch).spill w).q.bytes = 0
    rw [g3, hs]; rfl
  · rw [← e2, ← e3]; exact g7
theorem LInv.under (h : LInv rate buf t c frm s) (hc : c ≤ 8796093022208) : s.under = psum (s.x.l.map Du.p) := by
  obtain ⟨b1, b2, b3, b4, b5, b6, b7, b8⟩ := h.bounds
  have hce := h.came
  have hcl := h.cle
  have hsv := h.serv
  unfold Lnk.under
  rw [sumF_psum (Int.le_refl _) (fun p hp => by obtain ⟨d, hd, rfl⟩ := List.mem_map.1 hp; exact h.ok.ps d hd) (by omega)]
  omega
end
end Go.Proofs.Ytklohjjkpobneaa
