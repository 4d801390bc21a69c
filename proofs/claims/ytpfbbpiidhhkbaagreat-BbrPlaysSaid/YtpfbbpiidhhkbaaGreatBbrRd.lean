/- bbr: setups and events as arguments. -/
import Derived.Test.YtpfbbpiidhhkbaaGreatBbr2
import Derived.Test.YtpfbbpiidhhkbaaGreatRow
import Derived.Test.YtpfbbpiidhhkbaaGreatRnd
namespace Go.Proofs.YtpfbbpiidhhkbaaGreat
open Go.RowKit
def Evt.cells (x : Evt) : List Value := [.int .u64 x.now, .int .u64 x.sd, .int .u64 x.si, .int .u64 x.sr, .int .u64 x.rtt, .bool x.slim, .bool x.some, .int .u64 x.deliv, .int .u64 x.acked, .int .u64 x.lost, .int .u64 x.fl]
abbrev ConfT := Int × Int × Int × Int × Int × Int × Unit
def rdConf : Rd ConfT := rdPair (rdInt .u64) (rdPair (rdInt .u64) (rdPair (rdInt .u64) (rdPair (rdInt .u64) (rdPair (rdInt .u64) (rdPair (rdInt .u64) rdUnit)))))
def ConfT.c (x : ConfT) : Cnf := ⟨x.1, x.2.1, x.2.2.1, x.2.2.2.1, x.2.2.2.2.1, x.2.2.2.2.2.1⟩
theorem rdConf_open {w : World} {c : List Value} {x : ConfT} (h : rdConf w c x) : c = [.int .u64 x.c.mss, .int .u64 x.c.init, .int .u64 x.c.reorder, .int .u64 x.c.window, .int .u64 x.c.probe, .int .u64 x.c.loss] ∧ x.c.Ok := by
  obtain ⟨c1, d1, rfl, ⟨rfl, h1⟩, c2, d2, rfl, ⟨rfl, h2⟩, c3, d3, rfl, ⟨rfl, h3⟩, c4, d4, rfl, ⟨rfl, h4⟩, c5, d5, rfl, ⟨rfl, h5⟩, c6, d6, rfl, ⟨rfl, h6⟩, rfl⟩ := h
  exact ⟨rfl, U_of_wf h1, U_of_wf h2, U_of_wf h3, U_of_wf h4, U_of_wf h5, U_of_wf h6⟩
abbrev SmplT := Int × Int × Int × Int × Bool × Unit
abbrev EvtT := Int × SmplT × Bool × Int × Int × Int × Int × Unit
def rdSmpl : Rd SmplT := rdPair (rdInt .u64) (rdPair (rdInt .u64) (rdPair (rdInt .u64) (rdPair (rdInt .u64) (rdPair rdBool rdUnit))))
def rdEvt : Rd EvtT := rdPair (rdInt .u64) (rdPair rdSmpl (rdPair rdBool (rdPair (rdInt .u64) (rdPair (rdInt .u64) (rdPair (rdInt .u64) (rdPair (rdInt .u64) rdUnit))))))
def EvtT.x (t : EvtT) : Evt := ⟨t.1, t.2.1.1, t.2.1.2.1, t.2.1.2.2.1, t.2.1.2.2.2.1, t.2.1.2.2.2.2.1, t.2.2.1, t.2.2.2.1, t.2.2.2.2.1, t.2.2.2.2.2.1, t.2.2.2.2.2.2.1⟩
theorem rdEvt_open {w : World} {c : List Value} {t : EvtT} (h : rdEvt w c t) : c = (EvtT.x t).cells ∧ (EvtT.x t).Ok := by
  obtain ⟨c1, d1, rfl, ⟨rfl, h1⟩, c2, d2, rfl, hs, c3, d3, rfl, rfl, c4, d4, rfl, ⟨rfl, h4⟩, c5, d5, rfl, ⟨rfl, h5⟩, c6, d6, rfl, ⟨rfl, h6⟩, c7, d7, rfl, ⟨rfl, h7⟩, rfl⟩ := h
  obtain ⟨e1, f1, rfl, ⟨rfl, k1⟩, e2, f2, rfl, ⟨rfl, k2⟩, e3, f3, rfl, ⟨rfl, k3⟩, e4, f4, rfl, ⟨rfl, k4⟩, e5, f5, rfl, rfl, rfl⟩ := hs
  exact ⟨rfl, U_of_wf h1, U_of_wf k1, U_of_wf k2, U_of_wf k3, U_of_wf k4, U_of_wf h4, U_of_wf h5, U_of_wf h6, U_of_wf h7⟩
theorem evts_rd {w : World} {A : Option Addr} {n cap : Nat} {xs : List EvtT} (h : rdSlice rdEvt 11 w [.slice A n cap] xs) : itAt Evt.cells 11 w A n (xs.map EvtT.x) ∧ n ≤ 9223372036854775807 ∧ ∀ x ∈ xs.map EvtT.x, x.Ok := by
  obtain ⟨h1, h2⟩ := itAt_rd (enc := Evt.cells) (sz := 11) EvtT.x (fun _ _ hc => (rdEvt_open hc).1) h
  refine ⟨h1, h2, fun x hm => ?_⟩
  obtain ⟨t, ht, rfl⟩ := List.mem_map.1 hm
  obtain ⟨i, hi, rfl⟩ := List.getElem_of_mem ht
  obtain ⟨_, _, hx⟩ := rdSlice_cases h
  rcases hx with hz | ⟨ab, off, rfl, hx⟩
  · omega
  · obtain ⟨c, _, _, hR⟩ := hx i hi
    exact (rdEvt_open hR).2
theorem nums_rd {w : World} {A : Option Addr} {n cap : Nat} {l : List Int} (h : rdSlice (rdInt .u64) 1 w [.slice A n cap] l) : itAt (fun x : Int => [Value.int .u64 x]) 1 w A n l ∧ n ≤ 9223372036854775807 ∧ ∀ x ∈ l, U x := by
  obtain ⟨h1, h2⟩ := itAt_rd (enc := fun x : Int => [Value.int .u64 x]) (sz := 1) (fun x : Int => x) (fun c x hc => hc.1) h
  rw [List.map_id'] at h1
  obtain ⟨_, _, _, e, hl, hc, _, hx⟩ := h
  cases e
  refine ⟨h1, h2, fun x hm => ?_⟩
  obtain ⟨i, hi, rfl⟩ := List.getElem_of_mem hm
  obtain ⟨_, _, _, c, _, _, hR⟩ := hx i hi
  exact U_of_wf hR.2
end Go.Proofs.YtpfbbpiidhhkbaaGreat
