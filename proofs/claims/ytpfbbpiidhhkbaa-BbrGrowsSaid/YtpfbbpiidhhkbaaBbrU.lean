/- bbr: what fits sixty-four bits: written by mkbbr2.py. -/
import Derived.Test.YtpfbbpiidhhkbaaBbr3
namespace Go.Proofs.Ytpfbbpiidhhkbaa
open Go.RowKit
theorem Eng.U_holds {s : Eng} (h : s.Ok) : U s.holds := by
  unfold Eng.holds flightI
  exact U_sover (Eng.U_best h) (Eng.U_least h.f)
theorem Bnd.U_room {s : Bnd} (h : s.Ok) : U s.room := by
  unfold Bnd.room
  split
  · decide
  · exact U_sshare h.1 (by decide)
theorem U_waitI {s c p : Int} (hp : U p) : U (waitI s c p) := by
  unfold waitI
  split
  · unfold U; omega
  · split
    · exact hp
    · exact U_zero
theorem Eng.U_uses {s : Eng} (h : s.Ok) : U s.uses := by
  unfold Eng.uses flightI
  exact U_sover (Eng.U_limit h) (Eng.U_least h.f)
theorem U_gWindow {s r : Int} (h : U r) : U (gWindow s r) := by
  unfold gWindow
  exact U_sover h (U_gAt s).2
theorem Cnf.U_quantum {c : Cnf} (h : c.Ok) {r : Int} (hr : U r) : U (c.quantum r) := by
  have h1 : U (smul 2 c.mss) := U_smul (by decide) h.mss
  have h2 : U (smul 64 c.mss) := U_smul (by decide) h.mss
  have h3 := hr
  unfold Cnf.quantum U at *
  omega
theorem Eng.U_pace {s : Eng} (h : s.Ok) : U s.pace := by
  have h1 : U s.c.least := Cnf.U_least h.c
  unfold Eng.pace U at *
  omega
end Go.Proofs.Ytpfbbpiidhhkbaa
