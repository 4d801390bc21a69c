/- Words for min and max. -/
import Derived.Test.YtpfbbpiidhhkbaaReg
namespace Go.Proofs.Ytpfbbpiidhhkbaa
theorem min_ite' (a b : Int) : (if b < a then b else a) = min a b := by split <;> omega
theorem max_ite' (a b : Int) : (if a < b then b else a) = max a b := by split <;> omega
end Go.Proofs.Ytpfbbpiidhhkbaa
