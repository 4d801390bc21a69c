/- Words for min and max. -/
import Derived.Test.YtlhncdbigjgmnaaReg
namespace Go.Proofs.Ytlhncdbigjgmnaa
theorem min_ite' (a b : Int) : (if b < a then b else a) = min a b := by split <;> omega
theorem max_ite' (a b : Int) : (if a < b then b else a) = max a b := by split <;> omega
end Go.Proofs.Ytlhncdbigjgmnaa
