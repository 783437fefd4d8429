import Derived.Test.YtbjgklifmillgaaMRt
import Derived.Test.YtbjgklifmillgaaRSteep
/- Quotients in memory: RatioFrac. -/
namespace Go.Proofs.Ytbjgklifmillgaa
open Go.RowKit
set_option linter.unusedVariables false

/-- The parts of a quotient are small. -/
def smallQ (q : Rat) : Bool := wi q.num (-1000000000) 1000000000 && wi (q.den : Int) 1 1000000000
end Go.Proofs.Ytbjgklifmillgaa
