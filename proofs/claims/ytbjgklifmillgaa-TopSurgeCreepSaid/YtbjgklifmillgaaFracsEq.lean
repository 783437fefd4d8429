import Derived.Laws.StructEq
import Derived.Test.YtbjgklifmillgaaMGs
import Derived.Test.YtbjgklifmillgaaMImp
/- Equality of fractions; the examples of the chapter. -/
namespace Go.Proofs.Ytbjgklifmillgaa
open Go.RowKit
set_option linter.unusedVariables false

end Go.Proofs.Ytbjgklifmillgaa
