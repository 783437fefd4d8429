import Derived.Test.YtbjgklifmillgaaMStl
/- The reference's step with a source out of range. -/
namespace Go.Proofs.Ytbjgklifmillgaa
open Go.RowKit
set_option linter.unusedVariables false

end Go.Proofs.Ytbjgklifmillgaa
