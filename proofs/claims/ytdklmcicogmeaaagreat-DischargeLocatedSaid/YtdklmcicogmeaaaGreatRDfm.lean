import Derived.Test.YtdklmcicogmeaaaGreatDDfmd
import Derived.Test.YtdklmcicogmeaaaGreatRNet2
/- The reference of changes: a network that is changed. -/
namespace Go.Proofs.YtdklmcicogmeaaaGreat
open Go.RowKit
set_option linter.unusedVariables false

end Go.Proofs.YtdklmcicogmeaaaGreat
