import Derived.Test.YtdklmcicogmeaaaGreatMRNet
/- The reference of responses: the response at a frequency. -/
namespace Go.Proofs.YtdklmcicogmeaaaGreat
open Go.RowKit
set_option linter.unusedVariables false

end Go.Proofs.YtdklmcicogmeaaaGreat
