/- ball: Mul, Div. -/
import Derived.Test.YtnephejalollfaaBa6
set_option linter.unusedVariables false
set_option linter.unusedSimpArgs false
namespace Go.Proofs.Ytnephejalollfaa
open Go.RowKit
open L (val dig nth)

end Go.Proofs.Ytnephejalollfaa
