/- ball: Mul, Div. -/
import Derived.Test.YtnephejalollfaaGreatBa6
set_option linter.unusedVariables false
set_option linter.unusedSimpArgs false
namespace Go.Proofs.YtnephejalollfaaGreat
open Go.RowKit
open L (val dig nth)

end Go.Proofs.YtnephejalollfaaGreat
