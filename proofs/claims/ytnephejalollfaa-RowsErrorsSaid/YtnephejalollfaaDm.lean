/- hairlineref01.DivMod: division digit by digit, each looked for by halving. -/
import Derived.Test.YtnephejalollfaaRefs
import Derived.Test.YtnephejalollfaaKn3
set_option linter.unusedVariables false
set_option linter.unusedSimpArgs false
namespace Go.Proofs.Ytnephejalollfaa
open Go.RowKit
open L (val dig nth)

end Go.Proofs.Ytnephejalollfaa
