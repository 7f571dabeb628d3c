/- hairlineref01.DivMod: division digit by digit, each looked for by halving. -/
import Derived.Test.YtnfbngiabdlclaaRefs
import Derived.Test.YtnfbngiabdlclaaKn2
set_option linter.unusedVariables false
set_option linter.unusedSimpArgs false
namespace Go.Proofs.Ytnfbngiabdlclaa
open Go.RowKit
open L (val dig nth)

end Go.Proofs.Ytnfbngiabdlclaa
