/- hairlineref01.DivMod: division digit by digit, each looked for by halving. -/
import Derived.Test.YtfgjlljlgemecaaGreatRefs
import Derived.Test.YtfgjlljlgemecaaGreatKn2
set_option linter.unusedVariables false
set_option linter.unusedSimpArgs false
namespace Go.Proofs.YtfgjlljlgemecaaGreat
open Go.RowKit
open L (val dig nth)
end Go.Proofs.YtfgjlljlgemecaaGreat
