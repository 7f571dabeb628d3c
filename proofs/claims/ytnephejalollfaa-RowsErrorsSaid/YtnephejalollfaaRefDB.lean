/- The document's dyads: Floor Ceil. The document's dyads: Neg Shift. The document's dyads: Mul. -/
import Derived.Test.YtnephejalollfaaRefDA
import Derived.Test.YtnephejalollfaaLaws
section
set_option linter.unusedVariables false
set_option linter.unusedSimpArgs false
namespace Go.Proofs.Ytnephejalollfaa
open Go.RowKit
open L (val dig nth)

end Go.Proofs.Ytnephejalollfaa
end
section
set_option linter.unusedVariables false
set_option linter.unusedSimpArgs false
namespace Go.Proofs.Ytnephejalollfaa
open Go.RowKit
open L (val dig nth)

end Go.Proofs.Ytnephejalollfaa
end
section
set_option linter.unusedVariables false
set_option linter.unusedSimpArgs false
namespace Go.Proofs.Ytnephejalollfaa
open Go.RowKit
open L (val dig nth)

end Go.Proofs.Ytnephejalollfaa
end
