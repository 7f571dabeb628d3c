/- The document's dyads: Add Sub. The document's dyads: Sub. The document's dyads: Cmp. -/
import Derived.Test.YtnephejalollfaaRefDB
section
set_option linter.unusedVariables false
set_option linter.unusedSimpArgs false
namespace Go.Proofs.Ytnephejalollfaa
open Go.RowKit
open L (val dig nth)

end Go.Proofs.Ytnephejalollfaa
end
section
set_option linter.unusedVariables false
set_option linter.unusedSimpArgs false
namespace Go.Proofs.Ytnephejalollfaa
open Go.RowKit
open L (val dig nth)

end Go.Proofs.Ytnephejalollfaa
end
section
set_option linter.unusedVariables false
set_option linter.unusedSimpArgs false
namespace Go.Proofs.Ytnephejalollfaa
open Go.RowKit
open L (val dig nth)

end Go.Proofs.Ytnephejalollfaa
end
