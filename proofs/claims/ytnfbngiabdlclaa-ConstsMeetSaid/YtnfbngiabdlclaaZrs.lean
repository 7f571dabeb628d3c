/- The document's integers: Make Norm Neg BitLen Sign Mul Shl. The document's integers: Sign Add Sub. The document's integers: Sub Shr. -/
import Derived.Test.YtnfbngiabdlclaaZeds
import Derived.Test.YtnfbngiabdlclaaRefs
import Derived.Test.YtnfbngiabdlclaaDyadA
import Derived.Test.YtnfbngiabdlclaaDyadB
section
set_option linter.unusedVariables false
set_option linter.unusedSimpArgs false
namespace Go.Proofs.Ytnfbngiabdlclaa
open Go.RowKit
open L (val dig nth)

end Go.Proofs.Ytnfbngiabdlclaa
end
section
set_option linter.unusedVariables false
set_option linter.unusedSimpArgs false
namespace Go.Proofs.Ytnfbngiabdlclaa
open Go.RowKit
open L (val dig nth)

end Go.Proofs.Ytnfbngiabdlclaa
end
section
set_option linter.unusedVariables false
set_option linter.unusedSimpArgs false
namespace Go.Proofs.Ytnfbngiabdlclaa
open Go.RowKit
open L (val dig nth)

end Go.Proofs.Ytnfbngiabdlclaa
end
