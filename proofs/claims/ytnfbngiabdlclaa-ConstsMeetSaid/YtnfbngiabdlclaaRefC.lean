/- The document's dyads in the values' words. -/
import Derived.Test.YtnfbngiabdlclaaRefDB
import Derived.Test.YtnfbngiabdlclaaEvs
set_option linter.unusedVariables false
set_option linter.unusedSimpArgs false
namespace Go.Proofs.Ytnfbngiabdlclaa
open Go.RowKit
open L (val dig nth)

section
variable {w : World} {k k' : Nat} {n m : Bool} {A A' : Option Addr} {len cap len' cap' : Nat} {z z' x y : Int}
end
end Go.Proofs.Ytnfbngiabdlclaa
