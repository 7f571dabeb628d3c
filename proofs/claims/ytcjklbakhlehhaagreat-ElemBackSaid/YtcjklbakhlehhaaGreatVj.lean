/- V: what must be in any case (hairlinelaw09, hairlinelaw18): reckoned. -/
import Derived.Test.YtcjklbakhlehhaaGreatEv
set_option linter.unusedVariables false
set_option linter.unusedSimpArgs false
namespace Go.Proofs.YtcjklbakhlehhaaGreat
open Go.RowKit Go.Shelf
namespace V
section
variable (h:Nat→List Int→Int)
noncomputable def base:List (Ctr Tryz.prog (FD h)):=(dy1 h).map (Ctr.fold (joc h))
end
end V
end Go.Proofs.YtcjklbakhlehhaaGreat
