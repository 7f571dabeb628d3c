/- The document's dyads in the values' words. The document's dyads: Add Sub. The document's dyads: Sub. The document's dyads: Cmp. -/
import Derived.Test.YtfgjlljlgemecaaGreatRefDA
import Derived.Test.YtfgjlljlgemecaaGreatEvs
section
set_option linter.unusedVariables false
set_option linter.unusedSimpArgs false
namespace Go.Proofs.YtfgjlljlgemecaaGreat
open Go.RowKit
open L (val dig nth)
section
variable {w : World} {k k' : Nat} {n m : Bool} {A A' : Option Addr} {len cap len' cap' : Nat} {z z' x y : Int}
theorem vFloor_lt {K : Nat} (hz : z.natAbs < W ^ k) (hK : 4000 ≤ K) (q : Int) : (vFloor K (av K z x) (nearZ q)).natAbs < W ^ (k + 125) := by
  have hcb := cE_bounds z x; have hnb := nearZ_bounds q; have hlt := scF_lt (e := cE z x + nearZ q) (Nat.lt_of_le_of_lt (cM_le _ x) hz) (by omega)
  rwa [scF_sv K _ _ _ (by omega)] at hlt
theorem vCeil_lt {K : Nat} (hz : z.natAbs < W ^ k) (hK : 4000 ≤ K) (q : Int) : (vCeil K (av K z x) (nearZ q)).natAbs < W ^ (k + 125) := by
  have hcb := cE_bounds z x; have hnb := nearZ_bounds q; have hlt := scF_lt (a := -cM z x) (e := cE z x + nearZ q) (k := k) (by rw [Int.natAbs_neg]; exact Nat.lt_of_le_of_lt (cM_le _ x) hz) (by omega); rw [← Int.natAbs_neg, ← scC_scF] at hlt
  rwa [scC_sv K _ _ _ (by omega)] at hlt
end
end Go.Proofs.YtfgjlljlgemecaaGreat
end
section
section
set_option linter.unusedVariables false
set_option linter.unusedSimpArgs false
namespace Go.Proofs.YtfgjlljlgemecaaGreat
open Go.RowKit
open L (val dig nth)
end Go.Proofs.YtfgjlljlgemecaaGreat
end
section
set_option linter.unusedVariables false
set_option linter.unusedSimpArgs false
namespace Go.Proofs.YtfgjlljlgemecaaGreat
open Go.RowKit
open L (val dig nth)
end Go.Proofs.YtfgjlljlgemecaaGreat
end
section
set_option linter.unusedVariables false
set_option linter.unusedSimpArgs false
namespace Go.Proofs.YtfgjlljlgemecaaGreat
open Go.RowKit
open L (val dig nth)
end Go.Proofs.YtfgjlljlgemecaaGreat
end
end
