/- The document's dyads in the values' words. -/
import Derived.Test.YtdglddpigeamaaaGreatRefDB
import Derived.Test.YtdglddpigeamaaaGreatEvs
set_option linter.unusedVariables false
set_option linter.unusedSimpArgs false
namespace Go.Proofs.YtdglddpigeamaaaGreat
open Go.RowKit
open L (val dig nth)
section
variable {w : World} {k k' : Nat} {n m : Bool} {A A' : Option Addr} {len cap len' cap' : Nat} {z z' x y : Int}
theorem jqh {K : Nat} (hz : z.natAbs < W ^ k) (hK : 4000 ≤ K) (q : Int) : (vFloor K (av K z x) (nearZ q)).natAbs < W ^ (k + 125) := by
  have hcb := jav z x; have hnb := ja9 q; have hlt := jmr (e := cE z x + nearZ q) (Nat.lt_of_le_of_lt (ji0 _ x) hz) (by omega)
  rwa [jmq K _ _ _ (by omega)] at hlt
theorem jsv {K : Nat} (hz : z.natAbs < W ^ k) (hK : 4000 ≤ K) (q : Int) : (vCeil K (av K z x) (nearZ q)).natAbs < W ^ (k + 125) := by
  have hcb := jav z x; have hnb := ja9 q; have hlt := jmr (a := -cM z x) (e := cE z x + nearZ q) (k := k) (by rw [Int.natAbs_neg]; exact Nat.lt_of_le_of_lt (ji0 _ x) hz) (by omega); rw [← Int.natAbs_neg, ← jlj] at hlt
  rwa [jpi K _ _ _ (by omega)] at hlt
end
end Go.Proofs.YtdglddpigeamaaaGreat
