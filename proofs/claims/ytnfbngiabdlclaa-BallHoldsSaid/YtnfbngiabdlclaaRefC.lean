/- The document's dyads in the values' words. -/
import Derived.Test.YtnfbngiabdlclaaRefDB
import Derived.Test.YtnfbngiabdlclaaEvs
set_option linter.unusedVariables false
set_option linter.unusedSimpArgs false
namespace Go.Proofs.Ytnfbngiabdlclaa
open Go.RowKit
open L (val dig nth)

section
variable {w : World} {k k' : Nat} {n m : Bool} {A A' : Option Addr} {len cap len' cap' : Nat} {z z' x y : Int}
theorem vFloor_lt {K : Nat} (hz : z.natAbs < W ^ k) (hK : 4000 ≤ K) (q : Int) : (vFloor K (av K z x) (nearZ q)).natAbs < W ^ (k + 125) := by
  have hcb := cE_bounds z x
  have hnb := nearZ_bounds q
  have hlt := scF_lt (e := cE z x + nearZ q) (Nat.lt_of_le_of_lt (cM_le _ x) hz) (by omega)
  rwa [scF_sv K _ _ _ (by omega)] at hlt
theorem vCeil_lt {K : Nat} (hz : z.natAbs < W ^ k) (hK : 4000 ≤ K) (q : Int) : (vCeil K (av K z x) (nearZ q)).natAbs < W ^ (k + 125) := by
  have hcb := cE_bounds z x
  have hnb := nearZ_bounds q
  have hlt := scF_lt (a := -cM z x) (e := cE z x + nearZ q) (k := k) (by rw [Int.natAbs_neg]; exact Nat.lt_of_le_of_lt (cM_le _ x) hz) (by omega)
  rw [← Int.natAbs_neg, ← scC_scF] at hlt
  rwa [scC_sv K _ _ _ (by omega)] at hlt
theorem p_floor {R : Int} (K : Nat) (q : Int) (h : Q w k n A len cap z) (hK : 4000 ≤ K) (hk : k ≤ 1000) (hx0 : -9223372036854775808 ≤ x) (hx1 : x ≤ 9223372036854775807) (hR : vFloor K (av K z x) (nearZ q) = R) :
    Calls Try.prog 52 #[.agg #[.bool n, .slice A len cap, .int .i64 x], .int .i64 q] w fun e w' => Below w.heap.size w w' ∧ RetIC (k + 125) R e w' := by
  have := cc_floor (x := x) h (by omega) hx0 hx1 K hK q
  rwa [hR] at this
theorem p_ceil {R : Int} (K : Nat) (q : Int) (h : Q w k n A len cap z) (hK : 4000 ≤ K) (hk : k ≤ 1000) (hx0 : -9223372036854775808 ≤ x) (hx1 : x ≤ 9223372036854775807) (hR : vCeil K (av K z x) (nearZ q) = R) :
    Calls Try.prog 53 #[.agg #[.bool n, .slice A len cap, .int .i64 x], .int .i64 q] w fun e w' => Below w.heap.size w w' ∧ RetIC (k + 125) R e w' := by
  have := cc_ceil (x := x) h (by omega) hx0 hx1 K hK q
  rwa [hR] at this
end
end Go.Proofs.Ytnfbngiabdlclaa
