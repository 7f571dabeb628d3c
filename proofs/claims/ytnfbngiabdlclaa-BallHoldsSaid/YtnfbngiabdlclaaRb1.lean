/- The document's balls: Down, Over, Cmp, Right. -/
import Derived.Test.YtnfbngiabdlclaaBa8
import Derived.Test.YtnfbngiabdlclaaRefDC
set_option linter.unusedVariables false
set_option linter.unusedSimpArgs false
namespace Go.Proofs.Ytnfbngiabdlclaa
open Go.RowKit
open L (val dig nth)

theorem vDn_ge {z c : Int} (h : 0 ≤ c) : vDn z c = z / 2 ^ c.toNat := by
  unfold vDn
  by_cases h0 : c = 0
  · subst h0; simp
  · rw [if_neg (by omega)]
section
variable {w : World} {k k' : Nat} {n m : Bool} {A A' : Option Addr} {len cap len' cap' : Nat} {z y : Int}
end
end Go.Proofs.Ytnfbngiabdlclaa
