/- The document's balls: least, greatest, Times. -/
import Derived.Test.YtnfbngiabdlclaaRb2
set_option linter.unusedVariables false
set_option linter.unusedSimpArgs false
namespace Go.Proofs.Ytnfbngiabdlclaa
open Go.RowKit
open L (val dig nth)

theorem Ints.two {w : World} {k B g : Nat} {t : TypeId} {n0 n1 : Bool} {A0 A1 : Option Addr} {l0 l1 c0 c1 : Nat} {z0 z1 : Int}
    (h : Blk w g t #[.bool n0, .slice A0 l0 c0, .bool n1, .slice A1 l1 c1]) (h0 : QB w B k n0 A0 l0 c0 z0) (h1 : QB w B k n1 A1 l1 c1 z1) :
    Ints w k B g 2 (pick n0 n1 n1 n1) (pick A0 A1 A1 A1) (pick l0 l1 l1 l1) (pick c0 c1 c1 c1) (pick z0 z1 z1 z1) := by
  refine ⟨h.lt, fun i hi => ?_, fun i hi => ?_, fun i hi => ?_⟩
  all_goals obtain rfl | rfl : i = 0 ∨ i = 1 := by omega
  · exact h.cell 0
  · exact h.cell 2
  · exact h.cell 1
  · exact h.cell 3
  · exact h0
  · exact h1
theorem pick_min2 {a b : Int} {j : Nat} (hj : j < 2) (h : ∀ i, i < 2 → pick a b b b j ≤ pick a b b b i) : pick a b b b j = min a b := by
  have h0 : pick a b b b j ≤ a := h 0 (by omega)
  have h1 : pick a b b b j ≤ b := h 1 (by omega)
  obtain rfl | rfl : j = 0 ∨ j = 1 := by omega
  · show a = min a b
    have h1' : a ≤ b := h1
    omega
  · show b = min a b
    have h0' : b ≤ a := h0
    omega
theorem pick_max2 {a b : Int} {j : Nat} (hj : j < 2) (h : ∀ i, i < 2 → pick a b b b i ≤ pick a b b b j) : pick a b b b j = max a b := by
  have h0 : a ≤ pick a b b b j := h 0 (by omega)
  have h1 : b ≤ pick a b b b j := h 1 (by omega)
  obtain rfl | rfl : j = 0 ∨ j = 1 := by omega
  · show a = max a b
    have h1' : b ≤ a := h1
    omega
  · show b = max a b
    have h0' : a ≤ b := h0
    omega
end Go.Proofs.Ytnfbngiabdlclaa
