/- ball.Div's two functions. -/
import Derived.Test.YtnfbngiabdlclaaBa2
set_option linter.unusedVariables false
set_option linter.unusedSimpArgs false
namespace Go.Proofs.Ytnfbngiabdlclaa
open Go.RowKit
open L (val dig nth)

/-- A canonical number in a slice, its cells from block B on. -/
def QK (w : World) (B k : Nat) (A : Option Addr) (len cap : Nat) (z : Int) : Prop := ∃ d, Nums w B (.slice A len cap) d ∧ len = d.length ∧ Canon d z.natAbs ∧ z.natAbs < W ^ k
theorem QK.q {w : World} {B k : Nat} {A : Option Addr} {len cap : Nat} {z : Int} (h : QK w B k A len cap z) : Q w k (decide (z < 0)) A len cap z := by
  obtain ⟨d, h1, rfl, h3, h4⟩ := h; exact RetZ.q h1 h3 h4
theorem ediv_abs {z y : Int} (hy : 0 < y) : (z / y).natAbs ≤ z.natAbs := by
  rcases Int.lt_or_le z 0 with h | h
  · have h1 : z ≤ z / y := by
      rw [Int.le_ediv_iff_mul_le hy]; have h3 : z * y ≤ z * 1 := Int.mul_le_mul_of_nonpos_left (by omega) hy
      omega
    have h2 := Int.ediv_neg_of_neg_of_pos h hy
    omega
  · have h1 : z / y ≤ z := Int.ediv_le_self _ h
    have h2 : 0 ≤ z / y := Int.ediv_nonneg h (by omega)
    omega
theorem vDown_lt {z y : Int} {k : Nat} (hy : y ≠ 0) (hz : z.natAbs < W ^ k) : (vDown z y).natAbs < W ^ k := by
  unfold vDown
  split
  · exact Nat.lt_of_le_of_lt (Nat.le_trans (ediv_abs (by omega)) (by rw [Int.natAbs_neg]; exact Nat.le_refl _)) hz
  · exact Nat.lt_of_le_of_lt (ediv_abs (by omega)) hz

end Go.Proofs.Ytnfbngiabdlclaa
