/- The document's dyads in the values' words. -/
import Derived.Test.YtnfbngiabdlclaaGreatRefDB
import Derived.Test.YtnfbngiabdlclaaGreatEvs
set_option linter.unusedVariables false
set_option linter.unusedSimpArgs false
namespace Go.Proofs.YtnfbngiabdlclaaGreat
open Go.RowKit
open L (val dig nth)

section
variable {w : World} {k k' : Nat} {n m : Bool} {A A' : Option Addr} {len cap len' cap' : Nat} {z z' x y : Int}
theorem vFloor_lt {K : Nat} (hz : z.natAbs < W ^ k) (hK : 4000 ≤ K) (q : Int) : (vFloor K (av K z x) (nearZ q)).natAbs < W ^ (k + 125) := by
  have hcb := cE_bounds z x
  have hnb := nearZ_bounds q
  have hlt := scF_lt (e := cE z x + nearZ q) (Nat.lt_of_le_of_lt (cM_le _ x) hz) (by omega)
  rwa [scF_sv K _ _ _ (by omega)] at hlt
theorem vCeil_lt {K : Nat} (hz : z.natAbs < W ^ k) (hK : 4000 ≤ K) (q : Int) : (vCeil K (av K z x) (nearZ q)).natAbs < W ^ (k + 125) := by
  have hcb := cE_bounds z x
  have hnb := nearZ_bounds q
  have hlt := scF_lt (a := -cM z x) (e := cE z x + nearZ q) (k := k) (by rw [Int.natAbs_neg]; exact Nat.lt_of_le_of_lt (cM_le _ x) hz) (by omega)
  rw [← Int.natAbs_neg, ← scC_scF] at hlt
  rwa [scC_sv K _ _ _ (by omega)] at hlt
theorem r_floor {R : Int} (K : Nat) (q : Int) (h : Q w k n A len cap z) (hK : 4000 ≤ K) (hk : k ≤ 1000) (hx0 : -9223372036854775808 ≤ x) (hx1 : x ≤ 9223372036854775807) (hR : vFloor K (av K z x) (nearZ q) = R) :
    Calls Tryz.prog 57 #[.agg #[.bool n, .slice A len cap, .int .i64 x], .int .i64 q] w fun e w' => Below w.heap.size w w' ∧ RetIC (k + 125) R e w' := by
  have hz := h.lt
  have hlt := vFloor_lt (x := x) hz hK q
  rw [hR] at hlt
  obtain ⟨d, h1, h2, rfl⟩ := h
  have := floorDR_calls w n 0 _ d x q K h1 (by omega) hx0 hx1 hK
  rw [hR] at this
  refine this.mono ?_
  rintro e w' ⟨hb, h⟩
  exact ⟨hb, h.toIC hlt⟩
theorem r_ceil {R : Int} (K : Nat) (q : Int) (h : Q w k n A len cap z) (hK : 4000 ≤ K) (hk : k ≤ 1000) (hx0 : -9223372036854775808 ≤ x) (hx1 : x ≤ 9223372036854775807) (hR : vCeil K (av K z x) (nearZ q) = R) :
    Calls Tryz.prog 58 #[.agg #[.bool n, .slice A len cap, .int .i64 x], .int .i64 q] w fun e w' => Below w.heap.size w w' ∧ RetIC (k + 125) R e w' := by
  have hz := h.lt
  have hlt := vCeil_lt (x := x) hz hK q
  rw [hR] at hlt
  obtain ⟨d, h1, h2, rfl⟩ := h
  have := ceilDR_calls w n 0 _ d x q K h1 (by omega) hx0 hx1 hK
  rw [hR] at this
  refine this.mono ?_
  rintro e w' ⟨hb, h⟩
  exact ⟨hb, h.toIC hlt⟩
theorem p_floor {R : Int} (K : Nat) (q : Int) (h : Q w k n A len cap z) (hK : 4000 ≤ K) (hk : k ≤ 1000) (hx0 : -9223372036854775808 ≤ x) (hx1 : x ≤ 9223372036854775807) (hR : vFloor K (av K z x) (nearZ q) = R) :
    Calls Tryz.prog 55 #[.agg #[.bool n, .slice A len cap, .int .i64 x], .int .i64 q] w fun e w' => Below w.heap.size w w' ∧ RetIC (k + 125) R e w' := by
  have := cc_floor (x := x) h (by omega) hx0 hx1 K hK q
  rwa [hR] at this
theorem p_ceil {R : Int} (K : Nat) (q : Int) (h : Q w k n A len cap z) (hK : 4000 ≤ K) (hk : k ≤ 1000) (hx0 : -9223372036854775808 ≤ x) (hx1 : x ≤ 9223372036854775807) (hR : vCeil K (av K z x) (nearZ q) = R) :
    Calls Tryz.prog 56 #[.agg #[.bool n, .slice A len cap, .int .i64 x], .int .i64 q] w fun e w' => Below w.heap.size w w' ∧ RetIC (k + 125) R e w' := by
  have := cc_ceil (x := x) h (by omega) hx0 hx1 K hK q
  rwa [hR] at this
theorem e_eqI (h : QC w k n A len cap z) (h' : QC w k' m A' len' cap' z') (hz : z = z') :
    Calls Tryz.prog 50 #[.agg #[.bool n, .slice A len cap], .agg #[.bool m, .slice A' len' cap']] w fun e w' => Below w.heap.size w w' ∧ e = .returned (.bool true) := by
  have := eqI_calls h h'
  rwa [decide_eq_true hz] at this
end
end Go.Proofs.YtnfbngiabdlclaaGreat
