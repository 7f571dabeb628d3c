/- The document's dyads: Floor Ceil. The document's dyads: Neg Shift. The document's dyads: Mul. -/
import Derived.Test.YtnfbngiabdlclaaRefDA
import Derived.Test.YtnfbngiabdlclaaLaws
section
set_option linter.unusedVariables false
set_option linter.unusedSimpArgs false
namespace Go.Proofs.Ytnfbngiabdlclaa
open Go.RowKit
open L (val dig nth)

theorem nE_ge (z x : Int) : -4000 ≤ nE z x := by
  have := cE_bounds z x
  unfold nE pE; split <;> omega
theorem sv_norm {K : Nat} (hK : 4000 ≤ K) (z x : Int) : sv K (nM z x) (nE z x) = av K z x := by
  have := cE_bounds z x
  unfold nM nE av; exact sv_plain K _ _ (by omega)
theorem scF_norm {K : Nat} (hK : 4000 ≤ K) (z x p : Int) : scF (nM z x) (nE z x + p) = vFloor K (av K z x) p := by
  have := nE_ge z x
  rw [scF_sv K _ _ _ (by omega), sv_norm hK]
theorem scC_norm {K : Nat} (hK : 4000 ≤ K) (z x p : Int) : -scF (-nM z x) (nE z x + p) = vCeil K (av K z x) p := by
  have := nE_ge z x
  rw [scF_sv K _ _ _ (by omega), sv_neg, sv_norm hK]; rfl
theorem nE_le {z x : Int} {k : Nat} (hz : z.natAbs < W ^ k) : nE z x ≤ 4000 + 64 * k := by
  have h := cE_bounds z x
  have h2 := tz_le _ _ (by have := Nat.lt_of_le_of_lt (cM_le z x) hz; rwa [W_pow] at this)
  unfold nE pE; split <;> omega

theorem scF_lt_any {m e : Int} {k t : Nat} (hm : m.natAbs < W ^ k) (he : e ≤ 64 * t) : (scF m e).natAbs < W ^ (k + t) := by
  unfold scF
  split
  · exact up_lt hm (by omega)
  · exact Nat.lt_of_le_of_lt (Int.natAbs_ediv_le_natAbs _ _) (Nat.lt_of_lt_of_le hm (Nat.pow_le_pow_right W_pos (by omega)))
end Go.Proofs.Ytnfbngiabdlclaa
end
section
set_option linter.unusedVariables false
set_option linter.unusedSimpArgs false
namespace Go.Proofs.Ytnfbngiabdlclaa
open Go.RowKit
open L (val dig nth)

theorem neg_norm {K : Nat} (hK : 4000 ≤ K) (z x : Int) : pM (-nM z x) = pM (-av K z x) ∧ pE (-nM z x) (nE z x) = pE (-av K z x) (-K) := by
  have := nE_ge z x
  rw [← sv_norm hK z x, ← sv_neg, pM_sv, pE_sv K _ _ (by omega)]
  exact ⟨rfl, rfl⟩
theorem shift_norm {K : Nat} (hK : 4000 ≤ K) (z x p : Int) : pM (nM z x) = pM (av K z x) ∧ pE (nM z x) (nE z x + p) = pE (av K z x) (p - K) := by
  have := nE_ge z x
  rw [show p - (K : Int) = -K + p from by omega, pE_add, pE_add, ← sv_norm hK z x, pM_sv, pE_sv K _ _ (by omega)]
  refine ⟨rfl, ?_⟩
  by_cases h : nM z x = 0
  · rw [if_pos h, if_pos (by rw [h]; exact sv_zero _ _)]
  · rw [if_neg h, if_neg (fun hh => h (sv_eq_zero.1 hh))]
end Go.Proofs.Ytnfbngiabdlclaa
end
section
set_option linter.unusedVariables false
set_option linter.unusedSimpArgs false
namespace Go.Proofs.Ytnfbngiabdlclaa
open Go.RowKit
open L (val dig nth)

theorem mul_norm {K J : Nat} (hK : 4000 ≤ K) (hJ : 4000 ≤ J) (z x z' x' : Int) : pM (nM z x * nM z' x') = pM (av K z x * av J z' x') ∧ pE (nM z x * nM z' x') (nE z x + nE z' x') = pE (av K z x * av J z' x') (-((K + J : Nat) : Int)) := by
  have := nE_ge z x
  have := nE_ge z' x'
  rw [← sv_norm hK z x, ← sv_norm hJ z' x', ← sv_mul K J _ _ _ _ (by omega) (by omega), pM_sv, pE_sv (K + J) _ _ (by omega)]
  exact ⟨rfl, rfl⟩
theorem natAbs_mul_W {a b : Int} {k t : Nat} (ha : a.natAbs < W ^ k) (hb : b.natAbs < W ^ t) : (a * b).natAbs < W ^ (k + t) := by
  rw [Int.natAbs_mul, Nat.pow_add]
  exact Nat.mul_lt_mul'' ha hb
end Go.Proofs.Ytnfbngiabdlclaa
end
