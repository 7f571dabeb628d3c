/- What law04's 'shown' comes to. Plain facts. law04's 'shown' is true. -/
import Derived.Test.YtdglddpigeamaaaGreatCons
set_option linter.unusedVariables false
namespace Go.Proofs.YtdglddpigeamaaaGreat
section
section
open Go.RowKit
open L (val dig nth)
theorem jl0 {z x : Int} (h1 : -4000 ≤ x) (h2 : x ≤ 4000) : cM z x = z := by
  unfold cM
  by_cases hz : z = 0
  · subst hz; split <;> rfl
  · rw [if_neg (by omega)]
theorem jvr {z x : Int} (h1 : -4000 ≤ x) (h2 : x ≤ 4000) (hz : z ≠ 0) : cE z x = x := by
  unfold cE; rw [if_neg (by omega)]
def one : Nat := 4607182418800017408
theorem jxy {z x m : Int} (h1 : -4000 ≤ x) (h2 : x ≤ 4000) (hz : z ≠ 0) (hm : x + nbits z.natAbs - 1 = m) (hb : ¬ ofBad z x m) : oB1 z x = ofPat z x m ∧ oX1 z x = 0 := by
  have hok : lgOk z x = true := by unfold lgOk; rw [jl0 h1 h2]; simpa using hz
  have hlg : lgN z x = m := by unfold lgN; rw [jl0 h1 h2, jvr h1 h2 hz, if_neg hz]; exact hm
  unfold oB1 oX1; rw [hok, hlg, if_neg (by simp), if_neg hb, if_neg (by simp), if_neg hb]; exact ⟨rfl, rfl⟩
theorem jvs {N : Nat} (h : N < W) : (dig W N).length ≤ 1 := by rw [L.dig_len W_gt, Nat.pow_one]; exact h
end
end
section
section
open Go.RowKit
open L (val dig nth)
end
end
end Go.Proofs.YtdglddpigeamaaaGreat