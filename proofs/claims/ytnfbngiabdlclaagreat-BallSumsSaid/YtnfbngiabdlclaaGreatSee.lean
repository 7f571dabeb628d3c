/- What law04's 'shown' comes to. Plain facts. law04's 'shown' is true. -/
import Derived.Test.YtnfbngiabdlclaaGreatCons
section
set_option linter.unusedVariables false
namespace Go.Proofs.YtnfbngiabdlclaaGreat
open Go.RowKit
open L (val dig nth)

theorem cM_in {z x : Int} (h1 : -4000 ≤ x) (h2 : x ≤ 4000) : cM z x = z := by
  unfold cM
  by_cases hz : z = 0
  · subst hz; split <;> rfl
  · rw [if_neg (by omega)]
theorem cE_in {z x : Int} (h1 : -4000 ≤ x) (h2 : x ≤ 4000) (hz : z ≠ 0) : cE z x = x := by
  unfold cE; rw [if_neg (by omega)]
theorem nM_odd {z x : Int} (h1 : -4000 ≤ x) (h2 : x ≤ 4000) (ho : z.natAbs % 2 = 1) : nM z x = z := by
  unfold nM; rw [cM_in h1 h2]; exact nf_pM (x := x) (.inr ho)
theorem nE_odd {z x : Int} (h1 : -4000 ≤ x) (h2 : x ≤ 4000) (ho : z.natAbs % 2 = 1) : nE z x = x := by
  have hz : z ≠ 0 := by intro h; subst h; simp at ho
  unfold nE; rw [cM_in h1 h2, cE_in h1 h2 hz]; exact nf_pE (.inr ho)
theorem nM_pow {z x : Int} {n : Nat} (h1 : -4000 ≤ x) (h2 : x ≤ 4000) (ho : z.natAbs % 2 = 1) : nM (z * 2 ^ n) x = z := by
  unfold nM; rw [cM_in h1 h2, pM_pow]; exact nf_pM (x := x) (.inr ho)
theorem nE_pow {z x : Int} {n : Nat} (h1 : -4000 ≤ x) (h2 : x ≤ 4000) (ho : z.natAbs % 2 = 1) : nE (z * 2 ^ n) x = x + n := by
  have hz : z ≠ 0 := by intro h; subst h; simp at ho
  have hz2 : z * 2 ^ n ≠ 0 := fun h => by rcases Int.mul_eq_zero.1 h with h | h; exact hz h; exact pow_ne _ h
  unfold nE; rw [cM_in h1 h2, cE_in h1 h2 hz2, pE_of hz2, Int.natAbs_mul, natAbs_pow, tz_pow ho]
theorem pow52 : ((2 : Int) ^ 52) = 4503599627370496 := rfl

def one : Nat := 4607182418800017408
theorem one_lt : one < W := by unfold one W; omega
theorem fs_zero : fsB 0 = one := rfl
theorem fx_zero : fsX 0 = 0 := rfl
theorem one_fld : pFld one = 1023 := rfl
theorem one_frc : pFrc one = 0 := rfl
theorem one_neg : pNeg one = false := by unfold pNeg one; rw [decide_eq_false]; omega
theorem one_rM : rM one = 1 * 2 ^ 52 := by unfold rM; rw [one_fld, one_frc, one_neg, if_neg (by omega)]; rfl
theorem one_rE : rE one = -52 := by unfold rE; rw [one_fld, if_neg (by omega)]; rfl
theorem one_vM : vM one = 1 := by
  unfold vM; rw [one_fld, if_neg (by omega), one_rM, one_rE]; exact nM_pow (by omega) (by omega) (by rfl)
theorem one_vE : vE one = 0 := by
  unfold vE; rw [one_fld, if_neg (by omega), one_rM, one_rE, nE_pow (by omega) (by omega) (by rfl)]; rfl
theorem one_vX : vX one = 0 := by unfold vX; rw [one_fld, if_neg (by omega)]

/-- Of's pattern of a dyad in its normal form. -/
theorem oB1_of {z x m : Int} (h1 : -4000 ≤ x) (h2 : x ≤ 4000) (hz : z ≠ 0) (hm : x + nbits z.natAbs - 1 = m) (hb : ¬ ofBad z x m) : oB1 z x = ofPat z x m ∧ oX1 z x = 0 := by
  have hok : lgOk z x = true := by unfold lgOk; rw [cM_in h1 h2]; simpa using hz
  have hlg : lgN z x = m := by unfold lgN; rw [cM_in h1 h2, cE_in h1 h2 hz, if_neg hz]; exact hm
  unfold oB1 oX1
  rw [hok, hlg, if_neg (by simp), if_neg hb, if_neg (by simp), if_neg hb]
  exact ⟨rfl, rfl⟩
theorem dig_one {N : Nat} (h : N < W) : (dig W N).length ≤ 1 := by rw [L.dig_len W_gt, Nat.pow_one]; exact h
theorem nbits_3 : nbits 3 = 2 := nbits_eq (by omega) (.inr (by omega))
theorem nbits_1 : nbits 1 = 1 := nbits_eq (by omega) (.inr (by omega))
theorem lg_31 : (-1 : Int) + nbits (3 : Int).natAbs - 1 = 0 := by rw [show (3 : Int).natAbs = 3 from rfl, nbits_3]; rfl
theorem three_of : oB1 3 (-1) = 4609434218613702656 ∧ oX1 3 (-1) = 0 := by
  have h := oB1_of (z := 3) (x := -1) (m := 0) (by omega) (by omega) (by omega) lg_31 (by
    have := dig_one (N := (3 : Int).natAbs) (by unfold W; omega)
    unfold ofBad ofLow; omega)
  refine ⟨h.1.trans ?_, h.2⟩
  rfl
theorem one_of : oB1 1 0 = one ∧ oX1 1 0 = 0 := by
  have h := oB1_of (z := 1) (x := 0) (m := 0) (by omega) (by omega) (by omega) (by rw [show (1 : Int).natAbs = 1 from rfl, nbits_1]; rfl) (by
    have := dig_one (N := (1 : Int).natAbs) (by unfold W; omega)
    unfold ofBad ofLow; omega)
  refine ⟨h.1.trans ?_, h.2⟩
  rfl
theorem lg_one : lgN 1 0 = 0 := by
  unfold lgN; rw [cM_in (by omega) (by omega), cE_in (by omega) (by omega) (by omega), if_neg (by omega), show (1 : Int).natAbs = 1 from rfl, nbits_1]; rfl
theorem nr_ok : ¬ nrBad 1 0 := by
  unfold nrBad lgOk
  rw [lg_one, cM_in (by omega) (by omega)]
  simp
theorem nrM_one : nrM 1 0 = 1 * 2 ^ 52 := by
  unfold nrM; rw [lg_one, cM_in (by omega) (by omega), cE_in (by omega) (by omega) (by omega)]; rfl
theorem nrZ_one : nrZ 1 0 = 1 := by unfold nrZ; rw [nrM_one, lg_one]; exact nM_pow (by omega) (by omega) (by rfl)
theorem nrY_one : nrY 1 0 = 0 := by unfold nrY; rw [nrM_one, lg_one, nE_pow (by omega) (by omega) (by rfl)]; rfl
theorem near_one : nrB 1 0 = one ∧ nrX 1 0 = 0 := by
  unfold nrB nrX
  rw [if_neg nr_ok, if_neg nr_ok, nrZ_one, nrY_one, nM_odd (by omega) (by omega) (by rfl), nE_odd (by omega) (by omega) (by rfl)]
  exact one_of
theorem nM_3 : nM 3 (-1) = 3 := nM_odd (by omega) (by omega) (by rfl)
theorem nE_3 : nE 3 (-1) = -1 := nE_odd (by omega) (by omega) (by rfl)
end Go.Proofs.YtnfbngiabdlclaaGreat
end
section
set_option linter.unusedVariables false
namespace Go.Proofs.YtnfbngiabdlclaaGreat
open Go.RowKit
open L (val dig nth)

theorem txt_one : txt (decide ((1 : Int) < 0)) 1 = .string ⟨#[49]⟩ := rfl
theorem one_int : ((one : Nat) : Int) = 4607182418800017408 := rfl
end Go.Proofs.YtnfbngiabdlclaaGreat
end
