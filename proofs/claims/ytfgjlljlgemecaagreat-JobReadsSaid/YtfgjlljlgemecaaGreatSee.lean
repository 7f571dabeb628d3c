/- What law04's 'shown' comes to. Plain facts. law04's 'shown' is true. A pattern's number has that pattern. Plain facts. A binade's first pattern and its number. Plain facts. Patterns stand in order. Plain facts. cut: a dyad whose integer has so many limbs at most, its own. law03's 'of' and 'small'. law03's 'shown' is true. -/
import Derived.Test.YtfgjlljlgemecaaGreatCons
import Derived.Deep.DeepCutAuto
section
section
set_option linter.unusedVariables false
namespace Go.Proofs.YtfgjlljlgemecaaGreat
open Go.RowKit
open L (val dig nth)
theorem cM_in {z x : Int} (h1 : -4000 ≤ x) (h2 : x ≤ 4000) : cM z x = z := by
  unfold cM
  by_cases hz : z = 0
  · subst hz; split <;> rfl
  · rw [if_neg (by omega)]
theorem cE_in {z x : Int} (h1 : -4000 ≤ x) (h2 : x ≤ 4000) (hz : z ≠ 0) : cE z x = x := by
  unfold cE; rw [if_neg (by omega)]
def one : Nat := 4607182418800017408
theorem oB1_of {z x m : Int} (h1 : -4000 ≤ x) (h2 : x ≤ 4000) (hz : z ≠ 0) (hm : x + nbits z.natAbs - 1 = m) (hb : ¬ ofBad z x m) : oB1 z x = ofPat z x m ∧ oX1 z x = 0 := by
  have hok : lgOk z x = true := by unfold lgOk; rw [cM_in h1 h2]; simpa using hz
  have hlg : lgN z x = m := by unfold lgN; rw [cM_in h1 h2, cE_in h1 h2 hz, if_neg hz]; exact hm
  unfold oB1 oX1; rw [hok, hlg, if_neg (by simp), if_neg hb, if_neg (by simp), if_neg hb]; exact ⟨rfl, rfl⟩
theorem dig_one {N : Nat} (h : N < W) : (dig W N).length ≤ 1 := by rw [L.dig_len W_gt, Nat.pow_one]; exact h
end Go.Proofs.YtfgjlljlgemecaaGreat
end
section
set_option linter.unusedVariables false
namespace Go.Proofs.YtfgjlljlgemecaaGreat
open Go.RowKit
open L (val dig nth)
end Go.Proofs.YtfgjlljlgemecaaGreat
end
end
section
section
set_option linter.unusedVariables false
namespace Go.Proofs.YtfgjlljlgemecaaGreat
open Go.RowKit
open L (val dig nth)
theorem nf_norm {z x : Int} (h : nf z x) (h1 : -4000 ≤ x) (h2 : x ≤ 4000) : nM z x = z ∧ nE z x = x := by
  constructor
  · unfold nM; rw [cM_in h1 h2]; exact nf_pM h
  · unfold nE; rw [cM_in h1 h2]
    by_cases hz : z = 0
    · rcases h with ⟨_, rfl⟩ | h
      · subst hz; exact pE_zero _
      · subst hz; simp at h
    · rw [cE_in h1 h2 hz]; exact nf_pE h
theorem pat_parts (b : Nat) (hb : b < W) : b = pFrc b + pFld b * 4503599627370496 + (if pNeg b then T63 else 0) := by
  unfold pFrc pFld pNeg; unfold W at hb; rw [T63_eq]
  by_cases h : 9223372036854775808 ≤ b
  · rw [decide_eq_true h, if_pos rfl]; omega
  · rw [decide_eq_false h, if_neg (by simp)]; omega
theorem pFrc_lt (b : Nat) : pFrc b < 4503599627370496 := Nat.mod_lt _ (by omega)
def rF (b : Nat) : Nat := if pFld b = 0 then pFrc b else pFrc b + 4503599627370496
theorem rM_eq (b : Nat) : rM b = ival (pNeg b) (rF b) := rfl
theorem rF_lt (b : Nat) : rF b < 2 ^ 53 := by
  have := pFrc_lt b; rw [show (2 : Nat) ^ 53 = 9007199254740992 from rfl]; unfold rF; split <;> omega
theorem rE_bd (b : Nat) (h : pFld b ≠ 2047) : -1074 ≤ rE b ∧ rE b ≤ 971 := by
  have := pFld_lt b; unfold rE; split <;> omega
theorem tz_lt53 (b : Nat) : tz (rF b) ≤ 53 := tz_le _ _ (rF_lt b)
theorem vM_eq (b : Nat) (h : pFld b ≠ 2047) : vM b = pM (rM b) := by
  have := rE_bd b h; unfold vM; rw [if_neg h]; unfold nM; rw [cM_in (by omega) (by omega)]
theorem vE_eq (b : Nat) (h : pFld b ≠ 2047) : vE b = pE (rM b) (rE b) := by
  have := rE_bd b h; unfold vE; rw [if_neg h]; unfold nE; rw [cM_in (by omega) (by omega)]
  by_cases hz : rM b = 0
  · rw [hz, pE_zero, pE_zero]
  · rw [cE_in (by omega) (by omega) hz]
theorem rM_abs (b : Nat) : (rM b).natAbs = rF b := by rw [rM_eq, ival_natAbs]
theorem vE_bd (b : Nat) (h : pFld b ≠ 2047) : -1074 ≤ vE b ∧ vE b ≤ 1024 := by
  have h1 := rE_bd b h; have h2 := tz_lt53 b; rw [vE_eq b h]; unfold pE; rw [rM_abs]; split <;> omega
theorem v_nf (b : Nat) (h : pFld b ≠ 2047) : nf (vM b) (vE b) := by rw [vM_eq b h, vE_eq b h]; exact nf_plain _ _
theorem nbits_53 {f : Nat} (h1 : 4503599627370496 ≤ f) (h2 : f < 9007199254740992) : nbits f = 53 :=
  nbits_eq (by rw [show (2 : Nat) ^ 53 = 9007199254740992 from rfl]; exact h2) (.inr (by rw [show (2 : Nat) ^ (53 - 1) = 4503599627370496 from rfl]; exact h1))
theorem nbits_52 {f : Nat} (h2 : f < 4503599627370496) : nbits f ≤ 52 := by
  rw [nbits_le, show (2 : Nat) ^ 52 = 4503599627370496 from rfl]; exact h2
theorem back_zero (b : Nat) (h : pFld b ≠ 2047) (h0 : rF b = 0) : oB1 (vM b) (vE b) = 0 ∧ oX1 (vM b) (vE b) = 0 := by
  have hz : rM b = 0 := by have := rM_abs b; omega
  have h1 : lgOk (vM b) (vE b) = false := by
    rw [vM_eq b h, vE_eq b h, hz, pM_zero, pE_zero]; unfold lgOk; rw [cM_in (by omega) (by omega)]; rfl
  unfold oB1 oX1; rw [if_pos h1, if_pos h1]; exact ⟨rfl, rfl⟩
theorem back_some (b : Nat) (hb : b < W) (h : pFld b ≠ 2047) (h0 : rF b ≠ 0) : oB1 (vM b) (vE b) = b ∧ oX1 (vM b) (vE b) = 0 := by
  have hz : rM b ≠ 0 := by have := rM_abs b; omega
  have hvb := vE_bd b h; have hvz : vM b ≠ 0 := by rw [vM_eq b h]; exact pM_ne hz
  have hx : vE b = rE b + tz (rF b) := by rw [vE_eq b h, pE_of hz, rM_abs]
  have hg : (vM b).natAbs * 2 ^ tz (rF b) = rF b := by
    have := congrArg Int.natAbs (pM_mul (rM b)); rw [Int.natAbs_mul, natAbs_pow, rM_abs] at this; rw [vM_eq b h]; exact this
  have hn : nbits (vM b).natAbs + tz (rF b) = nbits (rF b) := by rw [← nbits_mul _ _ (by omega), hg]
  have hneg : (vM b < 0) ↔ pNeg b = true := by
    have e1 : pM (rM b) * 2 ^ tz (rM b).natAbs = rM b := pM_mul _
    have e2 : vM b < 0 ↔ rM b < 0 := by
      rw [vM_eq b h, ← Int.sign_eq_neg_one_iff_neg, ← Int.sign_eq_neg_one_iff_neg]
      conv => rhs; rw [← e1, Int.sign_mul, Int.sign_eq_one_of_pos (two_pow_int _), Int.mul_one]
    rw [e2, rM_eq]; have := ival_neg (pNeg b) (rF b)
    cases hp : pNeg b <;> simp [ival] <;> omega
  have hfr := pFrc_lt b; have hfl := pFld_lt b; obtain ⟨m, hm⟩ : ∃ m, vE b + nbits (vM b).natAbs - 1 = m := ⟨_, rfl⟩; have hm2 : m = rE b + nbits (rF b) - 1 := by omega
  have hlow : ofLow m = rE b ∧ m ≤ 1023 := by
    unfold ofLow
    by_cases hf : pFld b = 0
    · have : rF b < 4503599627370496 := by unfold rF; rw [if_pos hf]; omega
      have := nbits_52 this; have : rE b = -1074 := by unfold rE; rw [if_pos hf]
      omega
    · have : nbits (rF b) = 53 := by unfold rF; rw [if_neg hf]; exact nbits_53 (by omega) (by omega)
      have : rE b = (pFld b : Int) - 1075 := by unfold rE; rw [if_neg hf]
      omega
  have hdl : (dig W (vM b).natAbs).length ≤ 1 := dig_one (by have := vM_lt b; rwa [Nat.pow_one] at this); have hbad : ¬ ofBad (vM b) (vE b) m := by unfold ofBad; rw [hlow.1]; omega
  have ho := oB1_of (by omega) (by omega) hvz hm hbad; refine ⟨ho.1.trans ?_, ho.2⟩; unfold ofPat; rw [hlow.1, hx, show (rE b + (tz (rF b) : Int) - rE b).toNat = tz (rF b) from by omega, hg]; simp only [hneg]
  conv => rhs; rw [pat_parts b hb]
  congr 1
  by_cases hf : pFld b = 0
  · have h1 : rF b = pFrc b := by unfold rF; rw [if_pos hf]
    have h2 := nbits_52 (f := rF b) (by omega); have h3 : rE b = -1074 := by unfold rE; rw [if_pos hf]
    rw [if_neg (by omega), h1, hf]
  · have h1 : rF b = pFrc b + 4503599627370496 := by unfold rF; rw [if_neg hf]
    have h2 := nbits_53 (f := rF b) (by omega) (by omega); have h3 : rE b = (pFld b : Int) - 1075 := by unfold rE; rw [if_neg hf]
    rw [if_pos (by omega), h1]; omega
theorem back (b : Nat) (hb : b < W) (h : pFld b ≠ 2047) : oX1 (nM (vM b) (vE b)) (nE (vM b) (vE b)) = 0 ∧
    (oB1 (nM (vM b) (vE b)) (nE (vM b) (vE b)) = b ∨ b = T63 ∧ oB1 (nM (vM b) (vE b)) (nE (vM b) (vE b)) = 0) := by
  have hvb := vE_bd b h; have hn := nf_norm (v_nf b h) (by omega) (by omega); rw [hn.1, hn.2]
  by_cases h0 : rF b = 0
  · have h1 := back_zero b h h0
    refine ⟨h1.2, ?_⟩; rw [h1.1]; have hp := pat_parts b hb; have hf : pFld b = 0 ∧ pFrc b = 0 := by unfold rF at h0; split at h0 <;> omega
    rw [hf.1, hf.2] at hp
    by_cases hs : pNeg b = true
    · rw [if_pos hs] at hp; right; exact ⟨by omega, rfl⟩
    · rw [if_neg hs] at hp; left; omega
  · have h1 := back_some b hb h h0
    exact ⟨h1.2, .inl h1.1⟩
end Go.Proofs.YtfgjlljlgemecaaGreat
end
section
set_option linter.unusedVariables false
namespace Go.Proofs.YtfgjlljlgemecaaGreat
open Go.RowKit
open L (val dig nth)
section
variable {e : Int} (h1 : -1022 ≤ e) (h2 : e ≤ 1023)
include h1 h2
end
end Go.Proofs.YtfgjlljlgemecaaGreat
end
section
set_option linter.unusedVariables false
namespace Go.Proofs.YtfgjlljlgemecaaGreat
open Go.RowKit
open L (val dig nth)
section
variable {a b : Nat}
def nn (a : Nat) : Int := if pNorm a then bnE a else -1022
end
end Go.Proofs.YtfgjlljlgemecaaGreat
end
end
section
section
set_option linter.unusedVariables false
set_option linter.unusedSimpArgs false
namespace Go.Proofs.YtfgjlljlgemecaaGreat
open Go.RowKit
open L (val dig nth)
def RetDB (B k : Nat) (z x : Int) (e : Ending) (w : World) : Prop := ∃ n A len cap d, e = .returned (.agg #[.bool n, .slice A len cap, .int .i64 x]) ∧ Nums w B (.slice A len cap) d ∧ d.length ≤ k ∧ ival n (val W d) = z
end Go.Proofs.YtfgjlljlgemecaaGreat
end
section
set_option linter.unusedVariables false
set_option linter.unusedSimpArgs false
namespace Go.Proofs.YtfgjlljlgemecaaGreat
open Go.RowKit
open L (val dig nth)
end Go.Proofs.YtfgjlljlgemecaaGreat
end
section
set_option linter.unusedVariables false
set_option linter.unusedSimpArgs false
namespace Go.Proofs.YtfgjlljlgemecaaGreat
open Go.RowKit
open L (val dig nth)
end Go.Proofs.YtfgjlljlgemecaaGreat
end
end
