/- A pattern's number has that pattern. Plain facts. A binade's first pattern and its number. Plain facts. Patterns stand in order. Plain facts. -/
import Derived.Test.YtdglddpigeamaaaGreatSee
set_option linter.unusedVariables false
namespace Go.Proofs.YtdglddpigeamaaaGreat
section
section
open Go.RowKit
open L (val dig nth)
theorem jvo {z x : Int} (h : nf z x) (h1 : -4000 ≤ x) (h2 : x ≤ 4000) : nM z x = z ∧ nE z x = x := by
  constructor
  · unfold nM; rw [jl0 h1 h2]; exact jwx h
  · unfold nE; rw [jl0 h1 h2]
    by_cases hz : z = 0
    · rcases h with ⟨_, rfl⟩ | h
      · subst hz; exact jde _
      · subst hz; simp at h
    · rw [jvr h1 h2 hz]; exact jy2 h
theorem jkg (b : Nat) (hb : b < W) : b = pFrc b + pFld b * 4503599627370496 + (if pNeg b then T63 else 0) := by
  unfold pFrc pFld pNeg; unfold W at hb; rw [juf]
  by_cases h : 9223372036854775808 ≤ b
  · rw [decide_eq_true h, if_pos rfl]; omega
  · rw [decide_eq_false h, if_neg (by simp)]; omega
theorem jqa (b : Nat) : pFrc b < 4503599627370496 := Nat.mod_lt _ (by omega)
def rF (b : Nat) : Nat := if pFld b = 0 then pFrc b else pFrc b + 4503599627370496
theorem jxs (b : Nat) : rM b = ival (pNeg b) (rF b) := rfl
theorem jzc (b : Nat) : rF b < 2 ^ 53 := by
  have := jqa b; rw [show (2 : Nat) ^ 53 = 9007199254740992 from rfl]; unfold rF; split <;> omega
theorem jvp (b : Nat) (h : pFld b ≠ 2047) : -1074 ≤ rE b ∧ rE b ≤ 971 := by
  have := jlw b; unfold rE; split <;> omega
theorem jvq (b : Nat) : tz (rF b) ≤ 53 := jw4 _ _ (jzc b)
theorem jqb (b : Nat) (h : pFld b ≠ 2047) : vM b = pM (rM b) := by
  have := jvp b h; unfold vM; rw [if_neg h]; unfold nM; rw [jl0 (by omega) (by omega)]
theorem jss (b : Nat) (h : pFld b ≠ 2047) : vE b = pE (rM b) (rE b) := by
  have := jvp b h; unfold vE; rw [if_neg h]; unfold nE; rw [jl0 (by omega) (by omega)]
  by_cases hz : rM b = 0
  · rw [hz, jde, jde]
  · rw [jvr (by omega) (by omega) hz]
theorem jkh (b : Nat) : (rM b).natAbs = rF b := by rw [jxs, jat]
theorem jxt (b : Nat) (h : pFld b ≠ 2047) : -1074 ≤ vE b ∧ vE b ≤ 1024 := by
  have h1 := jvp b h; have h2 := jvq b; rw [jss b h]; unfold pE; rw [jkh]; split <;> omega
theorem v_nf (b : Nat) (h : pFld b ≠ 2047) : nf (vM b) (vE b) := by rw [jqb b h, jss b h]; exact jsf _ _
theorem jm4 {f : Nat} (h1 : 4503599627370496 ≤ f) (h2 : f < 9007199254740992) : nbits f = 53 :=
  jb6 (by rw [show (2 : Nat) ^ 53 = 9007199254740992 from rfl]; exact h2) (.inr (by rw [show (2 : Nat) ^ (53 - 1) = 4503599627370496 from rfl]; exact h1))
theorem jm5 {f : Nat} (h2 : f < 4503599627370496) : nbits f ≤ 52 := by
  rw [jbb, show (2 : Nat) ^ 52 = 4503599627370496 from rfl]; exact h2
theorem jqc (b : Nat) (h : pFld b ≠ 2047) (h0 : rF b = 0) : oB1 (vM b) (vE b) = 0 ∧ oX1 (vM b) (vE b) = 0 := by
  have hz : rM b = 0 := by have := jkh b; omega
  have h1 : lgOk (vM b) (vE b) = false := by
    rw [jqb b h, jss b h, hz, jiu, jde]; unfold lgOk; rw [jl0 (by omega) (by omega)]; rfl
  unfold oB1 oX1; rw [if_pos h1, if_pos h1]; exact ⟨rfl, rfl⟩
theorem jqd (b : Nat) (hb : b < W) (h : pFld b ≠ 2047) (h0 : rF b ≠ 0) : oB1 (vM b) (vE b) = b ∧ oX1 (vM b) (vE b) = 0 := by
  have hz : rM b ≠ 0 := by have := jkh b; omega
  have hvb := jxt b h; have hvz : vM b ≠ 0 := by rw [jqb b h]; exact jy1 hz
  have hx : vE b = rE b + tz (rF b) := by rw [jss b h, jli hz, jkh]
  have hg : (vM b).natAbs * 2 ^ tz (rF b) = rF b := by
    have := congrArg Int.natAbs (jfv (rM b)); rw [Int.natAbs_mul, natAbs_pow, jkh] at this; rw [jqb b h]; exact this
  have hn : nbits (vM b).natAbs + tz (rF b) = nbits (rF b) := by rw [← jpd _ _ (by omega), hg]
  have hneg : (vM b < 0) ↔ pNeg b = true := by
    have e1 : pM (rM b) * 2 ^ tz (rM b).natAbs = rM b := jfv _
    have e2 : vM b < 0 ↔ rM b < 0 := by
      rw [jqb b h, ← Int.sign_eq_neg_one_iff_neg, ← Int.sign_eq_neg_one_iff_neg]
      conv => rhs; rw [← e1, Int.sign_mul, Int.sign_eq_one_of_pos (jcc _), Int.mul_one]
    rw [e2, jxs]; have := job (pNeg b) (rF b)
    cases hp : pNeg b <;> simp [ival] <;> omega
  have hfr := jqa b; have hfl := jlw b; obtain ⟨m, hm⟩ : ∃ m, vE b + nbits (vM b).natAbs - 1 = m := ⟨_, rfl⟩; have hm2 : m = rE b + nbits (rF b) - 1 := by omega
  have hlow : ofLow m = rE b ∧ m ≤ 1023 := by
    unfold ofLow
    by_cases hf : pFld b = 0
    · have : rF b < 4503599627370496 := by unfold rF; rw [if_pos hf]; omega
      have := jm5 this; have : rE b = -1074 := by unfold rE; rw [if_pos hf]
      omega
    · have : nbits (rF b) = 53 := by unfold rF; rw [if_neg hf]; exact jm4 (by omega) (by omega)
      have : rE b = (pFld b : Int) - 1075 := by unfold rE; rw [if_neg hf]
      omega
  have hdl : (dig W (vM b).natAbs).length ≤ 1 := jvs (by have := jw3 b; rwa [Nat.pow_one] at this); have hbad : ¬ ofBad (vM b) (vE b) m := by unfold ofBad; rw [hlow.1]; omega
  have ho := jxy (by omega) (by omega) hvz hm hbad; refine ⟨ho.1.trans ?_, ho.2⟩; unfold ofPat; rw [hlow.1, hx, show (rE b + (tz (rF b) : Int) - rE b).toNat = tz (rF b) from by omega, hg]; simp only [hneg]
  conv => rhs; rw [jkg b hb]
  congr 1
  by_cases hf : pFld b = 0
  · have h1 : rF b = pFrc b := by unfold rF; rw [if_pos hf]
    have h2 := jm5 (f := rF b) (by omega); have h3 : rE b = -1074 := by unfold rE; rw [if_pos hf]
    rw [if_neg (by omega), h1, hf]
  · have h1 : rF b = pFrc b + 4503599627370496 := by unfold rF; rw [if_neg hf]
    have h2 := jm4 (f := rF b) (by omega) (by omega); have h3 : rE b = (pFld b : Int) - 1075 := by unfold rE; rw [if_neg hf]
    rw [if_pos (by omega), h1]; omega
theorem back (b : Nat) (hb : b < W) (h : pFld b ≠ 2047) : oX1 (nM (vM b) (vE b)) (nE (vM b) (vE b)) = 0 ∧
    (oB1 (nM (vM b) (vE b)) (nE (vM b) (vE b)) = b ∨ b = T63 ∧ oB1 (nM (vM b) (vE b)) (nE (vM b) (vE b)) = 0) := by
  have hvb := jxt b h; have hn := jvo (v_nf b h) (by omega) (by omega); rw [hn.1, hn.2]
  by_cases h0 : rF b = 0
  · have h1 := jqc b h h0
    refine ⟨h1.2, ?_⟩; rw [h1.1]; have hp := jkg b hb; have hf : pFld b = 0 ∧ pFrc b = 0 := by unfold rF at h0; split at h0 <;> omega
    rw [hf.1, hf.2] at hp
    by_cases hs : pNeg b = true
    · rw [if_pos hs] at hp; right; exact ⟨by omega, rfl⟩
    · rw [if_neg hs] at hp; left; omega
  · have h1 := jqd b hb h h0
    exact ⟨h1.2, .inl h1.1⟩
end
end
section
section
open Go.RowKit
open L (val dig nth)
section
variable {e : Int} (h1 : -1022 ≤ e) (h2 : e ≤ 1023)
include h1 h2
end
end
end
section
section
open Go.RowKit
open L (val dig nth)
section
variable {a b : Nat}
def nn (a : Nat) : Int := if pNorm a then bnE a else -1022
end
end
end
end Go.Proofs.YtdglddpigeamaaaGreat