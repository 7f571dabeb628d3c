/- Patterns stand in order. Plain facts. -/
import Derived.Test.YtnkembnachhicaaBin
set_option linter.unusedVariables false
namespace Go.Proofs.Ytnkembnachhicaa
open Go.RowKit
open L (val dig nth)

theorem av_value (K : Nat) (hK : 4000 ≤ K) (b : Nat) (h : pFld b ≠ 2047) : av K (vM b) (vE b) = sv K (rM b) (rE b) := by
  have h1 := vE_bd b h
  have h2 := rE_bd b h
  rw [av_of (by omega) (by omega), vM_eq b h, vE_eq b h, sv_plain K _ _ (by omega)]
section
variable {a b : Nat}
/-- Below all that stand for none, without a sign. -/
theorem lo_fld (h : a < 9218868437227405312) : pFld a = a / 4503599627370496 ∧ pFld a ≠ 2047 ∧ pNeg a = false := by
  refine ⟨by unfold pFld; omega, by unfold pFld; omega, ?_⟩
  unfold pNeg; rw [decide_eq_false]; omega
theorem lo_value (K : Nat) (hK : 4000 ≤ K) (h : a < 9218868437227405312) : av K (vM a) (vE a) = sv K (rF a) (rE a) := by
  obtain ⟨h1, h2, h3⟩ := lo_fld h
  rw [av_value K hK a h2, rM_eq, h3]; rfl
/-- The binade of a pattern, or the least one. -/
def nn (a : Nat) : Int := if pNorm a then bnE a else -1022
theorem nn_eq (h : a < 9218868437227405312) : nn a = if pFld a = 0 then -1022 else (pFld a : Int) - 1023 := by
  obtain ⟨h1, h2, h3⟩ := lo_fld h
  unfold nn bnE
  by_cases h0 : pFld a = 0
  · have : pNorm a = false := by unfold pNorm; rw [decide_eq_false]; omega
    rw [this, if_pos h0]; rfl
  · have : pNorm a = true := by unfold pNorm; rw [decide_eq_true]; omega
    rw [this, if_neg h0, if_pos rfl, if_pos rfl]
theorem nn_bd (h : a < 9218868437227405312) : -1022 ≤ nn a ∧ nn a ≤ 1023 := by
  have hn := nn_eq h
  have h1 := lo_fld h
  have := pFld_lt a
  split at hn <;> omega
theorem lo_step (K : Nat) (hK : 4000 ≤ K) (h : a + 1 < 9218868437227405312) : sv K (rF (a + 1)) (rE (a + 1)) - sv K (rF a) (rE a) = sv K 1 (nn a - 52) := by
  obtain ⟨h1, h2, h3⟩ := lo_fld (show a < 9218868437227405312 by omega)
  obtain ⟨i1, i2, i3⟩ := lo_fld h
  have hn := nn_eq (show a < 9218868437227405312 by omega)
  have hf : pFrc a = a % 4503599627370496 := rfl
  have hf' : pFrc (a + 1) = (a + 1) % 4503599627370496 := rfl
  by_cases hc : pFrc a + 1 < 4503599627370496
  · have e1 : pFld (a + 1) = pFld a := by omega
    have e2 : pFrc (a + 1) = pFrc a + 1 := by omega
    have e3 : rF (a + 1) = rF a + 1 := by unfold rF; rw [e1, e2]; split <;> omega
    have e4 : rE (a + 1) = rE a := by unfold rE; rw [e1]
    have e5 : nn a - 52 = rE a := by rw [hn]; unfold rE; split <;> omega
    rw [e3, e4, e5, ← sv_sub]; congr 1; omega
  · have e1 : pFld (a + 1) = pFld a + 1 := by omega
    have e2 : pFrc (a + 1) = 0 := by omega
    have e3 : rF (a + 1) = 4503599627370496 := by unfold rF; rw [e1, e2, if_neg (by omega)]
    have e4 : rE (a + 1) = (pFld a : Int) - 1074 := by unfold rE; rw [e1, if_neg (by omega)]; omega
    by_cases h0 : pFld a = 0
    · have e5 : rF a = 4503599627370495 := by unfold rF; rw [if_pos h0]; omega
      have e6 : rE a = (pFld a : Int) - 1074 := by unfold rE; rw [if_pos h0]; omega
      have e7 : nn a - 52 = (pFld a : Int) - 1074 := by rw [hn, if_pos h0]; omega
      rw [e3, e4, e5, e6, e7, ← sv_sub]; congr 1
    · have e5 : rF a = 9007199254740991 := by unfold rF; rw [if_neg h0]; omega
      have e6 : rE a = (pFld a : Int) - 1075 := by unfold rE; rw [if_neg h0]
      have e7 : nn a - 52 = (pFld a : Int) - 1075 := by rw [hn, if_neg h0]; omega
      have e8 : sv K ((4503599627370496 : Nat) : Int) ((pFld a : Int) - 1074) = sv K (((4503599627370496 : Nat) : Int) * 2 ^ 1) ((pFld a : Int) - 1075) := by
        rw [sv_shift K _ _ _ (by omega)]; congr 1; omega
      rw [e3, e4, e5, e6, e7, e8, ← sv_sub]; congr 1
theorem sv_one_pos (K : Nat) (x : Int) : 0 < sv K 1 x := by unfold sv; rw [Int.one_mul]; exact two_pow_int _
theorem lo_mono (K : Nat) (hK : 4000 ≤ K) (h : a < b) (hb : b < 9218868437227405312) : sv K (rF a) (rE a) < sv K (rF b) (rE b) := by
  induction b with
  | zero => omega
  | succ b ih =>
    have h1 := lo_step K hK hb
    have h2 := sv_one_pos K (nn b - 52)
    rcases Nat.lt_or_ge a b with h3 | h3
    · have := ih h3 (by omega); omega
    · obtain rfl : a = b := by omega
      omega
theorem lo_cmp (K : Nat) (hK : 4000 ≤ K) (ha : a < 9218868437227405312) (hb : b < 9218868437227405312) : cmpZ (av K (vM a) (vE a)) (av K (vM b) (vE b)) = cmpN a b := by
  rw [lo_value K hK ha, lo_value K hK hb]
  rcases Nat.lt_trichotomy a b with h | h | h
  · rw [cmpN_lt h]; unfold cmpZ; rw [if_pos (lo_mono K hK h hb)]
  · subst h; rw [cmpZ_self, cmpN_eq rfl]
  · have := lo_mono K hK h ha
    rw [cmpN_gt h]; unfold cmpZ; rw [if_neg (by omega), if_pos this]
theorem pM_one : pM 1 = 1 := nf_pM (x := 0) (.inr rfl)
theorem pE_one (x : Int) : pE 1 x = x := nf_pE (.inr rfl)
/-- The difference of two neighbours, as it is answered. -/
theorem lo_diff (h : a + 1 < 9218868437227405312) : pM (av 4000 (vM (a + 1)) (vE (a + 1)) - av 4000 (vM a) (vE a)) = 1 ∧ pE (av 4000 (vM (a + 1)) (vE (a + 1)) - av 4000 (vM a) (vE a)) (-(4000 : Nat)) = nn a - 52 := by
  have hb := nn_bd (show a < 9218868437227405312 by omega)
  rw [lo_value 4000 (by omega) h, lo_value 4000 (by omega) (show a < 9218868437227405312 by omega), lo_step 4000 (by omega) h, pM_sv, pE_sv 4000 _ _ (by omega)]
  exact ⟨pM_one, pE_one _⟩
theorem lo_vX (h : a < 9218868437227405312) : vX a = 0 := by unfold vX; rw [if_neg (lo_fld h).2.1]
end
theorem top_value : vM 9218868437227405312 = 0 ∧ vE 9218868437227405312 = 0 ∧ vX 9218868437227405312 = 1 := ⟨rfl, rfl, rfl⟩
theorem lo_bin {a : Nat} (h : a < 9218868437227405312) : (bnX a = 0 ∧ bnE a = nn a) ∨ (bnX a = 1 ∧ nn a = -1022) := by
  unfold bnX nn
  cases hn : pNorm a
  · right; exact ⟨rfl, rfl⟩
  · left; exact ⟨rfl, rfl⟩
end Go.Proofs.Ytnkembnachhicaa
