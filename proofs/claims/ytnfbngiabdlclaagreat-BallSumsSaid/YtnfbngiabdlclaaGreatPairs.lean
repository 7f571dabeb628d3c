/- A pattern's number has that pattern. Plain facts. A binade's first pattern and its number. Plain facts. Patterns stand in order. Plain facts. -/
import Derived.Test.YtnfbngiabdlclaaGreatSee
section
set_option linter.unusedVariables false
namespace Go.Proofs.YtnfbngiabdlclaaGreat
open Go.RowKit
open L (val dig nth)

theorem nf_norm {z x : Int} (h : nf z x) (h1 : -4000 ≤ x) (h2 : x ≤ 4000) : nM z x = z ∧ nE z x = x := by
  constructor
  · unfold nM; rw [cM_in h1 h2]; exact nf_pM h
  · unfold nE; rw [cM_in h1 h2]
    by_cases hz : z = 0
    · rcases h with ⟨_, rfl⟩ | h
      · subst hz; exact pE_zero _
      · subst hz; simp at h
    · rw [cE_in h1 h2 hz]; exact nf_pE h
/-- A pattern's parts. -/
theorem pat_parts (b : Nat) (hb : b < W) : b = pFrc b + pFld b * 4503599627370496 + (if pNeg b then T63 else 0) := by
  unfold pFrc pFld pNeg
  unfold W at hb
  rw [T63_eq]
  by_cases h : 9223372036854775808 ≤ b
  · rw [decide_eq_true h, if_pos rfl]; omega
  · rw [decide_eq_false h, if_neg (by simp)]; omega
theorem pFrc_lt (b : Nat) : pFrc b < 4503599627370496 := Nat.mod_lt _ (by omega)
/-- The integer of a pattern without its sign. -/
def rF (b : Nat) : Nat := if pFld b = 0 then pFrc b else pFrc b + 4503599627370496
theorem rM_eq (b : Nat) : rM b = ival (pNeg b) (rF b) := rfl
theorem rF_lt (b : Nat) : rF b < 2 ^ 53 := by
  have := pFrc_lt b
  rw [show (2 : Nat) ^ 53 = 9007199254740992 from rfl]; unfold rF; split <;> omega
theorem rE_bd (b : Nat) (h : pFld b ≠ 2047) : -1074 ≤ rE b ∧ rE b ≤ 971 := by
  have := pFld_lt b
  unfold rE; split <;> omega
theorem tz_lt53 (b : Nat) : tz (rF b) ≤ 53 := tz_le _ _ (rF_lt b)
theorem vM_eq (b : Nat) (h : pFld b ≠ 2047) : vM b = pM (rM b) := by
  have := rE_bd b h
  unfold vM; rw [if_neg h]; unfold nM; rw [cM_in (by omega) (by omega)]
theorem vE_eq (b : Nat) (h : pFld b ≠ 2047) : vE b = pE (rM b) (rE b) := by
  have := rE_bd b h
  unfold vE; rw [if_neg h]; unfold nE; rw [cM_in (by omega) (by omega)]
  by_cases hz : rM b = 0
  · rw [hz, pE_zero, pE_zero]
  · rw [cE_in (by omega) (by omega) hz]
theorem rM_abs (b : Nat) : (rM b).natAbs = rF b := by rw [rM_eq, ival_natAbs]
theorem vE_bd (b : Nat) (h : pFld b ≠ 2047) : -1074 ≤ vE b ∧ vE b ≤ 1024 := by
  have h1 := rE_bd b h
  have h2 := tz_lt53 b
  rw [vE_eq b h]; unfold pE; rw [rM_abs]; split <;> omega
theorem v_nf (b : Nat) (h : pFld b ≠ 2047) : nf (vM b) (vE b) := by rw [vM_eq b h, vE_eq b h]; exact nf_plain _ _
theorem nbits_53 {f : Nat} (h1 : 4503599627370496 ≤ f) (h2 : f < 9007199254740992) : nbits f = 53 :=
  nbits_eq (by rw [show (2 : Nat) ^ 53 = 9007199254740992 from rfl]; exact h2) (.inr (by rw [show (2 : Nat) ^ (53 - 1) = 4503599627370496 from rfl]; exact h1))
theorem nbits_52 {f : Nat} (h2 : f < 4503599627370496) : nbits f ≤ 52 := by
  rw [nbits_le, show (2 : Nat) ^ 52 = 4503599627370496 from rfl]; exact h2

theorem back_zero (b : Nat) (h : pFld b ≠ 2047) (h0 : rF b = 0) : oB1 (vM b) (vE b) = 0 ∧ oX1 (vM b) (vE b) = 0 := by
  have hz : rM b = 0 := by have := rM_abs b; omega
  have h1 : lgOk (vM b) (vE b) = false := by
    rw [vM_eq b h, vE_eq b h, hz, pM_zero, pE_zero]; unfold lgOk; rw [cM_in (by omega) (by omega)]; rfl
  unfold oB1 oX1
  rw [if_pos h1, if_pos h1]; exact ⟨rfl, rfl⟩
theorem back_some (b : Nat) (hb : b < W) (h : pFld b ≠ 2047) (h0 : rF b ≠ 0) : oB1 (vM b) (vE b) = b ∧ oX1 (vM b) (vE b) = 0 := by
  have hz : rM b ≠ 0 := by have := rM_abs b; omega
  have hvb := vE_bd b h
  have hvz : vM b ≠ 0 := by rw [vM_eq b h]; exact pM_ne hz
  have hx : vE b = rE b + tz (rF b) := by rw [vE_eq b h, pE_of hz, rM_abs]
  have hg : (vM b).natAbs * 2 ^ tz (rF b) = rF b := by
    have := congrArg Int.natAbs (pM_mul (rM b))
    rw [Int.natAbs_mul, natAbs_pow, rM_abs] at this
    rw [vM_eq b h]; exact this
  have hn : nbits (vM b).natAbs + tz (rF b) = nbits (rF b) := by rw [← nbits_mul _ _ (by omega), hg]
  have hneg : (vM b < 0) ↔ pNeg b = true := by
    have e1 : pM (rM b) * 2 ^ tz (rM b).natAbs = rM b := pM_mul _
    have e2 : vM b < 0 ↔ rM b < 0 := by
      rw [vM_eq b h, ← Int.sign_eq_neg_one_iff_neg, ← Int.sign_eq_neg_one_iff_neg]
      conv => rhs; rw [← e1, Int.sign_mul, Int.sign_eq_one_of_pos (two_pow_int _), Int.mul_one]
    rw [e2, rM_eq]
    have := ival_neg (pNeg b) (rF b)
    cases hp : pNeg b <;> simp [ival] <;> omega
  have hfr := pFrc_lt b
  have hfl := pFld_lt b
  obtain ⟨m, hm⟩ : ∃ m, vE b + nbits (vM b).natAbs - 1 = m := ⟨_, rfl⟩
  have hm2 : m = rE b + nbits (rF b) - 1 := by omega
  have hlow : ofLow m = rE b ∧ m ≤ 1023 := by
    unfold ofLow
    by_cases hf : pFld b = 0
    · have : rF b < 4503599627370496 := by unfold rF; rw [if_pos hf]; omega
      have := nbits_52 this
      have : rE b = -1074 := by unfold rE; rw [if_pos hf]
      omega
    · have : nbits (rF b) = 53 := by unfold rF; rw [if_neg hf]; exact nbits_53 (by omega) (by omega)
      have : rE b = (pFld b : Int) - 1075 := by unfold rE; rw [if_neg hf]
      omega
  have hdl : (dig W (vM b).natAbs).length ≤ 1 := dig_one (by have := vM_lt b; rwa [Nat.pow_one] at this)
  have hbad : ¬ ofBad (vM b) (vE b) m := by unfold ofBad; rw [hlow.1]; omega
  have ho := oB1_of (by omega) (by omega) hvz hm hbad
  refine ⟨ho.1.trans ?_, ho.2⟩
  unfold ofPat
  rw [hlow.1, hx, show (rE b + (tz (rF b) : Int) - rE b).toNat = tz (rF b) from by omega, hg]
  simp only [hneg]
  conv => rhs; rw [pat_parts b hb]
  congr 1
  by_cases hf : pFld b = 0
  · have h1 : rF b = pFrc b := by unfold rF; rw [if_pos hf]
    have h2 := nbits_52 (f := rF b) (by omega)
    have h3 : rE b = -1074 := by unfold rE; rw [if_pos hf]
    rw [if_neg (by omega), h1, hf]
  · have h1 : rF b = pFrc b + 4503599627370496 := by unfold rF; rw [if_neg hf]
    have h2 := nbits_53 (f := rF b) (by omega) (by omega)
    have h3 : rE b = (pFld b : Int) - 1075 := by unfold rE; rw [if_neg hf]
    rw [if_pos (by omega), h1]; omega
theorem back (b : Nat) (hb : b < W) (h : pFld b ≠ 2047) : oX1 (nM (vM b) (vE b)) (nE (vM b) (vE b)) = 0 ∧
    (oB1 (nM (vM b) (vE b)) (nE (vM b) (vE b)) = b ∨ b = T63 ∧ oB1 (nM (vM b) (vE b)) (nE (vM b) (vE b)) = 0) := by
  have hvb := vE_bd b h
  have hn := nf_norm (v_nf b h) (by omega) (by omega)
  rw [hn.1, hn.2]
  by_cases h0 : rF b = 0
  · have h1 := back_zero b h h0
    refine ⟨h1.2, ?_⟩
    rw [h1.1]
    have hp := pat_parts b hb
    have hf : pFld b = 0 ∧ pFrc b = 0 := by unfold rF at h0; split at h0 <;> omega
    rw [hf.1, hf.2] at hp
    by_cases hs : pNeg b = true
    · rw [if_pos hs] at hp; right; exact ⟨by omega, rfl⟩
    · rw [if_neg hs] at hp; left; omega
  · have h1 := back_some b hb h h0
    exact ⟨h1.2, .inl h1.1⟩
end Go.Proofs.YtnfbngiabdlclaaGreat
end
section
set_option linter.unusedVariables false
namespace Go.Proofs.YtnfbngiabdlclaaGreat
open Go.RowKit
open L (val dig nth)

theorem cmpZ_self (a : Int) : cmpZ a a = 0 := by simp [cmpZ]
section
variable {e : Int} (h1 : -1022 ≤ e) (h2 : e ≤ 1023)
include h1 h2
theorem fs_in : fsB e = (e + 1023).toNat * 4503599627370496 ∧ fsX e = 0 := by
  unfold fsB fsX; rw [if_neg (by omega), if_neg (by omega)]; exact ⟨rfl, rfl⟩
theorem fs_lt : fsB e + 4503599627370496 < T63 := by rw [(fs_in h1 h2).1, T63_eq]; omega
theorem fs_ge : 4503599627370496 ≤ fsB e := by rw [(fs_in h1 h2).1]; omega
theorem fs_fld (p : Nat) (hp : p < 4503599627370496) : pFld (fsB e + p) = (e + 1023).toNat := by
  rw [(fs_in h1 h2).1]; unfold pFld; omega
theorem fs_norm (p : Nat) (hp : p < 4503599627370496) : pNorm (fsB e + p) = true := by
  unfold pNorm; rw [fs_fld h1 h2 p hp, decide_eq_true]; omega
theorem fs_bin (p : Nat) (hp : p < 4503599627370496) : bnE (fsB e + p) = e ∧ bnX (fsB e + p) = 0 := by
  unfold bnE bnX; rw [fs_norm h1 h2 p hp, if_pos rfl, if_pos rfl, fs_fld h1 h2 p hp]; omega
theorem fs_before : pFld (fsB e - 1) = (e + 1022).toNat := by
  rw [(fs_in h1 h2).1]; unfold pFld; omega
theorem fs_bin_before (h : e ≠ -1022) : bnE (fsB e - 1) = e - 1 ∧ bnX (fsB e - 1) = 0 := by
  have hn : pNorm (fsB e - 1) = true := by unfold pNorm; rw [fs_before h1 h2, decide_eq_true]; omega
  unfold bnE bnX; rw [hn, if_pos rfl, if_pos rfl, fs_before h1 h2]; omega
theorem fs_value : vM (fsB e) = 1 ∧ vE (fsB e) = e ∧ vX (fsB e) = 0 := by
  have hf := fs_fld h1 h2 0 (by omega)
  rw [Nat.add_zero] at hf
  have hc : pFrc (fsB e) = 0 := by rw [(fs_in h1 h2).1]; unfold pFrc; omega
  have hs : pNeg (fsB e) = false := by
    have := fs_lt h1 h2
    rw [T63_eq] at this
    unfold pNeg; rw [decide_eq_false]; omega
  have hr : rM (fsB e) = 1 * 2 ^ 52 := by unfold rM; rw [hf, hc, hs, if_neg (by omega)]; rfl
  have hx : rE (fsB e) = e - 52 := by unfold rE; rw [hf, if_neg (by omega)]; omega
  unfold vM vE vX
  rw [hf, if_neg (by omega), if_neg (by omega), if_neg (by omega), hr, hx]
  exact ⟨nM_pow (by omega) (by omega) (by rfl), by rw [nE_pow (by omega) (by omega) (by rfl)]; omega, rfl⟩
end
theorem fs_bin_least : bnX (fsB (-1022) - 1) = 1 := by
  have hn : pNorm (fsB (-1022) - 1) = false := by unfold pNorm; rw [fs_before (by omega) (by omega), decide_eq_false]; omega
  unfold bnX; rw [hn]; rfl
theorem fs_out {e : Int} (h : e < -1022 ∨ 1023 < e) : fsB e = 0 ∧ fsX e = 1 := by
  unfold fsB fsX; rw [if_pos h, if_pos h]; exact ⟨rfl, rfl⟩
end Go.Proofs.YtnfbngiabdlclaaGreat
end
section
set_option linter.unusedVariables false
namespace Go.Proofs.YtnfbngiabdlclaaGreat
open Go.RowKit
open L (val dig nth)

theorem av_value (K : Nat) (hK : 4000 ≤ K) (b : Nat) (h : pFld b ≠ 2047) : av K (vM b) (vE b) = sv K (rM b) (rE b) := by
  have h1 := vE_bd b h
  have h2 := rE_bd b h
  rw [av_of (by omega) (by omega), vM_eq b h, vE_eq b h, sv_plain K _ _ (by omega)]
section
variable {a b : Nat}
/-- Below all that stand for none, without a sign. -/
theorem lo_fld (h : a < 9218868437227405312) : pFld a = a / 4503599627370496 ∧ pFld a ≠ 2047 ∧ pNeg a = false := by
  refine ⟨by unfold pFld; omega, by unfold pFld; omega, ?_⟩
  unfold pNeg; rw [decide_eq_false]; omega
theorem lo_value (K : Nat) (hK : 4000 ≤ K) (h : a < 9218868437227405312) : av K (vM a) (vE a) = sv K (rF a) (rE a) := by
  obtain ⟨h1, h2, h3⟩ := lo_fld h
  rw [av_value K hK a h2, rM_eq, h3]; rfl
/-- The binade of a pattern, or the least one. -/
def nn (a : Nat) : Int := if pNorm a then bnE a else -1022
theorem nn_eq (h : a < 9218868437227405312) : nn a = if pFld a = 0 then -1022 else (pFld a : Int) - 1023 := by
  obtain ⟨h1, h2, h3⟩ := lo_fld h
  unfold nn bnE
  by_cases h0 : pFld a = 0
  · have : pNorm a = false := by unfold pNorm; rw [decide_eq_false]; omega
    rw [this, if_pos h0]; rfl
  · have : pNorm a = true := by unfold pNorm; rw [decide_eq_true]; omega
    rw [this, if_neg h0, if_pos rfl, if_pos rfl]
theorem nn_bd (h : a < 9218868437227405312) : -1022 ≤ nn a ∧ nn a ≤ 1023 := by
  have hn := nn_eq h
  have h1 := lo_fld h
  have := pFld_lt a
  split at hn <;> omega
theorem lo_step (K : Nat) (hK : 4000 ≤ K) (h : a + 1 < 9218868437227405312) : sv K (rF (a + 1)) (rE (a + 1)) - sv K (rF a) (rE a) = sv K 1 (nn a - 52) := by
  obtain ⟨h1, h2, h3⟩ := lo_fld (show a < 9218868437227405312 by omega)
  obtain ⟨i1, i2, i3⟩ := lo_fld h
  have hn := nn_eq (show a < 9218868437227405312 by omega)
  have hf : pFrc a = a % 4503599627370496 := rfl
  have hf' : pFrc (a + 1) = (a + 1) % 4503599627370496 := rfl
  by_cases hc : pFrc a + 1 < 4503599627370496
  · have e1 : pFld (a + 1) = pFld a := by omega
    have e2 : pFrc (a + 1) = pFrc a + 1 := by omega
    have e3 : rF (a + 1) = rF a + 1 := by unfold rF; rw [e1, e2]; split <;> omega
    have e4 : rE (a + 1) = rE a := by unfold rE; rw [e1]
    have e5 : nn a - 52 = rE a := by rw [hn]; unfold rE; split <;> omega
    rw [e3, e4, e5, ← sv_sub]; congr 1; omega
  · have e1 : pFld (a + 1) = pFld a + 1 := by omega
    have e2 : pFrc (a + 1) = 0 := by omega
    have e3 : rF (a + 1) = 4503599627370496 := by unfold rF; rw [e1, e2, if_neg (by omega)]
    have e4 : rE (a + 1) = (pFld a : Int) - 1074 := by unfold rE; rw [e1, if_neg (by omega)]; omega
    by_cases h0 : pFld a = 0
    · have e5 : rF a = 4503599627370495 := by unfold rF; rw [if_pos h0]; omega
      have e6 : rE a = (pFld a : Int) - 1074 := by unfold rE; rw [if_pos h0]; omega
      have e7 : nn a - 52 = (pFld a : Int) - 1074 := by rw [hn, if_pos h0]; omega
      rw [e3, e4, e5, e6, e7, ← sv_sub]; congr 1
    · have e5 : rF a = 9007199254740991 := by unfold rF; rw [if_neg h0]; omega
      have e6 : rE a = (pFld a : Int) - 1075 := by unfold rE; rw [if_neg h0]
      have e7 : nn a - 52 = (pFld a : Int) - 1075 := by rw [hn, if_neg h0]; omega
      have e8 : sv K ((4503599627370496 : Nat) : Int) ((pFld a : Int) - 1074) = sv K (((4503599627370496 : Nat) : Int) * 2 ^ 1) ((pFld a : Int) - 1075) := by
        rw [sv_shift K _ _ _ (by omega)]; congr 1; omega
      rw [e3, e4, e5, e6, e7, e8, ← sv_sub]; congr 1
theorem sv_one_pos (K : Nat) (x : Int) : 0 < sv K 1 x := by unfold sv; rw [Int.one_mul]; exact two_pow_int _
theorem lo_mono (K : Nat) (hK : 4000 ≤ K) (h : a < b) (hb : b < 9218868437227405312) : sv K (rF a) (rE a) < sv K (rF b) (rE b) := by
  induction b with
  | zero => omega
  | succ b ih =>
    have h1 := lo_step K hK hb
    have h2 := sv_one_pos K (nn b - 52)
    rcases Nat.lt_or_ge a b with h3 | h3
    · have := ih h3 (by omega); omega
    · obtain rfl : a = b := by omega
      omega
theorem lo_cmp (K : Nat) (hK : 4000 ≤ K) (ha : a < 9218868437227405312) (hb : b < 9218868437227405312) : cmpZ (av K (vM a) (vE a)) (av K (vM b) (vE b)) = cmpN a b := by
  rw [lo_value K hK ha, lo_value K hK hb]
  rcases Nat.lt_trichotomy a b with h | h | h
  · rw [cmpN_lt h]; unfold cmpZ; rw [if_pos (lo_mono K hK h hb)]
  · subst h; rw [cmpZ_self, cmpN_eq rfl]
  · have := lo_mono K hK h ha
    rw [cmpN_gt h]; unfold cmpZ; rw [if_neg (by omega), if_pos this]
theorem pM_one : pM 1 = 1 := nf_pM (x := 0) (.inr rfl)
theorem pE_one (x : Int) : pE 1 x = x := nf_pE (.inr rfl)
/-- The difference of two neighbours, as it is answered. -/
theorem lo_diff (h : a + 1 < 9218868437227405312) : pM (av 4000 (vM (a + 1)) (vE (a + 1)) - av 4000 (vM a) (vE a)) = 1 ∧ pE (av 4000 (vM (a + 1)) (vE (a + 1)) - av 4000 (vM a) (vE a)) (-(4000 : Nat)) = nn a - 52 := by
  have hb := nn_bd (show a < 9218868437227405312 by omega)
  rw [lo_value 4000 (by omega) h, lo_value 4000 (by omega) (show a < 9218868437227405312 by omega), lo_step 4000 (by omega) h, pM_sv, pE_sv 4000 _ _ (by omega)]
  exact ⟨pM_one, pE_one _⟩
theorem lo_vX (h : a < 9218868437227405312) : vX a = 0 := by unfold vX; rw [if_neg (lo_fld h).2.1]
end
theorem top_value : vM 9218868437227405312 = 0 ∧ vE 9218868437227405312 = 0 ∧ vX 9218868437227405312 = 1 := ⟨rfl, rfl, rfl⟩
theorem lo_bin {a : Nat} (h : a < 9218868437227405312) : (bnX a = 0 ∧ bnE a = nn a) ∨ (bnX a = 1 ∧ nn a = -1022) := by
  unfold bnX nn
  cases hn : pNorm a
  · right; exact ⟨rfl, rfl⟩
  · left; exact ⟨rfl, rfl⟩
end Go.Proofs.YtnfbngiabdlclaaGreat
end
