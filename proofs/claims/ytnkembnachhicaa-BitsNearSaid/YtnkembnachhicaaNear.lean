/- What is near is not above, and the next one is. Plain facts. -/
import Derived.Test.YtnkembnachhicaaLg
set_option linter.unusedVariables false
namespace Go.Proofs.Ytnkembnachhicaa
open Go.RowKit
open L (val dig nth)

theorem floor_low {K : Nat} {V p : Int} (h : p ≤ K) : vFloor K V p = V / 2 ^ (K - p).toNat := by
  have hq : ∀ (t : Int) (i j : Nat), t * 2 ^ i / 2 ^ (i + j) = t / 2 ^ j := by
    intro t i j
    rw [Int.pow_add, Int.mul_comm t]
    exact Int.mul_ediv_mul_of_pos _ _ (two_pow_int i)
  unfold vFloor
  by_cases h0 : 0 ≤ p
  · rw [if_pos h0]
    conv => lhs; rw [show K = p.toNat + (K - p).toNat from by omega]
    exact hq _ _ _
  · rw [if_neg h0]; congr 2; omega
section
variable {z x V : Int} {n : Int}
/-- Near refuses just what is not between. -/
theorem near_out (hV : av 4000 z x = V) (h : V < sv 4000 1 (-1022) ∨ sv 4000 1 1024 ≤ V) : nrB z x = 0 ∧ nrX z x = 1 := by
  have hb : nrBad z x := by
    unfold nrBad
    rw [lgOk_eq 4000, hV, sign_eq 4000, hV]
    by_cases h0 : V = 0
    · left; simp [h0]
    · by_cases hn : V < 0
      · right; left; rw [Int.sign_eq_neg_one_of_neg hn]; omega
      · right; right
        rw [lgN_eq (K := 4000) (by omega) z x (by rw [hV]; exact h0), hV]
        rcases h with h | h
        · left
          refine (lg_lt h0 (by omega)).2 ?_
          rw [sv_one] at h; omega
        · right
          have : 1024 ≤ lg 4000 V := (lg_le h0 (by omega)).2 (by rw [sv_one] at h; omega)
          omega
  unfold nrB nrX
  rw [if_pos hb, if_pos hb]
  exact ⟨rfl, rfl⟩
/-- The pattern of a value between. -/
theorem near_mid (hV : av 4000 z x = V) (h1 : sv 4000 1 (-1022) ≤ V) (h2 : V < sv 4000 1 1024) :
    nrX z x = 0 ∧ nrB z x < 9218868437227405312 ∧ pNorm (nrB z x) = true ∧ av 4000 (vM (nrB z x)) (vE (nrB z x)) ≤ V ∧ V < av 4000 (vM (nrB z x)) (vE (nrB z x)) + sv 4000 1 (nn (nrB z x) - 52) := by
  have hpos : 0 < V := by have := sv_one_pos 4000 (-1022); omega
  have h0 : V ≠ 0 := by omega
  obtain ⟨n, hn⟩ : ∃ n, lg 4000 V = n := ⟨_, rfl⟩
  have hn1 : -1022 ≤ n := by rw [← hn]; exact (lg_le h0 (by omega)).2 (by rw [sv_one] at h1; omega)
  have hn2 : n < 1024 := by rw [← hn]; exact (lg_lt h0 (by omega)).2 (by rw [sv_one] at h2; omega)
  have hlg : lgN z x = n := by rw [lgN_eq (K := 4000) (by omega) z x (by rw [hV]; exact h0), hV, hn]
  have hbad : ¬ nrBad z x := by
    unfold nrBad
    rw [lgOk_eq 4000, hV, sign_eq 4000, hV, hlg, Int.sign_eq_one_of_pos hpos]
    simp only [ne_eq, h0, not_false_eq_true, decide_true, Bool.true_eq_false, false_or, not_or]
    omega
  have hnz : nearZ (52 - n) = 52 - n := by unfold nearZ; omega
  have hcb := cE_bounds z x
  obtain ⟨M, hM⟩ : ∃ M, nrM z x = M := ⟨_, rfl⟩
  have hMV : M = V / 2 ^ (n - 52 + 4000).toNat := by
    rw [← hM]; unfold nrM
    rw [hlg, hnz, scF_sv 4000 _ _ _ (by omega)]
    show vFloor 4000 (av 4000 z x) (52 - n) = _
    rw [hV, floor_low (by omega)]
    congr 2; omega
  obtain ⟨D, hD⟩ : ∃ D : Int, (2 : Int) ^ (n - 52 + 4000).toNat = D := ⟨_, rfl⟩
  rw [hD] at hMV
  have hDp : 0 < D := by rw [← hD]; exact two_pow_int _
  have hsvD : ∀ u : Int, sv 4000 u (n - 52) = u * D := by intro u; unfold sv; rw [← hD]; rfl
  have hfl := fl_le (X := V) (D := D) (f := M) (c := -(-V / D)) hDp hMV rfl
  have hlo := lg_low (K := 4000) h0 (by rw [hn]; omega)
  have hhi := lg_high (K := 4000) h0 (by rw [hn]; omega)
  have e52 : ((2 ^ (n + (4000 : Nat)).toNat : Nat) : Int) = 4503599627370496 * D := by
    rw [show (n + ((4000 : Nat) : Int)).toNat = 52 + (n - 52 + 4000).toNat from by omega, Nat.pow_add, Int.natCast_mul, ← hD, natpow (n - 52 + 4000).toNat]; rfl
  have e53 : ((2 ^ (n + 1 + (4000 : Nat)).toNat : Nat) : Int) = 9007199254740992 * D := by
    rw [show (n + 1 + ((4000 : Nat) : Int)).toNat = 53 + (n - 52 + 4000).toNat from by omega, Nat.pow_add, Int.natCast_mul, ← hD, natpow (n - 52 + 4000).toNat]; rfl
  rw [hn] at hlo hhi
  have hM1 : 4503599627370496 ≤ M := by rw [hMV]; exact Int.le_ediv_of_mul_le hDp (by omega)
  have hM2 : M < 9007199254740992 := by rw [hMV]; exact Int.ediv_lt_of_lt_mul hDp (by omega)
  obtain ⟨m, rfl⟩ : ∃ m : Nat, M = m := ⟨M.toNat, by omega⟩
  obtain ⟨b, hb⟩ : ∃ b : Nat, b = m - 4503599627370496 + (n + 1023).toNat * 4503599627370496 := ⟨_, rfl⟩
  have hbl : b < 9218868437227405312 := by omega
  obtain ⟨f1, f2, f3⟩ := lo_fld hbl
  have hfld : pFld b = (n + 1023).toNat := by omega
  have hfrc : pFrc b = m - 4503599627370496 := by unfold pFrc; omega
  have hrF : rF b = m := by unfold rF; rw [if_neg (by omega), hfrc]; omega
  have hrE : rE b = n - 52 := by unfold rE; rw [if_neg (by omega), hfld]; omega
  have hrM : rM b = m := by rw [rM_eq, f3, hrF]; rfl
  have hZ : nrZ z x = vM b := by unfold nrZ; rw [hM, hlg, vM_eq b f2, hrM]; unfold nM; rw [cM_in (by omega) (by omega)]
  have hY : nrY z x = vE b := by
    unfold nrY; rw [hM, hlg, vE_eq b f2, hrM, hrE]; unfold nE
    rw [cM_in (by omega) (by omega), cE_in (by omega) (by omega) (by omega)]
  have hbk := back b (by unfold W; omega) f2
  have hB : nrB z x = b := by
    unfold nrB; rw [if_neg hbad, hZ, hY]
    rcases hbk.2 with h | ⟨h, -⟩
    · exact h
    · rw [T63_eq] at h; omega
  have hX : nrX z x = 0 := by unfold nrX; rw [if_neg hbad, hZ, hY]; exact hbk.1
  have hnn : nn b = n := by rw [nn_eq hbl, if_neg (by omega), hfld]; omega
  rw [hB, hX, hnn, hsvD, lo_value 4000 (Nat.le_refl _) hbl, hrF, hrE, hsvD, Int.one_mul]
  refine ⟨rfl, hbl, ?_, hfl.1, hfl.2.2.2.2.2.1⟩
  unfold pNorm; rw [decide_eq_true]; omega
end
end Go.Proofs.Ytnkembnachhicaa
