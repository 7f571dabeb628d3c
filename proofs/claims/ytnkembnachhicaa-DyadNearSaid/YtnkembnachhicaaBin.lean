/- A binade's first pattern and its number. Plain facts. -/
import Derived.Test.YtnkembnachhicaaBack
set_option linter.unusedVariables false
namespace Go.Proofs.Ytnkembnachhicaa
open Go.RowKit
open L (val dig nth)

theorem cmpZ_self (a : Int) : cmpZ a a = 0 := by simp [cmpZ]
section
variable {e : Int} (h1 : -1022 ≤ e) (h2 : e ≤ 1023)
include h1 h2
theorem fs_in : fsB e = (e + 1023).toNat * 4503599627370496 ∧ fsX e = 0 := by
  unfold fsB fsX; rw [if_neg (by omega), if_neg (by omega)]; exact ⟨rfl, rfl⟩
theorem fs_lt : fsB e + 4503599627370496 < T63 := by rw [(fs_in h1 h2).1, T63_eq]; omega
theorem fs_ge : 4503599627370496 ≤ fsB e := by rw [(fs_in h1 h2).1]; omega
theorem fs_fld (p : Nat) (hp : p < 4503599627370496) : pFld (fsB e + p) = (e + 1023).toNat := by
  rw [(fs_in h1 h2).1]; unfold pFld; omega
theorem fs_norm (p : Nat) (hp : p < 4503599627370496) : pNorm (fsB e + p) = true := by
  unfold pNorm; rw [fs_fld h1 h2 p hp, decide_eq_true]; omega
theorem fs_bin (p : Nat) (hp : p < 4503599627370496) : bnE (fsB e + p) = e ∧ bnX (fsB e + p) = 0 := by
  unfold bnE bnX; rw [fs_norm h1 h2 p hp, if_pos rfl, if_pos rfl, fs_fld h1 h2 p hp]; omega
theorem fs_before : pFld (fsB e - 1) = (e + 1022).toNat := by
  rw [(fs_in h1 h2).1]; unfold pFld; omega
theorem fs_bin_before (h : e ≠ -1022) : bnE (fsB e - 1) = e - 1 ∧ bnX (fsB e - 1) = 0 := by
  have hn : pNorm (fsB e - 1) = true := by unfold pNorm; rw [fs_before h1 h2, decide_eq_true]; omega
  unfold bnE bnX; rw [hn, if_pos rfl, if_pos rfl, fs_before h1 h2]; omega
theorem fs_value : vM (fsB e) = 1 ∧ vE (fsB e) = e ∧ vX (fsB e) = 0 := by
  have hf := fs_fld h1 h2 0 (by omega)
  rw [Nat.add_zero] at hf
  have hc : pFrc (fsB e) = 0 := by rw [(fs_in h1 h2).1]; unfold pFrc; omega
  have hs : pNeg (fsB e) = false := by
    have := fs_lt h1 h2
    rw [T63_eq] at this
    unfold pNeg; rw [decide_eq_false]; omega
  have hr : rM (fsB e) = 1 * 2 ^ 52 := by unfold rM; rw [hf, hc, hs, if_neg (by omega)]; rfl
  have hx : rE (fsB e) = e - 52 := by unfold rE; rw [hf, if_neg (by omega)]; omega
  unfold vM vE vX
  rw [hf, if_neg (by omega), if_neg (by omega), if_neg (by omega), hr, hx]
  exact ⟨nM_pow (by omega) (by omega) (by rfl), by rw [nE_pow (by omega) (by omega) (by rfl)]; omega, rfl⟩
end
theorem fs_bin_least : bnX (fsB (-1022) - 1) = 1 := by
  have hn : pNorm (fsB (-1022) - 1) = false := by unfold pNorm; rw [fs_before (by omega) (by omega), decide_eq_false]; omega
  unfold bnX; rw [hn]; rfl
theorem fs_out {e : Int} (h : e < -1022 ∨ 1023 < e) : fsB e = 0 ∧ fsX e = 1 := by
  unfold fsB fsX; rw [if_pos h, if_pos h]; exact ⟨rfl, rfl⟩
end Go.Proofs.Ytnkembnachhicaa
