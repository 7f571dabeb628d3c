/- Plain: the constants' balls hold one number, by reckoning. -/
import Derived.Test.YtnfbngiabdlclaaVk
set_option linter.unusedVariables false
set_option linter.unusedSimpArgs false
namespace Go.Proofs.Ytnfbngiabdlclaa
namespace Co
def lnL (q : Nat) : Nat := lnLo (q + 16) * 2 / 65536
def lnH (q : Nat) : Nat := up (lnHi (q + 16) * 2) 65536
def piL (q : Nat) : Int := match 2 ^ (q + 16) / 5, 2 ^ (q + 16) / 239, (q + 16) / 9 + 2 with
  | d, e, n => (((atLoP d (q + 16) n : Int) - (atLoN d (q + 16) n : Int)) * 16 + (0 - ((atHiP (e + 1) (q + 16) n : Int) - (atHiN (e + 1) (q + 16) n : Int)) * 4)) / 65536
def piH (q : Nat) : Int := match 2 ^ (q + 16) / 5, 2 ^ (q + 16) / 239, (q + 16) / 9 + 2 with
  | d, e, n => 0 - (0 - (((atHiP (d + 1) (q + 16) n : Int) - (atHiN (d + 1) (q + 16) n : Int)) * 16 + (0 - ((atLoP e (q + 16) n : Int) - (atLoN e (q + 16) n : Int)) * 4))) / 65536
def lnOne : Nat := lnL 300
def piOne : Int := piL 300
def lnM (q : Nat) : Bool := match lnL q, lnH q with
  | a, b => Nat.ble (a * 2 ^ (300 - q)) lnOne && Nat.ble lnOne (b * 2 ^ (300 - q)) && Nat.ble b (a + 2)
def piM (q : Nat) : Bool := match piL q, piH q with
  | a, b => decide (a * (2 ^ (300 - q) : Nat) ≤ piOne) && decide (piOne ≤ b * (2 ^ (300 - q) : Nat)) && decide (b ≤ a + 2)
set_option maxRecDepth 1000000
theorem lnM_all : allB lnM 256 = true := by kernel_rfl
theorem piM_all : allB piM 256 = true := by kernel_rfl
end Co
theorem lnLoZ_n (q : Nat) : lnLoZ q = (Co.lnL q : Int) := by
  unfold lnLoZ Co.lnL; rw [lnLo_n, s16, Int.natCast_ediv, Int.natCast_mul]
  rfl
theorem lnHiZ_n (q : Nat) : lnHiZ q = (Co.lnH q : Int) := by
  unfold lnHiZ Co.lnH; rw [lnHi_n, s16, ← Co.vUp_up _ _ (by omega), vUp_pos (by decide), Int.natCast_mul, Int.zero_sub, Int.zero_sub]
  rfl
theorem piLoZ_n (q : Nat) : piLoZ q = Co.piL q := by
  unfold piLoZ Co.piL; have e1 := atLo_n q 5; have e2 := atHi_n q 239; rw [show ((5 : Nat) : Int) = 5 from rfl] at e1; rw [show ((239 : Nat) : Int) = 239 from rfl] at e2; rw [e1, e2, s16]
theorem piHiZ_n (q : Nat) : piHiZ q = Co.piH q := by
  unfold piHiZ Co.piH; have e1 := atHi_n q 5; have e2 := atLo_n q 239; rw [show ((5 : Nat) : Int) = 5 from rfl] at e1; rw [show ((239 : Nat) : Int) = 239 from rfl] at e2; rw [e1, e2, s16]
/-- A number of 300 places lies between. -/
def Holds1 (x : Int) (lo hi : Int) (q : Nat) : Prop := lo * 2 ^ (300 - q) ≤ x ∧ x ≤ hi * 2 ^ (300 - q) ∧ hi ≤ lo + 2
theorem ln_one {q : Nat} (h : q ≤ 255) : Holds1 Co.lnOne (lnLoZ q) (lnHiZ q) q := by
  have k := Co.allB_ok Co.lnM_all q (by omega); have k' : (Nat.ble (Co.lnL q * 2 ^ (300 - q)) Co.lnOne && Nat.ble Co.lnOne (Co.lnH q * 2 ^ (300 - q)) && Nat.ble (Co.lnH q) (Co.lnL q + 2)) = true := k; simp only [Bool.and_eq_true] at k'; obtain ⟨⟨h1, h2⟩, h3⟩ := k'; rw [lnLoZ_n, lnHiZ_n]; refine ⟨?_, ?_, ?_⟩
  · exact_mod_cast Nat.le_of_ble_eq_true h1
  · exact_mod_cast Nat.le_of_ble_eq_true h2
  · exact_mod_cast Nat.le_of_ble_eq_true h3
theorem pi_one {q : Nat} (h : q ≤ 255) : Holds1 Co.piOne (piLoZ q) (piHiZ q) q := by
  have k := Co.allB_ok Co.piM_all q (by omega); have k' : (decide (Co.piL q * (2 ^ (300 - q) : Nat) ≤ Co.piOne) && decide (Co.piOne ≤ Co.piH q * (2 ^ (300 - q) : Nat)) && decide (Co.piH q ≤ Co.piL q + 2)) = true := k; simp only [Bool.and_eq_true, decide_eq_true_eq] at k'; obtain ⟨⟨h1, h2⟩, h3⟩ := k'; rw [piLoZ_n, piHiZ_n]; refine ⟨?_, ?_, h3⟩
  · have e : ((2 ^ (300 - q) : Nat) : Int) = 2 ^ (300 - q) := by push_cast; rfl
    rw [← e]; exact h1
  · have e : ((2 ^ (300 - q) : Nat) : Int) = 2 ^ (300 - q) := by push_cast; rfl
    rw [← e]; exact h2
/-- Two that hold one number meet. -/
theorem Holds1.meet {x a b c d : Int} {p q m : Nat} (h : Holds1 x a b p) (k : Holds1 x c d q) (hp : p ≤ 300) (hq : q ≤ 300) (hm : m = min p q) : a * 2 ^ (q - m) ≤ d * 2 ^ (p - m) := by
  have h1 := Int.le_trans h.1 k.2.1; have e1 : 300 - p = (q - m) + (300 - max p q) := by omega
  have e2 : 300 - q = (p - m) + (300 - max p q) := by omega
  rw [e1, e2, Int.pow_add, Int.pow_add, ← Int.mul_assoc, ← Int.mul_assoc] at h1; exact Int.le_of_mul_le_mul_right h1 (Int.pow_pos (by omega))
end Go.Proofs.Ytnfbngiabdlclaa
