/- The document's dyads: Add Sub. The document's dyads: Sub. The document's dyads: Cmp. -/
import Derived.Test.YtnfbngiabdlclaaGreatRefDB
section
set_option linter.unusedVariables false
set_option linter.unusedSimpArgs false
namespace Go.Proofs.YtnfbngiabdlclaaGreat
open Go.RowKit
open L (val dig nth)

theorem sumR (w : World) (P Q S : Int) (B C : Nat) (v u : Value) (p q : List Nat) (hp : Nums w B v p) (hq : Nums w C u q) (hpl : p.length ≤ 60000) (hql : q.length ≤ 60000) (hd : Canon p P.natAbs) (hd' : Canon q Q.natAbs) (hS : P + Q = S) :
    Calls Tryz.prog 75 #[.agg #[.bool (decide (P < 0)), v], .agg #[.bool (decide (Q < 0)), u]] w fun e w' => Below w.heap.size w w' ∧ RetZ w.heap.size S e w' := by
  have := zaddR_calls w (decide (P < 0)) (decide (Q < 0)) _ _ _ _ p q hp hq hpl hql
  rwa [hd.val, hd'.val, ival_self, ival_self, hS] at this
theorem subR (w : World) (P Q S : Int) (B C : Nat) (v u : Value) (p q : List Nat) (hp : Nums w B v p) (hq : Nums w C u q) (hpl : p.length ≤ 60000) (hql : q.length ≤ 60000) (hd : Canon p P.natAbs) (hd' : Canon q Q.natAbs) (hS : P - Q = S) :
    Calls Tryz.prog 77 #[.agg #[.bool (decide (P < 0)), v], .agg #[.bool (decide (Q < 0)), u]] w fun e w' => Below w.heap.size w w' ∧ RetZ w.heap.size S e w' := by
  have := zsubR_calls w (decide (P < 0)) (decide (Q < 0)) _ _ _ _ p q hp hq hpl hql
  rwa [hd.val, hd'.val, ival_self, ival_self, hS] at this
theorem to_low {K : Nat} (hK : 4000 ≤ K) {z x e : Int} {m : Nat} (he : -4000 ≤ e) (hm : nE z x - e = m) : sv K (nM z x * 2 ^ m) e = av K z x := by
  rw [← sv_norm hK z x]
  unfold sv
  rw [Int.mul_assoc, ← Int.pow_add, show m + (e + (K : Int)).toNat = (nE z x + K).toNat from by omega]
theorem add_norm {K : Nat} (hK : 4000 ≤ K) {z x z' y e : Int} {m k : Nat} (he : -4000 ≤ e) (hm : nE z x - e = m) (hk : nE z' y - e = k) :
    pM (nM z x * 2 ^ m + nM z' y * 2 ^ k) = pM (av K z x + av K z' y) ∧ pE (nM z x * 2 ^ m + nM z' y * 2 ^ k) e = pE (av K z x + av K z' y) (-K) := by
  rw [← to_low hK he hm, ← to_low hK he hk, ← sv_add, pM_sv, pE_sv K _ _ (by omega)]
  exact ⟨rfl, rfl⟩
theorem sub_norm {K : Nat} (hK : 4000 ≤ K) {z x z' y e : Int} {m k : Nat} (he : -4000 ≤ e) (hm : nE z x - e = m) (hk : nE z' y - e = k) :
    pM (nM z x * 2 ^ m - nM z' y * 2 ^ k) = pM (av K z x - av K z' y) ∧ pE (nM z x * 2 ^ m - nM z' y * 2 ^ k) e = pE (av K z x - av K z' y) (-K) := by
  rw [← to_low hK he hm, ← to_low hK he hk, ← sv_sub, pM_sv, pE_sv K _ _ (by omega)]
  exact ⟨rfl, rfl⟩
theorem sum_lt_W {a b : Int} {k t : Nat} (ha : a.natAbs < W ^ k) (hb : b.natAbs < W ^ t) : (a + b).natAbs < W ^ (k + t + 1) := by
  have h1 : W ^ k ≤ W ^ (k + t) := Nat.pow_le_pow_right (by decide) (by omega)
  have h2 : W ^ t ≤ W ^ (k + t) := Nat.pow_le_pow_right (by decide) (by omega)
  have h3 : W ^ (k + t) * 2 ≤ W ^ (k + t) * W := Nat.mul_le_mul_left _ (by decide)
  rw [Nat.pow_succ]
  omega
theorem diff_lt_W {a b : Int} {k t : Nat} (ha : a.natAbs < W ^ k) (hb : b.natAbs < W ^ t) : (a - b).natAbs < W ^ (k + t + 1) := by
  rw [Int.sub_eq_add_neg]
  exact sum_lt_W ha (by rwa [Int.natAbs_neg])
end Go.Proofs.YtnfbngiabdlclaaGreat
end
section
set_option linter.unusedVariables false
set_option linter.unusedSimpArgs false
namespace Go.Proofs.YtnfbngiabdlclaaGreat
open Go.RowKit
open L (val dig nth)

end Go.Proofs.YtnfbngiabdlclaaGreat
end
section
set_option linter.unusedVariables false
set_option linter.unusedSimpArgs false
namespace Go.Proofs.YtnfbngiabdlclaaGreat
open Go.RowKit
open L (val dig nth)

theorem subN_lt {K : Nat} (hK : 4000 ≤ K) {z x z' y : Int} {l k : Nat} (hz : z.natAbs < W ^ l) (hz' : z'.natAbs < W ^ k) (hl : l ≤ 1000) (hk : k ≤ 1000) :
    (pM (av K z x - av K z' y)).natAbs < W ^ (l + 1126 + (k + 1126) + 1) := by
  have hE1 := nE_ge z x
  have hE2 := nE_le (x := x) hz
  have hF1 := nE_ge z' y
  have hF2 := nE_le (x := y) hz'
  obtain ⟨ee, hee⟩ : ∃ ee, min (nE z x) (nE z' y) = ee := ⟨_, rfl⟩
  have hee0 : -4000 ≤ ee := by omega
  obtain ⟨m1, hm1⟩ : ∃ m1 : Nat, nE z x - ee = m1 := ⟨(nE z x - ee).toNat, by omega⟩
  obtain ⟨m2, hm2⟩ : ∃ m2 : Nat, nE z' y - ee = m2 := ⟨(nE z' y - ee).toNat, by omega⟩
  rw [← (sub_norm hK hee0 hm1 hm2).1]
  exact pM_lt (diff_lt_W (up_lt (nM_lt hz) (by omega)) (up_lt (nM_lt hz') (by omega)))
theorem pM_sgn (V : Int) : (pM V).sign = V.sign := by
  have := pM_mul V
  conv => rhs; rw [← this, Int.sign_mul, Int.sign_eq_one_of_pos (two_pow_int _), Int.mul_one]
end Go.Proofs.YtnfbngiabdlclaaGreat
end
