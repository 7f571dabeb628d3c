/- The document's integers: Make Norm Neg BitLen Sign Mul Shl. The document's integers: Sign Add Sub. The document's integers: Sub Shr. -/
import Derived.Test.YtnfbngiabdlclaaZeds
import Derived.Test.YtnfbngiabdlclaaRefs
import Derived.Test.YtnfbngiabdlclaaDyadA
import Derived.Test.YtnfbngiabdlclaaDyadB
section
set_option linter.unusedVariables false
set_option linter.unusedSimpArgs false
namespace Go.Proofs.Ytnfbngiabdlclaa
open Go.RowKit
open L (val dig nth)

/-- The end of a function whose result is an integer that a callee handed back. -/
theorem retZ2 {w w2 : World} {r B : Nat} {z : Int} {v : Value} {d : List Nat} (hB : w.heap.size ≤ B) (hrB : r < B) (hu : Nums w2 B v d) (hd : Canon d z.natAbs) (x y : Value) :
    RetZ w.heap.size z (.returned (.agg #[.bool (decide (z < 0)), v])) ((w2.setCell ⟨r, 0, none⟩ x).setCell ⟨r, 1, none⟩ y) :=
  ⟨v, d, rfl, ((hu.set_low (p := ⟨r, 0, none⟩) hrB x).set_low (p := ⟨r, 1, none⟩) hrB y).mono hB, hd⟩

end Go.Proofs.Ytnfbngiabdlclaa
end
section
set_option linter.unusedVariables false
set_option linter.unusedSimpArgs false
namespace Go.Proofs.Ytnfbngiabdlclaa
open Go.RowKit
open L (val dig nth)

/-- A struct of two cells stored over another. -/
theorem set2_all {w : World} {r : Nat} {t : TypeId} {a b : Value} (h : Blk w r t #[a, b]) (x y : Value) :
    ∃ W2, W2 = (w.setCell ⟨r, 0, none⟩ x).setCell ⟨r, 1, none⟩ y ∧ Blk W2 r t #[x, y] ∧ (∀ g t' cs, g ≠ r → Blk w g t' cs → Blk W2 g t' cs) ∧
    (∀ B v l, r < B → Nums w B v l → Nums W2 B v l) ∧ W2.heap.size = w.heap.size ∧ (∀ B w0, Below B w0 w → B ≤ r → Below B w0 W2) := by
  refine ⟨_, rfl, ?_, fun g t' cs hne hg => (hg.far hne x).far hne y, fun B v l hr hn => (hn.set_low (p := ⟨r, 0, none⟩) hr x).set_low (p := ⟨r, 1, none⟩) hr y, by simp, fun B w0 hb hr => (hb.setCell (p := ⟨r, 0, none⟩) hr x).setCell (p := ⟨r, 1, none⟩) hr y⟩
  have := (h.set_ 0 x).set_ 1 y
  simpa using this
theorem canon_len0 {d : List Nat} {z : Int} (h : Canon d z.natAbs) : ((d.length : Int) == 0) = decide (z = 0) := by
  have := h.nil_iff
  by_cases hz : z = 0
  · subst hz
    have : d = [] := this.2 rfl
    subst this; rfl
  · rw [decide_eq_false hz, beq_eq_false_iff_ne]
    intro h0
    have h1 : d = [] := List.eq_nil_of_length_eq_zero (by omega)
    have := this.1 h1
    omega

theorem sum_len {d d1 d3 : List Nat} {k : Nat} (hd : Canon d (val W d1 + val W d3)) (l1 : ∀ x ∈ d1, x < W) (l3 : ∀ x ∈ d3, x < W) (h1 : d1.length ≤ k) (h3 : d3.length ≤ k) : d.length ≤ k + 1 := by
  rw [hd.len]
  exact two_lt (k := k) (Nat.le_refl _) (Nat.lt_of_lt_of_le (L.val_lt d1 l1) (Nat.pow_le_pow_right W_pos h1)) (Nat.lt_of_lt_of_le (L.val_lt d3 l3) (Nat.pow_le_pow_right W_pos h3)) (Nat.lt_succ_self _)
theorem diff_len {d d1 d3 : List Nat} {k : Nat} (hd : Canon d (val W d1 - val W d3)) (l1 : ∀ x ∈ d1, x < W) (h1 : d1.length ≤ k) : d.length ≤ k := by
  rw [hd.len]
  exact Nat.lt_of_le_of_lt (Nat.sub_le _ _) (Nat.lt_of_lt_of_le (L.val_lt d1 l1) (Nat.pow_le_pow_right W_pos h1))
end Go.Proofs.Ytnfbngiabdlclaa
end
section
set_option linter.unusedVariables false
set_option linter.unusedSimpArgs false
namespace Go.Proofs.Ytnfbngiabdlclaa
open Go.RowKit
open L (val dig nth)

theorem pow_lt_W {c t : Nat} (h : c < 64 * t) : 2 ^ c < W ^ t := Nat.lt_of_lt_of_le (Nat.pow_lt_pow_right (by omega) h) (pow_le_W (Nat.le_refl _))
theorem floorR (N k : Nat) : ival true ((N + (2 ^ k - 1)) / 2 ^ k) = ival true N / 2 ^ k := by
  have h2 := Nat.two_pow_pos k
  by_cases h : N / 2 ^ k * 2 ^ k = N
  · rw [← floor_neg0 N k h]
    congr 1
    have : N + (2 ^ k - 1) = (2 ^ k - 1) + 2 ^ k * (N / 2 ^ k) := by rw [Nat.mul_comm (2 ^ k), h]; omega
    rw [this, Nat.add_mul_div_left _ _ h2, Nat.div_eq_of_lt (by omega)]; omega
  · rw [← floor_neg1 N k h]
    congr 1
    have h1 := Nat.div_add_mod N (2 ^ k)
    have h3 := Nat.mod_lt N h2
    have h4 : N % 2 ^ k ≠ 0 := by intro h0; apply h; rw [Nat.mul_comm]; omega
    have : N + (2 ^ k - 1) = (N % 2 ^ k - 1) + 2 ^ k * (N / 2 ^ k + 1) := by rw [Nat.mul_add]; omega
    rw [this, Nat.add_mul_div_left _ _ h2, Nat.div_eq_of_lt (by omega)]; omega

end Go.Proofs.Ytnfbngiabdlclaa
end
