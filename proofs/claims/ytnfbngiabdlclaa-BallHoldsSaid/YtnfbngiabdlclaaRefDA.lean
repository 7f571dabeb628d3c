/- The document's dyads: plain. The document's dyads: near counts Norm Of Sign Log. The document's dyads: raised lower. -/
import Derived.Test.YtnfbngiabdlclaaZrs
import Derived.Test.YtnfbngiabdlclaaCons
import Derived.Test.YtnfbngiabdlclaaPats
import Derived.Test.YtnfbngiabdlclaaSee
section
set_option linter.unusedVariables false
set_option linter.unusedSimpArgs false
namespace Go.Proofs.Ytnfbngiabdlclaa
open Go.RowKit
open L (val dig nth)

theorem and16 (m : Nat) (hm : m < 18446744073709551616) : bits .and .u64 (m : Int) 65535 = ((m % 65536 : Nat) : Int) := by
  have h := bits_and_u64_nat m 65535 hm (by omega)
  have e : m &&& 65535 = m % 65536 := Nat.and_two_pow_sub_one_eq_mod m 16
  rw [e] at h
  exact h
/-- What is left of z when 2 has been taken out t times. -/
def Left (z : Int) (t : Nat) (z' : Int) : Prop := z' * 2 ^ t = z
theorem Left.step {z z' : Int} {t s : Nat} (h : Left z t z') (hd : z'.natAbs % 2 ^ s = 0) : Left z (t + s) (z' / 2 ^ s) := by
  unfold Left at *
  rw [Nat.add_comm, Int.pow_add, ← Int.mul_assoc, Int.ediv_mul_cancel, h]
  rw [← Int.natAbs_dvd_natAbs, natAbs_pow]
  exact Nat.dvd_of_mod_eq_zero hd
theorem Left.le {z z' : Int} {t k : Nat} (h : Left z t z') (hz : z ≠ 0) (hk : z.natAbs < W ^ k) : t < 64 * k ∧ z' ≠ 0 ∧ z'.natAbs ≤ z.natAbs := by
  unfold Left at h
  have h0 : z' ≠ 0 := by rintro rfl; rw [Int.zero_mul] at h; exact hz h.symm
  have e := congrArg Int.natAbs h
  rw [Int.natAbs_mul, natAbs_pow] at e
  have h1 : 2 ^ t ≤ z.natAbs := by rw [← e]; exact Nat.le_mul_of_pos_left _ (by omega)
  rw [W_pow] at hk
  refine ⟨(Nat.pow_lt_pow_iff_right (a := 2) (by omega)).1 (Nat.lt_of_le_of_lt h1 hk), h0, ?_⟩
  rw [← e]; exact Nat.le_mul_of_pos_right _ (Nat.two_pow_pos _)
theorem Left.done {z z' x : Int} {t : Nat} (h : Left z t z') (hz : z ≠ 0) (ho : z'.natAbs % 2 = 1) : pM z = z' ∧ pE z x = x + t := by
  unfold Left at h
  have e := congrArg Int.natAbs h
  rw [Int.natAbs_mul, natAbs_pow] at e
  have ht : tz z.natAbs = t := by rw [← e]; exact tz_pow ho t
  refine ⟨?_, by rw [pE_of hz, ht]⟩
  rw [← h, pM_pow]; exact nf_pM (x := 0) (.inr ho)
theorem low_mod {d : List Nat} {z : Int} (hd : Canon d z.natAbs) (s : Nat) (hs : s ≤ 64) (h0 : 0 < d.length) : z.natAbs % 2 ^ s = nth d 0 % 2 ^ s := by
  rw [← hd.val]
  obtain ⟨a, r, rfl⟩ : ∃ a r, d = a :: r := by cases d with | nil => simp at h0 | cons a r => exact ⟨a, r, rfl⟩
  simp only [L.val_cons, L.nth, List.getD_cons_zero]
  rw [show W = 2 ^ s * 2 ^ (64 - s) from by rw [← Nat.pow_add, show s + (64 - s) = 64 from by omega]; rfl, Nat.mul_assoc, Nat.add_mul_mod_self_left]
theorem clampN_small {k : Nat} (h : k ≤ 8192) : clampN (k : Int) = k := by unfold clampN; omega

/-- The box of an integer that a loop works at. -/
def AtBox (w wr : World) (B r : Nat) (z' : Int) : Prop := ∃ A c d, Blk wr r 25 #[.bool (decide (z' < 0)), .slice A d.length c] ∧ Nums wr B (.slice A d.length c) d ∧ Canon d z'.natAbs ∧
  Blk wr (r + 1) 43 #[.bool false, .slice none 0 0, .int .i64 0] ∧ Below w.heap.size w wr ∧ B ≤ wr.heap.size

end Go.Proofs.Ytnfbngiabdlclaa
end
section
set_option linter.unusedVariables false
set_option linter.unusedSimpArgs false
namespace Go.Proofs.Ytnfbngiabdlclaa
open Go.RowKit
open L (val dig nth)

theorem field_dyad0 (a b c : Value) (w : World) : (Instr.field 43 (.agg #[a, b, c]) 0).run Try.prog w = .ok (.agg #[a, b]) w := by kernel_rfl
theorem n_in {z x : Int} (h1 : -4000 ≤ x) (h2 : x ≤ 4000) : nM z x = pM z ∧ nE z x = pE z x := by
  unfold nM nE
  rw [cM_in h1 h2]
  by_cases hz : z = 0
  · subst hz; exact ⟨rfl, by rw [pE_zero, pE_zero]⟩
  · rw [cE_in h1 h2 hz]; exact ⟨rfl, rfl⟩
theorem n_out {z x : Int} (h : x < -4000 ∨ 4000 < x) : nM z x = 0 ∧ nE z x = 0 := by
  have : cM z x = 0 := by unfold cM; rw [if_pos (by omega)]
  unfold nM nE; rw [this]; exact ⟨pM_zero, pE_zero _⟩
/-- The end of a function whose result is a dyad that a callee handed back. -/
theorem retQ2 {w w2 : World} {r B : Nat} {z x : Int} {v : Value} {d : List Nat} (hB : w.heap.size ≤ B) (hrB : r < B) (hu : Nums w2 B v d) (hd : Canon d z.natAbs) (a b c : Value) :
    RetQ w.heap.size z x (.returned (.agg #[.bool (decide (z < 0)), v, .int .i64 x])) (((w2.setCell ⟨r, 0, none⟩ a).setCell ⟨r, 1, none⟩ b).setCell ⟨r, 2, none⟩ c) :=
  ⟨v, d, rfl, (nums_low3 hu hrB a b c).mono hB, hd⟩

theorem lg_norm (z x : Int) : lgN z x = (if nM z x = 0 then 0 else nE z x + nbits (nM z x).natAbs - 1) ∧ lgOk z x = decide (nM z x ≠ 0) := by
  by_cases h : cM z x = 0
  · have : nM z x = 0 := by unfold nM; rw [h]; exact pM_zero
    unfold lgN lgOk
    rw [this, h]; exact ⟨rfl, rfl⟩
  · have hne : nM z x ≠ 0 := pM_ne h
    have e := congrArg Int.natAbs (pM_mul (cM z x))
    rw [Int.natAbs_mul, natAbs_pow] at e
    have h2 := nbits_mul (pM (cM z x)).natAbs (tz (cM z x).natAbs) (by have := pM_ne h; omega)
    rw [e] at h2
    unfold lgN lgOk
    rw [if_neg h, if_neg hne, decide_eq_true h, decide_eq_true hne]
    refine ⟨?_, rfl⟩
    unfold nE nM
    rw [pE_of h]; omega

end Go.Proofs.Ytnfbngiabdlclaa
end
section
set_option linter.unusedVariables false
set_option linter.unusedSimpArgs false
namespace Go.Proofs.Ytnfbngiabdlclaa
open Go.RowKit
open L (val dig nth)

theorem clampN_nat {m : Nat} (h : m ≤ 8192) : clampN (m : Int) = m := by unfold clampN; omega
/-- z' times 2^m is P. -/
def UpTo (P z' : Int) (m : Nat) : Prop := z' * 2 ^ m = P
theorem UpTo.step {P z' : Int} {m c : Nat} (h : UpTo P z' m) (hc : c ≤ m) : UpTo P (z' * 2 ^ c) (m - c) := by
  unfold UpTo at *
  rw [Int.mul_assoc, ← Int.pow_add, show c + (m - c) = m from by omega]; exact h
theorem UpTo.lt {P z' : Int} {m k : Nat} (h : UpTo P z' m) (hk : P.natAbs < W ^ k) : z'.natAbs < W ^ k := by
  unfold UpTo at h
  have e := congrArg Int.natAbs h
  rw [Int.natAbs_mul, natAbs_pow] at e
  exact Nat.lt_of_le_of_lt (by rw [← e]; exact Nat.le_mul_of_pos_right _ (Nat.two_pow_pos _)) hk
/-- The box of an integer, and of the result, that a loop works at. -/
def AtBox2 (w wr : World) (B r : Nat) (z' : Int) : Prop := ∃ A c d, Blk wr r 25 #[.bool (decide (z' < 0)), .slice A d.length c] ∧ Nums wr B (.slice A d.length c) d ∧ Canon d z'.natAbs ∧
  Blk wr (r + 1) 25 #[.bool false, .slice none 0 0] ∧ Below w.heap.size w wr ∧ B ≤ wr.heap.size

theorem up_lt {z : Int} {k c t : Nat} (hz : z.natAbs < W ^ k) (hc : c ≤ 64 * t) : (z * 2 ^ c).natAbs < W ^ (k + t) := by
  have := len_mul2 (d := dig W (z * 2 ^ c).natAbs) (k := k) (n := c) (t := t) (z := z) rfl hz hc
  rwa [L.dig_len W_gt] at this
end Go.Proofs.Ytnfbngiabdlclaa
end
