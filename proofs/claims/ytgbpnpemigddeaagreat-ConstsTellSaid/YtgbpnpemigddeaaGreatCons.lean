/- The value of a dyad, counted in places of 2^-K: what Norm, Sign, Log, Cmp, Add .. say of it. Plain facts. bits: Near. Contracts of dyad in the values' words, for the laws. -/
import Derived.Test.YtgbpnpemigddeaaGreatDyadB
import Derived.Test.YtgbpnpemigddeaaGreatPats
set_option linter.unusedVariables false
namespace Go.Proofs.YtgbpnpemigddeaaGreat
section
section
open Go.RowKit
open L (val dig nth)
def sv (K : Nat) (z x : Int) : Int := z * 2 ^ (x + K).toNat
theorem jg9 (K : Nat) (x : Int) : sv K 0 x = 0 := Int.zero_mul _
theorem jm4 (k : Nat) : (2 : Int) ^ k ≠ 0 := by have := jgf k; omega
theorem jgj {K : Nat} {z x : Int} : sv K z x = 0 ↔ z = 0 := by
  unfold sv
  constructor
  · intro h
    rcases Int.mul_eq_zero.1 h with h | h
    · exact h
    · exact absurd h (jm4 _)
  · rintro rfl; exact Int.zero_mul _
theorem jkp (K : Nat) (z x : Int) (n : Nat) (h : 0 ≤ x + K) : sv K (z * 2 ^ n) x = sv K z (x + n) := by
  unfold sv; rw [show (x + n + K).toNat = n + (x + K).toNat from by omega, Int.pow_add, Int.mul_assoc]
theorem jtc (K : Nat) (a b x : Int) : sv K (a + b) x = sv K a x + sv K b x := Int.add_mul _ _ _
theorem jtd (K : Nat) (a x : Int) : sv K (-a) x = -sv K a x := Int.neg_mul _ _
theorem jte (K J : Nat) (a b x y : Int) (hx : 0 ≤ x + K) (hy : 0 ≤ y + J) : sv (K + J) (a * b) (x + y) = sv K a x * sv J b y := by
  unfold sv; rw [show (x + y + ((K + J : Nat) : Int)).toNat = (x + K).toNat + (y + J).toNat from by omega, Int.pow_add]; simp only [Int.mul_assoc, Int.mul_left_comm]
theorem natAbs_pow (k : Nat) : ((2 : Int) ^ k).natAbs = 2 ^ k := by rw [natpow, Int.natAbs_natCast]
theorem jff (K : Nat) (z x : Int) : (sv K z x).natAbs = z.natAbs * 2 ^ (x + K).toNat := by
  unfold sv; rw [Int.natAbs_mul, natAbs_pow]
theorem jgk (z : Int) : pM z * 2 ^ tz z.natAbs = z := by
  unfold pM
  by_cases h : z = 0
  · subst h; simp
  · refine Int.ediv_mul_cancel ?_
    have h1 := (jfg z.natAbs (by omega)).1; rw [← Int.natAbs_dvd_natAbs, natAbs_pow]; exact ⟨_, by rw [Nat.mul_comm]; exact h1.symm⟩
theorem jha : pM 0 = 0 := by unfold pM; simp
theorem jcr (x : Int) : pE 0 x = 0 := by unfold pE; simp
theorem jm5 (z : Int) : (pM z).natAbs = z.natAbs / 2 ^ tz z.natAbs := by
  have h := congrArg Int.natAbs (jgk z); rw [Int.natAbs_mul, natAbs_pow] at h; exact (Nat.div_eq_of_eq_mul_left (Nat.two_pow_pos _) h.symm).symm
theorem jqx {z : Int} (h : z ≠ 0) : (pM z).natAbs % 2 = 1 := by
  rw [jm5]; exact (jfg z.natAbs (by omega)).2
theorem jur {z : Int} (h : z ≠ 0) : pM z ≠ 0 := by have := jqx h; intro h0; rw [h0] at this; simp at this
theorem jjl {z : Int} (h : z ≠ 0) (x : Int) : pE z x = x + tz z.natAbs := by unfold pE; rw [if_neg h]
def nf (z x : Int) : Prop := (z = 0 ∧ x = 0) ∨ z.natAbs % 2 = 1
theorem jpm (z x : Int) : nf (pM z) (pE z x) := by
  by_cases h : z = 0
  · subst h; exact .inl ⟨jha, jcr x⟩
  · exact .inr (jqx h)
theorem jpn (K : Nat) (z x : Int) (h : 0 ≤ x + K) : sv K (pM z) (pE z x) = sv K z x := by
  by_cases hz : z = 0
  · subst hz; rw [jha, jg9, jg9]
  · rw [jjl hz, ← jkp K _ _ _ h, jgk]
theorem jqy (N n : Nat) (h : N ≠ 0) : tz (N * 2 ^ n) = tz N + n := by
  obtain ⟨h1, h2⟩ := jfg N h; have e : N * 2 ^ n = N / 2 ^ tz N * 2 ^ (tz N + n) := by rw [Nat.pow_add, ← Nat.mul_assoc, h1]
  rw [e, jq0 h2]
theorem jtf (z : Int) (n : Nat) : pM (z * 2 ^ n) = pM z := by
  by_cases h : z = 0
  · subst h; simp [pM]
  · have e := jgk (z * 2 ^ n)
    rw [Int.natAbs_mul, natAbs_pow, jqy _ _ (by omega), Int.pow_add, ← Int.mul_assoc] at e; have e2 := Int.eq_of_mul_eq_mul_right (jm4 n) e; have e3 := jgk z; exact Int.eq_of_mul_eq_mul_right (jm4 (tz z.natAbs)) (e2.trans e3.symm)
theorem jus (K : Nat) (z x : Int) (h : 0 ≤ x + K) : pE (sv K z x) (-K) = pE z x := by
  by_cases hz : z = 0
  · subst hz; rw [jg9, jcr, jcr]
  · rw [jjl (fun h0 => hz (jgj.1 h0)), jjl hz, jff, jqy _ _ (by omega)]
    omega
theorem jtg {z x : Int} (h : nf z x) : pM z = z := by
  rcases h with ⟨rfl, rfl⟩ | h
  · exact jha
  · unfold pM; rw [jkr h]; simp
theorem jut {z x : Int} (h : nf z x) : pE z x = x := by
  rcases h with ⟨rfl, rfl⟩ | h
  · exact jcr 0
  · rw [jjl (by intro h0; subst h0; simp at h), jkr h]; simp
def av (K : Nat) (z x : Int) : Int := sv K (cM z x) (cE z x)
theorem jth {K : Nat} {z x : Int} (h1 : -4000 ≤ x) (h2 : x ≤ 4000) : av K z x = sv K z x := by
  unfold av cM cE
  by_cases hz : z = 0
  · subst hz; simp [jg9]
  · rw [if_neg (by omega), if_neg (by omega)]
theorem jm6 (N n : Nat) (h : N ≠ 0) : nbits (N * 2 ^ n) = nbits N + n := by
  have h1 := je2 N; have h2 := je1 h; have h3 := jc5 h; refine jcs ?_ (.inr ?_)
  · rw [Nat.pow_add]; exact Nat.mul_lt_mul_of_pos_right h1 (Nat.two_pow_pos _)
  · rw [show nbits N + n - 1 = (nbits N - 1) + n from by omega, Nat.pow_add]
    exact Nat.mul_le_mul_right _ h2
def lg (K : Nat) (V : Int) : Int := nbits V.natAbs - 1 - K
theorem jqz (K : Nat) (z x low : Int) (h1 : low ≤ x) (h2 : 0 ≤ low + K) : sv K (z * 2 ^ (x - low).toNat) low = sv K z x := by
  rw [jkp K _ _ _ h2]; congr 1; omega
theorem pE_bounds' {K : Nat} {V : Int} {lo hi : Int} (h0 : V ≠ 0) (hlo : ∃ u : Int, V = sv K u lo) (hl : 0 ≤ lo + K) (hhi : V.natAbs < 2 ^ (hi + K).toNat) (hh : 0 ≤ hi + K) : lo ≤ pE V (-K) ∧ pE V (-K) ≤ hi := by
  obtain ⟨u, rfl⟩ := hlo; have hu : u ≠ 0 := fun h => h0 (jgj.2 h)
  rw [jus K u lo hl]; rw [jjl hu]; rw [jff] at hhi; have ht := jfg u.natAbs (by omega)
  have h1 : 2 ^ (tz u.natAbs + (lo + K).toNat) ≤ u.natAbs * 2 ^ (lo + K).toNat := by
    rw [Nat.pow_add]; refine Nat.mul_le_mul_right _ ?_; have h3 := Nat.le_mul_of_pos_left (2 ^ tz u.natAbs) (Nat.pos_of_ne_zero (n := u.natAbs / 2 ^ tz u.natAbs) (fun h => by rw [h] at ht; have := ht.2; simp at this))
    rwa [ht.1] at h3
  have h2 := (Nat.pow_lt_pow_iff_right (a := 2) (by omega)).1 (Nat.lt_of_le_of_lt h1 hhi)
  omega
end
end
section
section
open Go.RowKit
open L (val dig nth)
def nrBad (z x : Int) : Prop := lgOk z x = false ∨ (cM z x).sign < 0 ∨ lgN z x < -1022 ∨ 1023 < lgN z x
instance (z x : Int) : Decidable (nrBad z x) := by unfold nrBad; infer_instance
def nrM (z x : Int) : Int := scF (cM z x) (cE z x + nearZ (52 - lgN z x))
def nrZ (z x : Int) : Int := nM (nrM z x) (lgN z x - 52)
def nrY (z x : Int) : Int := nE (nrM z x) (lgN z x - 52)
def nrB (z x : Int) : Nat := if nrBad z x then 0 else oB1 (nM (nrZ z x) (nrY z x)) (nE (nrZ z x) (nrY z x))
def nrX (z x : Int) : Int := if nrBad z x then 1 else oX1 (nM (nrZ z x) (nrY z x)) (nE (nrZ z x) (nrY z x))
end
end
section
section
open Go.RowKit
open L (val dig nth)
def Q (w : World) (k : Nat) (n : Bool) (A : Option Addr) (len cap : Nat) (z : Int) : Prop := ∃ d, Nums w 0 (.slice A len cap) d ∧ d.length ≤ k ∧ ival n (val W d) = z
section
variable {w w' : World} {k : Nat} {n : Bool} {A : Option Addr} {len cap : Nat} {z : Int}
theorem Q.below (h : Q w k n A len cap z) (hb : Below w.heap.size w w') : Q w' k n A len cap z := by
  obtain ⟨d, h1, h2, h3⟩ := h; exact ⟨d, h1.below hb, h2, h3⟩
theorem Q.drewN (h : Q w k n A len cap z) (m : Nat) : Q (w.drewN m) k n A len cap z := h
theorem Q.drew (h : Q w k n A len cap z) : Q w.drew k n A len cap z := h
theorem Q.lt (h : Q w k n A len cap z) : z.natAbs < W ^ k := by
  obtain ⟨d, h1, h2, rfl⟩ := h; exact Nat.lt_of_lt_of_le (jc3 h1.lt) (Nat.pow_le_pow_right ja6 h2)
theorem Q.mono {k' : Nat} (h : Q w k n A len cap z) (hk : k ≤ k') : Q w k' n A len cap z := by
  obtain ⟨d, h1, h2, h3⟩ := h; exact ⟨d, h1, by omega, h3⟩
end
def RetD (k : Nat) (z x : Int) (e : Ending) (w : World) : Prop := ∃ n A len cap, e = .returned (.agg #[.bool n, .slice A len cap, .int .i64 x]) ∧ Q w k n A len cap z
def RetI (k : Nat) (z : Int) (e : Ending) (w : World) : Prop := ∃ n A len cap, e = .returned (.agg #[.bool n, .slice A len cap]) ∧ Q w k n A len cap z
section
variable {w : World} {k k' : Nat} {n m : Bool} {A A' : Option Addr} {len cap len' cap' : Nat} {z z' x y : Int}
def vFloor (K : Nat) (V p : Int) : Int := if 0 ≤ p then V * 2 ^ p.toNat / 2 ^ K else V / 2 ^ (K + (-p).toNat)
def vCeil (K : Nat) (V p : Int) : Int := -vFloor K (-V) p
end
def RetDX (k : Nat) (z x er : Int) (e : Ending) (w : World) : Prop := ∃ n A len cap, e = .returned (.tuple #[.agg #[.bool n, .slice A len cap, .int .i64 x], .int .i64 er]) ∧ Q w k n A len cap z
theorem juu (b : Nat) : (rM b).natAbs < W ^ 1 := by
  have : pFrc b < 4503599627370496 := Nat.mod_lt _ (by omega); rw [Nat.pow_one]; unfold rM W; rw [jav]; split <;> omega
theorem juv (b : Nat) : (vM b).natAbs < W ^ 1 := by
  unfold vM
  split
  · rw [Nat.pow_one]; unfold W; omega
  · exact ju1 (juu b)
end
end
end Go.Proofs.YtgbpnpemigddeaaGreat