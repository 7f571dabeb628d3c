/- The value of a dyad, counted in places of 2^-K: what Norm, Sign, Log, Cmp, Add .. say of it. Plain facts. bits: Near. Contracts of dyad in the values' words, for the laws. -/
import Derived.Test.YtfgjlljlgemecaaGreatDyadB
import Derived.Test.YtfgjlljlgemecaaGreatPats
section
set_option linter.unusedVariables false
namespace Go.Proofs.YtfgjlljlgemecaaGreat
open Go.RowKit
open L (val dig nth)
def sv (K : Nat) (z x : Int) : Int := z * 2 ^ (x + K).toNat
theorem sv_zero (K : Nat) (x : Int) : sv K 0 x = 0 := Int.zero_mul _
theorem pow_ne (k : Nat) : (2 : Int) ^ k ≠ 0 := by have := two_pow_int k; omega
theorem sv_eq_zero {K : Nat} {z x : Int} : sv K z x = 0 ↔ z = 0 := by
  unfold sv
  constructor
  · intro h
    rcases Int.mul_eq_zero.1 h with h | h
    · exact h
    · exact absurd h (pow_ne _)
  · rintro rfl; exact Int.zero_mul _
theorem sv_shift (K : Nat) (z x : Int) (n : Nat) (h : 0 ≤ x + K) : sv K (z * 2 ^ n) x = sv K z (x + n) := by
  unfold sv; rw [show (x + n + K).toNat = n + (x + K).toNat from by omega, Int.pow_add, Int.mul_assoc]
theorem sv_add (K : Nat) (a b x : Int) : sv K (a + b) x = sv K a x + sv K b x := Int.add_mul _ _ _
theorem sv_sub (K : Nat) (a b x : Int) : sv K (a - b) x = sv K a x - sv K b x := Int.sub_mul _ _ _
theorem sv_neg (K : Nat) (a x : Int) : sv K (-a) x = -sv K a x := Int.neg_mul _ _
theorem sv_mul (K J : Nat) (a b x y : Int) (hx : 0 ≤ x + K) (hy : 0 ≤ y + J) : sv (K + J) (a * b) (x + y) = sv K a x * sv J b y := by
  unfold sv; rw [show (x + y + ((K + J : Nat) : Int)).toNat = (x + K).toNat + (y + J).toNat from by omega, Int.pow_add]; simp only [Int.mul_assoc, Int.mul_left_comm]
theorem natAbs_pow (k : Nat) : ((2 : Int) ^ k).natAbs = 2 ^ k := by rw [natpow, Int.natAbs_natCast]
theorem sv_natAbs (K : Nat) (z x : Int) : (sv K z x).natAbs = z.natAbs * 2 ^ (x + K).toNat := by
  unfold sv; rw [Int.natAbs_mul, natAbs_pow]
theorem pM_mul (z : Int) : pM z * 2 ^ tz z.natAbs = z := by
  unfold pM
  by_cases h : z = 0
  · subst h; simp
  · refine Int.ediv_mul_cancel ?_
    have h1 := (tz_spec z.natAbs (by omega)).1; rw [← Int.natAbs_dvd_natAbs, natAbs_pow]; exact ⟨_, by rw [Nat.mul_comm]; exact h1.symm⟩
theorem pM_zero : pM 0 = 0 := by unfold pM; simp
theorem pE_zero (x : Int) : pE 0 x = 0 := by unfold pE; simp
theorem pM_natAbs (z : Int) : (pM z).natAbs = z.natAbs / 2 ^ tz z.natAbs := by
  have h := congrArg Int.natAbs (pM_mul z); rw [Int.natAbs_mul, natAbs_pow] at h; exact (Nat.div_eq_of_eq_mul_left (Nat.two_pow_pos _) h.symm).symm
theorem pM_odd {z : Int} (h : z ≠ 0) : (pM z).natAbs % 2 = 1 := by
  rw [pM_natAbs]; exact (tz_spec z.natAbs (by omega)).2
theorem pM_ne {z : Int} (h : z ≠ 0) : pM z ≠ 0 := by have := pM_odd h; intro h0; rw [h0] at this; simp at this
theorem pE_of {z : Int} (h : z ≠ 0) (x : Int) : pE z x = x + tz z.natAbs := by unfold pE; rw [if_neg h]
def nf (z x : Int) : Prop := (z = 0 ∧ x = 0) ∨ z.natAbs % 2 = 1
theorem nf_plain (z x : Int) : nf (pM z) (pE z x) := by
  by_cases h : z = 0
  · subst h; exact .inl ⟨pM_zero, pE_zero x⟩
  · exact .inr (pM_odd h)
theorem sv_plain (K : Nat) (z x : Int) (h : 0 ≤ x + K) : sv K (pM z) (pE z x) = sv K z x := by
  by_cases hz : z = 0
  · subst hz; rw [pM_zero, sv_zero, sv_zero]
  · rw [pE_of hz, ← sv_shift K _ _ _ h, pM_mul]
theorem tz_mul (N n : Nat) (h : N ≠ 0) : tz (N * 2 ^ n) = tz N + n := by
  obtain ⟨h1, h2⟩ := tz_spec N h; have e : N * 2 ^ n = N / 2 ^ tz N * 2 ^ (tz N + n) := by rw [Nat.pow_add, ← Nat.mul_assoc, h1]
  rw [e, tz_pow h2]
theorem pM_pow (z : Int) (n : Nat) : pM (z * 2 ^ n) = pM z := by
  by_cases h : z = 0
  · subst h; simp [pM]
  · have e := pM_mul (z * 2 ^ n)
    rw [Int.natAbs_mul, natAbs_pow, tz_mul _ _ (by omega), Int.pow_add, ← Int.mul_assoc] at e; have e2 := Int.eq_of_mul_eq_mul_right (pow_ne n) e; have e3 := pM_mul z; exact Int.eq_of_mul_eq_mul_right (pow_ne (tz z.natAbs)) (e2.trans e3.symm)
theorem pM_sv (K : Nat) (z x : Int) : pM (sv K z x) = pM z := pM_pow z _
theorem pE_sv (K : Nat) (z x : Int) (h : 0 ≤ x + K) : pE (sv K z x) (-K) = pE z x := by
  by_cases hz : z = 0
  · subst hz; rw [sv_zero, pE_zero, pE_zero]
  · rw [pE_of (fun h0 => hz (sv_eq_zero.1 h0)), pE_of hz, sv_natAbs, tz_mul _ _ (by omega)]
    omega
theorem nf_pM {z x : Int} (h : nf z x) : pM z = z := by
  rcases h with ⟨rfl, rfl⟩ | h
  · exact pM_zero
  · unfold pM; rw [tz_odd h]; simp
theorem nf_pE {z x : Int} (h : nf z x) : pE z x = x := by
  rcases h with ⟨rfl, rfl⟩ | h
  · exact pE_zero 0
  · rw [pE_of (by intro h0; subst h0; simp at h), tz_odd h]; simp
def av (K : Nat) (z x : Int) : Int := sv K (cM z x) (cE z x)
theorem av_of {K : Nat} {z x : Int} (h1 : -4000 ≤ x) (h2 : x ≤ 4000) : av K z x = sv K z x := by
  unfold av cM cE
  by_cases hz : z = 0
  · subst hz; simp [sv_zero]
  · rw [if_neg (by omega), if_neg (by omega)]
theorem nM_eq (K : Nat) (z x : Int) : nM z x = pM (av K z x) := (pM_sv K _ _).symm
theorem nE_eq {K : Nat} (hK : 4000 ≤ K) (z x : Int) : nE z x = pE (av K z x) (-K) := by
  have := cE_bounds z x; exact (pE_sv K _ _ (by omega)).symm
theorem nbits_mul (N n : Nat) (h : N ≠ 0) : nbits (N * 2 ^ n) = nbits N + n := by
  have h1 := nbits_lt N; have h2 := nbits_ge h; have h3 := nbits_pos h; refine nbits_eq ?_ (.inr ?_)
  · rw [Nat.pow_add]; exact Nat.mul_lt_mul_of_pos_right h1 (Nat.two_pow_pos _)
  · rw [show nbits N + n - 1 = (nbits N - 1) + n from by omega, Nat.pow_add]
    exact Nat.mul_le_mul_right _ h2
def lg (K : Nat) (V : Int) : Int := nbits V.natAbs - 1 - K
theorem sv_low (K : Nat) (z x low : Int) (h1 : low ≤ x) (h2 : 0 ≤ low + K) : sv K (z * 2 ^ (x - low).toNat) low = sv K z x := by
  rw [sv_shift K _ _ _ h2]; congr 1; omega
theorem lift_sv (K : Nat) (z x low : Int) (h1 : low ≤ cE z x) (h2 : 0 ≤ low + K) : sv K (lift z x low) low = av K z x := sv_low K _ _ _ h1 h2
theorem sub_eqM (K : Nat) (hK : 4000 ≤ K) (z x z' x' : Int) : pM (lift z x (lowE z x z' x') - lift z' x' (lowE z x z' x')) = pM (av K z x - av K z' x') := by
  have hb := lowE_bounds z x z' x'; rw [← pM_sv K _ (lowE z x z' x'), sv_sub, lift_sv K z x _ (by unfold lowE; omega) (by omega), lift_sv K z' x' _ (by unfold lowE; omega) (by omega)]
theorem sub_eqE (K : Nat) (hK : 4000 ≤ K) (z x z' x' : Int) : pE (lift z x (lowE z x z' x') - lift z' x' (lowE z x z' x')) (lowE z x z' x') = pE (av K z x - av K z' x') (-K) := by
  have hb := lowE_bounds z x z' x'; rw [← pE_sv K _ (lowE z x z' x') (by omega), sv_sub, lift_sv K z x _ (by unfold lowE; omega) (by omega), lift_sv K z' x' _ (by unfold lowE; omega) (by omega)]
theorem pM_neg (V : Int) : pM (-V) = -pM V := by
  have h := pM_mul (-V); rw [Int.natAbs_neg] at h; have h2 := pM_mul V; refine Int.eq_of_mul_eq_mul_right (pow_ne (tz V.natAbs)) ?_; rw [h, Int.neg_mul, h2]
theorem pE_neg (V x : Int) : pE (-V) x = pE V x := by
  unfold pE; rw [Int.natAbs_neg]; simp
theorem neg_eqM (K : Nat) (z x : Int) : pM (-cM z x) = pM (-av K z x) := by rw [pM_neg, pM_neg]; unfold av; rw [pM_sv]
theorem neg_eqE (K : Nat) (hK : 4000 ≤ K) (z x : Int) : pE (-cM z x) (cE z x) = pE (-av K z x) (-K) := by
  have := cE_bounds z x; rw [pE_neg, pE_neg]; unfold av; rw [pE_sv K _ _ (by omega)]
theorem shift_eqM (K : Nat) (z x : Int) : pM (cM z x) = pM (av K z x) := (pM_sv K _ _).symm
theorem pE_add (V x n : Int) : pE V (x + n) = if V = 0 then 0 else pE V x + n := by unfold pE; split <;> omega
theorem pE_bounds' {K : Nat} {V : Int} {lo hi : Int} (h0 : V ≠ 0) (hlo : ∃ u : Int, V = sv K u lo) (hl : 0 ≤ lo + K) (hhi : V.natAbs < 2 ^ (hi + K).toNat) (hh : 0 ≤ hi + K) : lo ≤ pE V (-K) ∧ pE V (-K) ≤ hi := by
  obtain ⟨u, rfl⟩ := hlo; have hu : u ≠ 0 := fun h => h0 (sv_eq_zero.2 h)
  rw [pE_sv K u lo hl]; rw [pE_of hu]; rw [sv_natAbs] at hhi; have ht := tz_spec u.natAbs (by omega)
  have h1 : 2 ^ (tz u.natAbs + (lo + K).toNat) ≤ u.natAbs * 2 ^ (lo + K).toNat := by
    rw [Nat.pow_add]; refine Nat.mul_le_mul_right _ ?_; have h3 := Nat.le_mul_of_pos_left (2 ^ tz u.natAbs) (Nat.pos_of_ne_zero (n := u.natAbs / 2 ^ tz u.natAbs) (fun h => by rw [h] at ht; have := ht.2; simp at this))
    rwa [ht.1] at h3
  have h2 := (Nat.pow_lt_pow_iff_right (a := 2) (by omega)).1 (Nat.lt_of_le_of_lt h1 hhi)
  omega
end Go.Proofs.YtfgjlljlgemecaaGreat
end
section
set_option linter.unusedVariables false
namespace Go.Proofs.YtfgjlljlgemecaaGreat
open Go.RowKit
open L (val dig nth)
def nrBad (z x : Int) : Prop := lgOk z x = false ∨ (cM z x).sign < 0 ∨ lgN z x < -1022 ∨ 1023 < lgN z x
instance (z x : Int) : Decidable (nrBad z x) := by unfold nrBad; infer_instance
def nrM (z x : Int) : Int := scF (cM z x) (cE z x + nearZ (52 - lgN z x))
def nrZ (z x : Int) : Int := nM (nrM z x) (lgN z x - 52)
def nrY (z x : Int) : Int := nE (nrM z x) (lgN z x - 52)
def nrB (z x : Int) : Nat := if nrBad z x then 0 else oB1 (nM (nrZ z x) (nrY z x)) (nE (nrZ z x) (nrY z x))
def nrX (z x : Int) : Int := if nrBad z x then 1 else oX1 (nM (nrZ z x) (nrY z x)) (nE (nrZ z x) (nrY z x))
theorem scF_len {d : List Nat} {m e : Int} {k : Nat} (hd : Canon d (scF m e).natAbs) (hm : m.natAbs < W ^ k) (he : e ≤ 8000) : d.length ≤ k + 125 := by
  unfold scF at hd
  split at hd
  · exact len_mul2 (t := 125) hd hm (by omega)
  · have := len_div2 hd hm; omega
end Go.Proofs.YtfgjlljlgemecaaGreat
end
section
set_option linter.unusedVariables false
namespace Go.Proofs.YtfgjlljlgemecaaGreat
open Go.RowKit
open L (val dig nth)
def Q (w : World) (k : Nat) (n : Bool) (A : Option Addr) (len cap : Nat) (z : Int) : Prop := ∃ d, Nums w 0 (.slice A len cap) d ∧ d.length ≤ k ∧ ival n (val W d) = z
section
variable {w w' : World} {k : Nat} {n : Bool} {A : Option Addr} {len cap : Nat} {z : Int}
theorem Q.below (h : Q w k n A len cap z) (hb : Below w.heap.size w w') : Q w' k n A len cap z := by
  obtain ⟨d, h1, h2, h3⟩ := h; exact ⟨d, h1.below hb, h2, h3⟩
theorem Q.drewN (h : Q w k n A len cap z) (m : Nat) : Q (w.drewN m) k n A len cap z := h
theorem Q.drew (h : Q w k n A len cap z) : Q w.drew k n A len cap z := h
theorem Q.lt (h : Q w k n A len cap z) : z.natAbs < W ^ k := by
  obtain ⟨d, h1, h2, rfl⟩ := h; exact Nat.lt_of_lt_of_le (natAbs_lt h1.lt) (Nat.pow_le_pow_right W_pos h2)
theorem Q.mono {k' : Nat} (h : Q w k n A len cap z) (hk : k ≤ k') : Q w k' n A len cap z := by
  obtain ⟨d, h1, h2, h3⟩ := h; exact ⟨d, h1, by omega, h3⟩
end
def RetD (k : Nat) (z x : Int) (e : Ending) (w : World) : Prop := ∃ n A len cap, e = .returned (.agg #[.bool n, .slice A len cap, .int .i64 x]) ∧ Q w k n A len cap z
def RetI (k : Nat) (z : Int) (e : Ending) (w : World) : Prop := ∃ n A len cap, e = .returned (.agg #[.bool n, .slice A len cap]) ∧ Q w k n A len cap z
theorem Q.of_canon {w : World} {B k : Nat} {u : Value} {d : List Nat} {z : Int} (hu : Nums w B u d) (hd : Canon d z.natAbs) (hz : z.natAbs < W ^ k) :
    ∃ A len cap, u = .slice A len cap ∧ Q w k (decide (z < 0)) A len cap z := by
  obtain ⟨A, cap, rfl⟩ := hu.form; exact ⟨A, d.length, cap, rfl, d, hu.mono (Nat.zero_le _), by rw [hd.len]; exact hz, by rw [hd.val, ival_self]⟩
section
variable {w : World} {k k' : Nat} {n m : Bool} {A A' : Option Addr} {len cap len' cap' : Nat} {z z' x y : Int}
theorem c_sign (h : Q w k n A len cap z) (hk : k ≤ 40000) (hx0 : -9223372036854775808 ≤ x) (hx1 : x ≤ 9223372036854775807) :
    Calls Tryz.prog 49 #[.agg #[.bool n, .slice A len cap, .int .i64 x]] w fun e w' => Below w.heap.size w w' ∧ e = .returned (.int .i64 (cM z x).sign) := by
  obtain ⟨d, h1, h2, rfl⟩ := h; exact sign_dyad_calls w n 0 _ d x h1 (by omega) hx0 hx1
theorem c_log (h : Q w k n A len cap z) (hk : k ≤ 40000) (hx0 : -9223372036854775808 ≤ x) (hx1 : x ≤ 9223372036854775807) :
    Calls Tryz.prog 48 #[.agg #[.bool n, .slice A len cap, .int .i64 x]] w fun e w' => Below w.heap.size w w' ∧ e = .returned (.tuple #[.int .i64 (lgN z x), .bool (lgOk z x)]) := by
  obtain ⟨d, h1, h2, rfl⟩ := h; exact log_dyad_calls w n 0 _ d x h1 (by omega) hx0 hx1
theorem lift_lt {low : Int} (hz : z.natAbs < W ^ k) (hl : -4000 ≤ low) : (lift z x low).natAbs < W ^ (k + 125) := by
  have h := lift_len (d := dig W (lift z x low).natAbs) (x := x) rfl hz hl
  rwa [L.dig_len W_gt] at h
def vFloor (K : Nat) (V p : Int) : Int := if 0 ≤ p then V * 2 ^ p.toNat / 2 ^ K else V / 2 ^ (K + (-p).toNat)
theorem scF_sv (K : Nat) (a b p : Int) (h : 0 ≤ b + K) : scF a (b + p) = vFloor K (sv K a b) p := by
  have hd : ∀ (t : Int) (i j : Nat), t * 2 ^ (i + j) / 2 ^ i = t * 2 ^ j := by
    intro t i j; rw [Int.pow_add, ← Int.mul_assoc, Int.mul_right_comm]; exact Int.mul_ediv_cancel _ (pow_ne i)
  have hq : ∀ (t : Int) (i j : Nat), t * 2 ^ i / 2 ^ (i + j) = t / 2 ^ j := by
    intro t i j; rw [Int.pow_add, Int.mul_comm t]; exact Int.mul_ediv_mul_of_pos _ _ (two_pow_int i)
  unfold scF vFloor sv
  by_cases hp : 0 ≤ p
  · rw [if_pos hp, Int.mul_assoc, ← Int.pow_add]
    by_cases hs : 0 ≤ b + p
    · rw [if_pos hs, show (b + K).toNat + p.toNat = K + (b + p).toNat from by omega, hd]
    · rw [if_neg hs, show K = ((b + K).toNat + p.toNat) + (-(b + p)).toNat from by omega]
      rw [show ((b + ((b + K).toNat + p.toNat + (-(b + p)).toNat : Nat))).toNat + p.toNat = (b + K).toNat + p.toNat from by omega, hq]
  · rw [if_neg hp]
    by_cases hs : 0 ≤ b + p
    · rw [if_pos hs, show (b + K).toNat = (K + (-p).toNat) + (b + p).toNat from by omega, hd]
    · rw [if_neg hs, show K + (-p).toNat = (b + K).toNat + (-(b + p)).toNat from by omega, hq]
theorem scC_scF (a b : Int) : scC a b = -scF (-a) b := by
  unfold scC scF
  split
  · rw [Int.neg_mul, Int.neg_neg]
  · rfl
def vCeil (K : Nat) (V p : Int) : Int := -vFloor K (-V) p
theorem scC_sv (K : Nat) (a b p : Int) (h : 0 ≤ b + K) : scC a (b + p) = vCeil K (sv K a b) p := by
  rw [scC_scF, scF_sv K _ _ _ h, sv_neg]; rfl
theorem scF_lt {a e : Int} (ha : a.natAbs < W ^ k) (he : e ≤ 8000) : (scF a e).natAbs < W ^ (k + 125) := by
  have h := scF_len (d := dig W (scF a e).natAbs) rfl ha he
  rwa [L.dig_len W_gt] at h
end
def RetDX (k : Nat) (z x er : Int) (e : Ending) (w : World) : Prop := ∃ n A len cap, e = .returned (.tuple #[.agg #[.bool n, .slice A len cap, .int .i64 x], .int .i64 er]) ∧ Q w k n A len cap z
theorem rM_lt (b : Nat) : (rM b).natAbs < W ^ 1 := by
  have : pFrc b < 4503599627370496 := Nat.mod_lt _ (by omega); rw [Nat.pow_one]; unfold rM W; rw [ival_natAbs]; split <;> omega
theorem vM_lt (b : Nat) : (vM b).natAbs < W ^ 1 := by
  unfold vM
  split
  · rw [Nat.pow_one]; unfold W; omega
  · exact nM_lt (rM_lt b)
theorem c_value {w : World} (b : Nat) (hb : b < W) :
    Calls Tryz.prog 22 #[.int .u64 b] w fun e w' => Below w.heap.size w w' ∧ RetDX 1 (vM b) (vE b) (vX b) e w' := by
  refine (value_calls w b hb).mono ?_; rintro e w' ⟨hb, u, d, rfl, hu, hd⟩; obtain ⟨A, len, cap, rfl, hq⟩ := Q.of_canon hu hd (vM_lt b); exact ⟨hb, _, A, len, cap, rfl, hq⟩
end Go.Proofs.YtfgjlljlgemecaaGreat
end
