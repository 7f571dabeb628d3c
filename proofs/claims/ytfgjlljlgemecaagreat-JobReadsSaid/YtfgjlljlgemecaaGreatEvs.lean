/- dyad.Mul; zed.Shl, Sub, Sign, Cmp in the values' words. Contracts of dyad and zed whose results are canonical. The references' Equal: are two integers, two dyads the very same? How far values reach: sums and products of small dyads count. Plain facts. Contracts of dyad with what they come to named by equations: for the laws' walks. -/
import Derived.Test.YtfgjlljlgemecaaGreatSee
import Derived.Test.YtfgjlljlgemecaaGreatRefs
section
set_option linter.unusedVariables false
set_option linter.unusedSimpArgs false
namespace Go.Proofs.YtfgjlljlgemecaaGreat
open Go.RowKit
open L (val dig nth)
theorem mul_lt {a b : Int} {k j : Nat} (ha : a.natAbs < W ^ k) (hb : b.natAbs < W ^ j) : (a * b).natAbs < W ^ (k + j) := by
  rw [Int.natAbs_mul, Nat.pow_add]; exact Nat.mul_lt_mul'' ha hb
section
variable {w : World} {k k' : Nat} {n m : Bool} {A A' : Option Addr} {len cap len' cap' : Nat} {z z' x y : Int}
theorem c_zsign (h : Q w k n A len cap z) (hk : k ≤ 50000) :
    Calls Tryz.prog 36 #[.agg #[.bool n, .slice A len cap]] w fun e w' => Below w.heap.size w w' ∧ e = .returned (.int .i64 z.sign) := by
  obtain ⟨d, h1, h2, h3⟩ := h; exact zsign_eq w n 0 _ d z.sign (by rw [h3]) h1 (by omega)
theorem c_zcmp (h : Q w k n A len cap z) (h' : Q w k' m A' len' cap' z') (hk : k ≤ 50000) (hk' : k' ≤ 50000) :
    Calls Tryz.prog 42 #[.agg #[.bool n, .slice A len cap], .agg #[.bool m, .slice A' len' cap']] w fun e w' => Below w.heap.size w w' ∧ e = .returned (.int .i64 (cmpZ z z')) := by
  obtain ⟨d, h1, h2, rfl⟩ := h; obtain ⟨d', h1', h2', rfl⟩ := h'; exact zcmp_calls w n m 0 0 _ _ d d' h1 h1' (by omega) (by omega)
end
end Go.Proofs.YtfgjlljlgemecaaGreat
end
section
set_option linter.unusedVariables false
set_option linter.unusedSimpArgs false
namespace Go.Proofs.YtfgjlljlgemecaaGreat
open Go.RowKit
open L (val dig nth)
def QC (w : World) (k : Nat) (n : Bool) (A : Option Addr) (len cap : Nat) (z : Int) : Prop := ∃ d, Nums w 0 (.slice A len cap) d ∧ d.length ≤ k ∧ Canon d z.natAbs ∧ n = decide (z < 0)
section
variable {w w' : World} {k : Nat} {n : Bool} {A : Option Addr} {len cap : Nat} {z : Int}
theorem QC.q (h : QC w k n A len cap z) : Q w k n A len cap z := by
  obtain ⟨d, h1, h2, h3, rfl⟩ := h; exact ⟨d, h1, h2, by rw [h3.val, ival_self]⟩
theorem QC.below (h : QC w k n A len cap z) (hb : Below w.heap.size w w') : QC w' k n A len cap z := by
  obtain ⟨d, h1, h2⟩ := h; exact ⟨d, h1.below hb, h2⟩
theorem QC.drew (h : QC w k n A len cap z) : QC w.drew k n A len cap z := h
theorem QC.drewN (h : QC w k n A len cap z) (m : Nat) : QC (w.drewN m) k n A len cap z := h
theorem QC.of_canon {B : Nat} {u : Value} {d : List Nat} (hu : Nums w B u d) (hd : Canon d z.natAbs) (hz : z.natAbs < W ^ k) :
    ∃ A len cap, u = .slice A len cap ∧ QC w k (decide (z < 0)) A len cap z := by
  obtain ⟨A, cap, rfl⟩ := hu.form; exact ⟨A, d.length, cap, rfl, d, hu.mono (Nat.zero_le _), by rw [hd.len]; exact hz, hd, rfl⟩
end
def RetDC (k : Nat) (z x : Int) (e : Ending) (w : World) : Prop := ∃ n A len cap, e = .returned (.agg #[.bool n, .slice A len cap, .int .i64 x]) ∧ QC w k n A len cap z
def RetIC (k : Nat) (z : Int) (e : Ending) (w : World) : Prop := ∃ n A len cap, e = .returned (.agg #[.bool n, .slice A len cap]) ∧ QC w k n A len cap z
theorem RetQ.toDC {B k : Nat} {z x : Int} {e : Ending} {w : World} (h : RetQ B z x e w) (hz : z.natAbs < W ^ k) : RetDC k z x e w := by
  obtain ⟨u, d, rfl, hu, hd⟩ := h; obtain ⟨A, len, cap, rfl, hq⟩ := QC.of_canon hu hd hz; exact ⟨_, A, len, cap, rfl, hq⟩
theorem RetZ.toIC {B k : Nat} {z : Int} {e : Ending} {w : World} (h : RetZ B z e w) (hz : z.natAbs < W ^ k) : RetIC k z e w := by
  obtain ⟨u, d, rfl, hu, hd⟩ := h; obtain ⟨A, len, cap, rfl, hq⟩ := QC.of_canon hu hd hz; exact ⟨_, A, len, cap, rfl, hq⟩
section
variable {w : World} {k k' : Nat} {n m : Bool} {A A' : Option Addr} {len cap len' cap' : Nat} {z z' x y : Int}
theorem cc_of (h : Q w k n A len cap z) (hk : k ≤ 40000) (hx0 : -9223372036854775808 ≤ x) (hx1 : x ≤ 9223372036854775807) :
    Calls Tryz.prog 29 #[.agg #[.bool n, .slice A len cap], .int .i64 x] w fun e w' => Below w.heap.size w w' ∧ RetDC k (nM z x) (nE z x) e w' := by
  have hz := h.lt; obtain ⟨d, h1, h2, rfl⟩ := h; refine (of_dyad_calls w n 0 _ d x h1 (by omega) hx0 hx1).mono ?_; rintro e w' ⟨hb, h⟩; exact ⟨hb, h.toDC (nM_lt hz)⟩
theorem cc_norm (h : Q w k n A len cap z) (hk : k ≤ 40000) (hx0 : -9223372036854775808 ≤ x) (hx1 : x ≤ 9223372036854775807) :
    Calls Tryz.prog 30 #[.agg #[.bool n, .slice A len cap, .int .i64 x]] w fun e w' => Below w.heap.size w w' ∧ RetDC k (nM z x) (nE z x) e w' := by
  have hz := h.lt; obtain ⟨d, h1, h2, rfl⟩ := h; refine (norm_dyad_calls w n 0 _ d x h1 (by omega) hx0 hx1).mono ?_; rintro e w' ⟨hb, h⟩; exact ⟨hb, h.toDC (nM_lt hz)⟩
theorem cc_sub (h : Q w k n A len cap z) (h' : Q w k' m A' len' cap' z') (hk : k ≤ 9000) (hk' : k' ≤ 9000)
    (hx0 : -9223372036854775808 ≤ x) (hx1 : x ≤ 9223372036854775807) (hy0 : -9223372036854775808 ≤ y) (hy1 : y ≤ 9223372036854775807) (K : Nat) (hK : 4000 ≤ K) :
    Calls Tryz.prog 130 #[.agg #[.bool n, .slice A len cap, .int .i64 x], .agg #[.bool m, .slice A' len' cap', .int .i64 y]] w fun e w' => Below w.heap.size w w' ∧
      RetDC (k + k' + 126) (pM (av K z x - av K z' y)) (pE (av K z x - av K z' y) (-K)) e w' := by
  have hz := h.lt; have hz' := h'.lt; obtain ⟨d, h1, h2, rfl⟩ := h; obtain ⟨d', h1', h2', rfl⟩ := h'; refine (sub_dyad_calls w n m 0 0 _ _ d d' x y h1 h1' (by omega) (by omega) hx0 hx1 hy0 hy1).mono ?_; rintro e w' ⟨hb, hr⟩; rw [sub_eqM K hK, sub_eqE K hK] at hr; have hlb := lowE_bounds (ival n (val W d)) x (ival m (val W d')) y; refine ⟨hb, hr.toDC (k := k + k' + 126) ?_⟩; rw [← sub_eqM K hK]; refine pM_lt (two_lt (k := k + k' + 125) (Int.natAbs_sub_le _ _) ?_ ?_ (by omega))
  · exact lift_lt (Nat.lt_of_lt_of_le hz (Nat.pow_le_pow_right W_pos (by omega))) hlb.1
  · exact lift_lt (Nat.lt_of_lt_of_le hz' (Nat.pow_le_pow_right W_pos (by omega))) hlb.1
theorem cc_neg (h : Q w k n A len cap z) (hk : k ≤ 30000) (hx0 : -9223372036854775808 ≤ x) (hx1 : x ≤ 9223372036854775807) (K : Nat) (hK : 4000 ≤ K) :
    Calls Tryz.prog 148 #[.agg #[.bool n, .slice A len cap, .int .i64 x]] w fun e w' => Below w.heap.size w w' ∧ RetDC k (pM (-av K z x)) (pE (-av K z x) (-K)) e w' := by
  have hz := h.lt; obtain ⟨d, h1, h2, rfl⟩ := h; refine (neg_dyad_calls w n 0 _ d x h1 (by omega) hx0 hx1).mono ?_; rintro e w' ⟨hb, h⟩; rw [neg_eqM K, neg_eqE K hK] at h; refine ⟨hb, h.toDC ?_⟩; rw [← neg_eqM K]; exact pM_lt (by rw [Int.natAbs_neg]; exact Nat.lt_of_le_of_lt (cM_le _ x) hz)
theorem cc_shift (h : Q w k n A len cap z) (hk : k ≤ 30000) (hx0 : -9223372036854775808 ≤ x) (hx1 : x ≤ 9223372036854775807) (K : Nat) (hK : 4000 ≤ K) (p : Int) :
    Calls Tryz.prog 140 #[.agg #[.bool n, .slice A len cap, .int .i64 x], .int .i64 p] w fun e w' => Below w.heap.size w w' ∧
      RetDC k (pM (av K z x)) (pE (av K z x) (nearZ p - K)) e w' := by
  have hz := h.lt; obtain ⟨d, h1, h2, rfl⟩ := h; refine (shift_dyad_calls w n 0 _ d x p h1 (by omega) hx0 hx1).mono ?_; rintro e w' ⟨hb, h⟩; have hcb := cE_bounds (ival n (val W d)) x
  rw [shift_eqM K, show pE (cM (ival n (val W d)) x) (cE (ival n (val W d)) x + nearZ p) = pE (av K (ival n (val W d)) x) (nearZ p - K) from by
    rw [pE_add, show nearZ p - (K : Int) = -K + nearZ p from by omega, pE_add]; unfold av; rw [pE_sv K _ _ (by omega)]
    by_cases h0 : cM (ival n (val W d)) x = 0
    · rw [h0, if_pos rfl, if_pos (sv_zero _ _)]
    · rw [if_neg h0, if_neg (fun hh => h0 (sv_eq_zero.1 hh))]] at h
  refine ⟨hb, h.toDC ?_⟩; rw [← shift_eqM K]; exact pM_lt (Nat.lt_of_le_of_lt (cM_le _ x) hz)
theorem cc_floor (h : Q w k n A len cap z) (hk : k ≤ 9000) (hx0 : -9223372036854775808 ≤ x) (hx1 : x ≤ 9223372036854775807) (K : Nat) (hK : 4000 ≤ K) (p : Int) :
    Calls Tryz.prog 123 #[.agg #[.bool n, .slice A len cap, .int .i64 x], .int .i64 p] w fun e w' => Below w.heap.size w w' ∧ RetIC (k + 125) (vFloor K (av K z x) (nearZ p)) e w' := by
  have hz := h.lt; obtain ⟨d, h1, h2, rfl⟩ := h; refine (floor_dyad_calls w n 0 _ d x p h1 (by omega) hx0 hx1).mono ?_; rintro e w' ⟨hb, h⟩; have hcb := cE_bounds (ival n (val W d)) x; have hnb := nearZ_bounds p; have hlt := scF_lt (e := cE (ival n (val W d)) x + nearZ p) (Nat.lt_of_le_of_lt (cM_le _ x) hz) (by omega); rw [scF_sv K _ _ _ (by omega)] at h hlt; exact ⟨hb, h.toIC hlt⟩
theorem cc_ceil (h : Q w k n A len cap z) (hk : k ≤ 9000) (hx0 : -9223372036854775808 ≤ x) (hx1 : x ≤ 9223372036854775807) (K : Nat) (hK : 4000 ≤ K) (p : Int) :
    Calls Tryz.prog 124 #[.agg #[.bool n, .slice A len cap, .int .i64 x], .int .i64 p] w fun e w' => Below w.heap.size w w' ∧ RetIC (k + 125) (vCeil K (av K z x) (nearZ p)) e w' := by
  have hz := h.lt; obtain ⟨d, h1, h2, rfl⟩ := h; refine (ceil_dyad_calls w n 0 _ d x p h1 (by omega) hx0 hx1).mono ?_; rintro e w' ⟨hb, h⟩; have hcb := cE_bounds (ival n (val W d)) x; have hnb := nearZ_bounds p; have hlt := scF_lt (a := -cM (ival n (val W d)) x) (e := cE (ival n (val W d)) x + nearZ p) (k := k) (by rw [Int.natAbs_neg]; exact Nat.lt_of_le_of_lt (cM_le _ x) hz) (by omega); rw [← Int.natAbs_neg, ← scC_scF] at hlt; rw [scC_sv K _ _ _ (by omega)] at h hlt; exact ⟨hb, h.toIC hlt⟩
end
end Go.Proofs.YtfgjlljlgemecaaGreat
end
section
set_option linter.unusedVariables false
set_option linter.unusedSimpArgs false
namespace Go.Proofs.YtfgjlljlgemecaaGreat
open Go.RowKit
open L (val dig nth)
end Go.Proofs.YtfgjlljlgemecaaGreat
end
section
set_option linter.unusedVariables false
namespace Go.Proofs.YtfgjlljlgemecaaGreat
open Go.RowKit
open L (val dig nth)
def InV (K : Nat) (lo hi V : Int) : Prop := 0 ≤ lo + K ∧ 0 ≤ hi + K ∧ (∃ u : Int, V = sv K u lo) ∧ V.natAbs < 2 ^ (hi + K).toNat
section
variable {K J : Nat} {lo hi lo' hi' V V' : Int}
theorem InV.mono (h : InV K lo hi V) (h1 : lo' ≤ lo) (h2 : 0 ≤ lo' + K) (h3 : hi ≤ hi') : InV K lo' hi' V := by
  obtain ⟨a, b, ⟨u, hu⟩, c⟩ := h; refine ⟨h2, by omega, ⟨u * 2 ^ (lo - lo').toNat, ?_⟩, Nat.lt_of_lt_of_le c (Nat.pow_le_pow_right (by omega) (by omega))⟩; rw [sv_low K u lo lo' h1 h2]; exact hu
theorem two_pow_step {a b : Nat} {e : Int} (he : 0 ≤ e) (ha : a < 2 ^ e.toNat) (hb : b < 2 ^ e.toNat) : a + b < 2 ^ (e + 1).toNat := by
  rw [show (e + 1).toNat = e.toNat + 1 from by omega, Nat.pow_succ]; omega
theorem InV.add (h : InV K lo hi V) (h' : InV K lo hi V') : InV K lo (hi + 1) (V + V') := by
  obtain ⟨a, b, ⟨u, hu⟩, c⟩ := h; obtain ⟨a', b', ⟨u', hu'⟩, c'⟩ := h'; refine ⟨a, by omega, ⟨u + u', by rw [sv_add, ← hu, ← hu']⟩, Nat.lt_of_le_of_lt (Int.natAbs_add_le _ _) ?_⟩; rw [show hi + 1 + (K : Int) = hi + K + 1 from by omega]; exact two_pow_step b c c'
theorem InV.neg (h : InV K lo hi V) : InV K lo hi (-V) := by
  obtain ⟨a, b, ⟨u, hu⟩, c⟩ := h; exact ⟨a, b, ⟨-u, by rw [sv_neg, ← hu]⟩, by rw [Int.natAbs_neg]; exact c⟩
theorem InV.sub (h : InV K lo hi V) (h' : InV K lo hi V') : InV K lo (hi + 1) (V - V') := by
  rw [Int.sub_eq_add_neg]; exact h.add h'.neg
theorem InV.mul (h : InV K lo hi V) (h' : InV J lo' hi' V') : InV (K + J) (lo + lo') (hi + hi') (V * V') := by
  obtain ⟨a, b, ⟨u, hu⟩, c⟩ := h; obtain ⟨a', b', ⟨u', hu'⟩, c'⟩ := h'; refine ⟨by omega, by omega, ⟨u * u', by rw [sv_mul K J _ _ _ _ a a', ← hu, ← hu']⟩, ?_⟩; rw [Int.natAbs_mul, show (hi + hi' + ((K + J : Nat) : Int)).toNat = (hi + K).toNat + (hi' + J).toNat from by omega, Nat.pow_add]; exact Nat.mul_lt_mul'' c c'
theorem InV.pE (h : InV K lo hi V) : V = 0 ∧ pE V (-K) = 0 ∨ lo ≤ pE V (-K) ∧ pE V (-K) ≤ hi := by
  by_cases h0 : V = 0
  · left; subst h0; exact ⟨rfl, pE_zero _⟩
  · right
    obtain ⟨a, b, hu, c⟩ := h; exact pE_bounds' h0 hu a c b
theorem sv_self (K : Nat) (V : Int) : sv K V (-K) = V := by
  unfold sv; rw [show (-(K : Int) + K).toNat = 0 from by omega, Int.pow_zero, Int.mul_one]
theorem InV.av (h : InV K lo hi V) (h1 : -4000 ≤ lo) (h2 : hi ≤ 4000) : Proofs.YtfgjlljlgemecaaGreat.av K (pM V) (Proofs.YtfgjlljlgemecaaGreat.pE V (-K)) = V := by
  have hb := h.pE; rw [av_of (by omega) (by omega), sv_plain K V _ (by omega), sv_self]
theorem InV.bd (h : InV K lo hi V) (h1 : -4000 ≤ lo) (h2 : hi ≤ 4000) : -4000 ≤ Proofs.YtfgjlljlgemecaaGreat.pE V (-K) ∧ Proofs.YtfgjlljlgemecaaGreat.pE V (-K) ≤ 4000 := by
  have hb := h.pE
  omega
end
theorem InV.small {K : Nat} (hK : 4000 ≤ K) {z x : Int} {k : Nat} {m : Int} (hz : z.natAbs < W ^ k) (hx : -m ≤ x ∧ x ≤ m) (hm : m ≤ 4000) (hm0 : 0 ≤ m) : InV K (-m) (64 * k + m) (Proofs.YtfgjlljlgemecaaGreat.av K z x) := by
  rw [av_of (by omega) (by omega)]; refine ⟨by omega, by omega, ⟨z * 2 ^ (x - -m).toNat, by rw [sv_low K z x (-m) (by omega) (by omega)]⟩, ?_⟩; rw [sv_natAbs, show (64 * (k : Int) + m + K).toNat = 64 * k + (m + K).toNat from by omega, Nat.pow_add]; rw [W_pow] at hz; exact Nat.lt_of_lt_of_le (Nat.mul_lt_mul_of_pos_right hz (Nat.two_pow_pos _)) (Nat.mul_le_mul_left _ (Nat.pow_le_pow_right (by omega) (by omega)))
theorem tmod_bd (x : Int) (m : Nat) (hm : 0 < m) : -((m : Int) - 1) ≤ x.tmod m ∧ x.tmod m ≤ (m : Int) - 1 := by
  have h1 := Int.natAbs_tmod x m; rw [Int.natAbs_natCast] at h1; have h2 := Nat.mod_lt x.natAbs hm
  omega
theorem cmpZ_sub (a b : Int) : cmpZ a b = (a - b).sign := by
  unfold cmpZ
  rcases sign_cases (a - b) with ⟨h, h'⟩ | ⟨h, h'⟩ | ⟨h, h'⟩ <;> rw [h]
  · rw [if_pos (by omega)]
  · rw [if_neg (by omega), if_neg (by omega)]
  · rw [if_neg (by omega), if_pos (by omega)]
end Go.Proofs.YtfgjlljlgemecaaGreat
end
section
set_option linter.unusedVariables false
set_option linter.unusedSimpArgs false
namespace Go.Proofs.YtfgjlljlgemecaaGreat
open Go.RowKit
open L (val dig nth)
theorem z_shl_lt {z : Int} {k c t : Nat} (hz : z.natAbs < W ^ k) (hc : c ≤ 64 * t) : (z * 2 ^ c).natAbs < W ^ (k + t) := by
  have := len_mul2 (d := dig W (z * 2 ^ c).natAbs) (k := k) (n := c) (t := t) (z := z) rfl hz hc
  rwa [L.dig_len W_gt] at this
theorem z_shl {w : World} {k : Nat} {n : Bool} {A : Option Addr} {len cap : Nat} {z : Int} (h : Q w k n A len cap z) (hk : k ≤ 50000) (c : Nat) (hc : c ≤ 8000) :
    Calls Tryz.prog 37 #[.agg #[.bool n, .slice A len cap], .int .i64 (c : Nat)] w fun e w' => Below w.heap.size w w' ∧ RetZ w.heap.size (z * 2 ^ c) e w' := by
  obtain ⟨d, h1, h2, rfl⟩ := h; exact zshl_eq w n 0 _ d c c _ h1 (by omega) (by omega) (by omega) rfl rfl
section
variable {w : World} {k k' : Nat} {n m : Bool} {A A' : Option Addr} {len cap len' cap' : Nat} {z z' x y V V' zz xx : Int}
theorem e_sub (K : Nat) (h : Q w k n A len cap z) (h' : Q w k' m A' len' cap' z') (hK : 4000 ≤ K) (hk : k ≤ 9000) (hk' : k' ≤ 9000) (hx : -100000 ≤ x ∧ x ≤ 100000) (hy : -100000 ≤ y ∧ y ≤ 100000)
    (hV : av K z x = V) (hV' : av K z' y = V') (hz : pM (V - V') = zz) (hxx : pE (V - V') (-K) = xx) :
    Calls Tryz.prog 130 #[.agg #[.bool n, .slice A len cap, .int .i64 x], .agg #[.bool m, .slice A' len' cap', .int .i64 y]] w fun e w' => Below w.heap.size w w' ∧ RetDC (k + k' + 126) zz xx e w' := by
  have := cc_sub (x := x) (y := y) h h' hk hk' (by omega) (by omega) (by omega) (by omega) K hK
  rwa [hV, hV', hz, hxx] at this
theorem e_norm (K : Nat) (h : Q w k n A len cap z) (hK : 4000 ≤ K) (hk : k ≤ 9000) (hx : -100000 ≤ x ∧ x ≤ 100000) (hV : av K z x = V) (hz : pM V = zz) (hxx : pE V (-K) = xx) :
    Calls Tryz.prog 30 #[.agg #[.bool n, .slice A len cap, .int .i64 x]] w fun e w' => Below w.heap.size w w' ∧ RetDC k zz xx e w' := by
  have := cc_norm (x := x) h (by omega) (by omega) (by omega)
  rwa [nM_eq K, nE_eq hK, hV, hz, hxx] at this
theorem e_neg (K : Nat) (h : Q w k n A len cap z) (hK : 4000 ≤ K) (hk : k ≤ 9000) (hx : -100000 ≤ x ∧ x ≤ 100000) (hV : av K z x = V) (hz : pM (-V) = zz) (hxx : pE (-V) (-K) = xx) :
    Calls Tryz.prog 148 #[.agg #[.bool n, .slice A len cap, .int .i64 x]] w fun e w' => Below w.heap.size w w' ∧ RetDC k zz xx e w' := by
  have := cc_neg (x := x) h (by omega) (by omega) (by omega) K hK
  rwa [hV, hz, hxx] at this
theorem e_shift (K : Nat) (p : Int) (h : Q w k n A len cap z) (hK : 4000 ≤ K) (hk : k ≤ 9000) (hx : -100000 ≤ x ∧ x ≤ 100000) (hV : av K z x = V) (hz : pM V = zz) (hxx : pE V (nearZ p - K) = xx) :
    Calls Tryz.prog 140 #[.agg #[.bool n, .slice A len cap, .int .i64 x], .int .i64 p] w fun e w' => Below w.heap.size w w' ∧ RetDC k zz xx e w' := by
  have := cc_shift (x := x) h (by omega) (by omega) (by omega) K hK p
  rwa [hV, hz, hxx] at this
theorem e_floor (K : Nat) (p : Int) (h : Q w k n A len cap z) (hK : 4000 ≤ K) (hk : k ≤ 9000) (hx : -100000 ≤ x ∧ x ≤ 100000) (hV : av K z x = V) (hz : vFloor K V (nearZ p) = zz) :
    Calls Tryz.prog 123 #[.agg #[.bool n, .slice A len cap, .int .i64 x], .int .i64 p] w fun e w' => Below w.heap.size w w' ∧ RetIC (k + 125) zz e w' := by
  have := cc_floor (x := x) h (by omega) (by omega) (by omega) K hK p
  rwa [hV, hz] at this
theorem e_ceil (K : Nat) (p : Int) (h : Q w k n A len cap z) (hK : 4000 ≤ K) (hk : k ≤ 9000) (hx : -100000 ≤ x ∧ x ≤ 100000) (hV : av K z x = V) (hz : vCeil K V (nearZ p) = zz) :
    Calls Tryz.prog 124 #[.agg #[.bool n, .slice A len cap, .int .i64 x], .int .i64 p] w fun e w' => Below w.heap.size w w' ∧ RetIC (k + 125) zz e w' := by
  have := cc_ceil (x := x) h (by omega) (by omega) (by omega) K hK p
  rwa [hV, hz] at this
theorem e_of (h : Q w k n A len cap z) (hk : k ≤ 9000) (hx : -100000 ≤ x ∧ x ≤ 100000) (hz : nM z x = zz) (hxx : nE z x = xx) :
    Calls Tryz.prog 29 #[.agg #[.bool n, .slice A len cap], .int .i64 x] w fun e w' => Below w.heap.size w w' ∧ RetDC k zz xx e w' := by
  have := cc_of (x := x) h (by omega) (by omega) (by omega)
  rwa [hz, hxx] at this
end
end Go.Proofs.YtfgjlljlgemecaaGreat
end
