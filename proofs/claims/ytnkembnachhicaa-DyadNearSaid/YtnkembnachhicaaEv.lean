/- Contracts of dyad with what they come to named by equations: for the laws' walks. -/
import Derived.Test.YtnkembnachhicaaIn
set_option linter.unusedVariables false
set_option linter.unusedSimpArgs false
namespace Go.Proofs.Ytnkembnachhicaa
open Go.RowKit
open L (val dig nth)

theorem z_shl_lt {z : Int} {k c t : Nat} (hz : z.natAbs < W ^ k) (hc : c ≤ 64 * t) : (z * 2 ^ c).natAbs < W ^ (k + t) := by
  have := len_mul2 (d := dig W (z * 2 ^ c).natAbs) (k := k) (n := c) (t := t) (z := z) rfl hz hc
  rwa [L.dig_len W_gt] at this
theorem z_shl {w : World} {k : Nat} {n : Bool} {A : Option Addr} {len cap : Nat} {z : Int} (h : Q w k n A len cap z) (hk : k ≤ 50000) (c : Nat) (hc : c ≤ 8000) :
    Calls Try.prog 61 #[.agg #[.bool n, .slice A len cap], .int .i64 (c : Nat)] w fun e w' => Below w.heap.size w w' ∧ RetZ w.heap.size (z * 2 ^ c) e w' := by
  obtain ⟨d, h1, h2, rfl⟩ := h
  exact zshl_eq w n 0 _ d c c _ h1 (by omega) (by omega) (by omega) rfl rfl
theorem z_sign {w : World} {k : Nat} {n : Bool} {A : Option Addr} {len cap : Nat} {z c : Int} (h : Q w k n A len cap z) (hk : k ≤ 50000) (hc : z.sign = c) :
    Calls Try.prog 45 #[.agg #[.bool n, .slice A len cap]] w fun e w' => Below w.heap.size w w' ∧ e = .returned (.int .i64 c) := hc ▸ c_zsign h hk
theorem z_cmp {w : World} {k k' : Nat} {n m : Bool} {A A' : Option Addr} {len cap len' cap' : Nat} {z z' c : Int} (h : Q w k n A len cap z) (h' : Q w k' m A' len' cap' z') (hk : k ≤ 50000) (hk' : k' ≤ 50000) (hc : cmpZ z z' = c) :
    Calls Try.prog 46 #[.agg #[.bool n, .slice A len cap], .agg #[.bool m, .slice A' len' cap']] w fun e w' => Below w.heap.size w w' ∧ e = .returned (.int .i64 c) := hc ▸ c_zcmp h h' hk hk'
section
variable {w : World} {k k' : Nat} {n m : Bool} {A A' : Option Addr} {len cap len' cap' : Nat} {z z' x y V V' zz xx : Int}
theorem e_add (K : Nat) (h : Q w k n A len cap z) (h' : Q w k' m A' len' cap' z') (hK : 4000 ≤ K) (hk : k ≤ 9000) (hk' : k' ≤ 9000) (hx : -100000 ≤ x ∧ x ≤ 100000) (hy : -100000 ≤ y ∧ y ≤ 100000)
    (hV : av K z x = V) (hV' : av K z' y = V') (hz : pM (V + V') = zz) (hxx : pE (V + V') (-K) = xx) :
    Calls Try.prog 50 #[.agg #[.bool n, .slice A len cap, .int .i64 x], .agg #[.bool m, .slice A' len' cap', .int .i64 y]] w fun e w' => Below w.heap.size w w' ∧ RetDC (k + k' + 126) zz xx e w' := by
  have := cc_add (x := x) (y := y) h h' hk hk' (by omega) (by omega) (by omega) (by omega) K hK
  rwa [hV, hV', hz, hxx] at this
theorem e_sub (K : Nat) (h : Q w k n A len cap z) (h' : Q w k' m A' len' cap' z') (hK : 4000 ≤ K) (hk : k ≤ 9000) (hk' : k' ≤ 9000) (hx : -100000 ≤ x ∧ x ≤ 100000) (hy : -100000 ≤ y ∧ y ≤ 100000)
    (hV : av K z x = V) (hV' : av K z' y = V') (hz : pM (V - V') = zz) (hxx : pE (V - V') (-K) = xx) :
    Calls Try.prog 52 #[.agg #[.bool n, .slice A len cap, .int .i64 x], .agg #[.bool m, .slice A' len' cap', .int .i64 y]] w fun e w' => Below w.heap.size w w' ∧ RetDC (k + k' + 126) zz xx e w' := by
  have := cc_sub (x := x) (y := y) h h' hk hk' (by omega) (by omega) (by omega) (by omega) K hK
  rwa [hV, hV', hz, hxx] at this
theorem e_mul (K J : Nat) (h : Q w k n A len cap z) (h' : Q w k' m A' len' cap' z') (hK : 4000 ≤ K) (hJ : 4000 ≤ J) (hk : k ≤ 9000) (hk' : k' ≤ 9000) (hx : -100000 ≤ x ∧ x ≤ 100000) (hy : -100000 ≤ y ∧ y ≤ 100000)
    (hV : av K z x = V) (hV' : av J z' y = V') (hz : pM (V * V') = zz) (hxx : pE (V * V') (-((K + J : Nat) : Int)) = xx) :
    Calls Try.prog 54 #[.agg #[.bool n, .slice A len cap, .int .i64 x], .agg #[.bool m, .slice A' len' cap', .int .i64 y]] w fun e w' => Below w.heap.size w w' ∧ RetDC (k + k') zz xx e w' := by
  have := cc_mul (x := x) (y := y) h h' hk hk' (by omega) (by omega) (by omega) (by omega) K J hK hJ
  rwa [hV, hV', hz, hxx] at this
theorem e_norm (K : Nat) (h : Q w k n A len cap z) (hK : 4000 ≤ K) (hk : k ≤ 9000) (hx : -100000 ≤ x ∧ x ≤ 100000) (hV : av K z x = V) (hz : pM V = zz) (hxx : pE V (-K) = xx) :
    Calls Try.prog 32 #[.agg #[.bool n, .slice A len cap, .int .i64 x]] w fun e w' => Below w.heap.size w w' ∧ RetDC k zz xx e w' := by
  have := cc_norm (x := x) h (by omega) (by omega) (by omega)
  rwa [nM_eq K, nE_eq hK, hV, hz, hxx] at this
theorem e_neg (K : Nat) (h : Q w k n A len cap z) (hK : 4000 ≤ K) (hk : k ≤ 9000) (hx : -100000 ≤ x ∧ x ≤ 100000) (hV : av K z x = V) (hz : pM (-V) = zz) (hxx : pE (-V) (-K) = xx) :
    Calls Try.prog 56 #[.agg #[.bool n, .slice A len cap, .int .i64 x]] w fun e w' => Below w.heap.size w w' ∧ RetDC k zz xx e w' := by
  have := cc_neg (x := x) h (by omega) (by omega) (by omega) K hK
  rwa [hV, hz, hxx] at this
theorem e_shift (K : Nat) (p : Int) (h : Q w k n A len cap z) (hK : 4000 ≤ K) (hk : k ≤ 9000) (hx : -100000 ≤ x ∧ x ≤ 100000) (hV : av K z x = V) (hz : pM V = zz) (hxx : pE V (nearZ p - K) = xx) :
    Calls Try.prog 43 #[.agg #[.bool n, .slice A len cap, .int .i64 x], .int .i64 p] w fun e w' => Below w.heap.size w w' ∧ RetDC k zz xx e w' := by
  have := cc_shift (x := x) h (by omega) (by omega) (by omega) K hK p
  rwa [hV, hz, hxx] at this
theorem e_floor (K : Nat) (p : Int) (h : Q w k n A len cap z) (hK : 4000 ≤ K) (hk : k ≤ 9000) (hx : -100000 ≤ x ∧ x ≤ 100000) (hV : av K z x = V) (hz : vFloor K V (nearZ p) = zz) :
    Calls Try.prog 17 #[.agg #[.bool n, .slice A len cap, .int .i64 x], .int .i64 p] w fun e w' => Below w.heap.size w w' ∧ RetIC (k + 125) zz e w' := by
  have := cc_floor (x := x) h (by omega) (by omega) (by omega) K hK p
  rwa [hV, hz] at this
theorem e_ceil (K : Nat) (p : Int) (h : Q w k n A len cap z) (hK : 4000 ≤ K) (hk : k ≤ 9000) (hx : -100000 ≤ x ∧ x ≤ 100000) (hV : av K z x = V) (hz : vCeil K V (nearZ p) = zz) :
    Calls Try.prog 19 #[.agg #[.bool n, .slice A len cap, .int .i64 x], .int .i64 p] w fun e w' => Below w.heap.size w w' ∧ RetIC (k + 125) zz e w' := by
  have := cc_ceil (x := x) h (by omega) (by omega) (by omega) K hK p
  rwa [hV, hz] at this
theorem e_of (h : Q w k n A len cap z) (hk : k ≤ 9000) (hx : -100000 ≤ x ∧ x ≤ 100000) (hz : nM z x = zz) (hxx : nE z x = xx) :
    Calls Try.prog 34 #[.agg #[.bool n, .slice A len cap], .int .i64 x] w fun e w' => Below w.heap.size w w' ∧ RetDC k zz xx e w' := by
  have := cc_of (x := x) h (by omega) (by omega) (by omega)
  rwa [hz, hxx] at this
theorem e_cmp (K : Nat) {c : Int} (h : Q w k n A len cap z) (h' : Q w k' m A' len' cap' z') (hK : 4000 ≤ K) (hk : k ≤ 9000) (hk' : k' ≤ 9000) (hx : -100000 ≤ x ∧ x ≤ 100000) (hy : -100000 ≤ y ∧ y ≤ 100000)
    (hV : av K z x = V) (hV' : av K z' y = V') (hc : cmpZ V V' = c) :
    Calls Try.prog 40 #[.agg #[.bool n, .slice A len cap, .int .i64 x], .agg #[.bool m, .slice A' len' cap', .int .i64 y]] w fun e w' => Below w.heap.size w w' ∧ e = .returned (.int .i64 c) := by
  have := c_cmp (x := x) (y := y) h h' hk hk' (by omega) (by omega) (by omega) (by omega) K hK
  rwa [hV, hV', hc] at this
theorem e_sign (K : Nat) {c : Int} (h : Q w k n A len cap z) (hk : k ≤ 9000) (hx : -100000 ≤ x ∧ x ≤ 100000) (hV : av K z x = V) (hc : V.sign = c) :
    Calls Try.prog 38 #[.agg #[.bool n, .slice A len cap, .int .i64 x]] w fun e w' => Below w.heap.size w w' ∧ e = .returned (.int .i64 c) := by
  have := c_sign (x := x) h (by omega) (by omega) (by omega)
  rwa [sign_eq K, hV, hc] at this
theorem e_log (K : Nat) {c : Int} {b : Bool} (h : Q w k n A len cap z) (hK : 4000 ≤ K) (hk : k ≤ 9000) (hx : -100000 ≤ x ∧ x ≤ 100000) (hV : av K z x = V) (hc : (if V = 0 then 0 else lg K V) = c) (hb : decide (V ≠ 0) = b) :
    Calls Try.prog 36 #[.agg #[.bool n, .slice A len cap, .int .i64 x]] w fun e w' => Below w.heap.size w w' ∧ e = .returned (.tuple #[.int .i64 c, .bool b]) := by
  have := c_log (x := x) h (by omega) (by omega) (by omega)
  rw [lgOk_eq K, hV, hb] at this
  rw [← hc]
  by_cases h0 : V = 0
  · rw [if_pos h0]; rwa [lgN_zero z x (hV.trans h0)] at this
  · rw [if_neg h0]; rwa [lgN_eq hK z x (by rw [hV]; exact h0), hV] at this
theorem e_eq (h : QC w k n A len cap z) (h' : QC w k' m A' len' cap' z') (hz : z = z') (hx : x = y) :
    Calls Try.prog 27 #[.agg #[.bool n, .slice A len cap, .int .i64 x], .agg #[.bool m, .slice A' len' cap', .int .i64 y]] w fun e w' => Below w.heap.size w w' ∧ e = .returned (.bool true) := by
  have := eqD_calls (x := x) (x' := y) h h'
  rw [show (decide (z = z') && (x == y)) = true from by subst hz hx; simp] at this
  exact this
end
end Go.Proofs.Ytnkembnachhicaa
