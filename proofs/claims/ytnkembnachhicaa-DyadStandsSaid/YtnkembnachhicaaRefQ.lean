/- The document's dyads in the values' words: sums and the like. -/
import Derived.Test.YtnkembnachhicaaRefDC
import Derived.Test.YtnkembnachhicaaRefC
set_option linter.unusedVariables false
set_option linter.unusedSimpArgs false
namespace Go.Proofs.Ytnkembnachhicaa
open Go.RowKit
open L (val dig nth)

section
variable {w : World} {k k' j : Nat} {n m : Bool} {A A' : Option Addr} {len cap len' cap' : Nat} {z z' x y zz xx : Int}
theorem p_norm  (h : Q w k n A len cap z) (hk : k ≤ 1000) (hx0 : -9223372036854775808 ≤ x) (hx1 : x ≤ 9223372036854775807) (hz : nM z x = zz) (hxx : nE z x = xx) :
    Calls Try.prog 32 #[.agg #[.bool n, .slice A len cap, .int .i64 x]] w fun e w' => Below w.heap.size w w' ∧ RetDC (k) zz xx e w' := by
  have := cc_norm (x := x) h (by omega) hx0 hx1
  rwa [hz, hxx] at this
theorem r_norm  (h : Q w k n A len cap z) (hk : k ≤ 1000) (hx0 : -9223372036854775808 ≤ x) (hx1 : x ≤ 9223372036854775807) (hz : nM z x = zz) (hxx : nE z x = xx) (hlt : zz.natAbs < W ^ j) :
    Calls Try.prog 33 #[.agg #[.bool n, .slice A len cap, .int .i64 x]] w fun e w' => Below w.heap.size w w' ∧ RetDC j zz xx e w' := by
  obtain ⟨d, h1, h2, rfl⟩ := h
  have := normDR_calls w n 0 _ d x h1 (by omega) hx0 hx1
  rw [hz, hxx] at this
  exact this.mono fun e w' hh => ⟨hh.1, hh.2.toDC hlt⟩
theorem p_of  (h : Q w k n A len cap z) (hk : k ≤ 1000) (hx0 : -9223372036854775808 ≤ x) (hx1 : x ≤ 9223372036854775807) (hz : nM z x = zz) (hxx : nE z x = xx) :
    Calls Try.prog 34 #[.agg #[.bool n, .slice A len cap], .int .i64 x] w fun e w' => Below w.heap.size w w' ∧ RetDC (k) zz xx e w' := by
  have := cc_of (x := x) h (by omega) hx0 hx1
  rwa [hz, hxx] at this
theorem r_of  (h : Q w k n A len cap z) (hk : k ≤ 1000) (hx0 : -9223372036854775808 ≤ x) (hx1 : x ≤ 9223372036854775807) (hz : nM z x = zz) (hxx : nE z x = xx) (hlt : zz.natAbs < W ^ j) :
    Calls Try.prog 35 #[.agg #[.bool n, .slice A len cap], .int .i64 x] w fun e w' => Below w.heap.size w w' ∧ RetDC j zz xx e w' := by
  obtain ⟨d, h1, h2, rfl⟩ := h
  have := ofDR_calls w n 0 _ d x h1 (by omega) hx0 hx1
  rw [hz, hxx] at this
  exact this.mono fun e w' hh => ⟨hh.1, hh.2.toDC hlt⟩
theorem p_neg (K : Nat) (h : Q w k n A len cap z) (hK : 4000 ≤ K) (hk : k ≤ 1000) (hx0 : -9223372036854775808 ≤ x) (hx1 : x ≤ 9223372036854775807) (hz : pM (-av K z x) = zz) (hxx : pE (-av K z x) (-K) = xx) :
    Calls Try.prog 56 #[.agg #[.bool n, .slice A len cap, .int .i64 x]] w fun e w' => Below w.heap.size w w' ∧ RetDC (k) zz xx e w' := by
  have := cc_neg (x := x) h (by omega) hx0 hx1 K hK
  rwa [hz, hxx] at this
theorem r_neg (K : Nat) (h : Q w k n A len cap z) (hK : 4000 ≤ K) (hk : k ≤ 1000) (hx0 : -9223372036854775808 ≤ x) (hx1 : x ≤ 9223372036854775807) (hz : pM (-av K z x) = zz) (hxx : pE (-av K z x) (-K) = xx) (hlt : zz.natAbs < W ^ j) :
    Calls Try.prog 57 #[.agg #[.bool n, .slice A len cap, .int .i64 x]] w fun e w' => Below w.heap.size w w' ∧ RetDC j zz xx e w' := by
  obtain ⟨d, h1, h2, rfl⟩ := h
  have := negDR_calls w n 0 _ d x K h1 (by omega) hx0 hx1 hK
  rw [hz, hxx] at this
  exact this.mono fun e w' hh => ⟨hh.1, hh.2.toDC hlt⟩
theorem p_shift (K : Nat) (q : Int) (h : Q w k n A len cap z) (hK : 4000 ≤ K) (hk : k ≤ 1000) (hx0 : -9223372036854775808 ≤ x) (hx1 : x ≤ 9223372036854775807) (hz : pM (av K z x) = zz) (hxx : pE (av K z x) (nearZ q - K) = xx) :
    Calls Try.prog 43 #[.agg #[.bool n, .slice A len cap, .int .i64 x], .int .i64 q] w fun e w' => Below w.heap.size w w' ∧ RetDC (k) zz xx e w' := by
  have := cc_shift (x := x) h (by omega) hx0 hx1 K hK q
  rwa [hz, hxx] at this
theorem r_shift (K : Nat) (q : Int) (h : Q w k n A len cap z) (hK : 4000 ≤ K) (hk : k ≤ 1000) (hx0 : -9223372036854775808 ≤ x) (hx1 : x ≤ 9223372036854775807) (hz : pM (av K z x) = zz) (hxx : pE (av K z x) (nearZ q - K) = xx) (hlt : zz.natAbs < W ^ j) :
    Calls Try.prog 58 #[.agg #[.bool n, .slice A len cap, .int .i64 x], .int .i64 q] w fun e w' => Below w.heap.size w w' ∧ RetDC j zz xx e w' := by
  obtain ⟨d, h1, h2, rfl⟩ := h
  have := shiftDR_calls w n 0 _ d x q K h1 (by omega) hx0 hx1 hK
  rw [hz, hxx] at this
  exact this.mono fun e w' hh => ⟨hh.1, hh.2.toDC hlt⟩
theorem p_add (K : Nat) (h : Q w k n A len cap z) (h' : Q w k' m A' len' cap' z') (hK : 4000 ≤ K) (hk : k ≤ 1000) (hk' : k' ≤ 1000) (hx0 : -9223372036854775808 ≤ x) (hx1 : x ≤ 9223372036854775807) (hy0 : -9223372036854775808 ≤ y) (hy1 : y ≤ 9223372036854775807) (hz : pM (av K z x + av K z' y) = zz) (hxx : pE (av K z x + av K z' y) (-K) = xx) :
    Calls Try.prog 50 #[.agg #[.bool n, .slice A len cap, .int .i64 x], .agg #[.bool m, .slice A' len' cap', .int .i64 y]] w fun e w' => Below w.heap.size w w' ∧ RetDC (k + k' + 126) zz xx e w' := by
  have := cc_add (x := x) (y := y) h h' (by omega) (by omega) hx0 hx1 hy0 hy1 K hK
  rwa [hz, hxx] at this
theorem r_add (K : Nat) (h : Q w k n A len cap z) (h' : Q w k' m A' len' cap' z') (hK : 4000 ≤ K) (hk : k ≤ 1000) (hk' : k' ≤ 1000) (hx0 : -9223372036854775808 ≤ x) (hx1 : x ≤ 9223372036854775807) (hy0 : -9223372036854775808 ≤ y) (hy1 : y ≤ 9223372036854775807) (hz : pM (av K z x + av K z' y) = zz) (hxx : pE (av K z x + av K z' y) (-K) = xx) (hlt : zz.natAbs < W ^ j) :
    Calls Try.prog 51 #[.agg #[.bool n, .slice A len cap, .int .i64 x], .agg #[.bool m, .slice A' len' cap', .int .i64 y]] w fun e w' => Below w.heap.size w w' ∧ RetDC j zz xx e w' := by
  obtain ⟨d, h1, h2, rfl⟩ := h
  obtain ⟨d', h1', h2', rfl⟩ := h'
  have := addDR_calls w n m 0 0 _ _ d d' x y K h1 h1' (by omega) (by omega) hx0 hx1 hy0 hy1 hK
  rw [hz, hxx] at this
  exact this.mono fun e w' hh => ⟨hh.1, hh.2.toDC hlt⟩
theorem p_sub (K : Nat) (h : Q w k n A len cap z) (h' : Q w k' m A' len' cap' z') (hK : 4000 ≤ K) (hk : k ≤ 1000) (hk' : k' ≤ 1000) (hx0 : -9223372036854775808 ≤ x) (hx1 : x ≤ 9223372036854775807) (hy0 : -9223372036854775808 ≤ y) (hy1 : y ≤ 9223372036854775807) (hz : pM (av K z x - av K z' y) = zz) (hxx : pE (av K z x - av K z' y) (-K) = xx) :
    Calls Try.prog 52 #[.agg #[.bool n, .slice A len cap, .int .i64 x], .agg #[.bool m, .slice A' len' cap', .int .i64 y]] w fun e w' => Below w.heap.size w w' ∧ RetDC (k + k' + 126) zz xx e w' := by
  have := cc_sub (x := x) (y := y) h h' (by omega) (by omega) hx0 hx1 hy0 hy1 K hK
  rwa [hz, hxx] at this
theorem r_sub (K : Nat) (h : Q w k n A len cap z) (h' : Q w k' m A' len' cap' z') (hK : 4000 ≤ K) (hk : k ≤ 1000) (hk' : k' ≤ 1000) (hx0 : -9223372036854775808 ≤ x) (hx1 : x ≤ 9223372036854775807) (hy0 : -9223372036854775808 ≤ y) (hy1 : y ≤ 9223372036854775807) (hz : pM (av K z x - av K z' y) = zz) (hxx : pE (av K z x - av K z' y) (-K) = xx) (hlt : zz.natAbs < W ^ j) :
    Calls Try.prog 53 #[.agg #[.bool n, .slice A len cap, .int .i64 x], .agg #[.bool m, .slice A' len' cap', .int .i64 y]] w fun e w' => Below w.heap.size w w' ∧ RetDC j zz xx e w' := by
  obtain ⟨d, h1, h2, rfl⟩ := h
  obtain ⟨d', h1', h2', rfl⟩ := h'
  have := subDR_calls w n m 0 0 _ _ d d' x y K h1 h1' (by omega) (by omega) hx0 hx1 hy0 hy1 hK
  rw [hz, hxx] at this
  exact this.mono fun e w' hh => ⟨hh.1, hh.2.toDC hlt⟩
theorem p_mul (K : Nat) (h : Q w k n A len cap z) (h' : Q w k' m A' len' cap' z') (hK : 4000 ≤ K) (hk : k ≤ 1000) (hk' : k' ≤ 1000) (hx0 : -9223372036854775808 ≤ x) (hx1 : x ≤ 9223372036854775807) (hy0 : -9223372036854775808 ≤ y) (hy1 : y ≤ 9223372036854775807) (hz : pM (av K z x * av K z' y) = zz) (hxx : pE (av K z x * av K z' y) (-((K + K : Nat) : Int)) = xx) :
    Calls Try.prog 54 #[.agg #[.bool n, .slice A len cap, .int .i64 x], .agg #[.bool m, .slice A' len' cap', .int .i64 y]] w fun e w' => Below w.heap.size w w' ∧ RetDC (k + k') zz xx e w' := by
  have := cc_mul (x := x) (y := y) h h' (by omega) (by omega) hx0 hx1 hy0 hy1 K K hK hK
  rwa [hz, hxx] at this
theorem r_mul (K : Nat) (h : Q w k n A len cap z) (h' : Q w k' m A' len' cap' z') (hK : 4000 ≤ K) (hk : k ≤ 1000) (hk' : k' ≤ 1000) (hx0 : -9223372036854775808 ≤ x) (hx1 : x ≤ 9223372036854775807) (hy0 : -9223372036854775808 ≤ y) (hy1 : y ≤ 9223372036854775807) (hz : pM (av K z x * av K z' y) = zz) (hxx : pE (av K z x * av K z' y) (-((K + K : Nat) : Int)) = xx) (hlt : zz.natAbs < W ^ j) :
    Calls Try.prog 55 #[.agg #[.bool n, .slice A len cap, .int .i64 x], .agg #[.bool m, .slice A' len' cap', .int .i64 y]] w fun e w' => Below w.heap.size w w' ∧ RetDC j zz xx e w' := by
  obtain ⟨d, h1, h2, rfl⟩ := h
  obtain ⟨d', h1', h2', rfl⟩ := h'
  have := mulDR_calls w n m 0 0 _ _ d d' x y K K h1 h1' (by omega) (by omega) hx0 hx1 hy0 hy1 hK hK
  rw [hz, hxx] at this
  exact this.mono fun e w' hh => ⟨hh.1, hh.2.toDC hlt⟩
theorem p_sign {c : Int} (h : Q w k n A len cap z) (hk : k ≤ 1000) (hx0 : -9223372036854775808 ≤ x) (hx1 : x ≤ 9223372036854775807) (hc : (cM z x).sign = c) :
    Calls Try.prog 38 #[.agg #[.bool n, .slice A len cap, .int .i64 x]] w fun e w' => Below w.heap.size w w' ∧ e = .returned (.int .i64 c) := by
  have := c_sign (x := x) h (by omega) hx0 hx1
  rwa [hc] at this
theorem p_log {c : Int} {b : Bool} (h : Q w k n A len cap z) (hk : k ≤ 1000) (hx0 : -9223372036854775808 ≤ x) (hx1 : x ≤ 9223372036854775807) (hc : lgN z x = c) (hb : lgOk z x = b) :
    Calls Try.prog 36 #[.agg #[.bool n, .slice A len cap, .int .i64 x]] w fun e w' => Below w.heap.size w w' ∧ e = .returned (.tuple #[.int .i64 c, .bool b]) := by
  have := c_log (x := x) h (by omega) hx0 hx1
  rwa [hc, hb] at this
theorem p_cmp {c : Int} (K : Nat) (h : Q w k n A len cap z) (h' : Q w k' m A' len' cap' z') (hK : 4000 ≤ K) (hk : k ≤ 1000) (hk' : k' ≤ 1000) (hx0 : -9223372036854775808 ≤ x) (hx1 : x ≤ 9223372036854775807) (hy0 : -9223372036854775808 ≤ y) (hy1 : y ≤ 9223372036854775807) (hc : (av K z x - av K z' y).sign = c) :
    Calls Try.prog 40 #[.agg #[.bool n, .slice A len cap, .int .i64 x], .agg #[.bool m, .slice A' len' cap', .int .i64 y]] w fun e w' => Below w.heap.size w w' ∧ e = .returned (.int .i64 c) := by
  have := c_cmp (x := x) (y := y) h h' (by omega) (by omega) hx0 hx1 hy0 hy1 K hK
  rwa [cmpZ_sub, hc] at this
theorem r_sign {c : Int} (h : Q w k n A len cap z) (hk : k ≤ 1000) (hx0 : -9223372036854775808 ≤ x) (hx1 : x ≤ 9223372036854775807) (hc : (cM z x).sign = c) :
    Calls Try.prog 39 #[.agg #[.bool n, .slice A len cap, .int .i64 x]] w fun e w' => Below w.heap.size w w' ∧ e = .returned (.int .i64 c) := by
  obtain ⟨d, h1, h2, rfl⟩ := h
  have := signDR_calls w n 0 _ d x h1 (by omega) hx0 hx1
  rwa [hc] at this
theorem r_log {c : Int} {b : Bool} (h : Q w k n A len cap z) (hk : k ≤ 1000) (hx0 : -9223372036854775808 ≤ x) (hx1 : x ≤ 9223372036854775807) (hc : lgN z x = c) (hb : lgOk z x = b) :
    Calls Try.prog 37 #[.agg #[.bool n, .slice A len cap, .int .i64 x]] w fun e w' => Below w.heap.size w w' ∧ e = .returned (.tuple #[.int .i64 c, .bool b]) := by
  obtain ⟨d, h1, h2, rfl⟩ := h
  have := logDR_calls w n 0 _ d x h1 (by omega) hx0 hx1
  rwa [hc, hb] at this
theorem r_cmp {c : Int} (K : Nat) (h : Q w k n A len cap z) (h' : Q w k' m A' len' cap' z') (hK : 4000 ≤ K) (hk : k ≤ 1000) (hk' : k' ≤ 1000) (hx0 : -9223372036854775808 ≤ x) (hx1 : x ≤ 9223372036854775807) (hy0 : -9223372036854775808 ≤ y) (hy1 : y ≤ 9223372036854775807) (hc : (av K z x - av K z' y).sign = c) :
    Calls Try.prog 41 #[.agg #[.bool n, .slice A len cap, .int .i64 x], .agg #[.bool m, .slice A' len' cap', .int .i64 y]] w fun e w' => Below w.heap.size w w' ∧ e = .returned (.int .i64 c) := by
  obtain ⟨d, h1, h2, rfl⟩ := h
  obtain ⟨d', h1', h2', rfl⟩ := h'
  have := cmpDR_calls w n m 0 0 _ _ d d' x y K h1 h1' (by omega) (by omega) hx0 hx1 hy0 hy1 hK
  rwa [hc] at this
end
end Go.Proofs.Ytnkembnachhicaa
