/- The references' Equal: are two integers, two dyads the very same? -/
import Derived.Test.YtnkembnachhicaaCon2
set_option linter.unusedVariables false
set_option linter.unusedSimpArgs false
namespace Go.Proofs.Ytnkembnachhicaa
open Go.RowKit
open L (val dig nth)

theorem canon_eq {d d' : List Nat} {z z' : Int} (hd : Canon d z.natAbs) (hd' : Canon d' z'.natAbs) : ((d == d') && (decide (z < 0) == decide (z' < 0))) = decide (z = z') := by
  by_cases h : z = z'
  · subst h
    have : d = d' := by rw [show d = dig W z.natAbs from hd, show d' = dig W z.natAbs from hd']
    subst this
    simp
  · rw [decide_eq_false h]
    by_cases hn : decide (z < 0) = decide (z' < 0)
    · have hne : d ≠ d' := by
        rintro rfl
        have h1 : z.natAbs = z'.natAbs := hd.val.symm.trans hd'.val
        rw [decide_eq_decide] at hn
        omega
      rw [beq_eq_false_iff_ne.2 hne]; rfl
    · rw [beq_eq_false_iff_ne.2 hn, Bool.and_false]

set_option maxRecDepth 100000 in
theorem eqI_calls {w : World} {k k' : Nat} {n m : Bool} {A A' : Option Addr} {len cap len' cap' : Nat} {z z' : Int} (h : QC w k n A len cap z) (h' : QC w k' m A' len' cap' z') :
    Calls Try.prog 16 #[.agg #[.bool n, .slice A len cap], .agg #[.bool m, .slice A' len' cap']] w fun e w' => Below w.heap.size w w' ∧ e = .returned (.bool (decide (z = z'))) := by
  obtain ⟨d, h1, -, h3, hn⟩ := h
  obtain ⟨d', h1', -, h3', hm⟩ := h'
  have HE := hide (canon_eq h3 h3')
  rw [← hn, ← hm] at HE
  clear h3 h3' hn hm
  obtain ⟨r, HR⟩ : ∃ r, Hid (decide (z = z') = r) := ⟨_, hide rfl⟩
  rw [HR.out] at HE ⊢
  obtain ⟨b, HB⟩ : ∃ b, Hid ((d == d') = b) := ⟨_, hide rfl⟩
  rw [HB.out] at HE
  obtain ⟨W0, hW, hbx, hby, hB0, hs⟩ := start2 w 24 24 #[.bool n, .slice A len cap] #[.bool m, .slice A' len' cap']
  have g1 := h1.up hB0
  have g2 := h1'.up hB0
  clear hs
  obtain ⟨c0, c1, -, -⟩ := hbx.two
  obtain ⟨c2, c3, -, -⟩ := hby.two
  go_enter Try.func16, Try.ntmps16
  go_upto_region 1 with (fail)
  rw [← hW]
  clear hW
  have HP := sameR_calls W0 0 0 _ _ d d' g1 g2
  rw [HB.out] at HP
  go_wp2_with fail
  refine HP.mono ?_
  rintro e w1 ⟨hb1, rfl⟩
  clear HP
  have hB1 := hb1.below W0.heap.size
  have hbx1 := hbx.below hB1 hbx.lt
  have hby1 := hby.below hB1 hby.lt
  obtain ⟨e0, e1, -, -⟩ := hbx1.two
  obtain ⟨e2, e3, -, -⟩ := hby1.two
  cases b with
  | false =>
    rw [Bool.false_and] at HE
    have hr := HE.out
    subst hr
    go_wp2_with fail
    go_ret
    exact ⟨hB0.trans (hB1.mono hB0.size), rfl⟩
  | true =>
    rw [Bool.true_and] at HE
    go_wp2_with fail
    go_ret
    exact ⟨hB0.trans (hB1.mono hB0.size), by rw [← HE.out]; rfl⟩

set_option maxRecDepth 100000 in
theorem eqD_calls {w : World} {k k' : Nat} {n m : Bool} {A A' : Option Addr} {len cap len' cap' : Nat} {z z' x x' : Int} (h : QC w k n A len cap z) (h' : QC w k' m A' len' cap' z') :
    Calls Try.prog 27 #[.agg #[.bool n, .slice A len cap, .int .i64 x], .agg #[.bool m, .slice A' len' cap', .int .i64 x']] w fun e w' => Below w.heap.size w w' ∧ e = .returned (.bool (decide (z = z') && (x == x'))) := by
  obtain ⟨r, HR⟩ : ∃ r, Hid (decide (z = z') = r) := ⟨_, hide rfl⟩
  rw [HR.out]
  obtain ⟨W0, hW, hbx, hby, hB0, hs⟩ := start2 w 26 26 #[.bool n, .slice A len cap, .int .i64 x] #[.bool m, .slice A' len' cap', .int .i64 x']
  have g1 := h.below hB0
  have g2 := h'.below hB0
  clear hs
  obtain ⟨c0, c1, c2, -, -, -⟩ := hbx.three
  obtain ⟨d0, d1, d2, -, -, -⟩ := hby.three
  go_enter Try.func27, Try.ntmps27
  go_upto_region 1 with (fail)
  rw [← hW]
  clear hW
  have HP := eqI_calls g1 g2
  rw [HR.out] at HP
  go_wp2_with fail
  refine HP.mono ?_
  rintro e w1 ⟨hb1, rfl⟩
  clear HP
  have hbx1 := hbx.below hb1 hbx.lt
  have hby1 := hby.below hb1 hby.lt
  obtain ⟨e0, e1, e2, -, -, -⟩ := hbx1.three
  obtain ⟨f0, f1, f2, -, -, -⟩ := hby1.three
  cases r with
  | false =>
    go_wp2_with fail
    go_ret
    exact ⟨hB0.trans (hb1.mono hB0.size), rfl⟩
  | true =>
    go_wp2_with fail
    go_ret
    exact ⟨hB0.trans (hb1.mono hB0.size), rfl⟩
end Go.Proofs.Ytnkembnachhicaa
