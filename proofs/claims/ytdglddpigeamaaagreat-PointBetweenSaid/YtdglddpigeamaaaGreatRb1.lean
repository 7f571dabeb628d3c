/- The document's balls: Down, Over, Cmp, Right. The document's balls: Point, Recast, Shift. The document's balls: least, greatest, Times. -/
import Derived.Test.YtdglddpigeamaaaGreatBa8
import Derived.Test.YtdglddpigeamaaaGreatRefDC
set_option linter.unusedVariables false
set_option linter.unusedSimpArgs false
namespace Go.Proofs.YtdglddpigeamaaaGreat
section
section
open Go.RowKit
open L (val dig nth)
section
variable {w : World} {k k' : Nat} {n m : Bool} {A A' : Option Addr} {len cap len' cap' : Nat} {z y : Int}
theorem jkl (h : Q w k n A len cap z) (hk : k ≤ 30000) :
    Calls Tryz.prog 87 #[.agg #[.bool n, .slice A len cap]] w fun e w' => Below w.heap.size w w' ∧ RetZ w.heap.size (-z) e w' := by
  obtain ⟨d, h1, h2, rfl⟩ := h; exact jhp w n 0 _ d h1 (by omega)
theorem jxu (h : Q w k n A len cap z) (h' : Q w k' m A' len' cap' y) (hk : k ≤ 30000) (hk' : k' ≤ 30000) :
    Calls Tryz.prog 49 #[.agg #[.bool n, .slice A len cap], .agg #[.bool m, .slice A' len' cap']] w fun e w' => Below w.heap.size w w' ∧ RetZ w.heap.size (z * y) e w' := by
  obtain ⟨d, h1, h2, rfl⟩ := h; obtain ⟨d', h1', h2', rfl⟩ := h'; exact jmg w n m 0 0 _ _ d d' h1 h1' (by omega) (by omega)
theorem jqg (h : Q w k n A len cap z) (h' : Q w k' m A' len' cap' y) (hk : k ≤ 30000) (hk' : k' ≤ 30000) :
    Calls Tryz.prog 50 #[.agg #[.bool n, .slice A len cap], .agg #[.bool m, .slice A' len' cap']] w fun e w' => Below w.heap.size w w' ∧ RetZ w.heap.size (z - y) e w' := by
  obtain ⟨d, h1, h2, rfl⟩ := h; obtain ⟨d', h1', h2', rfl⟩ := h'; exact jmi w n m 0 0 _ _ d d' h1 h1' (by omega) (by omega)
theorem jm6 (h : Q w k n A len cap z) (hk : k ≤ 30000) :
    Calls Tryz.prog 55 #[.agg #[.bool n, .slice A len cap]] w fun e w' => Below w.heap.size w w' ∧ e = .returned (.int .i64 z.sign) := by
  obtain ⟨d, h1, h2, rfl⟩ := h; exact jlf w n 0 _ d h1 (by omega)
theorem jxv (h : Q w k n A len cap z) (hk : k ≤ 30000) (c : Nat) (hc : c ≤ 8000) :
    Calls Tryz.prog 44 #[.agg #[.bool n, .slice A len cap], .int .i64 (c : Nat)] w fun e w' => Below w.heap.size w w' ∧ RetZ w.heap.size (z * 2 ^ c) e w' := by
  obtain ⟨d, h1, h2, rfl⟩ := h; have := jmh w n 0 _ d (c : Int) h1 (by omega) (by omega) (by omega)
  rwa [show clampN (c : Int) = c from by unfold clampN; omega] at this
theorem jxw (h : Q w k n A len cap z) (hk : k ≤ 30000) (c : Nat) (hc : c ≤ 8000) :
    Calls Tryz.prog 188 #[.agg #[.bool n, .slice A len cap], .int .i64 (c : Nat)] w fun e w' => Below w.heap.size w w' ∧ RetZ w.heap.size (z / 2 ^ c) e w' := by
  obtain ⟨d, h1, h2, rfl⟩ := h; have := jmj w n 0 _ d (c : Int) h1 (by omega) (by omega) (by omega)
  rwa [show clampN (c : Int) = c from by unfold clampN; omega] at this
end
set_option maxRecDepth 100000 in
theorem jxx {w : World} {k k' : Nat} {n m : Bool} {A A' : Option Addr} {len cap len' cap' : Nat} {x y : Int} (h : Q w k n A len cap x) (h' : Q w k' m A' len' cap' y) (hk : k ≤ 1000) (hk' : k' ≤ 1000) :
    Calls Tryz.prog 47 #[.agg #[.bool n, .slice A len cap], .agg #[.bool m, .slice A' len' cap']] w fun e w' => Below w.heap.size w w' ∧ e = .returned (.int .i64 (cmpZ x y)) := by
  obtain ⟨W0, hW, ha, hb, hB0, hs⟩ := start2 w 24 24 #[.bool n, .slice A len cap] #[.bool m, .slice A' len' cap']; have HB0 := hide hB0; clear hs hB0; obtain ⟨a0, a1, -, -⟩ := ha.two; obtain ⟨b0, b1, -, -⟩ := hb.two; have HS := hide (jqg (h.at_ HB0) (h'.at_ HB0) (by omega) (by omega)); have hl : (x - y).natAbs < W ^ (k + k' + 1) := jmt (Int.natAbs_sub_le _ _) (Nat.lt_of_lt_of_le h.lt (Nat.pow_le_pow_right jay (by omega))) (Nat.lt_of_lt_of_le h'.lt (Nat.pow_le_pow_right jay (by omega))) (Nat.lt_succ_self (k + k')); rw [jew]; obtain ⟨z, HZ⟩ : ∃ z, Hid (x - y = z) := ⟨_, hide rfl⟩; rw [HZ.out] at HS hl ⊢; have HL := hide hl; obtain ⟨s, HSG⟩ : ∃ s, Hid (z.sign = s) := ⟨_, hide rfl⟩; rw [HSG.out]; clear hl
  go_enter Tryz.func47, Tryz.ntmps47
  go_upto_region 1 with (fail)
  rw [← hW]; clear hW
  go_wp2_with fail
  refine HS.out.mono ?_; rintro e w1 ⟨hb1, u1, d1, rfl, hu1, hd1⟩; obtain ⟨C1, cc1, rfl⟩ := hu1.form; have HB1 := hide (HB0.out.trans (hb1.mono HB0.out.size)); have HG := hide (jm6 (RetZ.q hu1 hd1 HL.out) (by omega)); rw [HSG.out] at HG
  go_wp2_with fail
  refine HG.out.mono ?_; rintro e w2 ⟨hb2, rfl⟩; have HB2 := hide (HB1.out.trans (hb2.mono HB1.out.size))
  go_wp2_with fail
  go_ret
  exact ⟨HB2.out, rfl⟩
end
end
section
section
open Go.RowKit
open L (val dig nth)
end
end
section
section
open Go.RowKit
open L (val dig nth)
theorem Ints.two {w : World} {k B g : Nat} {t : TypeId} {n0 n1 : Bool} {A0 A1 : Option Addr} {l0 l1 c0 c1 : Nat} {z0 z1 : Int}
    (h : Blk w g t #[.bool n0, .slice A0 l0 c0, .bool n1, .slice A1 l1 c1]) (h0 : QB w B k n0 A0 l0 c0 z0) (h1 : QB w B k n1 A1 l1 c1 z1) :
    Ints w k B g 2 (pick n0 n1 n1 n1) (pick A0 A1 A1 A1) (pick l0 l1 l1 l1) (pick c0 c1 c1 c1) (pick z0 z1 z1 z1) := by
  refine ⟨h.lt, fun i hi => ?_, fun i hi => ?_, fun i hi => ?_⟩
  all_goals obtain rfl | rfl : i = 0 ∨ i = 1 := by omega
  · exact h.cell 0
  · exact h.cell 2
  · exact h.cell 1
  · exact h.cell 3
  · exact h0
  · exact h1
end
end
end Go.Proofs.YtdglddpigeamaaaGreat