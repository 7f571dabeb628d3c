/- law03's 'of' and 'small'. -/
import Derived.Test.YtnkembnachhicaaCut
import Derived.Test.YtnkembnachhicaaOrd
set_option linter.unusedVariables false
set_option linter.unusedSimpArgs false
namespace Go.Proofs.Ytnkembnachhicaa
open Go.RowKit
open L (val dig nth)

set_option maxRecDepth 100000 in
theorem of3_calls (w : World) (n e : Int) (hn0 : -9223372036854775808 ≤ n) (hn1 : n ≤ 9223372036854775807) (he0 : -9223372036854775808 ≤ e) (he1 : e ≤ 9223372036854775807) :
    Calls Try.prog 60 #[.int .i64 n, .int .i64 e] w fun e' w' => Below w.heap.size w w' ∧ RetD 1 (nM n e) (nE n e) e' w' := by
  obtain ⟨W0, hW, hrs, hB0, hs⟩ := start1 w 26 #[.bool false, .slice none 0 0, .int .i64 0]
  have hs2 : w.heap.size < W0.heap.size := by omega
  clear hs
  obtain ⟨z, HZ⟩ : ∃ z, Hid (nM n e = z) := ⟨_, hide rfl⟩
  obtain ⟨y, HY⟩ : ∃ z, Hid (nE n e = z) := ⟨_, hide rfl⟩
  rw [HZ.out, HY.out]
  go_enter Try.func60, Try.ntmps60
  go_upto_region 1 with (fail)
  rw [← hW]
  clear hW
  go_wp2_with fail
  refine (c_zof n hn0 hn1).mono ?_
  rintro e1 w1 ⟨hb1, n1, A1, l1, k1, rfl, hq1⟩
  have hrs1 := hrs.below hb1 hs2
  have s1 := hb1.size
  obtain ⟨d1, g1, g2, g3⟩ := hq1
  have HP := of_dyad_calls w1 n1 0 _ d1 e g1 (by omega) he0 he1
  rw [g3, HZ.out, HY.out] at HP
  have hzl : z.natAbs < W ^ 1 := by
    rw [← HZ.out]; refine nM_lt ?_
    rw [Nat.pow_one]; unfold W; omega
  go_wp2_with fail
  refine HP.mono ?_
  rintro e1 w2 ⟨hb2, u2, d2, rfl, hu2, hd2⟩
  clear HP
  have hrs2 := hrs1.below hb2 (by omega)
  have s2 := hb2.size
  obtain ⟨A2, cap2, rfl⟩ := hu2.form
  obtain ⟨f0, f1, f2, f3, f4, f5⟩ := hrs2.three
  go_wp2_with fail
  refine bodyPost_ret (results_dyad rfl _ _ _ _ _ _ _ rfl (((hrs2.set_ 0 _).set_ 1 _).set_ 2 _)) rfl ⟨below3 ((hB0.trans (hb1.mono hB0.size)).trans (hb2.mono (by omega))) (by omega) _ _ _, ?_⟩
  exact ⟨_, A2, _, cap2, rfl, d2, (nums_low3 hu2 (by omega) _ _ _).mono (Nat.zero_le _), by rw [hd2.len]; exact hzl, by rw [hd2.val, ival_self]⟩

/-- A struct of three cells stored over another; a second block stays. -/
theorem set3_two {w : World} {r g : Nat} {t t' : TypeId} {a b c : Value} {cs : Array Value} (h : Blk w r t #[a, b, c]) (hg : Blk w g t' cs) (hne : g ≠ r) (x y u : Value) :
    ∃ W2, W2 = ((w.setCell ⟨r, 0, none⟩ x).setCell ⟨r, 1, none⟩ y).setCell ⟨r, 2, none⟩ u ∧ Blk W2 r t #[x, y, u] ∧ Blk W2 g t' cs ∧
    (∀ B v l, r < B → Nums w B v l → Nums W2 B v l) ∧ W2.heap.size = w.heap.size ∧ (∀ B w0, Below B w0 w → B ≤ r → Below B w0 W2) := by
  refine ⟨_, rfl, ?_, ((hg.far hne x).far hne y).far hne u, fun B v l hr hn => nums_low3 hn hr _ _ _, by simp, fun B w0 hb hr => ((hb.setCell (p := ⟨r, 0, none⟩) hr x).setCell (p := ⟨r, 1, none⟩) hr y).setCell (p := ⟨r, 2, none⟩) hr u⟩
  have := ((h.set_ 0 x).set_ 1 y).set_ 2 u
  simpa using this
theorem set1_two {w : World} {r g : Nat} {t t' : TypeId} {a b c : Value} {cs : Array Value} (h : Blk w r t #[a, b, c]) (hg : Blk w g t' cs) (hne : g ≠ r) (u : Value) :
    ∃ W2, W2 = w.setCell ⟨r, 2, none⟩ u ∧ Blk W2 r t #[a, b, u] ∧ Blk W2 g t' cs ∧
    (∀ B v l, r < B → Nums w B v l → Nums W2 B v l) ∧ W2.heap.size = w.heap.size ∧ (∀ B w0, Below B w0 w → B ≤ r → Below B w0 W2) := by
  refine ⟨_, rfl, ?_, hg.far hne u, fun B v l hr hn => hn.set_low (p := ⟨r, 2, none⟩) hr u, by simp, fun B w0 hb hr => hb.setCell (p := ⟨r, 2, none⟩) hr u⟩
  have := h.set_ 2 u
  simpa using this
set_option maxRecDepth 100000 in
theorem small3_calls (w : World) (n : Bool) (A : Option Addr) (len cap : Nat) (x : Int) (L : List Nat) (h : Nums w 0 (.slice A len cap) L) :
    Calls Try.prog 42 #[.agg #[.bool n, .slice A len cap, .int .i64 x]] w fun e w' => Below w.heap.size w w' ∧ RetDB w.heap.size 4 (ival n (val W (L.take 4))) (x.tmod 600) e w' := by
  obtain ⟨W0, hW, hbx, hrs, hB0, hs⟩ := start2 w 26 26 #[.bool n, .slice A len cap, .int .i64 x] #[.bool false, .slice none 0 0, .int .i64 0]
  have h0 := h.up hB0
  have hs2 : w.heap.size + 1 < W0.heap.size := by omega
  clear hs
  obtain ⟨c0, c1, c2, -, -, -⟩ := hbx.three
  obtain ⟨z, HZ⟩ : ∃ z, Hid (ival n (val W (L.take 4)) = z) := ⟨_, hide rfl⟩
  rw [HZ.out]
  go_enter Try.func42, Try.ntmps42
  go_upto_region 1 with (fail)
  rw [← hW]
  clear hW
  have HP := cut3_calls W0 n A len cap x 4 L h0 (by omega)
  rw [HZ.out] at HP
  go_wp2_with fail
  refine HP.mono ?_
  rintro e1 w1 ⟨hb1, n1, A1, l1, k1, d1, rfl, hq1, hd1, hv1⟩
  clear HP c0 c1 c2
  have hbx1 := hbx.below hb1 (by omega)
  have hrs1 := hrs.below hb1 (by omega)
  have s1 := hb1.size
  obtain ⟨i0, i1, i2, i3, i4, i5⟩ := hbx1.three
  obtain ⟨w2, hW2, hbx2, hrs2, hk2, hs2', hB2⟩ := set3_two hbx1 hrs1 (by omega) (.bool n1) (.slice A1 l1 k1) (.int .i64 x)
  have hq2 := hk2 _ _ _ (by omega) hq1
  have HB2 := hide (hB2 _ _ (hB0.trans (hb1.mono hB0.size)) (Nat.le_refl _))
  clear hB2 hk2
  go_upto_region 2 with (fail)
  rw [← hW2]
  clear hW2 i0 i1 i2 i3 i4 i5
  obtain ⟨i0, i1, i2, i3, i4, i5⟩ := hbx2.three
  obtain ⟨w3, hW3, hbx3, hrs3, hk3, hs3, hB3⟩ := set1_two hbx2 hrs2 (by omega) (.int .i64 (x.tmod 600))
  have hq3 := hk3 _ _ _ (by omega) hq2
  have HB3 := hide (hB3 _ _ HB2.out (Nat.le_refl _))
  clear hB3 hk3
  go_upto_region 3 with (fail)
  rw [← hW3]
  clear hW3 i0 i1 i2 i3 i4 i5
  obtain ⟨i0, i1, i2, i3, i4, i5⟩ := hbx3.three
  obtain ⟨j0, j1, j2, j3, j4, j5⟩ := hrs3.three
  go_wp2_with fail
  refine bodyPost_ret (results_dyad rfl _ _ _ _ _ _ _ rfl (((hrs3.set_ 0 _).set_ 1 _).set_ 2 _)) rfl ⟨below3 HB3.out (by omega) _ _ _, ?_⟩
  exact ⟨_, A1, _, k1, d1, rfl, (nums_low3 hq3 (by omega) _ _ _).mono hB0.size, hd1, hv1⟩
/-- A struct of three cells stored over another. -/
theorem set3_all {w : World} {r : Nat} {t : TypeId} {a b c : Value} (h : Blk w r t #[a, b, c]) (x y u : Value) :
    ∃ W2, W2 = ((w.setCell ⟨r, 0, none⟩ x).setCell ⟨r, 1, none⟩ y).setCell ⟨r, 2, none⟩ u ∧ Blk W2 r t #[x, y, u] ∧ (∀ g t' cs, g ≠ r → Blk w g t' cs → Blk W2 g t' cs) ∧
    (∀ B v l, r < B → Nums w B v l → Nums W2 B v l) ∧ W2.heap.size = w.heap.size ∧ (∀ B w0, Below B w0 w → B ≤ r → Below B w0 W2) := by
  refine ⟨_, rfl, ?_, fun g t' cs hne hg => ((hg.far hne x).far hne y).far hne u, fun B v l hr hn => nums_low3 hn hr _ _ _, by simp, fun B w0 hb hr => ((hb.setCell (p := ⟨r, 0, none⟩) hr x).setCell (p := ⟨r, 1, none⟩) hr y).setCell (p := ⟨r, 2, none⟩) hr u⟩
  have := ((h.set_ 0 x).set_ 1 y).set_ 2 u
  simpa using this
theorem set1_all {w : World} {r : Nat} {t : TypeId} {a b c : Value} (h : Blk w r t #[a, b, c]) (u : Value) :
    ∃ W2, W2 = w.setCell ⟨r, 2, none⟩ u ∧ Blk W2 r t #[a, b, u] ∧ (∀ g t' cs, g ≠ r → Blk w g t' cs → Blk W2 g t' cs) ∧
    (∀ B v l, r < B → Nums w B v l → Nums W2 B v l) ∧ W2.heap.size = w.heap.size ∧ (∀ B w0, Below B w0 w → B ≤ r → Below B w0 W2) := by
  refine ⟨_, rfl, ?_, fun g t' cs hne hg => hg.far hne u, fun B v l hr hn => hn.set_low (p := ⟨r, 2, none⟩) hr u, by simp, fun B w0 hb hr => hb.setCell (p := ⟨r, 2, none⟩) hr u⟩
  have := h.set_ 2 u
  simpa using this
end Go.Proofs.Ytnkembnachhicaa
