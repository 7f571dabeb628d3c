/-
  hairlinelaw05.BallTimes returns true for any ball, any integer and any number of places. Conditions: none.
-/
import Derived.Test.YtnfbngiabdlclaaGreatRows
import Derived.Test.YtnfbngiabdlclaaGreatLw5
import Derived.Test.YtnfbngiabdlclaaGreatOp5
import Derived.Test.YtnfbngiabdlclaaGreatBa9
import Derived.Test.YtnfbngiabdlclaaGreatRb3
namespace Go.Proofs.YtnfbngiabdlclaaGreat.ballTimes
open Go.ChangeShapes Go.WideShapes Go.ChangeAt Go.RowKit
open L (val)
set_option linter.unusedVariables false
set_option linter.unusedSimpArgs false

theorem own : ownKnob Tryz.prog.godebug = none := by kernel_rfl
theorem laidOut : laidOutB Tryz.prog = true := by kernel_rfl

theorem set2of2 {w : World} {r : Nat} {t : TypeId} {a b : Value} (h : Blk w r t #[a, b]) (x y : Value) :
    ∃ W2, W2 = (w.setCell ⟨r, 0, none⟩ x).setCell ⟨r, 1, none⟩ y ∧ Blk W2 r t #[x, y] ∧ (∀ B w0, Below B w0 w → B ≤ r → Below B w0 W2) ∧ W2.heap.size = w.heap.size ∧ (∀ g t' cs, g ≠ r → Blk w g t' cs → Blk W2 g t' cs) ∧ (∀ B v l, r < B → Nums w B v l → Nums W2 B v l) := by
  refine ⟨_, rfl, ?_, fun B w0 hb hr => (hb.setCell (p := ⟨r, 0, none⟩) hr x).setCell (p := ⟨r, 1, none⟩) hr y, by simp, fun g t' cs hne hg => (hg.far (p := ⟨r, 0, none⟩) hne x).far (p := ⟨r, 1, none⟩) hne y, fun B v l hr hn => nums_low2 hn hr x y⟩
  have := (h.set_ 0 x).set_ 1 y
  simpa using this

set_option maxHeartbeats 8000000 in
set_option maxRecDepth 100000 in
theorem walkN (n0 n1 n2 : Bool) (A0 A1 A2 : Option Addr) (l0 l1 l2 c0 c1 c2 : Nat) (Q0 q : Int) (hq0 : -9223372036854775808 ≤ q) (hq1 : q ≤ 9223372036854775807) (L0 L1 L2 : List Nat) (w : World)
    (h0 : Nums w 0 (.slice A0 l0 c0) L0) (h1 : Nums w 0 (.slice A1 l1 c1) L1) (h2 : Nums w 0 (.slice A2 l2 c2) L2) :
    Calls Tryz.prog 6 #[.agg #[.bool n0, .slice A0 l0 c0, .bool n1, .slice A1 l1 c1, .int .i64 Q0], .agg #[.bool n2, .slice A2 l2 c2], .int .i64 q] w fun e w' => e = .returned (.bool true) ∧ Below w.heap.size w w' := by
  obtain ⟨w1, hW, Bb, Bd, hB1, hs⟩ := start2 w 27 25 #[.bool n0, .slice A0 l0 c0, .bool n1, .slice A1 l1 c1, .int .i64 Q0] #[.bool n2, .slice A2 l2 c2]
  have HB := hide hB1
  have hs0 : w.heap.size + 2 ≤ w1.heap.size := by omega
  clear hB1 hs
  obtain ⟨M0, HM0⟩ : ∃ l, Hid (L0.take 8 = l) := ⟨_, hide rfl⟩
  have hm0 : M0.length ≤ 8 := by rw [← HM0.out]; simp; omega
  obtain ⟨z0, HZ0⟩ : ∃ z, Hid (ival n0 (val W M0) = z) := ⟨_, hide rfl⟩
  obtain ⟨M1, HM1⟩ : ∃ l, Hid (L1.take 8 = l) := ⟨_, hide rfl⟩
  have hm1 : M1.length ≤ 8 := by rw [← HM1.out]; simp; omega
  obtain ⟨z1, HZ1⟩ : ∃ z, Hid (ival n1 (val W M1) = z) := ⟨_, hide rfl⟩
  obtain ⟨M2, HM2⟩ : ∃ l, Hid (L2.take 8 = l) := ⟨_, hide rfl⟩
  have hm2 : M2.length ≤ 8 := by rw [← HM2.out]; simp; omega
  obtain ⟨z2, HZ2⟩ : ∃ z, Hid (ival n2 (val W M2) = z) := ⟨_, hide rfl⟩
  obtain ⟨f1, Hf1⟩ : ∃ z, Hid ((if rightB z0 z1 Q0 then min (z0 * z2) (z1 * z2) else 0) = z) := ⟨_, hide rfl⟩
  obtain ⟨f2, Hf2⟩ : ∃ z, Hid ((if rightB z0 z1 Q0 then max (z0 * z2) (z1 * z2) else 0) = z) := ⟨_, hide rfl⟩
  obtain ⟨f3, Hf3⟩ : ∃ z, Hid ((if rightB z0 z1 Q0 then Q0 else 0) = z) := ⟨_, hide rfl⟩
  obtain ⟨f4, Hf4⟩ : ∃ z, Hid ((if rightB z0 z1 Q0 then (0 : Int) else 1) = z) := ⟨_, hide rfl⟩
  obtain ⟨g1, Hg1⟩ : ∃ z, Hid ((if (rightB z0 z1 Q0 && decide (-4000 ≤ q ∧ q ≤ 4000)) then vDn z0 (-q) else 0) = z) := ⟨_, hide rfl⟩
  obtain ⟨g2, Hg2⟩ : ∃ z, Hid ((if (rightB z0 z1 Q0 && decide (-4000 ≤ q ∧ q ≤ 4000)) then vOv z1 (-q) else 0) = z) := ⟨_, hide rfl⟩
  obtain ⟨g3, Hg3⟩ : ∃ z, Hid ((if (rightB z0 z1 Q0 && decide (-4000 ≤ q ∧ q ≤ 4000)) then Q0 else 0) = z) := ⟨_, hide rfl⟩
  obtain ⟨g4, Hg4⟩ : ∃ z, Hid ((if (rightB z0 z1 Q0 && decide (-4000 ≤ q ∧ q ≤ 4000)) then (0 : Int) else 1) = z) := ⟨_, hide rfl⟩
  obtain ⟨b0, b1, b2, b3, b4, -⟩ := Bb.five
  obtain ⟨d0, d1, -⟩ := Bd.two
  go_enter Tryz.func6, Tryz.ntmps6
  go_upto_region 1 with (fail)
  rw [← hW]
  clear hW
  have HP := hide (shown5_calls w1)
  go_wp2_with fail
  refine HP.out.mono ?_
  rintro e w2 ⟨hb, rfl⟩
  clear HP b0 b1 b2 b3 b4 d0 d1
  have Bb := Bb.below hb Bb.lt
  have Bd := Bd.below hb Bd.lt
  have hs1 := Nat.le_trans hs0 hb.size
  have HB := hide (HB.out.trans (hb.mono HB.out.size))
  obtain ⟨b0, b1, b2, b3, b4, -⟩ := Bb.five
  obtain ⟨d0, d1, -⟩ := Bd.two
  have HP := hide (cut5_calls w2 n0 n1 A0 A1 l0 l1 c0 c1 Q0 8 L0 L1 (h0.below HB.out) (h1.below HB.out) (by omega))
  rw [HM0.out, HM1.out] at HP
  go_wp2_with fail
  refine HP.out.mono ?_
  rintro e w3 ⟨hb, C0, j0, i0, C1, j1, i1, rfl, hn0, hn1⟩
  clear HP b0 b1 b2 b3 b4 d0 d1
  have Bb := Bb.below hb Bb.lt
  have Bd := Bd.below hb Bd.lt
  have hs2 := Nat.le_trans hs1 hb.size
  have HB := hide (HB.out.trans (hb.mono HB.out.size))
  have hn0 := hn0.mono (show w.heap.size + 2 ≤ _ from hs1)
  have hn1 := hn1.mono (show w.heap.size + 2 ≤ _ from hs1)
  obtain ⟨b0, b1, b2, b3, b4, b5, b6, b7, b8, b9⟩ := Bb.five
  obtain ⟨w4, hW, Bb, -, kb, ks, kg, kn⟩ := set5_all Bb (.bool n0) (.slice C0 j0 i0) (.bool n1) (.slice C1 j1 i1) (.int .i64 Q0)
  have Bd := kg _ _ _ (by omega) Bd
  have hn0 := kn _ _ _ (by omega) hn0
  have hn1 := kn _ _ _ (by omega) hn1
  have HB := hide (kb _ _ HB.out (by omega))
  have hs3 : w.heap.size + 2 ≤ w4.heap.size := by omega
  clear kb ks kg kn
  go_upto_region 3 with (fail)
  rw [← hW]
  clear hW b0 b1 b2 b3 b4 b5 b6 b7 b8 b9
  obtain ⟨b0, b1, b2, b3, b4, -⟩ := Bb.five
  obtain ⟨d0, d1, -⟩ := Bd.two
  have HP := hide (limbs5_calls w4 n2 A2 l2 c2 8 L2 (h2.below HB.out) (by omega))
  rw [HM2.out] at HP
  go_wp2_with fail
  refine HP.out.mono ?_
  rintro e w5 ⟨hb, C2, j2, i2, rfl, hn2⟩
  clear HP b0 b1 b2 b3 b4 d0 d1
  have Bb := Bb.below hb Bb.lt
  have Bd := Bd.below hb Bd.lt
  have hn0 := hn0.below hb
  have hn1 := hn1.below hb
  have hs4 := Nat.le_trans hs3 hb.size
  have HB := hide (HB.out.trans (hb.mono HB.out.size))
  have hn2 := hn2.mono (show w.heap.size + 2 ≤ _ from hs3)
  obtain ⟨d0, d1, d3, d4⟩ := Bd.two
  obtain ⟨wS, hW, Bd, kb, ks, kg, kn⟩ := set2of2 Bd (.bool n2) (.slice C2 j2 i2)
  have Bb := kg _ _ _ (by omega) Bb
  have hn0 := kn _ _ _ (by omega) hn0
  have hn1 := kn _ _ _ (by omega) hn1
  have hn2 := kn _ _ _ (by omega) hn2
  have HB := hide (kb _ _ HB.out (by omega))
  have hs5 : w.heap.size + 2 ≤ wS.heap.size := by omega
  clear kb ks kg kn
  go_upto_region 4 with (fail)
  rw [← hW]
  clear hW d0 d1 d3 d4
  have Q0_ : Q wS 8 n0 C0 j0 i0 z0 := ⟨M0, hn0.mono (Nat.zero_le _), hm0, HZ0.out⟩
  have Q1_ : Q wS 8 n1 C1 j1 i1 z1 := ⟨M1, hn1.mono (Nat.zero_le _), hm1, HZ1.out⟩
  have Q2_ : Q wS 8 n2 C2 j2 i2 z2 := ⟨M2, hn2.mono (Nat.zero_le _), hm2, HZ2.out⟩
  have HS : Hid (Below wS.heap.size wS wS) := hide (Below.refl _ _)
  have sBb := Bb
  have sBd := Bd
  obtain ⟨b0, b1, b2, b3, b4, -⟩ := Bb.five
  obtain ⟨d0, d1, -⟩ := Bd.two
  have HP := times_calls Q0 (Q0_.below HS.out) (Q1_.below HS.out) (Q2_.below HS.out) (by omega)
  unfold RetE at HP
  rw [Hf1.out, Hf2.out, Hf3.out, Hf4.out] at HP
  have HPH := hide HP
  clear HP
  go_wp2_with fail
  refine HPH.out.mono ?_
  rintro e w6 ⟨hb, m1, D1, a1, k1, m1', D1', a1', k1', rfl, p1, p1'⟩
  clear HPH
  clear b0 b1 b2 b3 b4 d0 d1
  have hsz := hb.size
  have HS := hide (HS.out.trans (hb.mono HS.out.size))
  have Bb := sBb.below HS.out sBb.lt
  have Bd := sBd.below HS.out sBd.lt
  obtain ⟨b0, b1, b2, b3, b4, -⟩ := Bb.five
  obtain ⟨d0, d1, -⟩ := Bd.two
  clear b0 b1 b2 b3 b4 d0 d1
  obtain ⟨w7, hW, X, hb, hs⟩ := start1 w6 27 #[.bool m1, .slice D1 a1 k1, .bool m1', .slice D1' a1' k1', .int .i64 f3]
  have hgX : wS.heap.size ≤ w6.heap.size := HS.out.size
  clear hs
  have HS := hide (HS.out.trans (hb.mono HS.out.size))
  have Bb := sBb.below HS.out sBb.lt
  have Bd := sBd.below HS.out sBd.lt
  have p1 := p1.below hb
  have p1' := p1'.below hb
  go_upto_region 5 with (fail)
  rw [← hW]
  clear hW
  obtain ⟨b0, b1, b2, b3, b4, -⟩ := Bb.five
  obtain ⟨d0, d1, -⟩ := Bd.two
  obtain ⟨X0, X1, X2, X3, X4, X5, X6, X7, X8, X9⟩ := X.five
  have HP := timesR_calls Q0 (Q0_.below HS.out) (Q1_.below HS.out) (Q2_.below HS.out) (by omega)
  unfold RetE at HP
  rw [Hf1.out, Hf2.out, Hf3.out, Hf4.out] at HP
  have HPH := hide HP
  clear HP
  go_wp2_with fail
  refine HPH.out.mono ?_
  rintro e w8 ⟨hb, m2, D2, a2, k2, m2', D2', a2', k2', rfl, p2, p2'⟩
  clear HPH
  clear b0 b1 b2 b3 b4 d0 d1 X0 X1 X2 X3 X4 X5 X6 X7 X8 X9
  have hsz := hb.size
  have HS := hide (HS.out.trans (hb.mono HS.out.size))
  have Bb := sBb.below HS.out sBb.lt
  have Bd := sBd.below HS.out sBd.lt
  have X := X.below hb X.lt
  have p1 := p1.below hb
  have p1' := p1'.below hb
  obtain ⟨b0, b1, b2, b3, b4, -⟩ := Bb.five
  obtain ⟨d0, d1, -⟩ := Bd.two
  obtain ⟨X0, X1, X2, X3, X4, X5, X6, X7, X8, X9⟩ := X.five
  clear b0 b1 b2 b3 b4 d0 d1 X0 X1 X2 X3 X4 X5 X6 X7 X8 X9
  have hgXlt : w6.heap.size < w8.heap.size := X.lt
  obtain ⟨w9, hW, Y, hb, hs⟩ := start1 w8 27 #[.bool m2, .slice D2 a2 k2, .bool m2', .slice D2' a2' k2', .int .i64 f3]
  have hgY : wS.heap.size ≤ w8.heap.size := HS.out.size
  clear hs
  have HS := hide (HS.out.trans (hb.mono HS.out.size))
  have Bb := sBb.below HS.out sBb.lt
  have Bd := sBd.below HS.out sBd.lt
  have X := X.below hb X.lt
  have p1 := p1.below hb
  have p1' := p1'.below hb
  have p2 := p2.below hb
  have p2' := p2'.below hb
  go_upto_region 6 with (fail)
  rw [← hW]
  clear hW
  obtain ⟨b0, b1, b2, b3, b4, -⟩ := Bb.five
  obtain ⟨d0, d1, -⟩ := Bd.two
  obtain ⟨X0, X1, X2, X3, X4, X5, X6, X7, X8, X9⟩ := X.five
  obtain ⟨Y0, Y1, Y2, Y3, Y4, Y5, Y6, Y7, Y8, Y9⟩ := Y.five
  have HP := equal5_calls f3 f4 p1.qc p1'.qc p2.qc p2'.qc
  have HPH := hide HP
  clear HP
  go_wp2_with fail
  refine HPH.out.mono ?_
  rintro e w10 ⟨hb, rfl⟩
  clear HPH
  clear b0 b1 b2 b3 b4 d0 d1 X0 X1 X2 X3 X4 X5 X6 X7 X8 X9 Y0 Y1 Y2 Y3 Y4 Y5 Y6 Y7 Y8 Y9
  have hsz := hb.size
  have HS := hide (HS.out.trans (hb.mono HS.out.size))
  have Bb := sBb.below HS.out sBb.lt
  have Bd := sBd.below HS.out sBd.lt
  have X := X.below hb X.lt
  have Y := Y.below hb Y.lt
  have p1 := p1.below hb
  have p1' := p1'.below hb
  have p2 := p2.below hb
  have p2' := p2'.below hb
  obtain ⟨b0, b1, b2, b3, b4, -⟩ := Bb.five
  obtain ⟨d0, d1, -⟩ := Bd.two
  obtain ⟨X0, X1, X2, X3, X4, X5, X6, X7, X8, X9⟩ := X.five
  obtain ⟨Y0, Y1, Y2, Y3, Y4, Y5, Y6, Y7, Y8, Y9⟩ := Y.five
  clear p1 p1' p2 p2'
  have hXY : ¬ w6.heap.size = w8.heap.size := by have h1 := hgXlt; omega
  have hneXY : ¬ w6.heap.size = w8.heap.size := hXY
  have hneYX : ¬ w8.heap.size = w6.heap.size := fun h => hXY h.symm
  have hgX2 : w6.heap.size < w10.heap.size := X.lt
  have hgY2 : w8.heap.size < w10.heap.size := Y.lt
  have HP := bshift_calls Q0 q (Q0_.below HS.out) (Q1_.below HS.out) (by omega) hq0 hq1
  unfold RetE at HP
  rw [Hg1.out, Hg2.out, Hg3.out, Hg4.out] at HP
  have HPH := hide HP
  clear HP
  go_wp2_with fail
  refine HPH.out.mono ?_
  rintro e w11 ⟨hb, m3, D3, a3, k3, m3', D3', a3', k3', rfl, p3, p3'⟩
  clear HPH
  clear b0 b1 b2 b3 b4 d0 d1 X0 X1 X2 X3 X4 X5 X6 X7 X8 X9 Y0 Y1 Y2 Y3 Y4 Y5 Y6 Y7 Y8 Y9
  have hsz := hb.size
  have HS := hide (HS.out.trans (hb.mono HS.out.size))
  have Bb := sBb.below HS.out sBb.lt
  have Bd := sBd.below HS.out sBd.lt
  have X := X.below hb X.lt
  have Y := Y.below hb Y.lt
  obtain ⟨b0, b1, b2, b3, b4, -⟩ := Bb.five
  obtain ⟨d0, d1, -⟩ := Bd.two
  obtain ⟨X0, X1, X2, X3, X4, X5, X6, X7, X8, X9⟩ := X.five
  obtain ⟨Y0, Y1, Y2, Y3, Y4, Y5, Y6, Y7, Y8, Y9⟩ := Y.five
  have hlt3X : w6.heap.size < w10.heap.size := hgX2
  have hlt3Y : w8.heap.size < w10.heap.size := hgY2
  obtain ⟨w12, hW, Xn, kq, kb, ks, kg, kn⟩ := set5_all X (.bool m3) (.slice D3 a3 k3) (.bool m3') (.slice D3' a3' k3') (.int .i64 g3)
  have Y := kg _ _ _ hneYX Y
  have X := Xn
  have HS := hide (kb _ _ HS.out (by omega))
  have Bb := sBb.below HS.out sBb.lt
  have Bd := sBd.below HS.out sBd.lt
  have p3 := kq _ _ _ _ _ _ _ hlt3X p3
  have p3' := kq _ _ _ _ _ _ _ hlt3X p3'
  clear kq kb kn kg
  go_upto_region 8 with (fail)
  rw [← hW]
  clear hW
  clear b0 b1 b2 b3 b4 d0 d1 X0 X1 X2 X3 X4 X5 X6 X7 X8 X9 Y0 Y1 Y2 Y3 Y4 Y5 Y6 Y7 Y8 Y9
  obtain ⟨b0, b1, b2, b3, b4, -⟩ := Bb.five
  obtain ⟨d0, d1, -⟩ := Bd.two
  obtain ⟨X0, X1, X2, X3, X4, X5, X6, X7, X8, X9⟩ := X.five
  obtain ⟨Y0, Y1, Y2, Y3, Y4, Y5, Y6, Y7, Y8, Y9⟩ := Y.five
  have hgX3 : w6.heap.size < w12.heap.size := X.lt
  have hgY3 : w8.heap.size < w12.heap.size := Y.lt
  have HP := bshiftR_calls Q0 q (Q0_.below HS.out) (Q1_.below HS.out) (by omega) hq0 hq1
  unfold RetE at HP
  rw [Hg1.out, Hg2.out, Hg3.out, Hg4.out] at HP
  have HPH := hide HP
  clear HP
  go_wp2_with fail
  refine HPH.out.mono ?_
  rintro e w13 ⟨hb, m4, D4, a4, k4, m4', D4', a4', k4', rfl, p4, p4'⟩
  clear HPH
  clear b0 b1 b2 b3 b4 d0 d1 X0 X1 X2 X3 X4 X5 X6 X7 X8 X9 Y0 Y1 Y2 Y3 Y4 Y5 Y6 Y7 Y8 Y9
  have hsz := hb.size
  have HS := hide (HS.out.trans (hb.mono HS.out.size))
  have Bb := sBb.below HS.out sBb.lt
  have Bd := sBd.below HS.out sBd.lt
  have X := X.below hb X.lt
  have Y := Y.below hb Y.lt
  have p3 := p3.below hb
  have p3' := p3'.below hb
  obtain ⟨b0, b1, b2, b3, b4, -⟩ := Bb.five
  obtain ⟨d0, d1, -⟩ := Bd.two
  obtain ⟨X0, X1, X2, X3, X4, X5, X6, X7, X8, X9⟩ := X.five
  obtain ⟨Y0, Y1, Y2, Y3, Y4, Y5, Y6, Y7, Y8, Y9⟩ := Y.five
  have hlt4Y : w8.heap.size < w12.heap.size := hgY3
  obtain ⟨w14, hW, Yn, kq, kb, ks, kg, kn⟩ := set5_all Y (.bool m4) (.slice D4 a4 k4) (.bool m4') (.slice D4' a4' k4') (.int .i64 g3)
  have X := kg _ _ _ hneXY X
  have Y := Yn
  have HS := hide (kb _ _ HS.out (by omega))
  have Bb := sBb.below HS.out sBb.lt
  have Bd := sBd.below HS.out sBd.lt
  have p3 := kq _ _ _ _ _ _ _ hlt3Y p3
  have p3' := kq _ _ _ _ _ _ _ hlt3Y p3'
  have p4 := kq _ _ _ _ _ _ _ hlt4Y p4
  have p4' := kq _ _ _ _ _ _ _ hlt4Y p4'
  clear kq kb kn kg
  go_upto_region 9 with (fail)
  rw [← hW]
  clear hW
  clear b0 b1 b2 b3 b4 d0 d1 X0 X1 X2 X3 X4 X5 X6 X7 X8 X9 Y0 Y1 Y2 Y3 Y4 Y5 Y6 Y7 Y8 Y9
  obtain ⟨b0, b1, b2, b3, b4, -⟩ := Bb.five
  obtain ⟨d0, d1, -⟩ := Bd.two
  obtain ⟨X0, X1, X2, X3, X4, X5, X6, X7, X8, X9⟩ := X.five
  obtain ⟨Y0, Y1, Y2, Y3, Y4, Y5, Y6, Y7, Y8, Y9⟩ := Y.five
  have HP := equal5_calls g3 g4 p3.qc p3'.qc p4.qc p4'.qc
  have HPH := hide HP
  clear HP
  go_wp2_with fail
  refine HPH.out.mono ?_
  rintro e w15 ⟨hb, rfl⟩
  clear HPH
  clear b0 b1 b2 b3 b4 d0 d1 X0 X1 X2 X3 X4 X5 X6 X7 X8 X9 Y0 Y1 Y2 Y3 Y4 Y5 Y6 Y7 Y8 Y9
  have hsz := hb.size
  have HS := hide (HS.out.trans (hb.mono HS.out.size))
  have Bb := sBb.below HS.out sBb.lt
  have Bd := sBd.below HS.out sBd.lt
  have X := X.below hb X.lt
  have Y := Y.below hb Y.lt
  have p3 := p3.below hb
  have p3' := p3'.below hb
  have p4 := p4.below hb
  have p4' := p4'.below hb
  obtain ⟨b0, b1, b2, b3, b4, -⟩ := Bb.five
  obtain ⟨d0, d1, -⟩ := Bd.two
  obtain ⟨X0, X1, X2, X3, X4, X5, X6, X7, X8, X9⟩ := X.five
  obtain ⟨Y0, Y1, Y2, Y3, Y4, Y5, Y6, Y7, Y8, Y9⟩ := Y.five
  clear p3 p3' p4 p4'
  clear b0 b1 b2 b3 b4 d0 d1 X0 X1 X2 X3 X4 X5 X6 X7 X8 X9 Y0 Y1 Y2 Y3 Y4 Y5 Y6 Y7 Y8 Y9
  go_wp2_with fail
  go_ret
  exact ⟨rfl, HB.out.trans (HS.out.mono HB.out.size)⟩

theorem walk (w : World) (n0 : Bool) (A0 : Option Addr) (l0 c0 : Nat) (m0 : Bool) (B0 : Option Addr) (j0 d0 : Nat) (x0 : Int) (s0 : ∃ L, Nums w 0 (.slice A0 l0 c0) L) (t0 : ∃ L, Nums w 0 (.slice B0 j0 d0) L) (w0 : (Lit.int .i64 x0).wf = true)
    (n1 : Bool) (A1 : Option Addr) (l1 c1 : Nat) (s1 : ∃ L, Nums w 0 (.slice A1 l1 c1) L) (a2 : Int) (w2 : (Lit.int .i64 a2).wf = true) :
    Calls Tryz.prog 6 #[.agg #[.bool n0, .slice A0 l0 c0, .bool m0, .slice B0 j0 d0, .int .i64 x0], .agg #[.bool n1, .slice A1 l1 c1], .int .i64 a2] w fun e w' => e = .returned (.bool true) ∧ Below w.heap.size w w' := by
  obtain ⟨L0, h0⟩ := s0
  obtain ⟨L1, h1⟩ := t0
  obtain ⟨L2, h2⟩ := s1
  have hc := bounds_i64 w2
  exact walkN n0 m0 n1 A0 B0 A1 l0 j0 l1 c0 d0 c1 x0 a2 hc.1 hc.2 L0 L1 L2 w h0 h1 h2

/-! ### the row -/
set_option maxRecDepth 100000 in
theorem lifted (os : Os) (started : os.Started) (H : Type) (enc : TypeId × Value → H) :
    ReturnsInHanded {} Tryz.checked os 6 .any (Rows.ballTimesSpec.pre6 enc Tryz.prog Tryz.f6 Rows.ballTimesRow.domain false) (Rows.ballTimesSpec.post enc Tryz.prog Tryz.f6 false true false false) := by
  refine returnsInHanded_of_change (C := Tryz.checked) own started (by kernel_rfl) Tryz.func6
    (ChangeSpec.witness6 (enc := enc) (C := Tryz.checked) false ⟨#[], #[.agg #[.bool false, .slice none 0 0, .bool false, .slice none 0 0, .int .i64 0], .agg #[.bool false, .slice none 0 0], .int .i64 0], []⟩ 8 (by kernel_rfl) (by kernel_rfl) (by kernel_rfl) (by kernel_rfl)) ?_
  intro W base args ds gs before hval0 hW hcnd _
  have hval : ∀ (j : Nat) t v, Tryz.f6.params[j]? = some t → args[j]? = some v → Value.okWide Tryz.prog W .any base t v := hval0
  have hW' := hW
  obtain ⟨p, q, hA0, hV, rfl, hfz, hnd⟩ := hW
  have hA : DataW.TrodAll enc Tryz.prog W 0 (fun _ => true) true Tryz.f6.params.toList args.toList ds p := hA0
  rw [Tryz.params6] at hA hval
  obtain ⟨v0, vs0, d0, ds0, p0, q0, hargs, rfl, rfl, h0, r0⟩ := trodAll_cons hA
  obtain ⟨v1, vs1, d1, ds1, p1, q1, rfl, rfl, rfl, h1, r1⟩ := trodAll_cons r0
  obtain ⟨v2, vs2, d2, ds2, p2, q2, rfl, rfl, rfl, h2, r2⟩ := trodAll_cons r1
  obtain ⟨rfl, rfl, rfl⟩ := trodAll_nil r2
  obtain rfl : args = #[v0, v1, v2] := by cases args; simp_all
  obtain ⟨rfl, rfl⟩ := trodVars_none hV
  have k0 := h0
  have lt0 : ∀ x ∈ p0, x.block < W.heap.size := by obtain ⟨m, hm⟩ := k0; exact DataW.trod_lt m _ _ _ hm
  obtain ⟨n0, A0, l0, c0, m0, B0, j0, d0_, x0, rfl, s0, t0, w0⟩ := open_ball (hval 0 27 v0 rfl rfl) h0
  have k1 := h1
  have lt1 : ∀ x ∈ p1, x.block < W.heap.size := by obtain ⟨m, hm⟩ := k1; exact DataW.trod_lt m _ _ _ hm
  obtain ⟨n1, A1, l1, c1, rfl, s1⟩ := open_int_s (hval 1 25 v1 rfl rfl) h1
  obtain ⟨a2, rfl, rfl, rfl, w2⟩ := open_int Tryz.underlying3 (hval 2 3 v2 rfl rfl) h2
  clear hA0 hval0
  refine (walk W n0 A0 l0 c0 m0 B0 j0 d0_ x0 s0 t0 w0 n1 A1 l1 c1 s1 a2 w2).mono fun e W' ⟨he, bel⟩ => ?_
  subst he
  exact ⟨_, rfl, _, _, _, [], _, [], hW', trodAll_mk1 (shut_bool Tryz.underlying4 _), (trodAll_cons_mk (Below.trod laidOut (by kernel_rfl) (of_decide_eq_true (by kernel_rfl)) k0 bel lt0) (trodAll_cons_mk (Below.trod laidOut (by kernel_rfl) (of_decide_eq_true (by kernel_rfl)) k1 bel lt1) (trodAll_cons_mk (shut_int Tryz.underlying3 w2) trodAll_mk0))), rfl, bel.frame _, fun h => by cases h⟩

theorem over : Rows.ballTimesRow.holds Tryz.pinned (OpenSpec.ofChange Rows.ballTimesSpec) :=
  OpenClaim.holds_of_wide 6 Tryz.f6 rfl rfl rfl rfl rfl rfl rfl ⟨rfl, rfl, rfl, rfl, rfl⟩ rfl rfl rfl rfl rfl (by kernel_rfl) Tryz.func6 (by kernel_rfl)
    (of_decide_eq_true (by kernel_rfl)) (by unfold Func.isWrapper; first | (rw [if_pos (by decide +kernel)]; kernel_rfl) | (rw [if_neg (by decide +kernel)]; exact ⟨rfl, rfl⟩))
    (fun os started H enc _ => lifted os started H enc)

theorem proved : Rows.BallTimesSaid := over
#print axioms proved
end Go.Proofs.YtnfbngiabdlclaaGreat.ballTimes
