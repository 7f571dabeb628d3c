/-
  hairlinelaw05.BallSums returns true for any two balls. Conditions: none.
-/
import Derived.Test.YtnfbngiabdlclaaGreatRows
import Derived.Test.YtnfbngiabdlclaaGreatLw5
import Derived.Test.YtnfbngiabdlclaaGreatOp5
import Derived.Test.YtnfbngiabdlclaaGreatSa1
import Derived.Test.YtnfbngiabdlclaaGreatDw
namespace Go.Proofs.YtnfbngiabdlclaaGreat.ballSums
open Go.ChangeShapes Go.WideShapes Go.ChangeAt Go.RowKit
open L (val)
set_option linter.unusedVariables false
set_option linter.unusedSimpArgs false

theorem own : ownKnob Tryz.prog.godebug = none := by kernel_rfl
theorem laidOut : laidOutB Tryz.prog = true := by kernel_rfl
set_option maxRecDepth 100000 in
theorem eqB_raw {w : World} {n0 n1 : Bool} {A0 A1 B0 B1 : Option Addr} {l0 l1 j0 j1 c0 c1 d0 d1 : Nat} {x y : List Nat} (q : Int) (hx0 : Nums w 0 (.slice A0 l0 c0) x) (hx1 : Nums w 0 (.slice A1 l1 c1) y) (hy0 : Nums w 0 (.slice B0 j0 d0) x) (hy1 : Nums w 0 (.slice B1 j1 d1) y) :
    Calls Tryz.prog 13 #[.agg #[.bool n0, .slice A0 l0 c0, .bool n1, .slice A1 l1 c1, .int .i64 q], .agg #[.bool n0, .slice B0 j0 d0, .bool n1, .slice B1 j1 d1, .int .i64 q]] w fun e w' =>
      Below w.heap.size w w' ∧ e = .returned (.bool true) := by
  obtain ⟨W0, hW, ha, hb, hB0, hs⟩ := start2 w 27 27 #[.bool n0, .slice A0 l0 c0, .bool n1, .slice A1 l1 c1, .int .i64 q] #[.bool n0, .slice B0 j0 d0, .bool n1, .slice B1 j1 d1, .int .i64 q]
  have HB0 := hide hB0
  clear hs hB0
  obtain ⟨a0, a1, a2, a3, a4, -⟩ := ha.five
  obtain ⟨b0, b1, b2, b3, b4, -⟩ := hb.five
  have HE := hide (eqI_raw (n := n0) (m := n0) true (hx0.below HB0.out) (hy0.below HB0.out) (hide (by simp)))
  have e1 : (q == q) = true := by rw [beq_iff_eq]
  go_enter Tryz.func13, Tryz.ntmps13
  go_upto_region 1 with (fail)
  rw [← hW]
  clear hW
  go_wp2_with fail
  refine HE.out.mono ?_
  rintro e w1 ⟨hb1, rfl⟩
  have ha := ha.below hb1 ha.lt
  have hb := hb.below hb1 hb.lt
  have HB1 := hide (HB0.out.trans (hb1.mono HB0.out.size))
  obtain ⟨a0, a1, a2, a3, a4, -⟩ := ha.five
  obtain ⟨b0, b1, b2, b3, b4, -⟩ := hb.five
  have HE2 := hide (eqI_raw (n := n1) (m := n1) true (hx1.below HB1.out) (hy1.below HB1.out) (hide (by simp)))
  go_wp2_with fail
  refine HE2.out.mono ?_
  rintro e w2 ⟨hb2, rfl⟩
  have ha := ha.below hb2 ha.lt
  have hb := hb.below hb2 hb.lt
  have HB2 := hide (HB1.out.trans (hb2.mono HB1.out.size))
  obtain ⟨a0, a1, a2, a3, a4, -⟩ := ha.five
  obtain ⟨b0, b1, b2, b3, b4, -⟩ := hb.five
  go_wp2_with fail
  go_ret
  exact ⟨HB2.out, rfl⟩

set_option maxHeartbeats 16000000 in
set_option maxRecDepth 100000 in
theorem walkN (n0 n1 n2 n3 : Bool) (A0 A1 A2 A3 : Option Addr) (l0 l1 l2 l3 c0 c1 c2 c3 : Nat) (Q0 Q1 : Int) (L0 L1 L2 L3 : List Nat) (w : World)
    (h0 : Nums w 0 (.slice A0 l0 c0) L0) (h1 : Nums w 0 (.slice A1 l1 c1) L1) (h2 : Nums w 0 (.slice A2 l2 c2) L2) (h3 : Nums w 0 (.slice A3 l3 c3) L3) :
    Calls Tryz.prog 7 #[.agg #[.bool n0, .slice A0 l0 c0, .bool n1, .slice A1 l1 c1, .int .i64 Q0], .agg #[.bool n2, .slice A2 l2 c2, .bool n3, .slice A3 l3 c3, .int .i64 Q1]] w fun e w' => e = .returned (.bool true) ∧ Below w.heap.size w w' := by
  obtain ⟨w1, hW, Ba, Bb, hB1, hs⟩ := start2 w 27 27 #[.bool n0, .slice A0 l0 c0, .bool n1, .slice A1 l1 c1, .int .i64 Q0] #[.bool n2, .slice A2 l2 c2, .bool n3, .slice A3 l3 c3, .int .i64 Q1]
  have HB := hide hB1
  have hsz : w.heap.size + 2 ≤ w1.heap.size := by omega
  clear hB1 hs
  obtain ⟨M0, HM0⟩ : ∃ l, Hid (L0.take 8 = l) := ⟨_, hide rfl⟩
  have hm0 : M0.length ≤ 8 := by rw [← HM0.out]; simp; omega
  obtain ⟨z0, HZ0⟩ : ∃ z, Hid (ival n0 (val W M0) = z) := ⟨_, hide rfl⟩
  obtain ⟨M1, HM1⟩ : ∃ l, Hid (L1.take 8 = l) := ⟨_, hide rfl⟩
  have hm1 : M1.length ≤ 8 := by rw [← HM1.out]; simp; omega
  obtain ⟨z1, HZ1⟩ : ∃ z, Hid (ival n1 (val W M1) = z) := ⟨_, hide rfl⟩
  obtain ⟨M2, HM2⟩ : ∃ l, Hid (L2.take 8 = l) := ⟨_, hide rfl⟩
  have hm2 : M2.length ≤ 8 := by rw [← HM2.out]; simp; omega
  obtain ⟨z2, HZ2⟩ : ∃ z, Hid (ival n2 (val W M2) = z) := ⟨_, hide rfl⟩
  obtain ⟨M3, HM3⟩ : ∃ l, Hid (L3.take 8 = l) := ⟨_, hide rfl⟩
  have hm3 : M3.length ≤ 8 := by rw [← HM3.out]; simp; omega
  obtain ⟨z3, HZ3⟩ : ∃ z, Hid (ival n3 (val W M3) = z) := ⟨_, hide rfl⟩
  obtain ⟨f1, Hf1⟩ : ∃ z : Int, Hid ((if pairB z0 z1 Q0 z2 z3 Q1 then (z0 + z2) else 0) = z) := ⟨_, hide rfl⟩
  obtain ⟨f2, Hf2⟩ : ∃ z : Int, Hid ((if pairB z0 z1 Q0 z2 z3 Q1 then (z1 + z3) else 0) = z) := ⟨_, hide rfl⟩
  obtain ⟨f3, Hf3⟩ : ∃ z : Int, Hid ((if pairB z0 z1 Q0 z2 z3 Q1 then Q0 else 0) = z) := ⟨_, hide rfl⟩
  obtain ⟨f4, Hf4⟩ : ∃ z : Int, Hid ((if pairB z0 z1 Q0 z2 z3 Q1 then (0 : Int) else 1) = z) := ⟨_, hide rfl⟩
  obtain ⟨g1, Hg1⟩ : ∃ z : Int, Hid ((if pairB z0 z1 Q0 z2 z3 Q1 then (z0 - z3) else 0) = z) := ⟨_, hide rfl⟩
  obtain ⟨g2, Hg2⟩ : ∃ z : Int, Hid ((if pairB z0 z1 Q0 z2 z3 Q1 then (z1 - z2) else 0) = z) := ⟨_, hide rfl⟩
  obtain ⟨g3, Hg3⟩ : ∃ z : Int, Hid ((if pairB z0 z1 Q0 z2 z3 Q1 then Q0 else 0) = z) := ⟨_, hide rfl⟩
  obtain ⟨g4, Hg4⟩ : ∃ z : Int, Hid ((if pairB z0 z1 Q0 z2 z3 Q1 then (0 : Int) else 1) = z) := ⟨_, hide rfl⟩
  obtain ⟨t1, Ht1⟩ : ∃ z : Int, Hid ((if pairB z0 z1 Q0 z2 z3 Q1 then (vDn (min4 (z0 * z2) (z0 * z3) (z1 * z2) (z1 * z3)) Q0) else 0) = z) := ⟨_, hide rfl⟩
  obtain ⟨t2, Ht2⟩ : ∃ z : Int, Hid ((if pairB z0 z1 Q0 z2 z3 Q1 then (vOv (max4 (z0 * z2) (z0 * z3) (z1 * z2) (z1 * z3)) Q0) else 0) = z) := ⟨_, hide rfl⟩
  obtain ⟨t3, Ht3⟩ : ∃ z : Int, Hid ((if pairB z0 z1 Q0 z2 z3 Q1 then Q0 else 0) = z) := ⟨_, hide rfl⟩
  obtain ⟨t4, Ht4⟩ : ∃ z : Int, Hid ((if pairB z0 z1 Q0 z2 z3 Q1 then (0 : Int) else 1) = z) := ⟨_, hide rfl⟩
  obtain ⟨k1, Hk1⟩ : ∃ z : Int, Hid ((if (pairB z0 z1 Q0 z2 z3 Q1 && decide (0 < z2.sign * z3.sign)) then (min4 (vLo Q0 z0 z2) (vLo Q0 z0 z3) (vLo Q0 z1 z2) (vLo Q0 z1 z3)) else 0) = z) := ⟨_, hide rfl⟩
  obtain ⟨k2, Hk2⟩ : ∃ z : Int, Hid ((if (pairB z0 z1 Q0 z2 z3 Q1 && decide (0 < z2.sign * z3.sign)) then (max4 (vHi Q0 z0 z2) (vHi Q0 z0 z3) (vHi Q0 z1 z2) (vHi Q0 z1 z3)) else 0) = z) := ⟨_, hide rfl⟩
  obtain ⟨k3, Hk3⟩ : ∃ z : Int, Hid ((if (pairB z0 z1 Q0 z2 z3 Q1 && decide (0 < z2.sign * z3.sign)) then Q0 else 0) = z) := ⟨_, hide rfl⟩
  obtain ⟨k4, Hk4⟩ : ∃ z : Int, Hid ((if (pairB z0 z1 Q0 z2 z3 Q1 && decide (0 < z2.sign * z3.sign)) then (0 : Int) else (if pairB z0 z1 Q0 z2 z3 Q1 then 2 else 1)) = z) := ⟨_, hide rfl⟩
  obtain ⟨a0, a1, a2, a3, a4, -⟩ := Ba.five
  obtain ⟨b0, b1, b2, b3, b4, -⟩ := Bb.five
  go_enter Tryz.func7, Tryz.ntmps7
  go_upto_region 1 with (fail)
  rw [← hW]
  clear hW
  have HP := shown5_calls w1
  have HPH := hide HP
  clear HP
  go_wp2_with fail
  refine HPH.out.mono ?_
  rintro e w2 ⟨hb, rfl⟩
  clear HPH
  clear a0 a1 a2 a3 a4 b0 b1 b2 b3 b4
  have Ba := Ba.below hb Ba.lt
  have Bb := Bb.below hb Bb.lt
  have HB := hide (HB.out.trans (hb.mono HB.out.size))
  have hsp := hsz
  have hsz := Nat.le_trans hsz hb.size
  clear hb
  obtain ⟨a0, a1, a2, a3, a4, -⟩ := Ba.five
  obtain ⟨b0, b1, b2, b3, b4, -⟩ := Bb.five
  have HP := cut5_calls w2 n0 n1 A0 A1 l0 l1 c0 c1 Q0 8 L0 L1 (h0.below HB.out) (h1.below HB.out) (by omega)
  rw [HM0.out, HM1.out] at HP
  have HPH := hide HP
  clear HP
  go_wp2_with fail
  refine HPH.out.mono ?_
  rintro e w3 ⟨hb, C0, j0, i0, C1, j1, i1, rfl, hn0, hn1⟩
  clear HPH
  clear a0 a1 a2 a3 a4 b0 b1 b2 b3 b4
  have Ba := Ba.below hb Ba.lt
  have Bb := Bb.below hb Bb.lt
  have HB := hide (HB.out.trans (hb.mono HB.out.size))
  have hsp := hsz
  have hsz := Nat.le_trans hsz hb.size
  clear hb
  obtain ⟨a0, a1, a2, a3, a4, -⟩ := Ba.five
  obtain ⟨b0, b1, b2, b3, b4, -⟩ := Bb.five
  have hn0 := hn0.mono (show w.heap.size + 2 ≤ _ from hsp)
  have hn1 := hn1.mono (show w.heap.size + 2 ≤ _ from hsp)
  clear a0 a1 a2 a3 a4 b0 b1 b2 b3 b4
  obtain ⟨a0, a1, a2, a3, a4, a5, a6, a7, a8, a9⟩ := Ba.five
  obtain ⟨b0, b1, b2, b3, b4, -⟩ := Bb.five
  obtain ⟨w4, hW, Ban, -, kb, ks, kg, kn⟩ := set5_all Ba (.bool n0) (.slice C0 j0 i0) (.bool n1) (.slice C1 j1 i1) (.int .i64 Q0)
  have Bb := kg _ _ _ (by omega) Bb
  have Ba := Ban
  have HB := hide (kb _ _ HB.out (by omega))
  have hsz := Nat.le_trans hsz (Nat.le_of_eq ks.symm)
  have hn0 := kn _ _ _ (by omega) hn0
  have hn1 := kn _ _ _ (by omega) hn1
  clear kb ks kg kn
  go_upto_region 3 with (fail)
  rw [← hW]
  clear hW
  clear a0 a1 a2 a3 a4 a5 a6 a7 a8 a9 b0 b1 b2 b3 b4
  obtain ⟨a0, a1, a2, a3, a4, -⟩ := Ba.five
  obtain ⟨b0, b1, b2, b3, b4, -⟩ := Bb.five
  have HP := cut5_calls w4 n2 n3 A2 A3 l2 l3 c2 c3 Q1 8 L2 L3 (h2.below HB.out) (h3.below HB.out) (by omega)
  rw [HM2.out, HM3.out] at HP
  have HPH := hide HP
  clear HP
  go_wp2_with fail
  refine HPH.out.mono ?_
  rintro e w5 ⟨hb, C2, j2, i2, C3, j3, i3, rfl, hn2, hn3⟩
  clear HPH
  clear a0 a1 a2 a3 a4 b0 b1 b2 b3 b4
  have Ba := Ba.below hb Ba.lt
  have Bb := Bb.below hb Bb.lt
  have HB := hide (HB.out.trans (hb.mono HB.out.size))
  have hsp := hsz
  have hsz := Nat.le_trans hsz hb.size
  have hn0 := hn0.below hb
  have hn1 := hn1.below hb
  clear hb
  obtain ⟨a0, a1, a2, a3, a4, -⟩ := Ba.five
  obtain ⟨b0, b1, b2, b3, b4, -⟩ := Bb.five
  have hn2 := hn2.mono (show w.heap.size + 2 ≤ _ from hsp)
  have hn3 := hn3.mono (show w.heap.size + 2 ≤ _ from hsp)
  clear a0 a1 a2 a3 a4 b0 b1 b2 b3 b4
  obtain ⟨a0, a1, a2, a3, a4, -⟩ := Ba.five
  obtain ⟨b0, b1, b2, b3, b4, b5, b6, b7, b8, b9⟩ := Bb.five
  obtain ⟨w6, hW, Bbn, -, kb, ks, kg, kn⟩ := set5_all Bb (.bool n2) (.slice C2 j2 i2) (.bool n3) (.slice C3 j3 i3) (.int .i64 Q1)
  have Ba := kg _ _ _ (by omega) Ba
  have Bb := Bbn
  have HB := hide (kb _ _ HB.out (by omega))
  have hsz := Nat.le_trans hsz (Nat.le_of_eq ks.symm)
  have hn0 := kn _ _ _ (by omega) hn0
  have hn1 := kn _ _ _ (by omega) hn1
  have hn2 := kn _ _ _ (by omega) hn2
  have hn3 := kn _ _ _ (by omega) hn3
  clear kb ks kg kn
  go_upto_region 4 with (fail)
  rw [← hW]
  clear hW
  clear a0 a1 a2 a3 a4 b0 b1 b2 b3 b4 b5 b6 b7 b8 b9
  obtain ⟨a0, a1, a2, a3, a4, -⟩ := Ba.five
  obtain ⟨b0, b1, b2, b3, b4, -⟩ := Bb.five
  have HP := cut5_calls w6 n0 n1 C0 C1 j0 j1 i0 i1 Q0 8 M0 M1 (hn0.mono (Nat.zero_le _)) (hn1.mono (Nat.zero_le _)) (by omega)
  rw [List.take_of_length_le hm0, List.take_of_length_le hm1] at HP
  have HPH := hide HP
  clear HP
  go_wp2_with fail
  refine HPH.out.mono ?_
  rintro e w7 ⟨hb, C4, j4, i4, C5, j5, i5, rfl, hn4, hn5⟩
  clear HPH
  clear a0 a1 a2 a3 a4 b0 b1 b2 b3 b4
  have Ba := Ba.below hb Ba.lt
  have Bb := Bb.below hb Bb.lt
  have HB := hide (HB.out.trans (hb.mono HB.out.size))
  have hsp := hsz
  have hsz := Nat.le_trans hsz hb.size
  have hn0 := hn0.below hb
  have hn1 := hn1.below hb
  have hn2 := hn2.below hb
  have hn3 := hn3.below hb
  clear hb
  obtain ⟨a0, a1, a2, a3, a4, -⟩ := Ba.five
  obtain ⟨b0, b1, b2, b3, b4, -⟩ := Bb.five
  clear a0 a1 a2 a3 a4 b0 b1 b2 b3 b4
  obtain ⟨w8, hW, Bo, hb, hs⟩ := start1 w7 27 #[.bool n0, .slice C4 j4 i4, .bool n1, .slice C5 j5 i5, .int .i64 Q0]
  clear hs
  have Ba := Ba.below hb Ba.lt
  have Bb := Bb.below hb Bb.lt
  have HB := hide (HB.out.trans (hb.mono HB.out.size))
  have hsp := hsz
  have hsz := Nat.le_trans hsz hb.size
  have hn0 := hn0.below hb
  have hn1 := hn1.below hb
  have hn2 := hn2.below hb
  have hn3 := hn3.below hb
  have hn4 := hn4.below hb
  have hn5 := hn5.below hb
  clear hb
  go_upto_region 5 with (fail)
  rw [← hW]
  clear hW
  obtain ⟨a0, a1, a2, a3, a4, -⟩ := Ba.five
  obtain ⟨b0, b1, b2, b3, b4, -⟩ := Bb.five
  obtain ⟨o0, o1, o2, o3, o4, -⟩ := Bo.five
  have Q0_ : Q w8 8 n0 C0 j0 i0 z0 := ⟨M0, hn0.mono (Nat.zero_le _), hm0, HZ0.out⟩
  have Q1_ : Q w8 8 n1 C1 j1 i1 z1 := ⟨M1, hn1.mono (Nat.zero_le _), hm1, HZ1.out⟩
  have Q2_ : Q w8 8 n2 C2 j2 i2 z2 := ⟨M2, hn2.mono (Nat.zero_le _), hm2, HZ2.out⟩
  have Q3_ : Q w8 8 n3 C3 j3 i3 z3 := ⟨M3, hn3.mono (Nat.zero_le _), hm3, HZ3.out⟩
  have hN0 := hn0.mono (Nat.zero_le _)
  have hN1 := hn1.mono (Nat.zero_le _)
  have hN4 := hn4.mono (Nat.zero_le _)
  have hN5 := hn5.mono (Nat.zero_le _)
  clear hn0 hn1 hn2 hn3 hn4 hn5
  have HS : Hid (Below w8.heap.size w8 w8) := hide (Below.refl _ _)
  have sBa := Ba
  have sBb := Bb
  have sBo := Bo
  have HP := badd_calls Q0 Q1 (Q0_.below HS.out) (Q1_.below HS.out) (Q2_.below HS.out) (Q3_.below HS.out) (by omega)
  unfold RetE at HP
  rw [Hf1.out, Hf2.out, Hf3.out, Hf4.out] at HP
  have HPH := hide HP
  clear HP
  go_wp2_with fail
  refine HPH.out.mono ?_
  rintro e w9 ⟨hb, m1, D1, a1_, k1_, m1', D1', a1', k1', rfl, p1, p1'⟩
  clear HPH
  clear a0 a1 a2 a3 a4 b0 b1 b2 b3 b4 o0 o1 o2 o3 o4
  have HS := hide (HS.out.trans (hb.mono HS.out.size))
  have Ba := sBa.below HS.out sBa.lt
  have Bb := sBb.below HS.out sBb.lt
  have Bo := sBo.below HS.out sBo.lt
  clear hb
  obtain ⟨a0, a1, a2, a3, a4, -⟩ := Ba.five
  obtain ⟨b0, b1, b2, b3, b4, -⟩ := Bb.five
  obtain ⟨o0, o1, o2, o3, o4, -⟩ := Bo.five
  clear a0 a1 a2 a3 a4 b0 b1 b2 b3 b4 o0 o1 o2 o3 o4
  obtain ⟨w10, hW, X, hb, hs⟩ := start1 w9 27 #[.bool m1, .slice D1 a1_ k1_, .bool m1', .slice D1' a1' k1', .int .i64 f3]
  have hgX : w8.heap.size ≤ w9.heap.size := HS.out.size
  clear hs
  have HS := hide (HS.out.trans (hb.mono HS.out.size))
  have Ba := sBa.below HS.out sBa.lt
  have Bb := sBb.below HS.out sBb.lt
  have Bo := sBo.below HS.out sBo.lt
  have p1 := p1.below hb
  have p1' := p1'.below hb
  clear hb
  go_upto_region 6 with (fail)
  rw [← hW]
  clear hW
  obtain ⟨a0, a1, a2, a3, a4, -⟩ := Ba.five
  obtain ⟨b0, b1, b2, b3, b4, -⟩ := Bb.five
  obtain ⟨o0, o1, o2, o3, o4, -⟩ := Bo.five
  obtain ⟨X0, X1, X2, X3, X4, X5, X6, X7, X8, X9⟩ := X.five
  have HP := addR5_calls Q0 Q1 (Q0_.below HS.out) (Q1_.below HS.out) (Q2_.below HS.out) (Q3_.below HS.out) (by omega)
  unfold RetE at HP
  rw [Hf1.out, Hf2.out, Hf3.out, Hf4.out] at HP
  have HPH := hide HP
  clear HP
  go_wp2_with fail
  refine HPH.out.mono ?_
  rintro e w11 ⟨hb, m2, D2, a2_, k2_, m2', D2', a2', k2', rfl, p2, p2'⟩
  clear HPH
  clear a0 a1 a2 a3 a4 b0 b1 b2 b3 b4 o0 o1 o2 o3 o4 X0 X1 X2 X3 X4 X5 X6 X7 X8 X9
  have HS := hide (HS.out.trans (hb.mono HS.out.size))
  have Ba := sBa.below HS.out sBa.lt
  have Bb := sBb.below HS.out sBb.lt
  have Bo := sBo.below HS.out sBo.lt
  have X := X.below hb X.lt
  have p1 := p1.below hb
  have p1' := p1'.below hb
  clear hb
  obtain ⟨a0, a1, a2, a3, a4, -⟩ := Ba.five
  obtain ⟨b0, b1, b2, b3, b4, -⟩ := Bb.five
  obtain ⟨o0, o1, o2, o3, o4, -⟩ := Bo.five
  obtain ⟨X0, X1, X2, X3, X4, X5, X6, X7, X8, X9⟩ := X.five
  clear a0 a1 a2 a3 a4 b0 b1 b2 b3 b4 o0 o1 o2 o3 o4 X0 X1 X2 X3 X4 X5 X6 X7 X8 X9
  have hXlt : w9.heap.size < w11.heap.size := X.lt
  obtain ⟨w12, hW, Y, hb, hs⟩ := start1 w11 27 #[.bool m2, .slice D2 a2_ k2_, .bool m2', .slice D2' a2' k2', .int .i64 f3]
  have hgY : w8.heap.size ≤ w11.heap.size := HS.out.size
  clear hs
  have HS := hide (HS.out.trans (hb.mono HS.out.size))
  have Ba := sBa.below HS.out sBa.lt
  have Bb := sBb.below HS.out sBb.lt
  have Bo := sBo.below HS.out sBo.lt
  have X := X.below hb X.lt
  have p1 := p1.below hb
  have p1' := p1'.below hb
  have p2 := p2.below hb
  have p2' := p2'.below hb
  clear hb
  go_upto_region 7 with (fail)
  rw [← hW]
  clear hW
  obtain ⟨a0, a1, a2, a3, a4, -⟩ := Ba.five
  obtain ⟨b0, b1, b2, b3, b4, -⟩ := Bb.five
  obtain ⟨o0, o1, o2, o3, o4, -⟩ := Bo.five
  obtain ⟨X0, X1, X2, X3, X4, X5, X6, X7, X8, X9⟩ := X.five
  obtain ⟨Y0, Y1, Y2, Y3, Y4, Y5, Y6, Y7, Y8, Y9⟩ := Y.five
  have hneXY : ¬ w9.heap.size = w11.heap.size := Nat.ne_of_lt hXlt
  have hneYX : ¬ w11.heap.size = w9.heap.size := fun h => hneXY h.symm
  clear hXlt
  have HP := equal5_calls f3 f4 p1.qc p1'.qc p2.qc p2'.qc
  have HPH := hide HP
  clear HP
  go_wp2_with fail
  refine HPH.out.mono ?_
  rintro e w13 ⟨hb, rfl⟩
  clear HPH
  clear a0 a1 a2 a3 a4 b0 b1 b2 b3 b4 o0 o1 o2 o3 o4 X0 X1 X2 X3 X4 X5 X6 X7 X8 X9 Y0 Y1 Y2 Y3 Y4 Y5 Y6 Y7 Y8 Y9
  have HS := hide (HS.out.trans (hb.mono HS.out.size))
  have Ba := sBa.below HS.out sBa.lt
  have Bb := sBb.below HS.out sBb.lt
  have Bo := sBo.below HS.out sBo.lt
  have X := X.below hb X.lt
  have Y := Y.below hb Y.lt
  have p1 := p1.below hb
  have p1' := p1'.below hb
  have p2 := p2.below hb
  have p2' := p2'.below hb
  clear hb
  obtain ⟨a0, a1, a2, a3, a4, -⟩ := Ba.five
  obtain ⟨b0, b1, b2, b3, b4, -⟩ := Bb.five
  obtain ⟨o0, o1, o2, o3, o4, -⟩ := Bo.five
  obtain ⟨X0, X1, X2, X3, X4, X5, X6, X7, X8, X9⟩ := X.five
  obtain ⟨Y0, Y1, Y2, Y3, Y4, Y5, Y6, Y7, Y8, Y9⟩ := Y.five
  clear p1 p1' p2 p2'
  have hlt3X : w9.heap.size < w13.heap.size := X.lt
  have hlt3Y : w11.heap.size < w13.heap.size := Y.lt
  have HP := bsub_calls Q0 Q1 (Q0_.below HS.out) (Q1_.below HS.out) (Q2_.below HS.out) (Q3_.below HS.out) (by omega)
  unfold RetE at HP
  rw [Hg1.out, Hg2.out, Hg3.out, Hg4.out] at HP
  have HPH := hide HP
  clear HP
  go_wp2_with fail
  refine HPH.out.mono ?_
  rintro e w14 ⟨hb, m3, D3, a3_, k3_, m3', D3', a3', k3', rfl, p3, p3'⟩
  clear HPH
  clear a0 a1 a2 a3 a4 b0 b1 b2 b3 b4 o0 o1 o2 o3 o4 X0 X1 X2 X3 X4 X5 X6 X7 X8 X9 Y0 Y1 Y2 Y3 Y4 Y5 Y6 Y7 Y8 Y9
  have HS := hide (HS.out.trans (hb.mono HS.out.size))
  have Ba := sBa.below HS.out sBa.lt
  have Bb := sBb.below HS.out sBb.lt
  have Bo := sBo.below HS.out sBo.lt
  have X := X.below hb X.lt
  have Y := Y.below hb Y.lt
  clear hb
  obtain ⟨a0, a1, a2, a3, a4, -⟩ := Ba.five
  obtain ⟨b0, b1, b2, b3, b4, -⟩ := Bb.five
  obtain ⟨o0, o1, o2, o3, o4, -⟩ := Bo.five
  obtain ⟨X0, X1, X2, X3, X4, X5, X6, X7, X8, X9⟩ := X.five
  obtain ⟨Y0, Y1, Y2, Y3, Y4, Y5, Y6, Y7, Y8, Y9⟩ := Y.five
  obtain ⟨w15, hW, Xn, kq, kb, ks, kg, kn⟩ := set5_all X (.bool m3) (.slice D3 a3_ k3_) (.bool m3') (.slice D3' a3' k3') (.int .i64 g3)
  have Y := kg _ _ _ hneYX Y
  have X := Xn
  have HS := hide (kb _ _ HS.out hgX)
  have Ba := sBa.below HS.out sBa.lt
  have Bb := sBb.below HS.out sBb.lt
  have Bo := sBo.below HS.out sBo.lt
  have p3 := kq _ _ _ _ _ _ _ hlt3X p3
  have p3' := kq _ _ _ _ _ _ _ hlt3X p3'
  clear kq kb kn kg
  go_upto_region 9 with (fail)
  rw [← hW]
  clear hW
  clear a0 a1 a2 a3 a4 b0 b1 b2 b3 b4 o0 o1 o2 o3 o4 X0 X1 X2 X3 X4 X5 X6 X7 X8 X9 Y0 Y1 Y2 Y3 Y4 Y5 Y6 Y7 Y8 Y9
  obtain ⟨a0, a1, a2, a3, a4, -⟩ := Ba.five
  obtain ⟨b0, b1, b2, b3, b4, -⟩ := Bb.five
  obtain ⟨o0, o1, o2, o3, o4, -⟩ := Bo.five
  obtain ⟨X0, X1, X2, X3, X4, X5, X6, X7, X8, X9⟩ := X.five
  obtain ⟨Y0, Y1, Y2, Y3, Y4, Y5, Y6, Y7, Y8, Y9⟩ := Y.five
  have hlt4Y : w11.heap.size < w15.heap.size := Y.lt
  have HP := subR5_calls Q0 Q1 (Q0_.below HS.out) (Q1_.below HS.out) (Q2_.below HS.out) (Q3_.below HS.out) (by omega)
  unfold RetE at HP
  rw [Hg1.out, Hg2.out, Hg3.out, Hg4.out] at HP
  have HPH := hide HP
  clear HP
  go_wp2_with fail
  refine HPH.out.mono ?_
  rintro e w16 ⟨hb, m4, D4, a4_, k4_, m4', D4', a4', k4', rfl, p4, p4'⟩
  clear HPH
  clear a0 a1 a2 a3 a4 b0 b1 b2 b3 b4 o0 o1 o2 o3 o4 X0 X1 X2 X3 X4 X5 X6 X7 X8 X9 Y0 Y1 Y2 Y3 Y4 Y5 Y6 Y7 Y8 Y9
  have HS := hide (HS.out.trans (hb.mono HS.out.size))
  have Ba := sBa.below HS.out sBa.lt
  have Bb := sBb.below HS.out sBb.lt
  have Bo := sBo.below HS.out sBo.lt
  have X := X.below hb X.lt
  have Y := Y.below hb Y.lt
  have p3 := p3.below hb
  have p3' := p3'.below hb
  clear hb
  obtain ⟨a0, a1, a2, a3, a4, -⟩ := Ba.five
  obtain ⟨b0, b1, b2, b3, b4, -⟩ := Bb.five
  obtain ⟨o0, o1, o2, o3, o4, -⟩ := Bo.five
  obtain ⟨X0, X1, X2, X3, X4, X5, X6, X7, X8, X9⟩ := X.five
  obtain ⟨Y0, Y1, Y2, Y3, Y4, Y5, Y6, Y7, Y8, Y9⟩ := Y.five
  obtain ⟨w17, hW, Yn, kq, kb, ks, kg, kn⟩ := set5_all Y (.bool m4) (.slice D4 a4_ k4_) (.bool m4') (.slice D4' a4' k4') (.int .i64 g3)
  have X := kg _ _ _ hneXY X
  have Y := Yn
  have HS := hide (kb _ _ HS.out hgY)
  have Ba := sBa.below HS.out sBa.lt
  have Bb := sBb.below HS.out sBb.lt
  have Bo := sBo.below HS.out sBo.lt
  have p3 := kq _ _ _ _ _ _ _ hlt3Y p3
  have p3' := kq _ _ _ _ _ _ _ hlt3Y p3'
  have p4 := kq _ _ _ _ _ _ _ hlt4Y p4
  have p4' := kq _ _ _ _ _ _ _ hlt4Y p4'
  clear kq kb kn kg
  go_upto_region 10 with (fail)
  rw [← hW]
  clear hW
  clear a0 a1 a2 a3 a4 b0 b1 b2 b3 b4 o0 o1 o2 o3 o4 X0 X1 X2 X3 X4 X5 X6 X7 X8 X9 Y0 Y1 Y2 Y3 Y4 Y5 Y6 Y7 Y8 Y9
  obtain ⟨a0, a1, a2, a3, a4, -⟩ := Ba.five
  obtain ⟨b0, b1, b2, b3, b4, -⟩ := Bb.five
  obtain ⟨o0, o1, o2, o3, o4, -⟩ := Bo.five
  obtain ⟨X0, X1, X2, X3, X4, X5, X6, X7, X8, X9⟩ := X.five
  obtain ⟨Y0, Y1, Y2, Y3, Y4, Y5, Y6, Y7, Y8, Y9⟩ := Y.five
  clear hlt3X hlt3Y hlt4Y
  have HP := equal5_calls g3 g4 p3.qc p3'.qc p4.qc p4'.qc
  have HPH := hide HP
  clear HP
  go_wp2_with fail
  refine HPH.out.mono ?_
  rintro e w18 ⟨hb, rfl⟩
  clear HPH
  clear a0 a1 a2 a3 a4 b0 b1 b2 b3 b4 o0 o1 o2 o3 o4 X0 X1 X2 X3 X4 X5 X6 X7 X8 X9 Y0 Y1 Y2 Y3 Y4 Y5 Y6 Y7 Y8 Y9
  have HS := hide (HS.out.trans (hb.mono HS.out.size))
  have Ba := sBa.below HS.out sBa.lt
  have Bb := sBb.below HS.out sBb.lt
  have Bo := sBo.below HS.out sBo.lt
  have X := X.below hb X.lt
  have Y := Y.below hb Y.lt
  have p3 := p3.below hb
  have p3' := p3'.below hb
  have p4 := p4.below hb
  have p4' := p4'.below hb
  clear hb
  obtain ⟨a0, a1, a2, a3, a4, -⟩ := Ba.five
  obtain ⟨b0, b1, b2, b3, b4, -⟩ := Bb.five
  obtain ⟨o0, o1, o2, o3, o4, -⟩ := Bo.five
  obtain ⟨X0, X1, X2, X3, X4, X5, X6, X7, X8, X9⟩ := X.five
  obtain ⟨Y0, Y1, Y2, Y3, Y4, Y5, Y6, Y7, Y8, Y9⟩ := Y.five
  clear p3 p3' p4 p4'
  have hlt5X : w9.heap.size < w18.heap.size := X.lt
  have hlt5Y : w11.heap.size < w18.heap.size := Y.lt
  have HP := bmul_calls Q0 Q1 (Q0_.below HS.out) (Q1_.below HS.out) (Q2_.below HS.out) (Q3_.below HS.out) (by omega)
  unfold RetE at HP
  rw [Ht1.out, Ht2.out, Ht3.out, Ht4.out] at HP
  have HPH := hide HP
  clear HP
  go_wp2_with fail
  refine HPH.out.mono ?_
  rintro e w19 ⟨hb, m5, D5, a5_, k5_, m5', D5', a5', k5', rfl, p5, p5'⟩
  clear HPH
  clear a0 a1 a2 a3 a4 b0 b1 b2 b3 b4 o0 o1 o2 o3 o4 X0 X1 X2 X3 X4 X5 X6 X7 X8 X9 Y0 Y1 Y2 Y3 Y4 Y5 Y6 Y7 Y8 Y9
  have HS := hide (HS.out.trans (hb.mono HS.out.size))
  have Ba := sBa.below HS.out sBa.lt
  have Bb := sBb.below HS.out sBb.lt
  have Bo := sBo.below HS.out sBo.lt
  have X := X.below hb X.lt
  have Y := Y.below hb Y.lt
  clear hb
  obtain ⟨a0, a1, a2, a3, a4, -⟩ := Ba.five
  obtain ⟨b0, b1, b2, b3, b4, -⟩ := Bb.five
  obtain ⟨o0, o1, o2, o3, o4, -⟩ := Bo.five
  obtain ⟨X0, X1, X2, X3, X4, X5, X6, X7, X8, X9⟩ := X.five
  obtain ⟨Y0, Y1, Y2, Y3, Y4, Y5, Y6, Y7, Y8, Y9⟩ := Y.five
  obtain ⟨w20, hW, Xn, kq, kb, ks, kg, kn⟩ := set5_all X (.bool m5) (.slice D5 a5_ k5_) (.bool m5') (.slice D5' a5' k5') (.int .i64 t3)
  have Y := kg _ _ _ hneYX Y
  have X := Xn
  have HS := hide (kb _ _ HS.out hgX)
  have Ba := sBa.below HS.out sBa.lt
  have Bb := sBb.below HS.out sBb.lt
  have Bo := sBo.below HS.out sBo.lt
  have p5 := kq _ _ _ _ _ _ _ hlt5X p5
  have p5' := kq _ _ _ _ _ _ _ hlt5X p5'
  clear kq kb kn kg
  go_upto_region 12 with (fail)
  rw [← hW]
  clear hW
  clear a0 a1 a2 a3 a4 b0 b1 b2 b3 b4 o0 o1 o2 o3 o4 X0 X1 X2 X3 X4 X5 X6 X7 X8 X9 Y0 Y1 Y2 Y3 Y4 Y5 Y6 Y7 Y8 Y9
  obtain ⟨a0, a1, a2, a3, a4, -⟩ := Ba.five
  obtain ⟨b0, b1, b2, b3, b4, -⟩ := Bb.five
  obtain ⟨o0, o1, o2, o3, o4, -⟩ := Bo.five
  obtain ⟨X0, X1, X2, X3, X4, X5, X6, X7, X8, X9⟩ := X.five
  obtain ⟨Y0, Y1, Y2, Y3, Y4, Y5, Y6, Y7, Y8, Y9⟩ := Y.five
  have hlt6Y : w11.heap.size < w20.heap.size := Y.lt
  have HP := mulR5_calls Q0 Q1 (Q0_.below HS.out) (Q1_.below HS.out) (Q2_.below HS.out) (Q3_.below HS.out) (by omega)
  unfold RetE at HP
  rw [Ht1.out, Ht2.out, Ht3.out, Ht4.out] at HP
  have HPH := hide HP
  clear HP
  go_wp2_with fail
  refine HPH.out.mono ?_
  rintro e w21 ⟨hb, m6, D6, a6_, k6_, m6', D6', a6', k6', rfl, p6, p6'⟩
  clear HPH
  clear a0 a1 a2 a3 a4 b0 b1 b2 b3 b4 o0 o1 o2 o3 o4 X0 X1 X2 X3 X4 X5 X6 X7 X8 X9 Y0 Y1 Y2 Y3 Y4 Y5 Y6 Y7 Y8 Y9
  have HS := hide (HS.out.trans (hb.mono HS.out.size))
  have Ba := sBa.below HS.out sBa.lt
  have Bb := sBb.below HS.out sBb.lt
  have Bo := sBo.below HS.out sBo.lt
  have X := X.below hb X.lt
  have Y := Y.below hb Y.lt
  have p5 := p5.below hb
  have p5' := p5'.below hb
  clear hb
  obtain ⟨a0, a1, a2, a3, a4, -⟩ := Ba.five
  obtain ⟨b0, b1, b2, b3, b4, -⟩ := Bb.five
  obtain ⟨o0, o1, o2, o3, o4, -⟩ := Bo.five
  obtain ⟨X0, X1, X2, X3, X4, X5, X6, X7, X8, X9⟩ := X.five
  obtain ⟨Y0, Y1, Y2, Y3, Y4, Y5, Y6, Y7, Y8, Y9⟩ := Y.five
  obtain ⟨w22, hW, Yn, kq, kb, ks, kg, kn⟩ := set5_all Y (.bool m6) (.slice D6 a6_ k6_) (.bool m6') (.slice D6' a6' k6') (.int .i64 t3)
  have X := kg _ _ _ hneXY X
  have Y := Yn
  have HS := hide (kb _ _ HS.out hgY)
  have Ba := sBa.below HS.out sBa.lt
  have Bb := sBb.below HS.out sBb.lt
  have Bo := sBo.below HS.out sBo.lt
  have p5 := kq _ _ _ _ _ _ _ hlt5Y p5
  have p5' := kq _ _ _ _ _ _ _ hlt5Y p5'
  have p6 := kq _ _ _ _ _ _ _ hlt6Y p6
  have p6' := kq _ _ _ _ _ _ _ hlt6Y p6'
  clear kq kb kn kg
  go_upto_region 13 with (fail)
  rw [← hW]
  clear hW
  clear a0 a1 a2 a3 a4 b0 b1 b2 b3 b4 o0 o1 o2 o3 o4 X0 X1 X2 X3 X4 X5 X6 X7 X8 X9 Y0 Y1 Y2 Y3 Y4 Y5 Y6 Y7 Y8 Y9
  obtain ⟨a0, a1, a2, a3, a4, -⟩ := Ba.five
  obtain ⟨b0, b1, b2, b3, b4, -⟩ := Bb.five
  obtain ⟨o0, o1, o2, o3, o4, -⟩ := Bo.five
  obtain ⟨X0, X1, X2, X3, X4, X5, X6, X7, X8, X9⟩ := X.five
  obtain ⟨Y0, Y1, Y2, Y3, Y4, Y5, Y6, Y7, Y8, Y9⟩ := Y.five
  clear hlt5X hlt5Y hlt6Y
  have HP := equal5_calls t3 t4 p5.qc p5'.qc p6.qc p6'.qc
  have HPH := hide HP
  clear HP
  go_wp2_with fail
  refine HPH.out.mono ?_
  rintro e w23 ⟨hb, rfl⟩
  clear HPH
  clear a0 a1 a2 a3 a4 b0 b1 b2 b3 b4 o0 o1 o2 o3 o4 X0 X1 X2 X3 X4 X5 X6 X7 X8 X9 Y0 Y1 Y2 Y3 Y4 Y5 Y6 Y7 Y8 Y9
  have HS := hide (HS.out.trans (hb.mono HS.out.size))
  have Ba := sBa.below HS.out sBa.lt
  have Bb := sBb.below HS.out sBb.lt
  have Bo := sBo.below HS.out sBo.lt
  have X := X.below hb X.lt
  have Y := Y.below hb Y.lt
  have p5 := p5.below hb
  have p5' := p5'.below hb
  have p6 := p6.below hb
  have p6' := p6'.below hb
  clear hb
  obtain ⟨a0, a1, a2, a3, a4, -⟩ := Ba.five
  obtain ⟨b0, b1, b2, b3, b4, -⟩ := Bb.five
  obtain ⟨o0, o1, o2, o3, o4, -⟩ := Bo.five
  obtain ⟨X0, X1, X2, X3, X4, X5, X6, X7, X8, X9⟩ := X.five
  obtain ⟨Y0, Y1, Y2, Y3, Y4, Y5, Y6, Y7, Y8, Y9⟩ := Y.five
  clear p5 p5' p6 p6'
  have hlt7X : w9.heap.size < w23.heap.size := X.lt
  have hlt7Y : w11.heap.size < w23.heap.size := Y.lt
  have HP := bdiv_calls Q0 Q1 (Q0_.below HS.out) (Q1_.below HS.out) (Q2_.below HS.out) (Q3_.below HS.out) (by omega)
  unfold RetE at HP
  rw [Hk1.out, Hk2.out, Hk3.out, Hk4.out] at HP
  have HPH := hide HP
  clear HP
  go_wp2_with fail
  refine HPH.out.mono ?_
  rintro e w24 ⟨hb, m7, D7, a7_, k7_, m7', D7', a7', k7', rfl, p7, p7'⟩
  clear HPH
  clear a0 a1 a2 a3 a4 b0 b1 b2 b3 b4 o0 o1 o2 o3 o4 X0 X1 X2 X3 X4 X5 X6 X7 X8 X9 Y0 Y1 Y2 Y3 Y4 Y5 Y6 Y7 Y8 Y9
  have HS := hide (HS.out.trans (hb.mono HS.out.size))
  have Ba := sBa.below HS.out sBa.lt
  have Bb := sBb.below HS.out sBb.lt
  have Bo := sBo.below HS.out sBo.lt
  have X := X.below hb X.lt
  have Y := Y.below hb Y.lt
  clear hb
  obtain ⟨a0, a1, a2, a3, a4, -⟩ := Ba.five
  obtain ⟨b0, b1, b2, b3, b4, -⟩ := Bb.five
  obtain ⟨o0, o1, o2, o3, o4, -⟩ := Bo.five
  obtain ⟨X0, X1, X2, X3, X4, X5, X6, X7, X8, X9⟩ := X.five
  obtain ⟨Y0, Y1, Y2, Y3, Y4, Y5, Y6, Y7, Y8, Y9⟩ := Y.five
  obtain ⟨w25, hW, Xn, kq, kb, ks, kg, kn⟩ := set5_all X (.bool m7) (.slice D7 a7_ k7_) (.bool m7') (.slice D7' a7' k7') (.int .i64 k3)
  have Y := kg _ _ _ hneYX Y
  have X := Xn
  have HS := hide (kb _ _ HS.out hgX)
  have Ba := sBa.below HS.out sBa.lt
  have Bb := sBb.below HS.out sBb.lt
  have Bo := sBo.below HS.out sBo.lt
  have p7 := kq _ _ _ _ _ _ _ hlt7X p7
  have p7' := kq _ _ _ _ _ _ _ hlt7X p7'
  clear kq kb kn kg
  go_upto_region 15 with (fail)
  rw [← hW]
  clear hW
  clear a0 a1 a2 a3 a4 b0 b1 b2 b3 b4 o0 o1 o2 o3 o4 X0 X1 X2 X3 X4 X5 X6 X7 X8 X9 Y0 Y1 Y2 Y3 Y4 Y5 Y6 Y7 Y8 Y9
  obtain ⟨a0, a1, a2, a3, a4, -⟩ := Ba.five
  obtain ⟨b0, b1, b2, b3, b4, -⟩ := Bb.five
  obtain ⟨o0, o1, o2, o3, o4, -⟩ := Bo.five
  obtain ⟨X0, X1, X2, X3, X4, X5, X6, X7, X8, X9⟩ := X.five
  obtain ⟨Y0, Y1, Y2, Y3, Y4, Y5, Y6, Y7, Y8, Y9⟩ := Y.five
  have hlt8Y : w11.heap.size < w25.heap.size := Y.lt
  have HP := divR5_calls Q0 Q1 (Q0_.below HS.out) (Q1_.below HS.out) (Q2_.below HS.out) (Q3_.below HS.out) (by omega)
  unfold RetE at HP
  rw [Hk1.out, Hk2.out, Hk3.out, Hk4.out] at HP
  have HPH := hide HP
  clear HP
  go_wp2_with fail
  refine HPH.out.mono ?_
  rintro e w26 ⟨hb, m8, D8, a8_, k8_, m8', D8', a8', k8', rfl, p8, p8'⟩
  clear HPH
  clear a0 a1 a2 a3 a4 b0 b1 b2 b3 b4 o0 o1 o2 o3 o4 X0 X1 X2 X3 X4 X5 X6 X7 X8 X9 Y0 Y1 Y2 Y3 Y4 Y5 Y6 Y7 Y8 Y9
  have HS := hide (HS.out.trans (hb.mono HS.out.size))
  have Ba := sBa.below HS.out sBa.lt
  have Bb := sBb.below HS.out sBb.lt
  have Bo := sBo.below HS.out sBo.lt
  have X := X.below hb X.lt
  have Y := Y.below hb Y.lt
  have p7 := p7.below hb
  have p7' := p7'.below hb
  clear hb
  obtain ⟨a0, a1, a2, a3, a4, -⟩ := Ba.five
  obtain ⟨b0, b1, b2, b3, b4, -⟩ := Bb.five
  obtain ⟨o0, o1, o2, o3, o4, -⟩ := Bo.five
  obtain ⟨X0, X1, X2, X3, X4, X5, X6, X7, X8, X9⟩ := X.five
  obtain ⟨Y0, Y1, Y2, Y3, Y4, Y5, Y6, Y7, Y8, Y9⟩ := Y.five
  obtain ⟨w27, hW, Yn, kq, kb, ks, kg, kn⟩ := set5_all Y (.bool m8) (.slice D8 a8_ k8_) (.bool m8') (.slice D8' a8' k8') (.int .i64 k3)
  have X := kg _ _ _ hneXY X
  have Y := Yn
  have HS := hide (kb _ _ HS.out hgY)
  have Ba := sBa.below HS.out sBa.lt
  have Bb := sBb.below HS.out sBb.lt
  have Bo := sBo.below HS.out sBo.lt
  have p7 := kq _ _ _ _ _ _ _ hlt7Y p7
  have p7' := kq _ _ _ _ _ _ _ hlt7Y p7'
  have p8 := kq _ _ _ _ _ _ _ hlt8Y p8
  have p8' := kq _ _ _ _ _ _ _ hlt8Y p8'
  clear kq kb kn kg
  go_upto_region 16 with (fail)
  rw [← hW]
  clear hW
  clear a0 a1 a2 a3 a4 b0 b1 b2 b3 b4 o0 o1 o2 o3 o4 X0 X1 X2 X3 X4 X5 X6 X7 X8 X9 Y0 Y1 Y2 Y3 Y4 Y5 Y6 Y7 Y8 Y9
  obtain ⟨a0, a1, a2, a3, a4, -⟩ := Ba.five
  obtain ⟨b0, b1, b2, b3, b4, -⟩ := Bb.five
  obtain ⟨o0, o1, o2, o3, o4, -⟩ := Bo.five
  obtain ⟨X0, X1, X2, X3, X4, X5, X6, X7, X8, X9⟩ := X.five
  obtain ⟨Y0, Y1, Y2, Y3, Y4, Y5, Y6, Y7, Y8, Y9⟩ := Y.five
  clear hlt7X hlt7Y hlt8Y
  have HP := equal5_calls k3 k4 p7.qc p7'.qc p8.qc p8'.qc
  have HPH := hide HP
  clear HP
  go_wp2_with fail
  refine HPH.out.mono ?_
  rintro e w28 ⟨hb, rfl⟩
  clear HPH
  clear a0 a1 a2 a3 a4 b0 b1 b2 b3 b4 o0 o1 o2 o3 o4 X0 X1 X2 X3 X4 X5 X6 X7 X8 X9 Y0 Y1 Y2 Y3 Y4 Y5 Y6 Y7 Y8 Y9
  have HS := hide (HS.out.trans (hb.mono HS.out.size))
  have Ba := sBa.below HS.out sBa.lt
  have Bb := sBb.below HS.out sBb.lt
  have Bo := sBo.below HS.out sBo.lt
  have X := X.below hb X.lt
  have Y := Y.below hb Y.lt
  have p7 := p7.below hb
  have p7' := p7'.below hb
  have p8 := p8.below hb
  have p8' := p8'.below hb
  clear hb
  obtain ⟨a0, a1, a2, a3, a4, -⟩ := Ba.five
  obtain ⟨b0, b1, b2, b3, b4, -⟩ := Bb.five
  obtain ⟨o0, o1, o2, o3, o4, -⟩ := Bo.five
  obtain ⟨X0, X1, X2, X3, X4, X5, X6, X7, X8, X9⟩ := X.five
  obtain ⟨Y0, Y1, Y2, Y3, Y4, Y5, Y6, Y7, Y8, Y9⟩ := Y.five
  clear p7 p7' p8 p8'
  have HP := eqB_raw (n0 := n0) (n1 := n1) Q0 (hN4.below HS.out) (hN5.below HS.out) (hN0.below HS.out) (hN1.below HS.out)
  have HPH := hide HP
  clear HP
  go_wp2_with fail
  refine HPH.out.mono ?_
  rintro e w29 ⟨hb, rfl⟩
  clear HPH
  clear a0 a1 a2 a3 a4 b0 b1 b2 b3 b4 o0 o1 o2 o3 o4 X0 X1 X2 X3 X4 X5 X6 X7 X8 X9 Y0 Y1 Y2 Y3 Y4 Y5 Y6 Y7 Y8 Y9
  have HS := hide (HS.out.trans (hb.mono HS.out.size))
  have Ba := sBa.below HS.out sBa.lt
  have Bb := sBb.below HS.out sBb.lt
  have Bo := sBo.below HS.out sBo.lt
  have X := X.below hb X.lt
  have Y := Y.below hb Y.lt
  clear hb
  obtain ⟨a0, a1, a2, a3, a4, -⟩ := Ba.five
  obtain ⟨b0, b1, b2, b3, b4, -⟩ := Bb.five
  obtain ⟨o0, o1, o2, o3, o4, -⟩ := Bo.five
  obtain ⟨X0, X1, X2, X3, X4, X5, X6, X7, X8, X9⟩ := X.five
  obtain ⟨Y0, Y1, Y2, Y3, Y4, Y5, Y6, Y7, Y8, Y9⟩ := Y.five
  clear a0 a1 a2 a3 a4 b0 b1 b2 b3 b4 o0 o1 o2 o3 o4 X0 X1 X2 X3 X4 X5 X6 X7 X8 X9 Y0 Y1 Y2 Y3 Y4 Y5 Y6 Y7 Y8 Y9
  go_wp2_with fail
  go_ret
  exact ⟨rfl, HB.out.trans (HS.out.mono HB.out.size)⟩

theorem walk (w : World) (n0 : Bool) (A0 : Option Addr) (l0 c0 : Nat) (m0 : Bool) (B0 : Option Addr) (j0 d0 : Nat) (x0 : Int) (s0 : ∃ L, Nums w 0 (.slice A0 l0 c0) L) (t0 : ∃ L, Nums w 0 (.slice B0 j0 d0) L) (w0 : (Lit.int .i64 x0).wf = true)
    (n1 : Bool) (A1 : Option Addr) (l1 c1 : Nat) (m1 : Bool) (B1 : Option Addr) (j1 d1 : Nat) (x1 : Int) (s1 : ∃ L, Nums w 0 (.slice A1 l1 c1) L) (t1 : ∃ L, Nums w 0 (.slice B1 j1 d1) L) (w1 : (Lit.int .i64 x1).wf = true) :
    Calls Tryz.prog 7 #[.agg #[.bool n0, .slice A0 l0 c0, .bool m0, .slice B0 j0 d0, .int .i64 x0], .agg #[.bool n1, .slice A1 l1 c1, .bool m1, .slice B1 j1 d1, .int .i64 x1]] w fun e w' => e = .returned (.bool true) ∧ Below w.heap.size w w' := by
  obtain ⟨L0, h0⟩ := s0
  obtain ⟨L1, h1⟩ := t0
  obtain ⟨L2, h2⟩ := s1
  obtain ⟨L3, h3⟩ := t1
  exact walkN n0 m0 n1 m1 A0 B0 A1 B1 l0 j0 l1 j1 c0 d0 c1 d1 x0 x1 L0 L1 L2 L3 w h0 h1 h2 h3

/-! ### the row -/
set_option maxRecDepth 100000 in
theorem lifted (os : Os) (started : os.Started) (H : Type) (enc : TypeId × Value → H) :
    ReturnsInHanded {} Tryz.checked os 7 .any (Rows.ballSumsSpec.pre6 enc Tryz.prog Tryz.f7 Rows.ballSumsRow.domain false) (Rows.ballSumsSpec.post enc Tryz.prog Tryz.f7 false true false false) := by
  refine returnsInHanded_of_change (C := Tryz.checked) own started (by kernel_rfl) Tryz.func7
    (ChangeSpec.witness6 (enc := enc) (C := Tryz.checked) false ⟨#[], #[.agg #[.bool false, .slice none 0 0, .bool false, .slice none 0 0, .int .i64 0], .agg #[.bool false, .slice none 0 0, .bool false, .slice none 0 0, .int .i64 0]], []⟩ 8 (by kernel_rfl) (by kernel_rfl) (by kernel_rfl) (by kernel_rfl)) ?_
  intro W base args ds gs before hval0 hW hcnd _
  have hval : ∀ (j : Nat) t v, Tryz.f7.params[j]? = some t → args[j]? = some v → Value.okWide Tryz.prog W .any base t v := hval0
  have hW' := hW
  obtain ⟨p, q, hA0, hV, rfl, hfz, hnd⟩ := hW
  have hA : DataW.TrodAll enc Tryz.prog W 0 (fun _ => true) true Tryz.f7.params.toList args.toList ds p := hA0
  rw [Tryz.params7] at hA hval
  obtain ⟨v0, vs0, d0, ds0, p0, q0, hargs, rfl, rfl, h0, r0⟩ := trodAll_cons hA
  obtain ⟨v1, vs1, d1, ds1, p1, q1, rfl, rfl, rfl, h1, r1⟩ := trodAll_cons r0
  obtain ⟨rfl, rfl, rfl⟩ := trodAll_nil r1
  obtain rfl : args = #[v0, v1] := by cases args; simp_all
  obtain ⟨rfl, rfl⟩ := trodVars_none hV
  have k0 := h0
  have lt0 : ∀ x ∈ p0, x.block < W.heap.size := by obtain ⟨m, hm⟩ := k0; exact DataW.trod_lt m _ _ _ hm
  obtain ⟨n0, A0, l0, c0, m0, B0, j0, d0_, x0, rfl, s0, t0, w0⟩ := open_ball (hval 0 27 v0 rfl rfl) h0
  have k1 := h1
  have lt1 : ∀ x ∈ p1, x.block < W.heap.size := by obtain ⟨m, hm⟩ := k1; exact DataW.trod_lt m _ _ _ hm
  obtain ⟨n1, A1, l1, c1, m1, B1, j1, d1_, x1, rfl, s1, t1, w1⟩ := open_ball (hval 1 27 v1 rfl rfl) h1
  clear hA0 hval0
  refine (walk W n0 A0 l0 c0 m0 B0 j0 d0_ x0 s0 t0 w0 n1 A1 l1 c1 m1 B1 j1 d1_ x1 s1 t1 w1).mono fun e W' ⟨he, bel⟩ => ?_
  subst he
  exact ⟨_, rfl, _, _, _, [], _, [], hW', trodAll_mk1 (shut_bool Tryz.underlying4 _), (trodAll_cons_mk (Below.trod laidOut (by kernel_rfl) (of_decide_eq_true (by kernel_rfl)) k0 bel lt0) (trodAll_cons_mk (Below.trod laidOut (by kernel_rfl) (of_decide_eq_true (by kernel_rfl)) k1 bel lt1) trodAll_mk0)), rfl, bel.frame _, fun h => by cases h⟩

theorem over : Rows.ballSumsRow.holds Tryz.pinned (OpenSpec.ofChange Rows.ballSumsSpec) :=
  OpenClaim.holds_of_wide 7 Tryz.f7 rfl rfl rfl rfl rfl rfl rfl ⟨rfl, rfl, rfl, rfl, rfl⟩ rfl rfl rfl rfl rfl (by kernel_rfl) Tryz.func7 (by kernel_rfl)
    (of_decide_eq_true (by kernel_rfl)) (by unfold Func.isWrapper; first | (rw [if_pos (by decide +kernel)]; kernel_rfl) | (rw [if_neg (by decide +kernel)]; exact ⟨rfl, rfl⟩))
    (fun os started H enc _ => lifted os started H enc)

theorem proved : Rows.BallSumsSaid := over
#print axioms proved
end Go.Proofs.YtnfbngiabdlclaaGreat.ballSums
