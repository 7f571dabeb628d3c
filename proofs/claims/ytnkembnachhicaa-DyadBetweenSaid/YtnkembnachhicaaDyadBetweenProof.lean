/-
  hairlinelaw03.DyadBetween returns true for any dyad and any number of places. Conditions: none.
-/
import Derived.Test.YtnkembnachhicaaRows
import Derived.Test.YtnkembnachhicaaFl
import Derived.Test.YtnkembnachhicaaShown3
import Derived.Test.YtnkembnachhicaaOpen
import Derived.Deep.DeepCutAuto
namespace Go.Proofs.Ytnkembnachhicaa.dyadBetween
open Go.ChangeShapes Go.WideShapes Go.ChangeAt Go.RowKit
open L (val)
set_option linter.unusedVariables false
set_option linter.unusedSimpArgs false

theorem own : ownKnob Try.prog.godebug = none := by kernel_rfl
theorem laidOut : laidOutB Try.prog = true := by kernel_rfl

set_option maxHeartbeats 8000000 in
set_option maxRecDepth 100000 in
theorem walkN (na : Bool) (Aa : Option Addr) (la ka : Nat) (xa0 q0 : Int) (La : List Nat) (w : World) (ha : Nums w 0 (.slice Aa la ka) La) :
    Calls Try.prog 7 #[.agg #[.bool na, .slice Aa la ka, .int .i64 xa0], .int .i64 q0] w fun e w' => e = .returned (.bool true) ∧ Below w.heap.size w w' := by
  obtain ⟨w1, hW, Ba, hB1, hs⟩ := start1 w 26 #[.bool na, .slice Aa la ka, .int .i64 xa0]
  have HB := hide hB1
  clear hB1
  have hs0 : w.heap.size < w1.heap.size := by omega
  clear hs
  obtain ⟨ca0, ca1, ca2, -, -, -⟩ := Ba.three
  obtain ⟨za, HZa⟩ : ∃ z, Hid (ival na (val W (La.take 4)) = z) := ⟨_, hide rfl⟩
  obtain ⟨xa, HXa⟩ : ∃ x, Hid (xa0.tmod 600 = x) := ⟨_, hide rfl⟩
  have hxa := tmod_bd xa0 600 (by omega)
  rw [show (((600 : Nat) : Int)) = 600 from rfl, HXa.out] at hxa
  obtain ⟨q, hqm⟩ : ∃ x, q0.tmod 500 = x := ⟨_, rfl⟩
  have hq := tmod_bd q0 500 (by omega)
  rw [show (((500 : Nat) : Int)) = 500 from rfl, hqm] at hq
  go_enter Try.func7, Try.ntmps7
  go_upto_region 1 with (fail)
  rw [← hW]
  clear hW
  have HP := shown3_calls w1
  go_wp2_with fail
  refine HP.mono ?_
  rintro e w2 ⟨hb, rfl⟩
  clear HP
  clear ca0 ca1 ca2
  have Ba := Ba.below hb Ba.lt
  have HB := hide (HB.out.trans (hb.mono HB.out.size))
  obtain ⟨ca0, ca1, ca2, -, -, -⟩ := Ba.three
  have HP := small3_calls w2 na Aa la ka xa0 La (ha.up HB.out)
  rw [HZa.out, HXa.out] at HP
  go_wp2_with fail
  refine HP.mono ?_
  have hbasea : w.heap.size < w2.heap.size := Ba.lt
  rintro e w3 ⟨hb, ma, Ca, ja, ia, da, rfl, hna, hda, hva⟩
  clear HP
  clear ca0 ca1 ca2
  have Ba := Ba.below hb Ba.lt
  have HB := hide (HB.out.trans (hb.mono HB.out.size))
  obtain ⟨ca0, ca1, ca2, fa0, fa1, fa2⟩ := Ba.three
  obtain ⟨w4, hW, Ba, hk1, hk2, hs, hk3⟩ := set3_all Ba (.bool ma) (.slice Ca ja ia) (.int .i64 xa)
  have hna := hk2 _ _ _ (by omega) hna
  have HB := hide (hk3 _ _ HB.out (by omega))
  clear hk1 hk2 hk3
  go_upto_region 3 with (fail)
  rw [← hW]
  clear hW ca0 ca1 ca2 fa0 fa1 fa2
  obtain ⟨ca0, ca1, ca2, -, -, -⟩ := Ba.three
  have Qa : Q w4 4 ma Ca ja ia za := ⟨da, hna.mono (Nat.zero_le _), hda, hva⟩
  have hxa5 : -100000 ≤ xa ∧ xa ≤ 100000 := by omega
  have Ia := hide (InV.small (K := 4000) (Nat.le_refl _) (x := xa) (m := 599) Qa.lt (by omega) (by omega) (by omega))
  obtain ⟨V, HV⟩ : ∃ V, Hid (av 4000 za xa = V) := ⟨_, hide rfl⟩
  rw [HV.out] at Ia
  have hnq : nearZ q = q := by unfold nearZ; omega
  obtain ⟨f, HF⟩ : ∃ z, Hid (vFloor 4000 V q = z) := ⟨_, hide rfl⟩
  obtain ⟨c, HC⟩ : ∃ z, Hid (vCeil 4000 V q = z) := ⟨_, hide rfl⟩
  obtain ⟨X, HX⟩ : ∃ z, Hid (sv 5000 V (q - (4000 : Nat)) = z) := ⟨_, hide rfl⟩
  have IX := hide (Ia.out.shift (J := 5000) (p := q) (by omega) (by omega))
  rw [HX.out] at IX
  have IFC := Ia.out.floor (J := 5000) (p := q) (by omega) (by omega) (by omega) (by omega)
  rw [HF.out, HC.out] at IFC
  have IF := hide IFC.1
  have IC := hide IFC.2
  clear IFC
  have HFL := hide (fl_le (X := X) (D := 2 ^ 5000) (f := f) (c := c) (two_pow_int 5000) (by rw [← HF.out, ← HX.out]; exact floor_sv (by omega) (by omega)) (by rw [← HC.out, ← HX.out]; exact ceil_sv (by omega) (by omega)))
  have HSV : Hid (∀ u, sv 5000 u 0 = u * 2 ^ 5000) := hide (fun u => by unfold sv; rw [show (0 + ((5000 : Nat) : Int)).toNat = 5000 from rfl])
  obtain ⟨E, HE⟩ : ∃ z : Int, Hid ((2 : Int) ^ 5000 = z) := ⟨_, hide rfl⟩
  rw [HE.out] at HFL HSV
  obtain ⟨L, HL⟩ : ∃ z, Hid (sv 5000 f 0 = z) := ⟨_, hide rfl⟩
  obtain ⟨H, HH⟩ : ∃ z, Hid (sv 5000 c 0 = z) := ⟨_, hide rfl⟩
  rw [HL.out] at IF
  rw [HH.out] at IC
  have hL : Hid (f * E = L) := hide (by rw [← HL.out, HSV.out])
  have hH : Hid (c * E = H) := hide (by rw [← HH.out, HSV.out])
  rw [hL.out, hH.out] at HFL
  obtain ⟨zx, HZzx⟩ : ∃ z, Hid (pM X = z) := ⟨_, hide rfl⟩
  obtain ⟨xx, HXxx⟩ : ∃ z, Hid (pE X (-((5000 : Nat) : Int)) = z) := ⟨_, hide rfl⟩
  have HVX : Hid (av 5000 zx xx = X) := hide (by rw [← HZzx.out, ← HXxx.out]; exact InV.av (IX.out) (by omega) (by omega))
  have bxx : -100000 ≤ xx ∧ xx ≤ 100000 := by have := InV.bd (IX.out) (by omega) (by omega); rw [HXxx.out] at this; omega
  obtain ⟨zl, HZzl⟩ : ∃ z, Hid (pM L = z) := ⟨_, hide rfl⟩
  obtain ⟨xl, HXxl⟩ : ∃ z, Hid (pE L (-((5000 : Nat) : Int)) = z) := ⟨_, hide rfl⟩
  have HVL : Hid (av 5000 zl xl = L) := hide (by rw [← HZzl.out, ← HXxl.out]; exact InV.av (IF.out) (by omega) (by omega))
  have bxl : -100000 ≤ xl ∧ xl ≤ 100000 := by have := InV.bd (IF.out) (by omega) (by omega); rw [HXxl.out] at this; omega
  obtain ⟨zh, HZzh⟩ : ∃ z, Hid (pM H = z) := ⟨_, hide rfl⟩
  obtain ⟨xh, HXxh⟩ : ∃ z, Hid (pE H (-((5000 : Nat) : Int)) = z) := ⟨_, hide rfl⟩
  have HVH : Hid (av 5000 zh xh = H) := hide (by rw [← HZzh.out, ← HXxh.out]; exact InV.av (IC.out) (by omega) (by omega))
  have bxh : -100000 ≤ xh ∧ xh ≤ 100000 := by have := InV.bd (IC.out) (by omega) (by omega); rw [HXxh.out] at this; omega
  have HS1 : Hid (pM V = zx) := hide (by rw [← HZzx.out, ← HX.out, pM_sv])
  have HS2 : Hid (pE V (nearZ q - (4000 : Nat)) = xx) := hide (by rw [hnq, ← HXxx.out, ← HX.out, pE_sv 5000 _ _ (by omega)])
  have HO1 : Hid (nM f 0 = zl) := hide (by rw [nM_eq 5000, av_of (by omega) (by omega), HL.out]; exact HZzl.out)
  have HO2 : Hid (nE f 0 = xl) := hide (by rw [nE_eq (K := 5000) (by omega), av_of (by omega) (by omega), HL.out]; exact HXxl.out)
  have HO3 : Hid (nM c 0 = zh) := hide (by rw [nM_eq 5000, av_of (by omega) (by omega), HH.out]; exact HZzh.out)
  have HO4 : Hid (nE c 0 = xh) := hide (by rw [nE_eq (K := 5000) (by omega), av_of (by omega) (by omega), HH.out]; exact HXxh.out)
  obtain ⟨gp, HG⟩ : ∃ z, Hid (c - f = z) := ⟨_, hide rfl⟩
  rw [HG.out] at HFL
  obtain ⟨c1, HC1⟩ : ∃ z, Hid (cmpZ L X = z) := ⟨_, hide rfl⟩
  obtain ⟨c2, HC2⟩ : ∃ z, Hid (cmpZ X H = z) := ⟨_, hide rfl⟩
  obtain ⟨c3, HC3⟩ : ∃ z, Hid (cmpZ gp 1 = z) := ⟨_, hide rfl⟩
  obtain ⟨s, HSG⟩ : ∃ z, Hid (gp.sign = z) := ⟨_, hide rfl⟩
  have hc1 : c1 ≤ 0 := by rw [← HC1.out]; exact cmpZ_nonpos HFL.out.1
  have hc2 : c2 ≤ 0 := by rw [← HC2.out]; exact cmpZ_nonpos HFL.out.2.1
  have hc3 : c3 ≤ 0 := by rw [← HC3.out]; exact cmpZ_nonpos HFL.out.2.2.2.1
  obtain ⟨ex, hex⟩ : ∃ b, (c1 == 0) = b := ⟨_, rfl⟩
  have hes : (s == 0) = ex := by
    have h1 := HFL.out.2.2.2.2.1
    rw [← hex, ← HC1.out, ← HSG.out, Bool.eq_iff_iff, beq_iff_eq, beq_iff_eq, Int.sign_eq_zero_iff_zero, h1]
    exact (cmpZ_zero).symm
  have HFq : Hid (vFloor 4000 V (nearZ q) = f) := hide (by rw [hnq]; exact HF.out)
  have HCq : Hid (vCeil 4000 V (nearZ q) = c) := hide (by rw [hnq]; exact HC.out)
  go_upto_region 4 with (fail)
  have HP := e_floor 4000 q Qa (Nat.le_refl _) (by omega) hxa5 HV.out HFq.out
  go_wp2_with fail
  refine HP.mono ?_
  rintro e w5 ⟨hb, n1, A1, l1, k1, rfl, Q1⟩
  clear HP
  clear ca0 ca1 ca2
  have Ba := Ba.below hb Ba.lt
  have Qa := Qa.below hb
  have HB := hide (HB.out.trans (hb.mono HB.out.size))
  obtain ⟨ca0, ca1, ca2, -, -, -⟩ := Ba.three
  clear ca0 ca1 ca2
  obtain ⟨w6, hW, Bf, hb, hs⟩ := start1 w5 24 #[.bool n1, .slice A1 l1 k1]
  clear hs
  have Ba := Ba.below hb Ba.lt
  have Qa := Qa.below hb
  have Q1 := Q1.below hb
  have HB := hide (HB.out.trans (hb.mono HB.out.size))
  go_upto_region 5 with (fail)
  rw [← hW]
  clear hW
  obtain ⟨ca0, ca1, ca2, -, -, -⟩ := Ba.three
  obtain ⟨cf0, cf1, -, -⟩ := Bf.two
  have HP := e_ceil 4000 q Qa (Nat.le_refl _) (by omega) hxa5 HV.out HCq.out
  go_wp2_with fail
  refine HP.mono ?_
  rintro e w7 ⟨hb, n2, A2, l2, k2, rfl, Q2⟩
  clear HP
  clear ca0 ca1 ca2 cf0 cf1
  have Ba := Ba.below hb Ba.lt
  have Bf := Bf.below hb Bf.lt
  have Qa := Qa.below hb
  have Q1 := Q1.below hb
  have HB := hide (HB.out.trans (hb.mono HB.out.size))
  obtain ⟨ca0, ca1, ca2, -, -, -⟩ := Ba.three
  obtain ⟨cf0, cf1, -, -⟩ := Bf.two
  clear ca0 ca1 ca2 cf0 cf1
  obtain ⟨w8, hW, Bc, hb, hs⟩ := start1 w7 24 #[.bool n2, .slice A2 l2 k2]
  clear hs
  have Ba := Ba.below hb Ba.lt
  have Bf := Bf.below hb Bf.lt
  have Qa := Qa.below hb
  have Q1 := Q1.below hb
  have Q2 := Q2.below hb
  have HB := hide (HB.out.trans (hb.mono HB.out.size))
  go_upto_region 6 with (fail)
  rw [← hW]
  clear hW
  obtain ⟨ca0, ca1, ca2, -, -, -⟩ := Ba.three
  obtain ⟨cf0, cf1, -, -⟩ := Bf.two
  obtain ⟨cc0, cc1, -, -⟩ := Bc.two
  have HP := e_shift 4000 q Qa (Nat.le_refl _) (by omega) hxa5 HV.out HS1.out HS2.out
  go_wp2_with fail
  refine HP.mono ?_
  rintro e w9 ⟨hb, n3, A3, l3, k3, rfl, Q3⟩
  clear HP
  clear ca0 ca1 ca2 cf0 cf1 cc0 cc1
  have Ba := Ba.below hb Ba.lt
  have Bf := Bf.below hb Bf.lt
  have Bc := Bc.below hb Bc.lt
  have Qa := Qa.below hb
  have Q1 := Q1.below hb
  have Q2 := Q2.below hb
  have HB := hide (HB.out.trans (hb.mono HB.out.size))
  obtain ⟨ca0, ca1, ca2, -, -, -⟩ := Ba.three
  obtain ⟨cf0, cf1, -, -⟩ := Bf.two
  obtain ⟨cc0, cc1, -, -⟩ := Bc.two
  clear ca0 ca1 ca2 cf0 cf1 cc0 cc1
  obtain ⟨w10, hW, Bx, hb, hs⟩ := start1 w9 26 #[.bool n3, .slice A3 l3 k3, .int .i64 xx]
  clear hs
  have Ba := Ba.below hb Ba.lt
  have Bf := Bf.below hb Bf.lt
  have Bc := Bc.below hb Bc.lt
  have Qa := Qa.below hb
  have Q1 := Q1.below hb
  have Q2 := Q2.below hb
  have Q3 := Q3.below hb
  have HB := hide (HB.out.trans (hb.mono HB.out.size))
  go_upto_region 7 with (fail)
  rw [← hW]
  clear hW
  obtain ⟨ca0, ca1, ca2, -, -, -⟩ := Ba.three
  obtain ⟨cf0, cf1, -, -⟩ := Bf.two
  obtain ⟨cc0, cc1, -, -⟩ := Bc.two
  obtain ⟨cx0, cx1, cx2, -, -, -⟩ := Bx.three
  have HP := e_of (x := 0) Q1.q (by omega) (by omega) HO1.out HO2.out
  go_wp2_with fail
  refine HP.mono ?_
  rintro e w11 ⟨hb, n4, A4, l4, k4, rfl, Q4⟩
  clear HP
  clear ca0 ca1 ca2 cf0 cf1 cc0 cc1 cx0 cx1 cx2
  have Ba := Ba.below hb Ba.lt
  have Bf := Bf.below hb Bf.lt
  have Bc := Bc.below hb Bc.lt
  have Bx := Bx.below hb Bx.lt
  have Qa := Qa.below hb
  have Q1 := Q1.below hb
  have Q2 := Q2.below hb
  have Q3 := Q3.below hb
  have HB := hide (HB.out.trans (hb.mono HB.out.size))
  obtain ⟨ca0, ca1, ca2, -, -, -⟩ := Ba.three
  obtain ⟨cf0, cf1, -, -⟩ := Bf.two
  obtain ⟨cc0, cc1, -, -⟩ := Bc.two
  obtain ⟨cx0, cx1, cx2, -, -, -⟩ := Bx.three
  clear ca0 ca1 ca2 cf0 cf1 cc0 cc1 cx0 cx1 cx2
  obtain ⟨w12, hW, Bl, hb, hs⟩ := start1 w11 26 #[.bool n4, .slice A4 l4 k4, .int .i64 xl]
  clear hs
  have Ba := Ba.below hb Ba.lt
  have Bf := Bf.below hb Bf.lt
  have Bc := Bc.below hb Bc.lt
  have Bx := Bx.below hb Bx.lt
  have Qa := Qa.below hb
  have Q1 := Q1.below hb
  have Q2 := Q2.below hb
  have Q3 := Q3.below hb
  have Q4 := Q4.below hb
  have HB := hide (HB.out.trans (hb.mono HB.out.size))
  go_upto_region 8 with (fail)
  rw [← hW]
  clear hW
  obtain ⟨ca0, ca1, ca2, -, -, -⟩ := Ba.three
  obtain ⟨cf0, cf1, -, -⟩ := Bf.two
  obtain ⟨cc0, cc1, -, -⟩ := Bc.two
  obtain ⟨cx0, cx1, cx2, -, -, -⟩ := Bx.three
  obtain ⟨cl0, cl1, cl2, -, -, -⟩ := Bl.three
  have HP := e_of (x := 0) Q2.q (by omega) (by omega) HO3.out HO4.out
  go_wp2_with fail
  refine HP.mono ?_
  rintro e w13 ⟨hb, n5, A5, l5, k5, rfl, Q5⟩
  clear HP
  clear ca0 ca1 ca2 cf0 cf1 cc0 cc1 cx0 cx1 cx2 cl0 cl1 cl2
  have Ba := Ba.below hb Ba.lt
  have Bf := Bf.below hb Bf.lt
  have Bc := Bc.below hb Bc.lt
  have Bx := Bx.below hb Bx.lt
  have Bl := Bl.below hb Bl.lt
  have Qa := Qa.below hb
  have Q1 := Q1.below hb
  have Q2 := Q2.below hb
  have Q3 := Q3.below hb
  have Q4 := Q4.below hb
  have HB := hide (HB.out.trans (hb.mono HB.out.size))
  obtain ⟨ca0, ca1, ca2, -, -, -⟩ := Ba.three
  obtain ⟨cf0, cf1, -, -⟩ := Bf.two
  obtain ⟨cc0, cc1, -, -⟩ := Bc.two
  obtain ⟨cx0, cx1, cx2, -, -, -⟩ := Bx.three
  obtain ⟨cl0, cl1, cl2, -, -, -⟩ := Bl.three
  clear ca0 ca1 ca2 cf0 cf1 cc0 cc1 cx0 cx1 cx2 cl0 cl1 cl2
  obtain ⟨w14, hW, Bh, hb, hs⟩ := start1 w13 26 #[.bool n5, .slice A5 l5 k5, .int .i64 xh]
  clear hs
  have Ba := Ba.below hb Ba.lt
  have Bf := Bf.below hb Bf.lt
  have Bc := Bc.below hb Bc.lt
  have Bx := Bx.below hb Bx.lt
  have Bl := Bl.below hb Bl.lt
  have Qa := Qa.below hb
  have Q1 := Q1.below hb
  have Q2 := Q2.below hb
  have Q3 := Q3.below hb
  have Q4 := Q4.below hb
  have Q5 := Q5.below hb
  have HB := hide (HB.out.trans (hb.mono HB.out.size))
  go_upto_region 9 with (fail)
  rw [← hW]
  clear hW
  obtain ⟨ca0, ca1, ca2, -, -, -⟩ := Ba.three
  obtain ⟨cf0, cf1, -, -⟩ := Bf.two
  obtain ⟨cc0, cc1, -, -⟩ := Bc.two
  obtain ⟨cx0, cx1, cx2, -, -, -⟩ := Bx.three
  obtain ⟨cl0, cl1, cl2, -, -, -⟩ := Bl.three
  obtain ⟨ch0, ch1, ch2, -, -, -⟩ := Bh.three
  have HP := cc_zsub Q2.q Q1.q (by omega) (by omega)
  rw [HG.out] at HP
  go_wp2_with fail
  refine HP.mono ?_
  rintro e w15 ⟨hb, n6, A6, l6, k6, rfl, Q6⟩
  clear HP
  clear ca0 ca1 ca2 cf0 cf1 cc0 cc1 cx0 cx1 cx2 cl0 cl1 cl2 ch0 ch1 ch2
  have Ba := Ba.below hb Ba.lt
  have Bf := Bf.below hb Bf.lt
  have Bc := Bc.below hb Bc.lt
  have Bx := Bx.below hb Bx.lt
  have Bl := Bl.below hb Bl.lt
  have Bh := Bh.below hb Bh.lt
  have Qa := Qa.below hb
  have Q1 := Q1.below hb
  have Q2 := Q2.below hb
  have Q3 := Q3.below hb
  have Q4 := Q4.below hb
  have Q5 := Q5.below hb
  have HB := hide (HB.out.trans (hb.mono HB.out.size))
  obtain ⟨ca0, ca1, ca2, -, -, -⟩ := Ba.three
  obtain ⟨cf0, cf1, -, -⟩ := Bf.two
  obtain ⟨cc0, cc1, -, -⟩ := Bc.two
  obtain ⟨cx0, cx1, cx2, -, -, -⟩ := Bx.three
  obtain ⟨cl0, cl1, cl2, -, -, -⟩ := Bl.three
  obtain ⟨ch0, ch1, ch2, -, -, -⟩ := Bh.three
  clear ca0 ca1 ca2 cf0 cf1 cc0 cc1 cx0 cx1 cx2 cl0 cl1 cl2 ch0 ch1 ch2
  obtain ⟨w16, hW, Bg, hb, hs⟩ := start1 w15 24 #[.bool n6, .slice A6 l6 k6]
  clear hs
  have Ba := Ba.below hb Ba.lt
  have Bf := Bf.below hb Bf.lt
  have Bc := Bc.below hb Bc.lt
  have Bx := Bx.below hb Bx.lt
  have Bl := Bl.below hb Bl.lt
  have Bh := Bh.below hb Bh.lt
  have Qa := Qa.below hb
  have Q1 := Q1.below hb
  have Q2 := Q2.below hb
  have Q3 := Q3.below hb
  have Q4 := Q4.below hb
  have Q5 := Q5.below hb
  have Q6 := Q6.below hb
  have HB := hide (HB.out.trans (hb.mono HB.out.size))
  go_upto_region 10 with (fail)
  rw [← hW]
  clear hW
  obtain ⟨ca0, ca1, ca2, -, -, -⟩ := Ba.three
  obtain ⟨cf0, cf1, -, -⟩ := Bf.two
  obtain ⟨cc0, cc1, -, -⟩ := Bc.two
  obtain ⟨cx0, cx1, cx2, -, -, -⟩ := Bx.three
  obtain ⟨cl0, cl1, cl2, -, -, -⟩ := Bl.three
  obtain ⟨ch0, ch1, ch2, -, -, -⟩ := Bh.three
  obtain ⟨cg0, cg1, -, -⟩ := Bg.two
  have HP := e_cmp 5000 Q4.q Q3.q (by omega) (by omega) (by omega) bxl bxx HVL.out HVX.out HC1.out
  go_wp2_with fail
  refine HP.mono ?_
  rintro e w17 ⟨hb, rfl⟩
  clear HP
  clear ca0 ca1 ca2 cf0 cf1 cc0 cc1 cx0 cx1 cx2 cl0 cl1 cl2 ch0 ch1 ch2 cg0 cg1
  have Ba := Ba.below hb Ba.lt
  have Bf := Bf.below hb Bf.lt
  have Bc := Bc.below hb Bc.lt
  have Bx := Bx.below hb Bx.lt
  have Bl := Bl.below hb Bl.lt
  have Bh := Bh.below hb Bh.lt
  have Bg := Bg.below hb Bg.lt
  have Qa := Qa.below hb
  have Q1 := Q1.below hb
  have Q2 := Q2.below hb
  have Q3 := Q3.below hb
  have Q4 := Q4.below hb
  have Q5 := Q5.below hb
  have Q6 := Q6.below hb
  have HB := hide (HB.out.trans (hb.mono HB.out.size))
  obtain ⟨ca0, ca1, ca2, -, -, -⟩ := Ba.three
  obtain ⟨cf0, cf1, -, -⟩ := Bf.two
  obtain ⟨cc0, cc1, -, -⟩ := Bc.two
  obtain ⟨cx0, cx1, cx2, -, -, -⟩ := Bx.three
  obtain ⟨cl0, cl1, cl2, -, -, -⟩ := Bl.three
  obtain ⟨ch0, ch1, ch2, -, -, -⟩ := Bh.three
  obtain ⟨cg0, cg1, -, -⟩ := Bg.two
  go_upto_region 11 with (fail)
  have Ba := Ba.drew
  have Bf := Bf.drew
  have Bc := Bc.drew
  have Bx := Bx.drew
  have Bl := Bl.drew
  have Bh := Bh.drew
  have Bg := Bg.drew
  have Qa := Qa.drew
  have Q1 := Q1.drew
  have Q2 := Q2.drew
  have Q3 := Q3.drew
  have Q4 := Q4.drew
  have Q5 := Q5.drew
  have Q6 := Q6.drew
  have HB := hide HB.out.drew
  have tok0 : True := trivial
  go_region_held3 (fun w' => w'.cell? ⟨w9.heap.size, 0, none⟩ = some (.bool n3) ∧ w'.cell? ⟨w9.heap.size, 1, none⟩ = some (.slice A3 l3 k3) ∧ w'.cell? ⟨w9.heap.size, 2, none⟩ = some (.int .i64 xx) ∧ w'.cell? ⟨w11.heap.size, 0, none⟩ = some (.bool n4) ∧ w'.cell? ⟨w11.heap.size, 1, none⟩ = some (.slice A4 l4 k4) ∧ w'.cell? ⟨w11.heap.size, 2, none⟩ = some (.int .i64 xl) ∧ w'.cell? ⟨w13.heap.size, 0, none⟩ = some (.bool n5) ∧ w'.cell? ⟨w13.heap.size, 1, none⟩ = some (.slice A5 l5 k5) ∧ w'.cell? ⟨w13.heap.size, 2, none⟩ = some (.int .i64 xh) ∧ w'.cell? ⟨w15.heap.size, 0, none⟩ = some (.bool n6) ∧ w'.cell? ⟨w15.heap.size, 1, none⟩ = some (.slice A6 l6 k6)) (go_keep)
    (first
      | (go_at_call 40; have _t := tok0; (with_reducible refine (e_cmp 5000 Q4.q Q3.q (by omega) (by omega) (by omega) bxl bxx HVL.out HVX.out HC1.out).mono ?_); rintro e w18 ⟨hb, rfl⟩
         have Ba := Ba.below hb Ba.lt
         have Bf := Bf.below hb Bf.lt
         have Bc := Bc.below hb Bc.lt
         have Bx := Bx.below hb Bx.lt
         have Bl := Bl.below hb Bl.lt
         have Bh := Bh.below hb Bh.lt
         have Bg := Bg.below hb Bg.lt
         have Qa := Qa.below hb
         have Q1 := Q1.below hb
         have Q2 := Q2.below hb
         have Q3 := Q3.below hb
         have Q4 := Q4.below hb
         have Q5 := Q5.below hb
         have Q6 := Q6.below hb
         have HB := hide (HB.out.trans (hb.mono HB.out.size))
         obtain ⟨ca0, ca1, ca2, -, -, -⟩ := Ba.three
         obtain ⟨cf0, cf1, -, -⟩ := Bf.two
         obtain ⟨cc0, cc1, -, -⟩ := Bc.two
         obtain ⟨cx0, cx1, cx2, -, -, -⟩ := Bx.three
         obtain ⟨cl0, cl1, cl2, -, -, -⟩ := Bl.three
         obtain ⟨ch0, ch1, ch2, -, -, -⟩ := Bh.three
         obtain ⟨cg0, cg1, -, -⟩ := Bg.two
         clear _t tok0
         have tok1 : True := trivial)
      | (go_at_call 40; have _t := tok1; (with_reducible refine (e_cmp 5000 Q3.q Q5.q (by omega) (by omega) (by omega) bxx bxh HVX.out HVH.out HC2.out).mono ?_); rintro e w19 ⟨hb, rfl⟩
         have Ba := Ba.below hb Ba.lt
         have Bf := Bf.below hb Bf.lt
         have Bc := Bc.below hb Bc.lt
         have Bx := Bx.below hb Bx.lt
         have Bl := Bl.below hb Bl.lt
         have Bh := Bh.below hb Bh.lt
         have Bg := Bg.below hb Bg.lt
         have Qa := Qa.below hb
         have Q1 := Q1.below hb
         have Q2 := Q2.below hb
         have Q3 := Q3.below hb
         have Q4 := Q4.below hb
         have Q5 := Q5.below hb
         have Q6 := Q6.below hb
         have HB := hide (HB.out.trans (hb.mono HB.out.size))
         obtain ⟨ca0, ca1, ca2, -, -, -⟩ := Ba.three
         obtain ⟨cf0, cf1, -, -⟩ := Bf.two
         obtain ⟨cc0, cc1, -, -⟩ := Bc.two
         obtain ⟨cx0, cx1, cx2, -, -, -⟩ := Bx.three
         obtain ⟨cl0, cl1, cl2, -, -, -⟩ := Bl.three
         obtain ⟨ch0, ch1, ch2, -, -, -⟩ := Bh.three
         obtain ⟨cg0, cg1, -, -⟩ := Bg.two
         clear _t tok1
         have tok2 : True := trivial)
      | (go_at_call 45; have _t := tok2; (with_reducible refine (z_sign Q6.q (by omega) HSG.out).mono ?_); rintro e w20 ⟨hb, rfl⟩
         have Ba := Ba.below hb Ba.lt
         have Bf := Bf.below hb Bf.lt
         have Bc := Bc.below hb Bc.lt
         have Bx := Bx.below hb Bx.lt
         have Bl := Bl.below hb Bl.lt
         have Bh := Bh.below hb Bh.lt
         have Bg := Bg.below hb Bg.lt
         have Qa := Qa.below hb
         have Q1 := Q1.below hb
         have Q2 := Q2.below hb
         have Q3 := Q3.below hb
         have Q4 := Q4.below hb
         have Q5 := Q5.below hb
         have Q6 := Q6.below hb
         have HB := hide (HB.out.trans (hb.mono HB.out.size))
         obtain ⟨ca0, ca1, ca2, -, -, -⟩ := Ba.three
         obtain ⟨cf0, cf1, -, -⟩ := Bf.two
         obtain ⟨cc0, cc1, -, -⟩ := Bc.two
         obtain ⟨cx0, cx1, cx2, -, -, -⟩ := Bx.three
         obtain ⟨cl0, cl1, cl2, -, -, -⟩ := Bl.three
         obtain ⟨ch0, ch1, ch2, -, -, -⟩ := Bh.three
         obtain ⟨cg0, cg1, -, -⟩ := Bg.two
         clear _t tok2
         have tok3 : True := trivial)
      | (go_at_call 47; have _t := tok3; (with_reducible refine (cc_zof 1 (by omega) (by omega)).mono ?_); rintro e w21 ⟨hb, n7, A7, l7, k7, rfl, Q7⟩
         have Ba := Ba.below hb Ba.lt
         have Bf := Bf.below hb Bf.lt
         have Bc := Bc.below hb Bc.lt
         have Bx := Bx.below hb Bx.lt
         have Bl := Bl.below hb Bl.lt
         have Bh := Bh.below hb Bh.lt
         have Bg := Bg.below hb Bg.lt
         have Qa := Qa.below hb
         have Q1 := Q1.below hb
         have Q2 := Q2.below hb
         have Q3 := Q3.below hb
         have Q4 := Q4.below hb
         have Q5 := Q5.below hb
         have Q6 := Q6.below hb
         have HB := hide (HB.out.trans (hb.mono HB.out.size))
         obtain ⟨ca0, ca1, ca2, -, -, -⟩ := Ba.three
         obtain ⟨cf0, cf1, -, -⟩ := Bf.two
         obtain ⟨cc0, cc1, -, -⟩ := Bc.two
         obtain ⟨cx0, cx1, cx2, -, -, -⟩ := Bx.three
         obtain ⟨cl0, cl1, cl2, -, -, -⟩ := Bl.three
         obtain ⟨ch0, ch1, ch2, -, -, -⟩ := Bh.three
         obtain ⟨cg0, cg1, -, -⟩ := Bg.two
         clear _t tok3
         have tok4 : True := trivial)
      | (go_at_call 46; have _t := tok4; (with_reducible refine (z_cmp Q6.q Q7.q (by omega) (by omega) HC3.out).mono ?_); rintro e w22 ⟨hb, rfl⟩
         have Ba := Ba.below hb Ba.lt
         have Bf := Bf.below hb Bf.lt
         have Bc := Bc.below hb Bc.lt
         have Bx := Bx.below hb Bx.lt
         have Bl := Bl.below hb Bl.lt
         have Bh := Bh.below hb Bh.lt
         have Bg := Bg.below hb Bg.lt
         have Qa := Qa.below hb
         have Q1 := Q1.below hb
         have Q2 := Q2.below hb
         have Q3 := Q3.below hb
         have Q4 := Q4.below hb
         have Q5 := Q5.below hb
         have Q6 := Q6.below hb
         have Q7 := Q7.below hb
         have HB := hide (HB.out.trans (hb.mono HB.out.size))
         obtain ⟨ca0, ca1, ca2, -, -, -⟩ := Ba.three
         obtain ⟨cf0, cf1, -, -⟩ := Bf.two
         obtain ⟨cc0, cc1, -, -⟩ := Bc.two
         obtain ⟨cx0, cx1, cx2, -, -, -⟩ := Bx.three
         obtain ⟨cl0, cl1, cl2, -, -, -⟩ := Bl.three
         obtain ⟨ch0, ch1, ch2, -, -, -⟩ := Bh.three
         obtain ⟨cg0, cg1, -, -⟩ := Bg.two
         clear _t tok4
         have tok5 : True := trivial))
  go_wp2_with fail
  go_ret
  exact ⟨rfl, HB.out⟩

theorem walk (w : World) (n0 : Bool) (A0 : Option Addr) (l0 c0 : Nat) (x0 : Int) (s0 : ∃ L, Nums w 0 (.slice A0 l0 c0) L) (w0 : (Lit.int .i64 x0).wf = true) (a1 : Int) (w1 : (Lit.int .i64 a1).wf = true) :
    Calls Try.prog 7 #[.agg #[.bool n0, .slice A0 l0 c0, .int .i64 x0], .int .i64 a1] w fun e w' => e = .returned (.bool true) ∧ Below w.heap.size w w' := by
  obtain ⟨L0, h0⟩ := s0
  exact walkN n0 A0 l0 c0 x0 a1 L0 w h0

/-! ### the row -/
set_option maxRecDepth 100000 in
theorem lifted (os : Os) (started : os.Started) (H : Type) (enc : TypeId × Value → H) :
    ReturnsInHanded {} Try.checked os 7 .any (Rows.dyadBetweenSpec.pre6 enc Try.prog Try.f7 Rows.dyadBetweenRow.domain false) (Rows.dyadBetweenSpec.post enc Try.prog Try.f7 false true false false) := by
  refine returnsInHanded_of_change (C := Try.checked) own started (by kernel_rfl) Try.func7
    (ChangeSpec.witness6 (enc := enc) (C := Try.checked) false ⟨#[], #[.agg #[.bool false, .slice none 0 0, .int .i64 0], .int .i64 0], []⟩ 8 (by kernel_rfl) (by kernel_rfl) (by kernel_rfl) (by kernel_rfl)) ?_
  intro W base args ds gs before hval0 hW hcnd _
  have hval : ∀ (j : Nat) t v, Try.f7.params[j]? = some t → args[j]? = some v → Value.okWide Try.prog W .any base t v := hval0
  have hW' := hW
  obtain ⟨p, q, hA0, hV, rfl, hfz, hnd⟩ := hW
  have hA : DataW.TrodAll enc Try.prog W 0 (fun _ => true) true Try.f7.params.toList args.toList ds p := hA0
  rw [Try.params7] at hA hval
  obtain ⟨v0, vs0, d0, ds0, p0, q0, hargs, rfl, rfl, h0, r0⟩ := trodAll_cons hA
  obtain ⟨v1, vs1, d1, ds1, p1, q1, rfl, rfl, rfl, h1, r1⟩ := trodAll_cons r0
  obtain ⟨rfl, rfl, rfl⟩ := trodAll_nil r1
  obtain rfl : args = #[v0, v1] := by cases args; simp_all
  obtain ⟨rfl, rfl⟩ := trodVars_none hV
  have k0 := h0
  have lt0 : ∀ x ∈ p0, x.block < W.heap.size := by obtain ⟨m, hm⟩ := k0; exact DataW.trod_lt m _ _ _ hm
  obtain ⟨n0, A0, l0, c0, x0, rfl, s0, w0⟩ := open_dyad (hval 0 26 v0 rfl rfl) h0
  obtain ⟨a1, rfl, rfl, rfl, w1⟩ := open_int Try.underlying3 (hval 1 3 v1 rfl rfl) h1
  clear hA0 hval0
  refine (walk W n0 A0 l0 c0 x0 s0 w0 a1 w1).mono fun e W' ⟨he, bel⟩ => ?_
  subst he
  exact ⟨_, rfl, _, _, _, [], _, [], hW', trodAll_mk1 (shut_bool Try.underlying4 _), (trodAll_cons_mk (Below.trod laidOut (by kernel_rfl) (of_decide_eq_true (by kernel_rfl)) k0 bel lt0) (trodAll_cons_mk (shut_int Try.underlying3 w1) trodAll_mk0)), rfl, bel.frame _, fun h => by cases h⟩

theorem over : Rows.dyadBetweenRow.holds Try.pinned (OpenSpec.ofChange Rows.dyadBetweenSpec) :=
  OpenClaim.holds_of_wide 7 Try.f7 rfl rfl rfl rfl rfl rfl rfl ⟨rfl, rfl, rfl, rfl, rfl⟩ rfl rfl rfl rfl rfl (by kernel_rfl) Try.func7 (by kernel_rfl)
    (of_decide_eq_true (by kernel_rfl)) (by unfold Func.isWrapper; first | (rw [if_pos (by decide +kernel)]; kernel_rfl) | (rw [if_neg (by decide +kernel)]; exact ⟨rfl, rfl⟩))
    (fun os started H enc _ => lifted os started H enc)

theorem proved : Rows.DyadBetweenSaid := over
#print axioms proved
end Go.Proofs.Ytnkembnachhicaa.dyadBetween
