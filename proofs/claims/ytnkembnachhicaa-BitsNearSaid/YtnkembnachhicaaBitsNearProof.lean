/-
  hairlinelaw04.BitsNear returns true for any dyad. Conditions: none.
-/
import Derived.Test.YtnkembnachhicaaRows
import Derived.Test.YtnkembnachhicaaNear
import Derived.Test.YtnkembnachhicaaShown4
import Derived.Test.YtnkembnachhicaaOpen
import Derived.Deep.DeepCutAuto
namespace Go.Proofs.Ytnkembnachhicaa.bitsNear
open Go.ChangeShapes Go.WideShapes Go.ChangeAt Go.RowKit
open L (val)
set_option linter.unusedVariables false
set_option linter.unusedSimpArgs false

theorem own : ownKnob Try.prog.godebug = none := by kernel_rfl
theorem laidOut : laidOutB Try.prog = true := by kernel_rfl

set_option maxHeartbeats 8000000 in
set_option maxRecDepth 100000 in
theorem walkN (na : Bool) (Aa : Option Addr) (la ka : Nat) (xa0 : Int) (La : List Nat) (w : World) (ha : Nums w 0 (.slice Aa la ka) La) :
    Calls Try.prog 8 #[.agg #[.bool na, .slice Aa la ka, .int .i64 xa0]] w fun e w' => e = .returned (.bool true) ∧ Below w.heap.size w w' := by
  obtain ⟨w1, hW, Ba, hB1, hs⟩ := start1 w 26 #[.bool na, .slice Aa la ka, .int .i64 xa0]
  have HB := hide hB1
  clear hB1
  have hs0 : w.heap.size < w1.heap.size := by omega
  clear hs
  obtain ⟨ca0, ca1, ca2, -, -, -⟩ := Ba.three
  obtain ⟨za, HZa⟩ : ∃ z, Hid (ival na (val W (La.take 4)) = z) := ⟨_, hide rfl⟩
  obtain ⟨xa, hxm⟩ : ∃ x, xa0.tmod 1200 = x := ⟨_, rfl⟩
  have hxa := tmod_bd xa0 1200 (by omega)
  rw [show (((1200 : Nat) : Int)) = 1200 from rfl, hxm] at hxa
  go_enter Try.func8, Try.ntmps8
  go_upto_region 1 with (fail)
  rw [← hW]
  clear hW
  have HP := shown4_calls w1
  go_wp2_with fail
  refine HP.mono ?_
  rintro e w2 ⟨hb, rfl⟩
  clear HP
  clear ca0 ca1 ca2
  have Ba := Ba.below hb Ba.lt
  have HB := hide (HB.out.trans (hb.mono HB.out.size))
  obtain ⟨ca0, ca1, ca2, -, -, -⟩ := Ba.three
  have HP := cut4_calls w2 na Aa la ka xa0 4 La (ha.up HB.out) (by omega)
  rw [HZa.out] at HP
  go_wp2_with fail
  refine HP.mono ?_
  have hbasea : w.heap.size < w2.heap.size := Ba.lt
  rintro e w3 ⟨hb, ma, Ca, ja, ia, da, rfl, hna, hda, hva⟩
  clear HP
  clear ca0 ca1 ca2
  have Ba := Ba.below hb Ba.lt
  have HB := hide (HB.out.trans (hb.mono HB.out.size))
  obtain ⟨ca0, ca1, ca2, fa0, fa1, fa2⟩ := Ba.three
  obtain ⟨w4, hW, Ba, hk1, hk2, hs, hk3⟩ := set3_all Ba (.bool ma) (.slice Ca ja ia) (.int .i64 xa0)
  have hna := hk2 _ _ _ (by omega) hna
  have HB := hide (hk3 _ _ HB.out (by omega))
  clear hk1 hk2 hk3
  go_upto_region 3 with (fail)
  rw [← hW]
  clear hW ca0 ca1 ca2 fa0 fa1 fa2
  obtain ⟨ca0, ca1, ca2, fa0, fa1, fa2⟩ := Ba.three
  obtain ⟨w5, hW, Ba, hk1, hk2, hs, hk3⟩ := set1_all Ba (.int .i64 xa)
  have hna := hk2 _ _ _ (by omega) hna
  have HB := hide (hk3 _ _ HB.out (by omega))
  clear hk1 hk2 hk3
  go_upto_region 4 with (fail)
  rw [← hW]
  clear hW ca0 ca1 ca2 fa0 fa1 fa2
  obtain ⟨ca0, ca1, ca2, -, -, -⟩ := Ba.three
  have Qa : Q w5 4 ma Ca ja ia za := ⟨da, hna.mono (Nat.zero_le _), hda, hva⟩
  have hxa5 : -100000 ≤ xa ∧ xa ≤ 100000 := by omega
  obtain ⟨V, HV⟩ : ∃ V, Hid (av 4000 za xa = V) := ⟨_, hide rfl⟩
  have HO1 : Hid (nM 1 (-1022) = 1) := hide (nM_odd (by omega) (by omega) rfl)
  have HO2 : Hid (nE 1 (-1022) = -1022) := hide (nE_odd (by omega) (by omega) rfl)
  have HO3 : Hid (nM 1 1024 = 1) := hide (nM_odd (by omega) (by omega) rfl)
  have HO4 : Hid (nE 1 1024 = 1024) := hide (nE_odd (by omega) (by omega) rfl)
  have HVl : Hid (av 4000 1 (-1022) = sv 4000 1 (-1022)) := hide (av_of (by omega) (by omega))
  have HVh : Hid (av 4000 1 1024 = sv 4000 1 1024) := hide (av_of (by omega) (by omega))
  obtain ⟨c1, HC1⟩ : ∃ z, Hid (cmpZ (sv 4000 1 (-1022)) V = z) := ⟨_, hide rfl⟩
  obtain ⟨c2, HC2⟩ : ∃ z, Hid (cmpZ V (sv 4000 1 1024) = z) := ⟨_, hide rfl⟩
  obtain ⟨b, HBB⟩ : ∃ b, Hid (nrB za xa = b) := ⟨_, hide rfl⟩
  obtain ⟨ex, HEX⟩ : ∃ b, Hid (nrX za xa = b) := ⟨_, hide rfl⟩
  have HP := cc_zof (w := w5) 1 (by omega) (by omega)
  go_wp2_with fail
  refine HP.mono ?_
  rintro e w6 ⟨hb, n1, A1, l1, k1, rfl, Q1⟩
  clear HP
  clear ca0 ca1 ca2
  have Ba := Ba.below hb Ba.lt
  have Qa := Qa.below hb
  have HB := hide (HB.out.trans (hb.mono HB.out.size))
  obtain ⟨ca0, ca1, ca2, -, -, -⟩ := Ba.three
  have HP := e_of (x := -1022) Q1.q (by omega) (by omega) HO1.out HO2.out
  go_wp2_with fail
  refine HP.mono ?_
  rintro e w7 ⟨hb, n2, A2, l2, k2, rfl, Q2⟩
  clear HP
  clear ca0 ca1 ca2
  have Ba := Ba.below hb Ba.lt
  have Qa := Qa.below hb
  have Q1 := Q1.below hb
  have HB := hide (HB.out.trans (hb.mono HB.out.size))
  obtain ⟨ca0, ca1, ca2, -, -, -⟩ := Ba.three
  clear ca0 ca1 ca2
  obtain ⟨w8, hW, Bl, hb, hs⟩ := start1 w7 26 #[.bool n2, .slice A2 l2 k2, .int .i64 (-1022)]
  clear hs
  have Ba := Ba.below hb Ba.lt
  have Qa := Qa.below hb
  have Q2 := Q2.below hb
  have HB := hide (HB.out.trans (hb.mono HB.out.size))
  go_upto_region 5 with (fail)
  rw [← hW]
  clear hW
  obtain ⟨ca0, ca1, ca2, -, -, -⟩ := Ba.three
  obtain ⟨cl0, cl1, cl2, -, -, -⟩ := Bl.three
  have HP := cc_zof (w := w8) 1 (by omega) (by omega)
  go_wp2_with fail
  refine HP.mono ?_
  rintro e w9 ⟨hb, n3, A3, l3, k3, rfl, Q3⟩
  clear HP
  clear ca0 ca1 ca2 cl0 cl1 cl2
  have Ba := Ba.below hb Ba.lt
  have Bl := Bl.below hb Bl.lt
  have Qa := Qa.below hb
  have Q2 := Q2.below hb
  have HB := hide (HB.out.trans (hb.mono HB.out.size))
  obtain ⟨ca0, ca1, ca2, -, -, -⟩ := Ba.three
  obtain ⟨cl0, cl1, cl2, -, -, -⟩ := Bl.three
  have HP := e_of (x := 1024) Q3.q (by omega) (by omega) HO3.out HO4.out
  go_wp2_with fail
  refine HP.mono ?_
  rintro e w10 ⟨hb, n4, A4, l4, k4, rfl, Q4⟩
  clear HP
  clear ca0 ca1 ca2 cl0 cl1 cl2
  have Ba := Ba.below hb Ba.lt
  have Bl := Bl.below hb Bl.lt
  have Qa := Qa.below hb
  have Q2 := Q2.below hb
  have Q3 := Q3.below hb
  have HB := hide (HB.out.trans (hb.mono HB.out.size))
  obtain ⟨ca0, ca1, ca2, -, -, -⟩ := Ba.three
  obtain ⟨cl0, cl1, cl2, -, -, -⟩ := Bl.three
  clear ca0 ca1 ca2 cl0 cl1 cl2
  obtain ⟨w11, hW, Bh, hb, hs⟩ := start1 w10 26 #[.bool n4, .slice A4 l4 k4, .int .i64 1024]
  clear hs
  have Ba := Ba.below hb Ba.lt
  have Bl := Bl.below hb Bl.lt
  have Qa := Qa.below hb
  have Q2 := Q2.below hb
  have Q4 := Q4.below hb
  have HB := hide (HB.out.trans (hb.mono HB.out.size))
  go_upto_region 6 with (fail)
  rw [← hW]
  clear hW
  obtain ⟨ca0, ca1, ca2, -, -, -⟩ := Ba.three
  obtain ⟨cl0, cl1, cl2, -, -, -⟩ := Bl.three
  obtain ⟨ch0, ch1, ch2, -, -, -⟩ := Bh.three
  have HP := c_near (x := xa) Qa (by omega) (by omega) (by omega)
  rw [HBB.out] at HP
  rw [HEX.out] at HP
  go_wp2_with fail
  refine HP.mono ?_
  rintro e w12 ⟨hb, rfl⟩
  clear HP
  clear ca0 ca1 ca2 cl0 cl1 cl2 ch0 ch1 ch2
  have Ba := Ba.below hb Ba.lt
  have Bl := Bl.below hb Bl.lt
  have Bh := Bh.below hb Bh.lt
  have Qa := Qa.below hb
  have Q2 := Q2.below hb
  have Q4 := Q4.below hb
  have HB := hide (HB.out.trans (hb.mono HB.out.size))
  obtain ⟨ca0, ca1, ca2, -, -, -⟩ := Ba.three
  obtain ⟨cl0, cl1, cl2, -, -, -⟩ := Bl.three
  obtain ⟨ch0, ch1, ch2, -, -, -⟩ := Bh.three
  by_cases ho1 : V < sv 4000 1 (-1022)
  · have ho := near_out HV.out (.inl ho1)
    rw [HBB.out, HEX.out] at ho
    obtain ⟨rfl, rfl⟩ := ho
    have hc1 : ¬ c1 ≤ 0 := by rw [← HC1.out]; unfold cmpZ; rw [if_neg (by omega), if_pos ho1]; omega
    clear ho1
    have HP := e_cmp 4000 Q2.q Qa (Nat.le_refl _) (by omega) (by omega) (by omega) hxa5 HVl.out HV.out HC1.out
    go_wp2_with fail
    refine HP.mono ?_
    rintro e w13 ⟨hb, rfl⟩
    clear HP
    clear ca0 ca1 ca2 cl0 cl1 cl2 ch0 ch1 ch2
    have Ba := Ba.below hb Ba.lt
    have Bl := Bl.below hb Bl.lt
    have Bh := Bh.below hb Bh.lt
    have Qa := Qa.below hb
    have Q2 := Q2.below hb
    have Q4 := Q4.below hb
    have HB := hide (HB.out.trans (hb.mono HB.out.size))
    obtain ⟨ca0, ca1, ca2, -, -, -⟩ := Ba.three
    obtain ⟨cl0, cl1, cl2, -, -, -⟩ := Bl.three
    obtain ⟨ch0, ch1, ch2, -, -, -⟩ := Bh.three
    go_wp2_with fail
    go_ret
    exact ⟨rfl, HB.out⟩
  · have hc1 : c1 ≤ 0 := by rw [← HC1.out]; exact cmpZ_nonpos (by omega)
    by_cases ho2 : sv 4000 1 1024 ≤ V
    · have ho := near_out HV.out (.inr ho2)
      rw [HBB.out, HEX.out] at ho
      obtain ⟨rfl, rfl⟩ := ho
      have hc2 : decide (c2 < 0) = false := by rw [decide_eq_false_iff_not, ← HC2.out]; unfold cmpZ; rw [if_neg (by omega)]; split <;> omega
      clear ho1 ho2
      have HP := e_cmp 4000 Q2.q Qa (Nat.le_refl _) (by omega) (by omega) (by omega) hxa5 HVl.out HV.out HC1.out
      go_wp2_with fail
      refine HP.mono ?_
      rintro e w13 ⟨hb, rfl⟩
      clear HP
      clear ca0 ca1 ca2 cl0 cl1 cl2 ch0 ch1 ch2
      have Ba := Ba.below hb Ba.lt
      have Bl := Bl.below hb Bl.lt
      have Bh := Bh.below hb Bh.lt
      have Qa := Qa.below hb
      have Q2 := Q2.below hb
      have Q4 := Q4.below hb
      have HB := hide (HB.out.trans (hb.mono HB.out.size))
      obtain ⟨ca0, ca1, ca2, -, -, -⟩ := Ba.three
      obtain ⟨cl0, cl1, cl2, -, -, -⟩ := Bl.three
      obtain ⟨ch0, ch1, ch2, -, -, -⟩ := Bh.three
      have HP := e_cmp 4000 Qa Q4.q (Nat.le_refl _) (by omega) (by omega) hxa5 (by omega) HV.out HVh.out HC2.out
      go_wp2_with fail
      refine HP.mono ?_
      rintro e w14 ⟨hb, rfl⟩
      clear HP
      clear ca0 ca1 ca2 cl0 cl1 cl2 ch0 ch1 ch2
      have Ba := Ba.below hb Ba.lt
      have Bl := Bl.below hb Bl.lt
      have Bh := Bh.below hb Bh.lt
      have Qa := Qa.below hb
      have Q2 := Q2.below hb
      have Q4 := Q4.below hb
      have HB := hide (HB.out.trans (hb.mono HB.out.size))
      obtain ⟨ca0, ca1, ca2, -, -, -⟩ := Ba.three
      obtain ⟨cl0, cl1, cl2, -, -, -⟩ := Bl.three
      obtain ⟨ch0, ch1, ch2, -, -, -⟩ := Bh.three
      go_wp2_with fail
      go_ret
      exact ⟨rfl, HB.out⟩
    · have hm := near_mid HV.out (by omega) (by omega)
      rw [HBB.out, HEX.out] at hm
      obtain ⟨rfl, hbl, hbn, hb1, hb2⟩ := hm
      have hc2 : decide (c2 < 0) = true := by rw [decide_eq_true_iff, ← HC2.out, cmpZ_neg (by omega)]; omega
      clear ho1 ho2
      obtain ⟨zb, HZB⟩ : ∃ z, Hid (vM b = z) := ⟨_, hide rfl⟩
      obtain ⟨xb, HXB⟩ : ∃ z, Hid (vE b = z) := ⟨_, hide rfl⟩
      obtain ⟨zc, HZC⟩ : ∃ z, Hid (vM (b + 1) = z) := ⟨_, hide rfl⟩
      obtain ⟨xc, HXC⟩ : ∃ z, Hid (vE (b + 1) = z) := ⟨_, hide rfl⟩
      obtain ⟨ec, HEC⟩ : ∃ z, Hid (vX (b + 1) = z) := ⟨_, hide rfl⟩
      have hxb := vE_bd b (lo_fld hbl).2.1
      rw [HXB.out] at hxb
      have hxb5 : -100000 ≤ xb ∧ xb ≤ 100000 := by omega
      rw [HZB.out, HXB.out] at hb1 hb2
      obtain ⟨Gv, HGV⟩ : ∃ V, Hid (av 4000 zb xb = V) := ⟨_, hide rfl⟩
      rw [HGV.out] at hb1 hb2
      obtain ⟨c3, HC3⟩ : ∃ z, Hid (cmpZ Gv V = z) := ⟨_, hide rfl⟩
      have hc3 : c3 ≤ 0 := by rw [← HC3.out]; exact cmpZ_nonpos hb1
      have HB2 := hide hb2
      have HBN := hide hbn
      clear hb1 hb2 hbn
      have hww : IntKind.u64.wrap ((b : Int) + 1) = (b : Int) + 1 := by rw [IntKind.wrap_u64]; omega
      have HP := e_cmp 4000 Q2.q Qa (Nat.le_refl _) (by omega) (by omega) (by omega) hxa5 HVl.out HV.out HC1.out
      go_wp2_with fail
      refine HP.mono ?_
      rintro e w13 ⟨hb, rfl⟩
      clear HP
      clear ca0 ca1 ca2 cl0 cl1 cl2 ch0 ch1 ch2
      have Ba := Ba.below hb Ba.lt
      have Bl := Bl.below hb Bl.lt
      have Bh := Bh.below hb Bh.lt
      have Qa := Qa.below hb
      have Q2 := Q2.below hb
      have Q4 := Q4.below hb
      have HB := hide (HB.out.trans (hb.mono HB.out.size))
      obtain ⟨ca0, ca1, ca2, -, -, -⟩ := Ba.three
      obtain ⟨cl0, cl1, cl2, -, -, -⟩ := Bl.three
      obtain ⟨ch0, ch1, ch2, -, -, -⟩ := Bh.three
      have HP := e_cmp 4000 Qa Q4.q (Nat.le_refl _) (by omega) (by omega) hxa5 (by omega) HV.out HVh.out HC2.out
      go_wp2_with fail
      refine HP.mono ?_
      rintro e w14 ⟨hb, rfl⟩
      clear HP
      clear ca0 ca1 ca2 cl0 cl1 cl2 ch0 ch1 ch2
      have Ba := Ba.below hb Ba.lt
      have Bl := Bl.below hb Bl.lt
      have Bh := Bh.below hb Bh.lt
      have Qa := Qa.below hb
      have Q2 := Q2.below hb
      have Q4 := Q4.below hb
      have HB := hide (HB.out.trans (hb.mono HB.out.size))
      obtain ⟨ca0, ca1, ca2, -, -, -⟩ := Ba.three
      obtain ⟨cl0, cl1, cl2, -, -, -⟩ := Bl.three
      obtain ⟨ch0, ch1, ch2, -, -, -⟩ := Bh.three
      have HP := c_value (w := w14) b (by unfold W; omega)
      rw [lo_vX hbl, HZB.out, HXB.out] at HP
      go_wp2_with fail
      refine HP.mono ?_
      rintro e w15 ⟨hb, n7, A7, l7, k7, rfl, Q7⟩
      clear HP
      clear ca0 ca1 ca2 cl0 cl1 cl2 ch0 ch1 ch2
      have Ba := Ba.below hb Ba.lt
      have Bl := Bl.below hb Bl.lt
      have Bh := Bh.below hb Bh.lt
      have Qa := Qa.below hb
      have Q2 := Q2.below hb
      have Q4 := Q4.below hb
      have HB := hide (HB.out.trans (hb.mono HB.out.size))
      obtain ⟨ca0, ca1, ca2, -, -, -⟩ := Ba.three
      obtain ⟨cl0, cl1, cl2, -, -, -⟩ := Bl.three
      obtain ⟨ch0, ch1, ch2, -, -, -⟩ := Bh.three
      clear ca0 ca1 ca2 cl0 cl1 cl2 ch0 ch1 ch2
      obtain ⟨w16, hW, Bx, hb, hs⟩ := start1 w15 26 #[.bool n7, .slice A7 l7 k7, .int .i64 xb]
      clear hs
      have Ba := Ba.below hb Ba.lt
      have Bl := Bl.below hb Bl.lt
      have Bh := Bh.below hb Bh.lt
      have Qa := Qa.below hb
      have Q2 := Q2.below hb
      have Q4 := Q4.below hb
      have Q7 := Q7.below hb
      have HB := hide (HB.out.trans (hb.mono HB.out.size))
      go_upto_region 11 with (fail)
      rw [← hW]
      clear hW
      obtain ⟨ca0, ca1, ca2, -, -, -⟩ := Ba.three
      obtain ⟨cl0, cl1, cl2, -, -, -⟩ := Bl.three
      obtain ⟨ch0, ch1, ch2, -, -, -⟩ := Bh.three
      obtain ⟨cx0, cx1, cx2, -, -, -⟩ := Bx.three
      have HP := c_value (w := w16) (b + 1) (by unfold W; omega)
      rw [show ((b + 1 : Nat) : Int) = (b : Int) + 1 from by omega, HZC.out, HXC.out, HEC.out] at HP
      go_wp2_with fail
      refine HP.mono ?_
      rintro e w17 ⟨hb, n8, A8, l8, k8, rfl, Q8⟩
      clear HP
      clear ca0 ca1 ca2 cl0 cl1 cl2 ch0 ch1 ch2 cx0 cx1 cx2
      have Ba := Ba.below hb Ba.lt
      have Bl := Bl.below hb Bl.lt
      have Bh := Bh.below hb Bh.lt
      have Bx := Bx.below hb Bx.lt
      have Qa := Qa.below hb
      have Q2 := Q2.below hb
      have Q4 := Q4.below hb
      have Q7 := Q7.below hb
      have HB := hide (HB.out.trans (hb.mono HB.out.size))
      obtain ⟨ca0, ca1, ca2, -, -, -⟩ := Ba.three
      obtain ⟨cl0, cl1, cl2, -, -, -⟩ := Bl.three
      obtain ⟨ch0, ch1, ch2, -, -, -⟩ := Bh.three
      obtain ⟨cx0, cx1, cx2, -, -, -⟩ := Bx.three
      clear ca0 ca1 ca2 cl0 cl1 cl2 ch0 ch1 ch2 cx0 cx1 cx2
      obtain ⟨w18, hW, By, hb, hs⟩ := start1 w17 26 #[.bool n8, .slice A8 l8 k8, .int .i64 xc]
      clear hs
      have Ba := Ba.below hb Ba.lt
      have Bl := Bl.below hb Bl.lt
      have Bh := Bh.below hb Bh.lt
      have Bx := Bx.below hb Bx.lt
      have Qa := Qa.below hb
      have Q2 := Q2.below hb
      have Q4 := Q4.below hb
      have Q7 := Q7.below hb
      have Q8 := Q8.below hb
      have HB := hide (HB.out.trans (hb.mono HB.out.size))
      go_upto_region 12 with (fail)
      rw [← hW]
      clear hW
      obtain ⟨ca0, ca1, ca2, -, -, -⟩ := Ba.three
      obtain ⟨cl0, cl1, cl2, -, -, -⟩ := Bl.three
      obtain ⟨ch0, ch1, ch2, -, -, -⟩ := Bh.three
      obtain ⟨cx0, cx1, cx2, -, -, -⟩ := Bx.three
      obtain ⟨cy0, cy1, cy2, -, -, -⟩ := By.three
      have HP := normal_calls w18 b (by unfold W; omega)
      rw [HBN.out] at HP
      go_wp2_with fail
      refine HP.mono ?_
      rintro e w0 ⟨rfl, rfl⟩
      clear HP
      have HP := e_cmp 4000 Q7 Qa (Nat.le_refl _) (by omega) (by omega) hxb5 hxa5 HGV.out HV.out HC3.out
      go_wp2_with fail
      refine HP.mono ?_
      rintro e w19 ⟨hb, rfl⟩
      clear HP
      clear ca0 ca1 ca2 cl0 cl1 cl2 ch0 ch1 ch2 cx0 cx1 cx2 cy0 cy1 cy2
      have Ba := Ba.below hb Ba.lt
      have Bl := Bl.below hb Bl.lt
      have Bh := Bh.below hb Bh.lt
      have Bx := Bx.below hb Bx.lt
      have By := By.below hb By.lt
      have Qa := Qa.below hb
      have Q2 := Q2.below hb
      have Q4 := Q4.below hb
      have Q7 := Q7.below hb
      have Q8 := Q8.below hb
      have HB := hide (HB.out.trans (hb.mono HB.out.size))
      obtain ⟨ca0, ca1, ca2, -, -, -⟩ := Ba.three
      obtain ⟨cl0, cl1, cl2, -, -, -⟩ := Bl.three
      obtain ⟨ch0, ch1, ch2, -, -, -⟩ := Bh.three
      obtain ⟨cx0, cx1, cx2, -, -, -⟩ := Bx.three
      obtain ⟨cy0, cy1, cy2, -, -, -⟩ := By.three
      by_cases hl : b + 1 = 9218868437227405312
      · obtain rfl : ec = 1 := by rw [← HEC.out, hl]; exact top_value.2.2
        clear hl
        go_wp2_with fail
        go_ret
        exact ⟨rfl, HB.out⟩
      · obtain rfl : ec = 0 := by rw [← HEC.out]; exact lo_vX (by omega)
        have hxc := vE_bd (b + 1) (lo_fld (show b + 1 < 9218868437227405312 by omega)).2.1
        rw [HXC.out] at hxc
        have hxc5 : -100000 ≤ xc ∧ xc ≤ 100000 := by omega
        have HYV : Hid (av 4000 zc xc = Gv + sv 4000 1 (nn b - 52)) := hide (by rw [← HZC.out, ← HXC.out, ← HGV.out, ← HZB.out, ← HXB.out, lo_value 4000 (Nat.le_refl _) (show b + 1 < 9218868437227405312 by omega), lo_value 4000 (Nat.le_refl _) hbl]; have := lo_step (a := b) 4000 (Nat.le_refl _) (by omega); omega)
        have HC4 : Hid (cmpZ V (Gv + sv 4000 1 (nn b - 52)) = -1) := hide (cmpZ_neg HB2.out)
        clear hl
        have HP := e_cmp 4000 Qa Q8 (Nat.le_refl _) (by omega) (by omega) hxa5 hxc5 HV.out HYV.out HC4.out
        go_wp2_with fail
        refine HP.mono ?_
        rintro e w20 ⟨hb, rfl⟩
        clear HP
        clear ca0 ca1 ca2 cl0 cl1 cl2 ch0 ch1 ch2 cx0 cx1 cx2 cy0 cy1 cy2
        have Ba := Ba.below hb Ba.lt
        have Bl := Bl.below hb Bl.lt
        have Bh := Bh.below hb Bh.lt
        have Bx := Bx.below hb Bx.lt
        have By := By.below hb By.lt
        have Qa := Qa.below hb
        have Q2 := Q2.below hb
        have Q4 := Q4.below hb
        have Q7 := Q7.below hb
        have Q8 := Q8.below hb
        have HB := hide (HB.out.trans (hb.mono HB.out.size))
        obtain ⟨ca0, ca1, ca2, -, -, -⟩ := Ba.three
        obtain ⟨cl0, cl1, cl2, -, -, -⟩ := Bl.three
        obtain ⟨ch0, ch1, ch2, -, -, -⟩ := Bh.three
        obtain ⟨cx0, cx1, cx2, -, -, -⟩ := Bx.three
        obtain ⟨cy0, cy1, cy2, -, -, -⟩ := By.three
        go_wp2_with fail
        go_ret
        exact ⟨rfl, HB.out⟩

theorem walk (w : World) (n0 : Bool) (A0 : Option Addr) (l0 c0 : Nat) (x0 : Int) (s0 : ∃ L, Nums w 0 (.slice A0 l0 c0) L) (w0 : (Lit.int .i64 x0).wf = true) :
    Calls Try.prog 8 #[.agg #[.bool n0, .slice A0 l0 c0, .int .i64 x0]] w fun e w' => e = .returned (.bool true) ∧ Below w.heap.size w w' := by
  obtain ⟨L0, h0⟩ := s0
  exact walkN n0 A0 l0 c0 x0 L0 w h0

/-! ### the row -/
set_option maxRecDepth 100000 in
theorem lifted (os : Os) (started : os.Started) (H : Type) (enc : TypeId × Value → H) :
    ReturnsInHanded {} Try.checked os 8 .any (Rows.bitsNearSpec.pre6 enc Try.prog Try.f8 Rows.bitsNearRow.domain false) (Rows.bitsNearSpec.post enc Try.prog Try.f8 false true false false) := by
  refine returnsInHanded_of_change (C := Try.checked) own started (by kernel_rfl) Try.func8
    (ChangeSpec.witness6 (enc := enc) (C := Try.checked) false ⟨#[], #[.agg #[.bool false, .slice none 0 0, .int .i64 0]], []⟩ 8 (by kernel_rfl) (by kernel_rfl) (by kernel_rfl) (by kernel_rfl)) ?_
  intro W base args ds gs before hval0 hW hcnd _
  have hval : ∀ (j : Nat) t v, Try.f8.params[j]? = some t → args[j]? = some v → Value.okWide Try.prog W .any base t v := hval0
  have hW' := hW
  obtain ⟨p, q, hA0, hV, rfl, hfz, hnd⟩ := hW
  have hA : DataW.TrodAll enc Try.prog W 0 (fun _ => true) true Try.f8.params.toList args.toList ds p := hA0
  rw [Try.params8] at hA hval
  obtain ⟨v0, vs0, d0, ds0, p0, q0, hargs, rfl, rfl, h0, r0⟩ := trodAll_cons hA
  obtain ⟨rfl, rfl, rfl⟩ := trodAll_nil r0
  obtain rfl : args = #[v0] := by cases args; simp_all
  obtain ⟨rfl, rfl⟩ := trodVars_none hV
  have k0 := h0
  have lt0 : ∀ x ∈ p0, x.block < W.heap.size := by obtain ⟨m, hm⟩ := k0; exact DataW.trod_lt m _ _ _ hm
  obtain ⟨n0, A0, l0, c0, x0, rfl, s0, w0⟩ := open_dyad (hval 0 26 v0 rfl rfl) h0
  clear hA0 hval0
  refine (walk W n0 A0 l0 c0 x0 s0 w0).mono fun e W' ⟨he, bel⟩ => ?_
  subst he
  exact ⟨_, rfl, _, _, _, [], _, [], hW', trodAll_mk1 (shut_bool Try.underlying4 _), (trodAll_cons_mk (Below.trod laidOut (by kernel_rfl) (of_decide_eq_true (by kernel_rfl)) k0 bel lt0) trodAll_mk0), rfl, bel.frame _, fun h => by cases h⟩

theorem over : Rows.bitsNearRow.holds Try.pinned (OpenSpec.ofChange Rows.bitsNearSpec) :=
  OpenClaim.holds_of_wide 8 Try.f8 rfl rfl rfl rfl rfl rfl rfl ⟨rfl, rfl, rfl, rfl, rfl⟩ rfl rfl rfl rfl rfl (by kernel_rfl) Try.func8 (by kernel_rfl)
    (of_decide_eq_true (by kernel_rfl)) (by unfold Func.isWrapper; first | (rw [if_pos (by decide +kernel)]; kernel_rfl) | (rw [if_neg (by decide +kernel)]; exact ⟨rfl, rfl⟩))
    (fun os started H enc _ => lifted os started H enc)

theorem proved : Rows.BitsNearSaid := over
#print axioms proved
end Go.Proofs.Ytnkembnachhicaa.bitsNear
