/-
  hairlinelaw03.DyadLogs returns true for any two dyads. Conditions: none.
-/
import Derived.Test.YtnkembnachhicaaRows
import Derived.Test.YtnkembnachhicaaLg
import Derived.Test.YtnkembnachhicaaShown3
import Derived.Test.YtnkembnachhicaaOpen
import Derived.Deep.DeepCutAuto
namespace Go.Proofs.Ytnkembnachhicaa.dyadLogs
open Go.ChangeShapes Go.WideShapes Go.ChangeAt Go.RowKit
open L (val)
set_option linter.unusedVariables false
set_option linter.unusedSimpArgs false

theorem own : ownKnob Try.prog.godebug = none := by kernel_rfl
theorem laidOut : laidOutB Try.prog = true := by kernel_rfl
theorem e_of3 {w : World} {n e zz xx : Int} (hn : -100000 ≤ n ∧ n ≤ 100000) (he : -100000 ≤ e ∧ e ≤ 100000) (hz : nM n e = zz) (hx : nE n e = xx) :
    Calls Try.prog 60 #[.int .i64 n, .int .i64 e] w fun e' w' => Below w.heap.size w w' ∧ RetD 1 zz xx e' w' := by
  have := of3_calls w n e (by omega) (by omega) (by omega) (by omega)
  rwa [hz, hx] at this

set_option maxHeartbeats 8000000 in
set_option maxRecDepth 100000 in
theorem walkN (na nb : Bool) (Aa Ab : Option Addr) (la lb ka kb : Nat) (xa0 xb0 : Int) (La Lb : List Nat) (w : World) (ha : Nums w 0 (.slice Aa la ka) La) (hb0 : Nums w 0 (.slice Ab lb kb) Lb) :
    Calls Try.prog 11 #[.agg #[.bool na, .slice Aa la ka, .int .i64 xa0], .agg #[.bool nb, .slice Ab lb kb, .int .i64 xb0]] w fun e w' => e = .returned (.bool true) ∧ Below w.heap.size w w' := by
  obtain ⟨w1, hW, Ba, Bb, hB1, hs⟩ := start2 w 26 26 #[.bool na, .slice Aa la ka, .int .i64 xa0] #[.bool nb, .slice Ab lb kb, .int .i64 xb0]
  have HB := hide hB1
  clear hB1
  have hs0 : w.heap.size + 1 < w1.heap.size := by omega
  clear hs
  obtain ⟨ca0, ca1, ca2, -, -, -⟩ := Ba.three
  obtain ⟨cb0, cb1, cb2, -, -, -⟩ := Bb.three
  obtain ⟨za, HZa⟩ : ∃ z, Hid (ival na (val W (La.take 4)) = z) := ⟨_, hide rfl⟩
  obtain ⟨xa, HXa⟩ : ∃ x, Hid (xa0.tmod 600 = x) := ⟨_, hide rfl⟩
  have hxa := tmod_bd xa0 600 (by omega)
  rw [show (((600 : Nat) : Int)) = 600 from rfl, HXa.out] at hxa
  obtain ⟨zb, HZb⟩ : ∃ z, Hid (ival nb (val W (Lb.take 4)) = z) := ⟨_, hide rfl⟩
  obtain ⟨xb, HXb⟩ : ∃ x, Hid (xb0.tmod 600 = x) := ⟨_, hide rfl⟩
  have hxb := tmod_bd xb0 600 (by omega)
  rw [show (((600 : Nat) : Int)) = 600 from rfl, HXb.out] at hxb
  go_enter Try.func11, Try.ntmps11
  go_upto_region 1 with (fail)
  rw [← hW]
  clear hW
  have HP := shown3_calls w1
  go_wp2_with fail
  refine HP.mono ?_
  rintro e w2 ⟨hb, rfl⟩
  clear HP
  clear ca0 ca1 ca2 cb0 cb1 cb2
  have Ba := Ba.below hb Ba.lt
  have Bb := Bb.below hb Bb.lt
  have HB := hide (HB.out.trans (hb.mono HB.out.size))
  obtain ⟨ca0, ca1, ca2, -, -, -⟩ := Ba.three
  obtain ⟨cb0, cb1, cb2, -, -, -⟩ := Bb.three
  have HP := small3_calls w2 na Aa la ka xa0 La (ha.up HB.out)
  rw [HZa.out, HXa.out] at HP
  go_wp2_with fail
  refine HP.mono ?_
  have hbasea : w.heap.size + 1 < w2.heap.size := Bb.lt
  rintro e w3 ⟨hb, ma, Ca, ja, ia, da, rfl, hna, hda, hva⟩
  clear HP
  clear ca0 ca1 ca2 cb0 cb1 cb2
  have Ba := Ba.below hb Ba.lt
  have Bb := Bb.below hb Bb.lt
  have HB := hide (HB.out.trans (hb.mono HB.out.size))
  obtain ⟨ca0, ca1, ca2, fa0, fa1, fa2⟩ := Ba.three
  obtain ⟨w4, hW, Ba, hk1, hk2, hs, hk3⟩ := set3_all Ba (.bool ma) (.slice Ca ja ia) (.int .i64 xa)
  have Bb := hk1 _ _ _ (by omega) Bb
  have hna := hk2 _ _ _ (by omega) hna
  have HB := hide (hk3 _ _ HB.out (by omega))
  clear hk1 hk2 hk3
  go_upto_region 3 with (fail)
  rw [← hW]
  clear hW ca0 ca1 ca2 fa0 fa1 fa2
  obtain ⟨ca0, ca1, ca2, -, -, -⟩ := Ba.three
  obtain ⟨cb0, cb1, cb2, -, -, -⟩ := Bb.three
  have HP := small3_calls w4 nb Ab lb kb xb0 Lb (hb0.up HB.out)
  rw [HZb.out, HXb.out] at HP
  go_wp2_with fail
  refine HP.mono ?_
  have hbaseb : w.heap.size + 1 < w4.heap.size := Bb.lt
  rintro e w5 ⟨hb, mb, Cb, jb, ib, db, rfl, hnb, hdb, hvb⟩
  clear HP
  clear ca0 ca1 ca2 cb0 cb1 cb2
  have Ba := Ba.below hb Ba.lt
  have Bb := Bb.below hb Bb.lt
  have HB := hide (HB.out.trans (hb.mono HB.out.size))
  have hna := hna.below hb
  obtain ⟨cb0, cb1, cb2, fb0, fb1, fb2⟩ := Bb.three
  obtain ⟨w6, hW, Bb, hk1, hk2, hs, hk3⟩ := set3_all Bb (.bool mb) (.slice Cb jb ib) (.int .i64 xb)
  have Ba := hk1 _ _ _ (by omega) Ba
  have hna := hk2 _ _ _ (by omega) hna
  have hnb := hk2 _ _ _ (by omega) hnb
  have HB := hide (hk3 _ _ HB.out (by omega))
  clear hk1 hk2 hk3
  go_upto_region 4 with (fail)
  rw [← hW]
  clear hW cb0 cb1 cb2 fb0 fb1 fb2
  obtain ⟨ca0, ca1, ca2, -, -, -⟩ := Ba.three
  obtain ⟨cb0, cb1, cb2, -, -, -⟩ := Bb.three
  have Qa : Q w6 4 ma Ca ja ia za := ⟨da, hna.mono (Nat.zero_le _), hda, hva⟩
  have Qb : Q w6 4 mb Cb jb ib zb := ⟨db, hnb.mono (Nat.zero_le _), hdb, hvb⟩
  have hxa5 : -100000 ≤ xa ∧ xa ≤ 100000 := by omega
  have Ia := hide (InV.small (K := 4000) (Nat.le_refl _) (x := xa) (m := 599) Qa.lt (by omega) (by omega) (by omega))
  obtain ⟨Va, HVa⟩ : ∃ V, Hid (av 4000 za xa = V) := ⟨_, hide rfl⟩
  rw [HVa.out] at Ia
  have hxb5 : -100000 ≤ xb ∧ xb ≤ 100000 := by omega
  have Ib := hide (InV.small (K := 4000) (Nat.le_refl _) (x := xb) (m := 599) Qb.lt (by omega) (by omega) (by omega))
  obtain ⟨Vb, HVb⟩ : ∃ V, Hid (av 4000 zb xb = V) := ⟨_, hide rfl⟩
  rw [HVb.out] at Ib
  by_cases h0a : Va = 0
  · by_cases h0b : Vb = 0
    · have HLa : Hid ((if Va = 0 then 0 else lg 4000 Va) = 0) := hide (if_pos h0a)
      have HOa : Hid (decide (Va ≠ 0) = false) := hide (by rw [h0a]; rfl)
      have HGa : Hid (Va.sign = 0) := hide (by rw [h0a]; rfl)
      clear h0a
      have HLb : Hid ((if Vb = 0 then 0 else lg 4000 Vb) = 0) := hide (if_pos h0b)
      have HOb : Hid (decide (Vb ≠ 0) = false) := hide (by rw [h0b]; rfl)
      have HGb : Hid (Vb.sign = 0) := hide (by rw [h0b]; rfl)
      clear h0b
      have HP := e_log 4000 Qa (Nat.le_refl _) (by omega) hxa5 HVa.out HLa.out HOa.out
      go_wp2_with fail
      refine HP.mono ?_
      rintro e w7 ⟨hb, rfl⟩
      clear HP
      clear ca0 ca1 ca2 cb0 cb1 cb2
      have Ba := Ba.below hb Ba.lt
      have Bb := Bb.below hb Bb.lt
      have Qa := Qa.below hb
      have Qb := Qb.below hb
      have HB := hide (HB.out.trans (hb.mono HB.out.size))
      obtain ⟨ca0, ca1, ca2, -, -, -⟩ := Ba.three
      obtain ⟨cb0, cb1, cb2, -, -, -⟩ := Bb.three
      have HP := e_log 4000 Qb (Nat.le_refl _) (by omega) hxb5 HVb.out HLb.out HOb.out
      go_wp2_with fail
      refine HP.mono ?_
      rintro e w8 ⟨hb, rfl⟩
      clear HP
      clear ca0 ca1 ca2 cb0 cb1 cb2
      have Ba := Ba.below hb Ba.lt
      have Bb := Bb.below hb Bb.lt
      have Qa := Qa.below hb
      have Qb := Qb.below hb
      have HB := hide (HB.out.trans (hb.mono HB.out.size))
      obtain ⟨ca0, ca1, ca2, -, -, -⟩ := Ba.three
      obtain ⟨cb0, cb1, cb2, -, -, -⟩ := Bb.three
      have HP := e_sign 4000 Qa (by omega) hxa5 HVa.out HGa.out
      go_wp2_with fail
      refine HP.mono ?_
      rintro e w9 ⟨hb, rfl⟩
      clear HP
      clear ca0 ca1 ca2 cb0 cb1 cb2
      have Ba := Ba.below hb Ba.lt
      have Bb := Bb.below hb Bb.lt
      have Qa := Qa.below hb
      have Qb := Qb.below hb
      have HB := hide (HB.out.trans (hb.mono HB.out.size))
      obtain ⟨ca0, ca1, ca2, -, -, -⟩ := Ba.three
      obtain ⟨cb0, cb1, cb2, -, -, -⟩ := Bb.three
      have HP := e_sign 4000 Qb (by omega) hxb5 HVb.out HGb.out
      go_wp2_with fail
      refine HP.mono ?_
      rintro e w10 ⟨hb, rfl⟩
      clear HP
      clear ca0 ca1 ca2 cb0 cb1 cb2
      have Ba := Ba.below hb Ba.lt
      have Bb := Bb.below hb Bb.lt
      have Qa := Qa.below hb
      have Qb := Qb.below hb
      have HB := hide (HB.out.trans (hb.mono HB.out.size))
      obtain ⟨ca0, ca1, ca2, -, -, -⟩ := Ba.three
      obtain ⟨cb0, cb1, cb2, -, -, -⟩ := Bb.three
      go_wp2_with fail
      go_ret
      exact ⟨rfl, HB.out⟩
    · have HLa : Hid ((if Va = 0 then 0 else lg 4000 Va) = 0) := hide (if_pos h0a)
      have HOa : Hid (decide (Va ≠ 0) = false) := hide (by rw [h0a]; rfl)
      have HGa : Hid (Va.sign = 0) := hide (by rw [h0a]; rfl)
      clear h0a
      obtain ⟨m, HNb⟩ : ∃ n, Hid (lg 4000 Vb = n) := ⟨_, hide rfl⟩
      have HLb : Hid ((if Vb = 0 then 0 else lg 4000 Vb) = m) := hide (by rw [if_neg h0b]; exact HNb.out)
      have HOb : Hid (decide (Vb ≠ 0) = true) := hide (decide_eq_true h0b)
      have HDb := hide h0b
      clear h0b
      have HP := e_log 4000 Qa (Nat.le_refl _) (by omega) hxa5 HVa.out HLa.out HOa.out
      go_wp2_with fail
      refine HP.mono ?_
      rintro e w7 ⟨hb, rfl⟩
      clear HP
      clear ca0 ca1 ca2 cb0 cb1 cb2
      have Ba := Ba.below hb Ba.lt
      have Bb := Bb.below hb Bb.lt
      have Qa := Qa.below hb
      have Qb := Qb.below hb
      have HB := hide (HB.out.trans (hb.mono HB.out.size))
      obtain ⟨ca0, ca1, ca2, -, -, -⟩ := Ba.three
      obtain ⟨cb0, cb1, cb2, -, -, -⟩ := Bb.three
      have HP := e_log 4000 Qb (Nat.le_refl _) (by omega) hxb5 HVb.out HLb.out HOb.out
      go_wp2_with fail
      refine HP.mono ?_
      rintro e w8 ⟨hb, rfl⟩
      clear HP
      clear ca0 ca1 ca2 cb0 cb1 cb2
      have Ba := Ba.below hb Ba.lt
      have Bb := Bb.below hb Bb.lt
      have Qa := Qa.below hb
      have Qb := Qb.below hb
      have HB := hide (HB.out.trans (hb.mono HB.out.size))
      obtain ⟨ca0, ca1, ca2, -, -, -⟩ := Ba.three
      obtain ⟨cb0, cb1, cb2, -, -, -⟩ := Bb.three
      have HP := e_sign 4000 Qa (by omega) hxa5 HVa.out HGa.out
      go_wp2_with fail
      refine HP.mono ?_
      rintro e w9 ⟨hb, rfl⟩
      clear HP
      clear ca0 ca1 ca2 cb0 cb1 cb2
      have Ba := Ba.below hb Ba.lt
      have Bb := Bb.below hb Bb.lt
      have Qa := Qa.below hb
      have Qb := Qb.below hb
      have HB := hide (HB.out.trans (hb.mono HB.out.size))
      obtain ⟨ca0, ca1, ca2, -, -, -⟩ := Ba.three
      obtain ⟨cb0, cb1, cb2, -, -, -⟩ := Bb.three
      go_wp2_with fail
      go_ret
      exact ⟨rfl, HB.out⟩
  · by_cases h0b : Vb = 0
    · obtain ⟨n, HNa⟩ : ∃ n, Hid (lg 4000 Va = n) := ⟨_, hide rfl⟩
      have HLa : Hid ((if Va = 0 then 0 else lg 4000 Va) = n) := hide (by rw [if_neg h0a]; exact HNa.out)
      have HOa : Hid (decide (Va ≠ 0) = true) := hide (decide_eq_true h0a)
      have HDa := hide h0a
      clear h0a
      have HLb : Hid ((if Vb = 0 then 0 else lg 4000 Vb) = 0) := hide (if_pos h0b)
      have HOb : Hid (decide (Vb ≠ 0) = false) := hide (by rw [h0b]; rfl)
      have HGb : Hid (Vb.sign = 0) := hide (by rw [h0b]; rfl)
      clear h0b
      have HP := e_log 4000 Qa (Nat.le_refl _) (by omega) hxa5 HVa.out HLa.out HOa.out
      go_wp2_with fail
      refine HP.mono ?_
      rintro e w7 ⟨hb, rfl⟩
      clear HP
      clear ca0 ca1 ca2 cb0 cb1 cb2
      have Ba := Ba.below hb Ba.lt
      have Bb := Bb.below hb Bb.lt
      have Qa := Qa.below hb
      have Qb := Qb.below hb
      have HB := hide (HB.out.trans (hb.mono HB.out.size))
      obtain ⟨ca0, ca1, ca2, -, -, -⟩ := Ba.three
      obtain ⟨cb0, cb1, cb2, -, -, -⟩ := Bb.three
      have HP := e_log 4000 Qb (Nat.le_refl _) (by omega) hxb5 HVb.out HLb.out HOb.out
      go_wp2_with fail
      refine HP.mono ?_
      rintro e w8 ⟨hb, rfl⟩
      clear HP
      clear ca0 ca1 ca2 cb0 cb1 cb2
      have Ba := Ba.below hb Ba.lt
      have Bb := Bb.below hb Bb.lt
      have Qa := Qa.below hb
      have Qb := Qb.below hb
      have HB := hide (HB.out.trans (hb.mono HB.out.size))
      obtain ⟨ca0, ca1, ca2, -, -, -⟩ := Ba.three
      obtain ⟨cb0, cb1, cb2, -, -, -⟩ := Bb.three
      have HP := e_sign 4000 Qb (by omega) hxb5 HVb.out HGb.out
      go_wp2_with fail
      refine HP.mono ?_
      rintro e w9 ⟨hb, rfl⟩
      clear HP
      clear ca0 ca1 ca2 cb0 cb1 cb2
      have Ba := Ba.below hb Ba.lt
      have Bb := Bb.below hb Bb.lt
      have Qa := Qa.below hb
      have Qb := Qb.below hb
      have HB := hide (HB.out.trans (hb.mono HB.out.size))
      obtain ⟨ca0, ca1, ca2, -, -, -⟩ := Ba.three
      obtain ⟨cb0, cb1, cb2, -, -, -⟩ := Bb.three
      go_wp2_with fail
      go_ret
      exact ⟨rfl, HB.out⟩
    · obtain ⟨n, HNa⟩ : ∃ n, Hid (lg 4000 Va = n) := ⟨_, hide rfl⟩
      have HLa : Hid ((if Va = 0 then 0 else lg 4000 Va) = n) := hide (by rw [if_neg h0a]; exact HNa.out)
      have HOa : Hid (decide (Va ≠ 0) = true) := hide (decide_eq_true h0a)
      have HDa := hide h0a
      clear h0a
      obtain ⟨m, HNb⟩ : ∃ n, Hid (lg 4000 Vb = n) := ⟨_, hide rfl⟩
      have HLb : Hid ((if Vb = 0 then 0 else lg 4000 Vb) = m) := hide (by rw [if_neg h0b]; exact HNb.out)
      have HOb : Hid (decide (Vb ≠ 0) = true) := hide (decide_eq_true h0b)
      have HDb := hide h0b
      clear h0b
      have hn := Ia.out.lg HDa.out
      rw [HNa.out] at hn
      have hm := Ib.out.lg HDb.out
      rw [HNb.out] at hm
      obtain ⟨T, HT⟩ : ∃ T : Int, Hid (T = Va.natAbs) := ⟨_, hide rfl⟩
      have HK1 : Hid (cmpZ (sv 4000 1 n) T ≤ 0) := hide (by rw [← HNa.out]; exact lg_cmp1 HDa.out (by rw [HNa.out]; omega) HT.out)
      have HK2 : Hid (cmpZ T (sv 4000 1 (n + 1)) = -1) := hide (by rw [← HNa.out]; exact lg_cmp2 HDa.out (by rw [HNa.out]; omega) HT.out)
      obtain ⟨c1, HC1⟩ : ∃ z, Hid (cmpZ (sv 4000 1 n) T = z) := ⟨_, hide rfl⟩
      have hc1 : c1 ≤ 0 := by rw [← HC1.out]; exact HK1.out
      have HKM := lg_mul (K := 4000) (J := 4000) HDa.out HDb.out (by rw [HNa.out]; omega) (by rw [HNb.out]; omega)
      rw [HNa.out, HNb.out] at HKM
      obtain ⟨k, HKk⟩ : ∃ z, Hid (lg (4000 + 4000) (Va * Vb) = z) := ⟨_, hide rfl⟩
      rw [HKk.out] at HKM
      have HKM := hide HKM
      have IP := hide (Ia.out.mul Ib.out)
      obtain ⟨P, HP0⟩ : ∃ z, Hid (Va * Vb = z) := ⟨_, hide rfl⟩
      rw [HP0.out] at IP HKk
      obtain ⟨zp, HZp⟩ : ∃ z, Hid (pM P = z) := ⟨_, hide rfl⟩
      obtain ⟨xp, HXp⟩ : ∃ z, Hid (pE P (-((4000 + 4000 : Nat) : Int)) = z) := ⟨_, hide rfl⟩
      have HVP : Hid (av (4000 + 4000) zp xp = P) := hide (by rw [← HZp.out, ← HXp.out]; exact InV.av IP.out (by omega) (by omega))
      have bxp : -100000 ≤ xp ∧ xp ≤ 100000 := by have := InV.bd IP.out (by omega) (by omega); rw [HXp.out] at this; omega
      have HZp2 : Hid (pM (Va * Vb) = zp) := hide (by rw [HP0.out]; exact HZp.out)
      have HXp2 : Hid (pE (Va * Vb) (-((4000 + 4000 : Nat) : Int)) = xp) := hide (by rw [HP0.out]; exact HXp.out)
      have hP0 : P ≠ 0 := by rw [← HP0.out]; intro h; rcases Int.mul_eq_zero.1 h with h | h; exact HDa.out h; exact HDb.out h
      have HLP : Hid ((if P = 0 then 0 else lg (4000 + 4000) P) = k) := hide (by rw [if_neg hP0]; exact HKk.out)
      have HOP : Hid (decide (P ≠ 0) = true) := hide (decide_eq_true hP0)
      clear hP0
      have HP := e_log 4000 Qa (Nat.le_refl _) (by omega) hxa5 HVa.out HLa.out HOa.out
      go_wp2_with fail
      refine HP.mono ?_
      rintro e w7 ⟨hb, rfl⟩
      clear HP
      clear ca0 ca1 ca2 cb0 cb1 cb2
      have Ba := Ba.below hb Ba.lt
      have Bb := Bb.below hb Bb.lt
      have Qa := Qa.below hb
      have Qb := Qb.below hb
      have HB := hide (HB.out.trans (hb.mono HB.out.size))
      obtain ⟨ca0, ca1, ca2, -, -, -⟩ := Ba.three
      obtain ⟨cb0, cb1, cb2, -, -, -⟩ := Bb.three
      have HP := e_log 4000 Qb (Nat.le_refl _) (by omega) hxb5 HVb.out HLb.out HOb.out
      go_wp2_with fail
      refine HP.mono ?_
      rintro e w8 ⟨hb, rfl⟩
      clear HP
      clear ca0 ca1 ca2 cb0 cb1 cb2
      have Ba := Ba.below hb Ba.lt
      have Bb := Bb.below hb Bb.lt
      have Qa := Qa.below hb
      have Qb := Qb.below hb
      have HB := hide (HB.out.trans (hb.mono HB.out.size))
      obtain ⟨ca0, ca1, ca2, -, -, -⟩ := Ba.three
      obtain ⟨cb0, cb1, cb2, -, -, -⟩ := Bb.three
      have Qa0 := Qa
      have hlow0 : w.heap.size + 1 < w8.heap.size := Bb.lt
      have Qb0 := Qb
      go_upto_region 8 with (fail)
      clear ca0 ca1 ca2 cb0 cb1 cb2
      obtain ⟨w9, hW, Bx, hb, hs⟩ := start1 w8 26 #[.bool ma, .slice Ca ja ia, .int .i64 xa]
      clear hs
      have HFx := hide hb
      obtain ⟨ca0, ca1, ca2, -, -, -⟩ := Ba.three
      go_upto_region 9 with (fail)
      rw [← hW]
      clear hW ca0 ca1 ca2
      have Ba := Ba.below hb Ba.lt
      have Bb := Bb.below hb Bb.lt
      have Qa := Qa.below hb
      have Qb := Qb.below hb
      have HB := hide (HB.out.trans (hb.mono HB.out.size))
      obtain ⟨ca0, ca1, ca2, -, -, -⟩ := Ba.three
      obtain ⟨cb0, cb1, cb2, -, -, -⟩ := Bb.three
      obtain ⟨cx0, cx1, cx2, -, -, -⟩ := Bx.three
      obtain ⟨s, HSG⟩ : ∃ z, Hid (Va.sign = z) := ⟨_, hide rfl⟩
      have HP := e_sign 4000 Qa (by omega) hxa5 HVa.out HSG.out
      go_wp2_with fail
      refine HP.mono ?_
      rintro e w10 ⟨hb, rfl⟩
      clear HP
      clear ca0 ca1 ca2 cb0 cb1 cb2 cx0 cx1 cx2
      have Ba := Ba.below hb Ba.lt
      have Bb := Bb.below hb Bb.lt
      have Bx := Bx.below hb Bx.lt
      have Qa := Qa.below hb
      have Qb := Qb.below hb
      have HB := hide (HB.out.trans (hb.mono HB.out.size))
      obtain ⟨ca0, ca1, ca2, -, -, -⟩ := Ba.three
      obtain ⟨cb0, cb1, cb2, -, -, -⟩ := Bb.three
      obtain ⟨cx0, cx1, cx2, -, -, -⟩ := Bx.three
      have HFx := hide (HFx.out.trans (hb.mono HFx.out.size))
      go_upto_if 54 with (fail)
      have hwp1 := Ba.lt
      have hlow : w.heap.size + 1 < w8.heap.size := by have := hbasea; have := hbaseb; exact hlow0
      go_cut [10] (fun v wx => ∃ mx Cx jx ix zx xx, v = .pointer (some ⟨w8.heap.size, 0, none⟩) ∧ Blk wx w8.heap.size 26 #[.bool mx, .slice Cx jx ix, .int .i64 xx] ∧ Q wx 4 mx Cx jx ix zx ∧ av 4000 zx xx = T ∧ (-100000 ≤ xx ∧ xx ≤ 100000) ∧ Below w.heap.size w wx ∧ Blk wx (w.heap.size) 26 #[.bool ma, .slice Ca ja ia, .int .i64 xa] ∧ Blk wx (w.heap.size + 1) 26 #[.bool mb, .slice Cb jb ib, .int .i64 xb] ∧ Q wx 4 ma Ca ja ia za ∧ Q wx 4 mb Cb jb ib zb)
      case first =>
        by_cases hsn : s < 0
        · have hVn : Va < 0 := Int.sign_eq_neg_one_iff_neg.1 (by have := HSG.out; rcases sign_cases Va with ⟨h, h2⟩ | ⟨h, h2⟩ | ⟨h, h2⟩ <;> omega)
          obtain ⟨zn, HZn⟩ : ∃ z, Hid (pM (-Va) = z) := ⟨_, hide rfl⟩
          obtain ⟨xn, HXn⟩ : ∃ z, Hid (pE (-Va) (-((4000 : Nat) : Int)) = z) := ⟨_, hide rfl⟩
          have HVn : Hid (av 4000 zn xn = T) := hide (by rw [← HZn.out, ← HXn.out, InV.av Ia.out.neg (by omega) (by omega), HT.out]; omega)
          have bxn : -100000 ≤ xn ∧ xn ≤ 100000 := by have := InV.bd Ia.out.neg (by omega) (by omega); rw [HXn.out] at this; omega
          clear hVn
          have hxs : w.heap.size + 1 < w8.heap.size := hlow
          have HP := e_negB 4000 Qa (Nat.le_refl _) (by omega) hxa5 HVa.out HZn.out HXn.out
          go_wp2_with fail
          refine HP.mono ?_
          rintro e w11 ⟨hb, ⟨u, dn, rfl, hu, hdn⟩, hzl⟩
          obtain ⟨An, kn, rfl⟩ := hu.form
          clear HP
          have hxl : w8.heap.size < w10.heap.size := Bx.lt
          clear ca0 ca1 ca2 cb0 cb1 cb2 cx0 cx1 cx2
          have Ba := Ba.below hb Ba.lt
          have Bb := Bb.below hb Bb.lt
          have Bx := Bx.below hb Bx.lt
          have Qa := Qa.below hb
          have Qb := Qb.below hb
          have HB := hide (HB.out.trans (hb.mono HB.out.size))
          have HFx := hide (HFx.out.trans (hb.mono HFx.out.size))
          obtain ⟨cx0, cx1, cx2, fx0, fx1, fx2⟩ := Bx.three
          obtain ⟨w12, hW, Bx, hk1, hk2, hs, hk3⟩ := set3_all Bx (.bool (decide (zn < 0))) (.slice An dn.length kn) (.int .i64 xn)
          have hu := hk2 _ _ _ hxl hu
          have HFx := hide (hk3 _ _ HFx.out (Nat.le_refl _))
          have HB := hide (hk3 _ _ HB.out (by omega))
          have Ba := hk1 _ _ _ (by omega) Ba
          have Bb := hk1 _ _ _ (by omega) Bb
          clear hk1 hk2 hk3
          go_wp2_with fail
          go_meet
          rw [← hW]
          exact ⟨_, An, dn.length, kn, zn, xn, rfl, Bx, ⟨dn, hu.mono (Nat.zero_le _), by rw [hdn.len]; exact hzl, by rw [hdn.val, ival_self]⟩, HVn.out, bxn, HB.out, Ba, Bb, Qa0.below HFx.out, Qb0.below HFx.out⟩
        · have HVn : Hid (av 4000 za xa = T) := hide (by rw [HVa.out, HT.out]; have := HSG.out; rcases sign_cases Va with ⟨h, h2⟩ | ⟨h, h2⟩ | ⟨h, h2⟩ <;> omega)
          go_wp2_with fail
          go_meet
          exact ⟨ma, Ca, ja, ia, za, xa, rfl, Bx, Qa, HVn.out, hxa5, HB.out, Ba, Bb, Qa, Qb⟩
      case rest =>
        obtain ⟨mx, Cx, jx, ix, zx, xx, rfl, Bx, Qx, hVx, bxx, hB, Ba, Bb, Qa, Qb⟩ := hcut
        have HB := hide hB
        have HVx := hide hVx
        clear hB hVx
        obtain ⟨ca0, ca1, ca2, -, -, -⟩ := Ba.three
        obtain ⟨cb0, cb1, cb2, -, -, -⟩ := Bb.three
        obtain ⟨cx0, cx1, cx2, -, -, -⟩ := Bx.three
        have bn : -100000 ≤ n ∧ n ≤ 100000 := by omega
        have bn1 : -100000 ≤ n + 1 ∧ n + 1 ≤ 100000 := by omega
        have HO1 : Hid (nM 1 n = 1) := hide (nM_odd (by omega) (by omega) rfl)
        have HO2 : Hid (nE 1 n = n) := hide (nE_odd (by omega) (by omega) rfl)
        have HO3 : Hid (nM 1 (n + 1) = 1) := hide (nM_odd (by omega) (by omega) rfl)
        have HO4 : Hid (nE 1 (n + 1) = n + 1) := hide (nE_odd (by omega) (by omega) rfl)
        have HV1 : Hid (av 4000 1 n = sv 4000 1 n) := hide (av_of (by omega) (by omega))
        have HV2 : Hid (av 4000 1 (n + 1) = sv 4000 1 (n + 1)) := hide (av_of (by omega) (by omega))
        have hw1 : IntKind.i64.wrap (n + 1) = n + 1 := IntWalk.i64_in _ (by omega)
        have hw2 : IntKind.i64.wrap (n + m) = n + m := IntWalk.i64_in _ (by omega)
        have hw3 : IntKind.i64.wrap (n + m + 1) = n + m + 1 := IntWalk.i64_in _ (by omega)
        have HP := e_mul 4000 4000 Qa Qb (Nat.le_refl _) (Nat.le_refl _) (by omega) (by omega) hxa5 hxb5 HVa.out HVb.out HZp2.out HXp2.out
        go_wp2_with fail
        refine HP.mono ?_
        rintro e w61 ⟨hb, n61, A61, l61, k61, rfl, q61⟩
        clear HP
        clear ca0 ca1 ca2 cb0 cb1 cb2 cx0 cx1 cx2
        have Ba := Ba.below hb Ba.lt
        have Bb := Bb.below hb Bb.lt
        have Bx := Bx.below hb Bx.lt
        have Qa := Qa.below hb
        have Qb := Qb.below hb
        have Qx := Qx.below hb
        have HB := hide (HB.out.trans (hb.mono HB.out.size))
        obtain ⟨ca0, ca1, ca2, -, -, -⟩ := Ba.three
        obtain ⟨cb0, cb1, cb2, -, -, -⟩ := Bb.three
        obtain ⟨cx0, cx1, cx2, -, -, -⟩ := Bx.three
        have HP := e_log (4000 + 4000) q61.q (by omega) (by omega) bxp HVP.out HLP.out HOP.out
        go_wp2_with fail
        refine HP.mono ?_
        rintro e w62 ⟨hb, rfl⟩
        clear HP
        clear ca0 ca1 ca2 cb0 cb1 cb2 cx0 cx1 cx2
        have Ba := Ba.below hb Ba.lt
        have Bb := Bb.below hb Bb.lt
        have Bx := Bx.below hb Bx.lt
        have Qa := Qa.below hb
        have Qb := Qb.below hb
        have Qx := Qx.below hb
        have q61 := q61.below hb
        have HB := hide (HB.out.trans (hb.mono HB.out.size))
        obtain ⟨ca0, ca1, ca2, -, -, -⟩ := Ba.three
        obtain ⟨cb0, cb1, cb2, -, -, -⟩ := Bb.three
        obtain ⟨cx0, cx1, cx2, -, -, -⟩ := Bx.three
        go_upto_region 12 with (fail)
        rcases HKM.out with hk | hk
        · subst hk
          have e1 : (n + m == n + m) = true := by rw [beq_iff_eq]
          have Bx := Bx.drew
          have Qx := Qx.drew
          have HB := hide HB.out.drew
          refine wp_region_noPanic ?_
          refine wp_region_held_drew (S := fun w' => w'.cell? ⟨w8.heap.size, 0, none⟩ = some (.bool mx) ∧ w'.cell? ⟨w8.heap.size, 1, none⟩ = some (.slice Cx jx ix) ∧ w'.cell? ⟨w8.heap.size, 2, none⟩ = some (.int .i64 xx)) (by kernel_rfl) ?_ (fun hHeld0 => ?_)
          · (try dsimp only); go_keep
          refine wpAnyH_take (i := 0) (v := ?vp0) rfl (by kernel_rfl) (by kernel_rfl) (by kernel_rfl) (fun _ _ _ h => h) (Or.inl ⟨by rfl, ?hp0⟩) hHeld0 ?_
          case hp0 => (intro w hSw; (try dsimp only at hSw); go_simp; try with_reducible rfl)
          (try simp only [List.getElem_toArray, List.getElem_cons_succ, List.getElem_cons_zero, Act.put, List.setIfInBounds_toArray, List.set_cons_zero, List.set_cons_succ])
          refine wpAnyH_take (i := 1) (v := ?vp1) rfl (by kernel_rfl) (by kernel_rfl) (by kernel_rfl) (fun _ _ _ h => h) (Or.inl ⟨by rfl, ?hp1⟩) hHeld0 ?_
          case hp1 => (intro w hSw; (try dsimp only at hSw); go_simp; try with_reducible rfl)
          (try simp only [List.getElem_toArray, List.getElem_cons_succ, List.getElem_cons_zero, Act.put, List.setIfInBounds_toArray, List.set_cons_zero, List.set_cons_succ])
          refine wpAnyH_take (i := 2) (v := ?vp2) rfl (by kernel_rfl) (by kernel_rfl) (by kernel_rfl) (fun _ _ _ h => h) (Or.inl ⟨by rfl, ?hp2⟩) hHeld0 ?_
          case hp2 => (intro w hSw; (try dsimp only at hSw); go_simp; try with_reducible rfl)
          (try simp only [List.getElem_toArray, List.getElem_cons_succ, List.getElem_cons_zero, Act.put, List.setIfInBounds_toArray, List.set_cons_zero, List.set_cons_succ])
          refine wpAnyH_take (i := 4) (v := ?vp4) rfl (by kernel_rfl) (by kernel_rfl) (by kernel_rfl) (fun _ _ _ h => h) (Or.inl ⟨by rfl, ?hp4⟩) hHeld0 ?_
          case hp4 => (intro w hSw; (try dsimp only at hSw); go_simp; try with_reducible rfl)
          (try simp only [List.getElem_toArray, List.getElem_cons_succ, List.getElem_cons_zero, Act.put, List.setIfInBounds_toArray, List.set_cons_zero, List.set_cons_succ])
          refine wpAnyH_ready (rs := [3]) (by kernel_rfl) (by simp) ?_
          refine AllReadyH.cons rfl (fun K hK => ?_) AllReadyH.nil
          go_simp
          refine (e_of3 (n := 1) (by omega) bn HO1.out HO2.out).mono ?_
          rintro e w63 ⟨hb, n71, A71, l71, k71, rfl, q71⟩
          have Bx := Bx.below hb Bx.lt
          have Qx := Qx.below hb
          have HB := hide (HB.out.trans (hb.mono HB.out.size))
          obtain ⟨cx0, cx1, cx2, -, -, -⟩ := Bx.three
          go_wp2_with fail
          refine hK.out _ _ ?_ (fun hHeld1 => ?_)
          · (try dsimp only); go_keep
          clear hK K hHeld0
          (try simp only [List.getElem_toArray, List.getElem_cons_succ, List.getElem_cons_zero, Act.put, List.setIfInBounds_toArray, List.set_cons_zero, List.set_cons_succ])
          refine wpAnyH_ready (rs := [5]) (by kernel_rfl) (by simp) ?_
          refine AllReadyH.cons rfl (fun K hK => ?_) AllReadyH.nil
          go_simp
          refine (e_cmp 4000 q71 Qx (Nat.le_refl _) (by omega) (by omega) bn bxx HV1.out HVx.out HC1.out).mono ?_
          rintro e w64 ⟨hb, rfl⟩
          have Bx := Bx.below hb Bx.lt
          have Qx := Qx.below hb
          have q71 := q71.below hb
          have HB := hide (HB.out.trans (hb.mono HB.out.size))
          obtain ⟨cx0, cx1, cx2, -, -, -⟩ := Bx.three
          go_wp2_with fail
          refine hK.out _ _ ?_ (fun hHeld2 => ?_)
          · (try dsimp only); go_keep
          clear hK K hHeld1
          (try simp only [List.getElem_toArray, List.getElem_cons_succ, List.getElem_cons_zero, Act.put, List.setIfInBounds_toArray, List.set_cons_zero, List.set_cons_succ])
          refine wpAnyH_take (i := 6) (v := ?vp6) rfl (by kernel_rfl) (by kernel_rfl) (by kernel_rfl) (fun _ _ _ h => h) (Or.inl ⟨by rfl, ?hp6⟩) hHeld2 ?_
          case hp6 => (intro w hSw; (try dsimp only at hSw); go_simp; try with_reducible rfl)
          (try simp only [List.getElem_toArray, List.getElem_cons_succ, List.getElem_cons_zero, Act.put, List.setIfInBounds_toArray, List.set_cons_zero, List.set_cons_succ])
          refine wpAnyH_take (i := 7) (v := ?vp7) rfl (by kernel_rfl) (by kernel_rfl) (by kernel_rfl) (fun _ _ _ h => h) (Or.inl ⟨by rfl, ?hp7⟩) hHeld2 ?_
          case hp7 => (intro w hSw; (try dsimp only at hSw); go_simp; try with_reducible rfl)
          (try simp only [List.getElem_toArray, List.getElem_cons_succ, List.getElem_cons_zero, Act.put, List.setIfInBounds_toArray, List.set_cons_zero, List.set_cons_succ])
          refine wpAnyH_take (i := 8) (v := ?vp8) rfl (by kernel_rfl) (by kernel_rfl) (by kernel_rfl) (fun _ _ _ h => h) (Or.inl ⟨by rfl, ?hp8⟩) hHeld2 ?_
          case hp8 => (intro w hSw; (try dsimp only at hSw); go_simp; try with_reducible rfl)
          (try simp only [List.getElem_toArray, List.getElem_cons_succ, List.getElem_cons_zero, Act.put, List.setIfInBounds_toArray, List.set_cons_zero, List.set_cons_succ])
          refine wpAnyH_take (i := 9) (v := ?vp9) rfl (by kernel_rfl) (by kernel_rfl) (by kernel_rfl) (fun _ _ _ h => h) (Or.inl ⟨by rfl, ?hp9⟩) hHeld2 ?_
          case hp9 => (intro w hSw; (try dsimp only at hSw); go_simp; try with_reducible rfl)
          (try simp only [List.getElem_toArray, List.getElem_cons_succ, List.getElem_cons_zero, Act.put, List.setIfInBounds_toArray, List.set_cons_zero, List.set_cons_succ])
          refine wpAnyH_take (i := 10) (v := ?vp10) rfl (by kernel_rfl) (by kernel_rfl) (by kernel_rfl) (fun _ _ _ h => h) (Or.inl ⟨by rfl, ?hp10⟩) hHeld2 ?_
          case hp10 => (intro w hSw; (try dsimp only at hSw); go_simp; try with_reducible rfl)
          (try simp only [List.getElem_toArray, List.getElem_cons_succ, List.getElem_cons_zero, Act.put, List.setIfInBounds_toArray, List.set_cons_zero, List.set_cons_succ])
          refine wpAnyH_take (i := 11) (v := ?vp11) rfl (by kernel_rfl) (by kernel_rfl) (by kernel_rfl) (fun _ _ _ h => h) (Or.inl ⟨by rfl, ?hp11⟩) hHeld2 ?_
          case hp11 => (intro w hSw; (try dsimp only at hSw); go_simp; try with_reducible rfl)
          (try simp only [List.getElem_toArray, List.getElem_cons_succ, List.getElem_cons_zero, Act.put, List.setIfInBounds_toArray, List.set_cons_zero, List.set_cons_succ])
          refine wpAnyH_ready (rs := [12]) (by kernel_rfl) (by simp) ?_
          refine AllReadyH.cons rfl (fun K hK => ?_) AllReadyH.nil
          go_simp
          refine (e_of3 (n := 1) (by omega) bn1 HO3.out HO4.out).mono ?_
          rintro e w65 ⟨hb, n72, A72, l72, k72, rfl, q72⟩
          have Bx := Bx.below hb Bx.lt
          have Qx := Qx.below hb
          have q71 := q71.below hb
          have HB := hide (HB.out.trans (hb.mono HB.out.size))
          obtain ⟨cx0, cx1, cx2, -, -, -⟩ := Bx.three
          go_wp2_with fail
          refine hK.out _ _ ?_ (fun hHeld3 => ?_)
          · (try dsimp only); go_keep
          clear hK K hHeld2
          (try simp only [List.getElem_toArray, List.getElem_cons_succ, List.getElem_cons_zero, Act.put, List.setIfInBounds_toArray, List.set_cons_zero, List.set_cons_succ])
          refine wpAnyH_ready (rs := [13]) (by kernel_rfl) (by simp) ?_
          refine AllReadyH.cons rfl (fun K hK => ?_) AllReadyH.nil
          go_simp
          refine (e_cmp 4000 Qx q72 (Nat.le_refl _) (by omega) (by omega) bxx bn1 HVx.out HV2.out HK2.out).mono ?_
          rintro e w66 ⟨hb, rfl⟩
          have Bx := Bx.below hb Bx.lt
          have Qx := Qx.below hb
          have q71 := q71.below hb
          have q72 := q72.below hb
          have HB := hide (HB.out.trans (hb.mono HB.out.size))
          obtain ⟨cx0, cx1, cx2, -, -, -⟩ := Bx.three
          go_wp2_with fail
          refine hK.out _ _ ?_ (fun hHeld4 => ?_)
          · (try dsimp only); go_keep
          clear hK K hHeld3
          (try simp only [List.getElem_toArray, List.getElem_cons_succ, List.getElem_cons_zero, Act.put, List.setIfInBounds_toArray, List.set_cons_zero, List.set_cons_succ])
          refine wpAnyH_take (i := 14) (v := ?vp14) rfl (by kernel_rfl) (by kernel_rfl) (by kernel_rfl) (fun _ _ _ h => h) (Or.inl ⟨by rfl, ?hp14⟩) hHeld4 ?_
          case hp14 => (intro w hSw; (try dsimp only at hSw); go_simp; try with_reducible rfl)
          (try simp only [List.getElem_toArray, List.getElem_cons_succ, List.getElem_cons_zero, Act.put, List.setIfInBounds_toArray, List.set_cons_zero, List.set_cons_succ])
          refine wpAnyH_take (i := 15) (v := ?vp15) rfl (by kernel_rfl) (by kernel_rfl) (by kernel_rfl) (fun _ _ _ h => h) (Or.inl ⟨by rfl, ?hp15⟩) hHeld4 ?_
          case hp15 => (intro w hSw; (try dsimp only at hSw); go_simp; try with_reducible rfl)
          (try simp only [List.getElem_toArray, List.getElem_cons_succ, List.getElem_cons_zero, Act.put, List.setIfInBounds_toArray, List.set_cons_zero, List.set_cons_succ])
          refine wpAnyH_take (i := 16) (v := ?vp16) rfl (by kernel_rfl) (by kernel_rfl) (by kernel_rfl) (fun _ _ _ h => h) (Or.inl ⟨by rfl, ?hp16⟩) hHeld4 ?_
          case hp16 => (intro w hSw; (try dsimp only at hSw); go_simp; try with_reducible rfl)
          (try simp only [List.getElem_toArray, List.getElem_cons_succ, List.getElem_cons_zero, Act.put, List.setIfInBounds_toArray, List.set_cons_zero, List.set_cons_succ])
          refine wpAnyH_take (i := 17) (v := ?vp17) rfl (by kernel_rfl) (by kernel_rfl) (by kernel_rfl) (fun _ _ _ h => h) (Or.inl ⟨by rfl, ?hp17⟩) hHeld4 ?_
          case hp17 => (intro w hSw; (try dsimp only at hSw); go_simp; try with_reducible rfl)
          (try simp only [List.getElem_toArray, List.getElem_cons_succ, List.getElem_cons_zero, Act.put, List.setIfInBounds_toArray, List.set_cons_zero, List.set_cons_succ])
          refine wpAnyH_take (i := 18) (v := ?vp18) rfl (by kernel_rfl) (by kernel_rfl) (by kernel_rfl) (fun _ _ _ h => h) (Or.inl ⟨by rfl, ?hp18⟩) hHeld4 ?_
          case hp18 => (intro w hSw; (try dsimp only at hSw); go_simp; try with_reducible rfl)
          (try simp only [List.getElem_toArray, List.getElem_cons_succ, List.getElem_cons_zero, Act.put, List.setIfInBounds_toArray, List.set_cons_zero, List.set_cons_succ])
          refine wpAnyH_take (i := 19) (v := ?vp19) rfl (by kernel_rfl) (by kernel_rfl) (by kernel_rfl) (fun _ _ _ h => h) (Or.inl ⟨by rfl, ?hp19⟩) hHeld4 ?_
          case hp19 => (intro w hSw; (try dsimp only at hSw); go_simp; try with_reducible rfl)
          (try simp only [List.getElem_toArray, List.getElem_cons_succ, List.getElem_cons_zero, Act.put, List.setIfInBounds_toArray, List.set_cons_zero, List.set_cons_succ])
          refine wpAnyH_take (i := 20) (v := ?vp20) rfl (by kernel_rfl) (by kernel_rfl) (by kernel_rfl) (fun _ _ _ h => h) (Or.inl ⟨by rfl, ?hp20⟩) hHeld4 ?_
          case hp20 => (intro w hSw; (try dsimp only at hSw); go_simp; try with_reducible rfl)
          (try simp only [List.getElem_toArray, List.getElem_cons_succ, List.getElem_cons_zero, Act.put, List.setIfInBounds_toArray, List.set_cons_zero, List.set_cons_succ])
          refine wpAnyH_take (i := 21) (v := ?vp21) rfl (by kernel_rfl) (by kernel_rfl) (by kernel_rfl) (fun _ _ _ h => h) (Or.inl ⟨by rfl, ?hp21⟩) hHeld4 ?_
          case hp21 => (intro w hSw; (try dsimp only at hSw); go_simp; try with_reducible rfl)
          (try simp only [List.getElem_toArray, List.getElem_cons_succ, List.getElem_cons_zero, Act.put, List.setIfInBounds_toArray, List.set_cons_zero, List.set_cons_succ])
          refine wpAnyH_take (i := 22) (v := ?vp22) rfl (by kernel_rfl) (by kernel_rfl) (by kernel_rfl) (fun _ _ _ h => h) (Or.inl ⟨by rfl, ?hp22⟩) hHeld4 ?_
          case hp22 => (intro w hSw; (try dsimp only at hSw); go_simp; try with_reducible rfl)
          (try simp only [List.getElem_toArray, List.getElem_cons_succ, List.getElem_cons_zero, Act.put, List.setIfInBounds_toArray, List.set_cons_zero, List.set_cons_succ])
          refine wpAnyH_take (i := 23) (v := undef) rfl (by kernel_rfl) (by kernel_rfl) (by kernel_rfl) (fun _ _ _ h => h) (Or.inr ⟨by rfl, rfl⟩) hHeld4 ?_
          (try simp only [List.getElem_toArray, List.getElem_cons_succ, List.getElem_cons_zero, Act.put, List.setIfInBounds_toArray, List.set_cons_zero, List.set_cons_succ])
          refine wpAnyH_take (i := 24) (v := undef) rfl (by kernel_rfl) (by kernel_rfl) (by kernel_rfl) (fun _ _ _ h => h) (Or.inr ⟨by rfl, rfl⟩) hHeld4 ?_
          (try simp only [List.getElem_toArray, List.getElem_cons_succ, List.getElem_cons_zero, Act.put, List.setIfInBounds_toArray, List.set_cons_zero, List.set_cons_succ])
          refine wpAnyH_take (i := 25) (v := undef) rfl (by kernel_rfl) (by kernel_rfl) (by kernel_rfl) (fun _ _ _ h => h) (Or.inr ⟨by rfl, rfl⟩) hHeld4 ?_
          (try simp only [List.getElem_toArray, List.getElem_cons_succ, List.getElem_cons_zero, Act.put, List.setIfInBounds_toArray, List.set_cons_zero, List.set_cons_succ])
          refine wpAnyH_take (i := 26) (v := undef) rfl (by kernel_rfl) (by kernel_rfl) (by kernel_rfl) (fun _ _ _ h => h) (Or.inr ⟨by rfl, rfl⟩) hHeld4 ?_
          (try simp only [List.getElem_toArray, List.getElem_cons_succ, List.getElem_cons_zero, Act.put, List.setIfInBounds_toArray, List.set_cons_zero, List.set_cons_succ])
          refine wpAnyH_take (i := 27) (v := undef) rfl (by kernel_rfl) (by kernel_rfl) (by kernel_rfl) (fun _ _ _ h => h) (Or.inr ⟨by rfl, rfl⟩) hHeld4 ?_
          (try simp only [List.getElem_toArray, List.getElem_cons_succ, List.getElem_cons_zero, Act.put, List.setIfInBounds_toArray, List.set_cons_zero, List.set_cons_succ])
          refine wpAnyH_take (i := 28) (v := undef) rfl (by kernel_rfl) (by kernel_rfl) (by kernel_rfl) (fun _ _ _ h => h) (Or.inr ⟨by rfl, rfl⟩) hHeld4 ?_
          (try simp only [List.getElem_toArray, List.getElem_cons_succ, List.getElem_cons_zero, Act.put, List.setIfInBounds_toArray, List.set_cons_zero, List.set_cons_succ])
          refine wpAnyH_take (i := 29) (v := ?vp29) rfl (by kernel_rfl) (by kernel_rfl) (by kernel_rfl) (fun _ _ _ h => h) (Or.inl ⟨by rfl, ?hp29⟩) hHeld4 ?_
          case hp29 => (intro w hSw; (try dsimp only at hSw); go_simp; try with_reducible rfl)
          (try simp only [List.getElem_toArray, List.getElem_cons_succ, List.getElem_cons_zero, Act.put, List.setIfInBounds_toArray, List.set_cons_zero, List.set_cons_succ])
          refine wpAnyH_take (i := 30) (v := ?vp30) rfl (by kernel_rfl) (by kernel_rfl) (by kernel_rfl) (fun _ _ _ h => h) (Or.inl ⟨by rfl, ?hp30⟩) hHeld4 ?_
          case hp30 => (intro w hSw; (try dsimp only at hSw); go_simp; try with_reducible rfl)
          (try simp only [List.getElem_toArray, List.getElem_cons_succ, List.getElem_cons_zero, Act.put, List.setIfInBounds_toArray, List.set_cons_zero, List.set_cons_succ])
          refine wpAnyH_take (i := 31) (v := ?vp31) rfl (by kernel_rfl) (by kernel_rfl) (by kernel_rfl) (fun _ _ _ h => h) (Or.inl ⟨by rfl, ?hp31⟩) hHeld4 ?_
          case hp31 => (intro w hSw; (try dsimp only at hSw); go_simp; try with_reducible rfl)
          (try simp only [List.getElem_toArray, List.getElem_cons_succ, List.getElem_cons_zero, Act.put, List.setIfInBounds_toArray, List.set_cons_zero, List.set_cons_succ])
          refine wpAnyH_done (by kernel_rfl) ?_ _
          refine NoPanic.normal ?_
          go_wp2_with fail
          go_ret
          exact ⟨rfl, HB.out⟩
        · subst hk
          have e1 : (n + m + 1 == n + m) = false := by rw [beq_eq_false_iff_ne]; omega
          have e2 : (n + m + 1 == n + m + 1) = true := by rw [beq_iff_eq]
          have Bx := Bx.drew
          have Qx := Qx.drew
          have HB := hide HB.out.drew
          have tok0 : True := trivial
          go_region_held3 (fun w' => w'.cell? ⟨w8.heap.size, 0, none⟩ = some (.bool mx) ∧ w'.cell? ⟨w8.heap.size, 1, none⟩ = some (.slice Cx jx ix) ∧ w'.cell? ⟨w8.heap.size, 2, none⟩ = some (.int .i64 xx)) (go_keep)
            (first
              | (go_at_call 60; have _t := tok0; (with_reducible refine (e_of3 (n := 1) (by omega) bn HO1.out HO2.out).mono ?_); rintro e w63 ⟨hb, n71, A71, l71, k71, rfl, q71⟩
                 have Bx := Bx.below hb Bx.lt
                 have Qx := Qx.below hb
                 have HB := hide (HB.out.trans (hb.mono HB.out.size))
                 obtain ⟨cx0, cx1, cx2, -, -, -⟩ := Bx.three
                 clear _t tok0
                 have tok1 : True := trivial)
              | (go_at_call 40; have _t := tok1; (with_reducible refine (e_cmp 4000 q71 Qx (Nat.le_refl _) (by omega) (by omega) bn bxx HV1.out HVx.out HC1.out).mono ?_); rintro e w64 ⟨hb, rfl⟩
                 have Bx := Bx.below hb Bx.lt
                 have Qx := Qx.below hb
                 have q71 := q71.below hb
                 have HB := hide (HB.out.trans (hb.mono HB.out.size))
                 obtain ⟨cx0, cx1, cx2, -, -, -⟩ := Bx.three
                 clear _t tok1
                 have tok2 : True := trivial)
              | (go_at_call 60; have _t := tok2; (with_reducible refine (e_of3 (n := 1) (by omega) bn1 HO3.out HO4.out).mono ?_); rintro e w65 ⟨hb, n72, A72, l72, k72, rfl, q72⟩
                 have Bx := Bx.below hb Bx.lt
                 have Qx := Qx.below hb
                 have q71 := q71.below hb
                 have HB := hide (HB.out.trans (hb.mono HB.out.size))
                 obtain ⟨cx0, cx1, cx2, -, -, -⟩ := Bx.three
                 clear _t tok2
                 have tok3 : True := trivial)
              | (go_at_call 40; have _t := tok3; (with_reducible refine (e_cmp 4000 Qx q72 (Nat.le_refl _) (by omega) (by omega) bxx bn1 HVx.out HV2.out HK2.out).mono ?_); rintro e w66 ⟨hb, rfl⟩
                 have Bx := Bx.below hb Bx.lt
                 have Qx := Qx.below hb
                 have q71 := q71.below hb
                 have q72 := q72.below hb
                 have HB := hide (HB.out.trans (hb.mono HB.out.size))
                 obtain ⟨cx0, cx1, cx2, -, -, -⟩ := Bx.three
                 clear _t tok3
                 have tok4 : True := trivial))
          go_wp2_with fail
          go_ret
          exact ⟨rfl, HB.out⟩

theorem walk (w : World) (n0 : Bool) (A0 : Option Addr) (l0 c0 : Nat) (x0 : Int) (s0 : ∃ L, Nums w 0 (.slice A0 l0 c0) L) (w0 : (Lit.int .i64 x0).wf = true) (n1 : Bool) (A1 : Option Addr) (l1 c1 : Nat) (x1 : Int) (s1 : ∃ L, Nums w 0 (.slice A1 l1 c1) L) (w1 : (Lit.int .i64 x1).wf = true) :
    Calls Try.prog 11 #[.agg #[.bool n0, .slice A0 l0 c0, .int .i64 x0], .agg #[.bool n1, .slice A1 l1 c1, .int .i64 x1]] w fun e w' => e = .returned (.bool true) ∧ Below w.heap.size w w' := by
  obtain ⟨L0, h0⟩ := s0
  obtain ⟨L1, h1⟩ := s1
  exact walkN n0 n1 A0 A1 l0 l1 c0 c1 x0 x1 L0 L1 w h0 h1

/-! ### the row -/
set_option maxRecDepth 100000 in
theorem lifted (os : Os) (started : os.Started) (H : Type) (enc : TypeId × Value → H) :
    ReturnsInHanded {} Try.checked os 11 .any (Rows.dyadLogsSpec.pre6 enc Try.prog Try.f11 Rows.dyadLogsRow.domain false) (Rows.dyadLogsSpec.post enc Try.prog Try.f11 false true false false) := by
  refine returnsInHanded_of_change (C := Try.checked) own started (by kernel_rfl) Try.func11
    (ChangeSpec.witness6 (enc := enc) (C := Try.checked) false ⟨#[], #[.agg #[.bool false, .slice none 0 0, .int .i64 0], .agg #[.bool false, .slice none 0 0, .int .i64 0]], []⟩ 8 (by kernel_rfl) (by kernel_rfl) (by kernel_rfl) (by kernel_rfl)) ?_
  intro W base args ds gs before hval0 hW hcnd _
  have hval : ∀ (j : Nat) t v, Try.f11.params[j]? = some t → args[j]? = some v → Value.okWide Try.prog W .any base t v := hval0
  have hW' := hW
  obtain ⟨p, q, hA0, hV, rfl, hfz, hnd⟩ := hW
  have hA : DataW.TrodAll enc Try.prog W 0 (fun _ => true) true Try.f11.params.toList args.toList ds p := hA0
  rw [Try.params11] at hA hval
  obtain ⟨v0, vs0, d0, ds0, p0, q0, hargs, rfl, rfl, h0, r0⟩ := trodAll_cons hA
  obtain ⟨v1, vs1, d1, ds1, p1, q1, rfl, rfl, rfl, h1, r1⟩ := trodAll_cons r0
  obtain ⟨rfl, rfl, rfl⟩ := trodAll_nil r1
  obtain rfl : args = #[v0, v1] := by cases args; simp_all
  obtain ⟨rfl, rfl⟩ := trodVars_none hV
  have k0 := h0
  have lt0 : ∀ x ∈ p0, x.block < W.heap.size := by obtain ⟨m, hm⟩ := k0; exact DataW.trod_lt m _ _ _ hm
  obtain ⟨n0, A0, l0, c0, x0, rfl, s0, w0⟩ := open_dyad (hval 0 26 v0 rfl rfl) h0
  have k1 := h1
  have lt1 : ∀ x ∈ p1, x.block < W.heap.size := by obtain ⟨m, hm⟩ := k1; exact DataW.trod_lt m _ _ _ hm
  obtain ⟨n1, A1, l1, c1, x1, rfl, s1, w1⟩ := open_dyad (hval 1 26 v1 rfl rfl) h1
  clear hA0 hval0
  refine (walk W n0 A0 l0 c0 x0 s0 w0 n1 A1 l1 c1 x1 s1 w1).mono fun e W' ⟨he, bel⟩ => ?_
  subst he
  exact ⟨_, rfl, _, _, _, [], _, [], hW', trodAll_mk1 (shut_bool Try.underlying4 _), (trodAll_cons_mk (Below.trod laidOut (by kernel_rfl) (of_decide_eq_true (by kernel_rfl)) k0 bel lt0) (trodAll_cons_mk (Below.trod laidOut (by kernel_rfl) (of_decide_eq_true (by kernel_rfl)) k1 bel lt1) trodAll_mk0)), rfl, bel.frame _, fun h => by cases h⟩

theorem over : Rows.dyadLogsRow.holds Try.pinned (OpenSpec.ofChange Rows.dyadLogsSpec) :=
  OpenClaim.holds_of_wide 11 Try.f11 rfl rfl rfl rfl rfl rfl rfl ⟨rfl, rfl, rfl, rfl, rfl⟩ rfl rfl rfl rfl rfl (by kernel_rfl) Try.func11 (by kernel_rfl)
    (of_decide_eq_true (by kernel_rfl)) (by unfold Func.isWrapper; first | (rw [if_pos (by decide +kernel)]; kernel_rfl) | (rw [if_neg (by decide +kernel)]; exact ⟨rfl, rfl⟩))
    (fun os started H enc _ => lifted os started H enc)

theorem proved : Rows.DyadLogsSaid := over
#print axioms proved
end Go.Proofs.Ytnkembnachhicaa.dyadLogs
