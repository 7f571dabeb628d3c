/-
  hairlinelaw03.DyadRing returns true for any three dyads. Conditions: none.
-/
import Derived.Test.YtnkembnachhicaaRows
import Derived.Test.YtnkembnachhicaaEv
import Derived.Test.YtnkembnachhicaaShown3
import Derived.Test.YtnkembnachhicaaOpen
import Derived.Deep.DeepCutAuto
namespace Go.Proofs.Ytnkembnachhicaa.dyadRing
open Go.ChangeShapes Go.WideShapes Go.ChangeAt Go.RowKit
open L (val)
set_option linter.unusedVariables false
set_option linter.unusedSimpArgs false

theorem own : ownKnob Try.prog.godebug = none := by kernel_rfl
theorem laidOut : laidOutB Try.prog = true := by kernel_rfl

set_option maxHeartbeats 8000000 in
set_option maxRecDepth 100000 in
theorem walkN (na nb nc : Bool) (Aa Ab Ac : Option Addr) (la lb lc ka kb kc : Nat) (xa0 xb0 xc0 : Int) (La Lb Lc : List Nat) (w : World)
    (ha : Nums w 0 (.slice Aa la ka) La) (hb0 : Nums w 0 (.slice Ab lb kb) Lb) (hc : Nums w 0 (.slice Ac lc kc) Lc) :
    Calls Try.prog 12 #[.agg #[.bool na, .slice Aa la ka, .int .i64 xa0], .agg #[.bool nb, .slice Ab lb kb, .int .i64 xb0], .agg #[.bool nc, .slice Ac lc kc, .int .i64 xc0]] w fun e w' => e = .returned (.bool true) ∧ Below w.heap.size w w' := by
  obtain ⟨w1, hW, Ba, Bb, Bc, hB1, hs⟩ := start3 w 26 26 26 #[.bool na, .slice Aa la ka, .int .i64 xa0] #[.bool nb, .slice Ab lb kb, .int .i64 xb0] #[.bool nc, .slice Ac lc kc, .int .i64 xc0]
  have HB := hide hB1
  clear hB1
  have hs0 : w.heap.size + 2 < w1.heap.size := by omega
  clear hs
  obtain ⟨ca0, ca1, ca2, -, -, -⟩ := Ba.three
  obtain ⟨cb0, cb1, cb2, -, -, -⟩ := Bb.three
  obtain ⟨cc0, cc1, cc2, -, -, -⟩ := Bc.three
  obtain ⟨za, HZa⟩ : ∃ z, Hid (ival na (val W (La.take 4)) = z) := ⟨_, hide rfl⟩
  obtain ⟨xa, HXa⟩ : ∃ x, Hid (xa0.tmod 600 = x) := ⟨_, hide rfl⟩
  have hxa := tmod_bd xa0 600 (by omega)
  rw [show (((600 : Nat) : Int)) = 600 from rfl, HXa.out] at hxa
  obtain ⟨zb, HZb⟩ : ∃ z, Hid (ival nb (val W (Lb.take 4)) = z) := ⟨_, hide rfl⟩
  obtain ⟨xb, HXb⟩ : ∃ x, Hid (xb0.tmod 600 = x) := ⟨_, hide rfl⟩
  have hxb := tmod_bd xb0 600 (by omega)
  rw [show (((600 : Nat) : Int)) = 600 from rfl, HXb.out] at hxb
  obtain ⟨zc, HZc⟩ : ∃ z, Hid (ival nc (val W (Lc.take 4)) = z) := ⟨_, hide rfl⟩
  obtain ⟨xc, HXc⟩ : ∃ x, Hid (xc0.tmod 600 = x) := ⟨_, hide rfl⟩
  have hxc := tmod_bd xc0 600 (by omega)
  rw [show (((600 : Nat) : Int)) = 600 from rfl, HXc.out] at hxc
  go_enter Try.func12, Try.ntmps12
  go_upto_region 1 with (fail)
  rw [← hW]
  clear hW
  have HP := shown3_calls w1
  go_wp2_with fail
  refine HP.mono ?_
  rintro e w2 ⟨hb, rfl⟩
  clear HP
  clear ca0 ca1 ca2 cb0 cb1 cb2 cc0 cc1 cc2
  have Ba := Ba.below hb Ba.lt
  have Bb := Bb.below hb Bb.lt
  have Bc := Bc.below hb Bc.lt
  have HB := hide (HB.out.trans (hb.mono HB.out.size))
  obtain ⟨ca0, ca1, ca2, -, -, -⟩ := Ba.three
  obtain ⟨cb0, cb1, cb2, -, -, -⟩ := Bb.three
  obtain ⟨cc0, cc1, cc2, -, -, -⟩ := Bc.three
  have HP := small3_calls w2 na Aa la ka xa0 La (ha.up HB.out)
  rw [HZa.out, HXa.out] at HP
  go_wp2_with fail
  refine HP.mono ?_
  have hsza := HB.out.size
  have hbasea : w.heap.size + 2 < w2.heap.size := Bc.lt
  rintro e w3 ⟨hb, ma, Ca, ja, ia, da, rfl, hna, hda, hva⟩
  clear HP
  clear ca0 ca1 ca2 cb0 cb1 cb2 cc0 cc1 cc2
  have Ba := Ba.below hb Ba.lt
  have Bb := Bb.below hb Bb.lt
  have Bc := Bc.below hb Bc.lt
  have HB := hide (HB.out.trans (hb.mono HB.out.size))
  obtain ⟨ca0, ca1, ca2, -, -, -⟩ := Ba.three
  obtain ⟨cb0, cb1, cb2, -, -, -⟩ := Bb.three
  obtain ⟨cc0, cc1, cc2, -, -, -⟩ := Bc.three
  clear ca0 ca1 ca2 cb0 cb1 cb2 cc0 cc1 cc2
  obtain ⟨ca0, ca1, ca2, fa0, fa1, fa2⟩ := Ba.three
  obtain ⟨w4, hW, Ba, hk1, hk2, hs, hk3⟩ := set3_all Ba (.bool ma) (.slice Ca ja ia) (.int .i64 xa)
  have Bb := hk1 _ _ _ (by omega) Bb
  have Bc := hk1 _ _ _ (by omega) Bc
  have hna := hk2 _ _ _ (by omega) hna
  have HB := hide (hk3 _ _ HB.out (by omega))
  clear hk1 hk2 hk3
  go_upto_region 3 with (fail)
  rw [← hW]
  clear hW ca0 ca1 ca2 fa0 fa1 fa2
  obtain ⟨ca0, ca1, ca2, -, -, -⟩ := Ba.three
  obtain ⟨cb0, cb1, cb2, -, -, -⟩ := Bb.three
  obtain ⟨cc0, cc1, cc2, -, -, -⟩ := Bc.three
  have HP := small3_calls w4 nb Ab lb kb xb0 Lb (hb0.up HB.out)
  rw [HZb.out, HXb.out] at HP
  go_wp2_with fail
  refine HP.mono ?_
  have hszb := HB.out.size
  have hbaseb : w.heap.size + 2 < w4.heap.size := Bc.lt
  rintro e w5 ⟨hb, mb, Cb, jb, ib, db, rfl, hnb, hdb, hvb⟩
  clear HP
  clear ca0 ca1 ca2 cb0 cb1 cb2 cc0 cc1 cc2
  have Ba := Ba.below hb Ba.lt
  have Bb := Bb.below hb Bb.lt
  have Bc := Bc.below hb Bc.lt
  have HB := hide (HB.out.trans (hb.mono HB.out.size))
  have hna := hna.below hb
  obtain ⟨ca0, ca1, ca2, -, -, -⟩ := Ba.three
  obtain ⟨cb0, cb1, cb2, -, -, -⟩ := Bb.three
  obtain ⟨cc0, cc1, cc2, -, -, -⟩ := Bc.three
  clear ca0 ca1 ca2 cb0 cb1 cb2 cc0 cc1 cc2
  obtain ⟨cb0, cb1, cb2, fb0, fb1, fb2⟩ := Bb.three
  obtain ⟨w6, hW, Bb, hk1, hk2, hs, hk3⟩ := set3_all Bb (.bool mb) (.slice Cb jb ib) (.int .i64 xb)
  have Ba := hk1 _ _ _ (by omega) Ba
  have Bc := hk1 _ _ _ (by omega) Bc
  have hna := hk2 _ _ _ (by omega) hna
  have hnb := hk2 _ _ _ (by omega) hnb
  have HB := hide (hk3 _ _ HB.out (by omega))
  clear hk1 hk2 hk3
  go_upto_region 4 with (fail)
  rw [← hW]
  clear hW cb0 cb1 cb2 fb0 fb1 fb2
  obtain ⟨ca0, ca1, ca2, -, -, -⟩ := Ba.three
  obtain ⟨cb0, cb1, cb2, -, -, -⟩ := Bb.three
  obtain ⟨cc0, cc1, cc2, -, -, -⟩ := Bc.three
  have HP := small3_calls w6 nc Ac lc kc xc0 Lc (hc.up HB.out)
  rw [HZc.out, HXc.out] at HP
  go_wp2_with fail
  refine HP.mono ?_
  have hszc := HB.out.size
  have hbasec : w.heap.size + 2 < w6.heap.size := Bc.lt
  rintro e w7 ⟨hb, mc, Cc, jc, ic, dc, rfl, hnc, hdc, hvc⟩
  clear HP
  clear ca0 ca1 ca2 cb0 cb1 cb2 cc0 cc1 cc2
  have Ba := Ba.below hb Ba.lt
  have Bb := Bb.below hb Bb.lt
  have Bc := Bc.below hb Bc.lt
  have HB := hide (HB.out.trans (hb.mono HB.out.size))
  have hna := hna.below hb
  have hnb := hnb.below hb
  obtain ⟨ca0, ca1, ca2, -, -, -⟩ := Ba.three
  obtain ⟨cb0, cb1, cb2, -, -, -⟩ := Bb.three
  obtain ⟨cc0, cc1, cc2, -, -, -⟩ := Bc.three
  clear ca0 ca1 ca2 cb0 cb1 cb2 cc0 cc1 cc2
  obtain ⟨cc0, cc1, cc2, fc0, fc1, fc2⟩ := Bc.three
  obtain ⟨w8, hW, Bc, hk1, hk2, hs, hk3⟩ := set3_all Bc (.bool mc) (.slice Cc jc ic) (.int .i64 xc)
  have Ba := hk1 _ _ _ (by omega) Ba
  have Bb := hk1 _ _ _ (by omega) Bb
  have hna := hk2 _ _ _ (by omega) hna
  have hnb := hk2 _ _ _ (by omega) hnb
  have hnc := hk2 _ _ _ (by omega) hnc
  have HB := hide (hk3 _ _ HB.out (by omega))
  clear hk1 hk2 hk3
  go_upto_region 5 with (fail)
  rw [← hW]
  clear hW cc0 cc1 cc2 fc0 fc1 fc2
  obtain ⟨ca0, ca1, ca2, -, -, -⟩ := Ba.three
  obtain ⟨cb0, cb1, cb2, -, -, -⟩ := Bb.three
  obtain ⟨cc0, cc1, cc2, -, -, -⟩ := Bc.three
  have Qa : Q w8 4 ma Ca ja ia za := ⟨da, hna.mono (Nat.zero_le _), hda, hva⟩
  have Qb : Q w8 4 mb Cb jb ib zb := ⟨db, hnb.mono (Nat.zero_le _), hdb, hvb⟩
  have Qc : Q w8 4 mc Cc jc ic zc := ⟨dc, hnc.mono (Nat.zero_le _), hdc, hvc⟩
  have hxa5 : -100000 ≤ xa ∧ xa ≤ 100000 := by omega
  have hxb5 : -100000 ≤ xb ∧ xb ≤ 100000 := by omega
  have hxc5 : -100000 ≤ xc ∧ xc ≤ 100000 := by omega
  have Ia := hide (InV.small (K := 4000) (Nat.le_refl _) (x := xa) (m := 599) Qa.lt (by omega) (by omega) (by omega))
  obtain ⟨Va, HVa⟩ : ∃ V, Hid (av 4000 za xa = V) := ⟨_, hide rfl⟩
  rw [HVa.out] at Ia
  have Ib := hide (InV.small (K := 4000) (Nat.le_refl _) (x := xb) (m := 599) Qb.lt (by omega) (by omega) (by omega))
  obtain ⟨Vb, HVb⟩ : ∃ V, Hid (av 4000 zb xb = V) := ⟨_, hide rfl⟩
  rw [HVb.out] at Ib
  have Ic := hide (InV.small (K := 4000) (Nat.le_refl _) (x := xc) (m := 599) Qc.lt (by omega) (by omega) (by omega))
  obtain ⟨Vc, HVc⟩ : ∃ V, Hid (av 4000 zc xc = V) := ⟨_, hide rfl⟩
  rw [HVc.out] at Ic
  obtain ⟨z1, HZz1⟩ : ∃ z, Hid (pM (Va + Vb) = z) := ⟨_, hide rfl⟩
  obtain ⟨x1, HXx1⟩ : ∃ z, Hid (pE (Va + Vb) (-((4000 : Nat) : Int)) = z) := ⟨_, hide rfl⟩
  have HV1 : Hid (av 4000 z1 x1 = Va + Vb) := hide (by rw [← HZz1.out, ← HXx1.out]; exact InV.av (Ia.out.add Ib.out) (by omega) (by omega))
  have bx1 : -100000 ≤ x1 ∧ x1 ≤ 100000 := by have := InV.bd (Ia.out.add Ib.out) (by omega) (by omega); rw [HXx1.out] at this; omega
  obtain ⟨z2, HZz2⟩ : ∃ z, Hid (pM ((Va + Vb) * Vc) = z) := ⟨_, hide rfl⟩
  obtain ⟨x2, HXx2⟩ : ∃ z, Hid (pE ((Va + Vb) * Vc) (-(((4000 + 4000) : Nat) : Int)) = z) := ⟨_, hide rfl⟩
  obtain ⟨z3, HZz3⟩ : ∃ z, Hid (pM (Va * Vc) = z) := ⟨_, hide rfl⟩
  obtain ⟨x3, HXx3⟩ : ∃ z, Hid (pE (Va * Vc) (-(((4000 + 4000) : Nat) : Int)) = z) := ⟨_, hide rfl⟩
  have HV3 : Hid (av (4000 + 4000) z3 x3 = Va * Vc) := hide (by rw [← HZz3.out, ← HXx3.out]; exact InV.av (Ia.out.mul Ic.out) (by omega) (by omega))
  have bx3 : -100000 ≤ x3 ∧ x3 ≤ 100000 := by have := InV.bd (Ia.out.mul Ic.out) (by omega) (by omega); rw [HXx3.out] at this; omega
  obtain ⟨z4, HZz4⟩ : ∃ z, Hid (pM (Vb * Vc) = z) := ⟨_, hide rfl⟩
  obtain ⟨x4, HXx4⟩ : ∃ z, Hid (pE (Vb * Vc) (-(((4000 + 4000) : Nat) : Int)) = z) := ⟨_, hide rfl⟩
  have HV4 : Hid (av (4000 + 4000) z4 x4 = Vb * Vc) := hide (by rw [← HZz4.out, ← HXx4.out]; exact InV.av (Ib.out.mul Ic.out) (by omega) (by omega))
  have bx4 : -100000 ≤ x4 ∧ x4 ≤ 100000 := by have := InV.bd (Ib.out.mul Ic.out) (by omega) (by omega); rw [HXx4.out] at this; omega
  have HS1 : Hid (pM (Va * Vc + Vb * Vc) = z2) := hide (by rw [← Int.add_mul]; exact HZz2.out)
  have HS2 : Hid (pE (Va * Vc + Vb * Vc) (-((4000 + 4000 : Nat) : Int)) = x2) := hide (by rw [← Int.add_mul]; exact HXx2.out)
  obtain ⟨z5, HZz5⟩ : ∃ z, Hid (pM (Va - Vb) = z) := ⟨_, hide rfl⟩
  obtain ⟨x5, HXx5⟩ : ∃ z, Hid (pE (Va - Vb) (-((4000 : Nat) : Int)) = z) := ⟨_, hide rfl⟩
  have HV5 : Hid (av 4000 z5 x5 = Va - Vb) := hide (by rw [← HZz5.out, ← HXx5.out]; exact InV.av (Ia.out.sub Ib.out) (by omega) (by omega))
  have bx5 : -100000 ≤ x5 ∧ x5 ≤ 100000 := by have := InV.bd (Ia.out.sub Ib.out) (by omega) (by omega); rw [HXx5.out] at this; omega
  obtain ⟨z6, HZz6⟩ : ∃ z, Hid (pM (Va) = z) := ⟨_, hide rfl⟩
  obtain ⟨x6, HXx6⟩ : ∃ z, Hid (pE (Va) (-((4000 : Nat) : Int)) = z) := ⟨_, hide rfl⟩
  have HS3 : Hid (pM (Va - Vb + Vb) = z6) := hide (by rw [Int.sub_add_cancel]; exact HZz6.out)
  have HS4 : Hid (pE (Va - Vb + Vb) (-((4000 : Nat) : Int)) = x6) := hide (by rw [Int.sub_add_cancel]; exact HXx6.out)
  obtain ⟨z7, HZ7⟩ : ∃ z, Hid (za * 2 ^ 3 = z) := ⟨_, hide rfl⟩
  have HV7 : Hid (av 4000 z7 (xa - 3) = Va) := hide (by rw [← HZ7.out, av_of (by omega) (by omega), sv_shift 4000 _ _ _ (by omega), ← HVa.out, av_of (by omega) (by omega)]; congr 1; omega)
  obtain ⟨c9, HC9⟩ : ∃ c, Hid (cmpZ Va Vb = c) := ⟨_, hide rfl⟩
  have HC9s : Hid ((Va - Vb).sign = c9) := hide ((cmpZ_sub Va Vb).symm.trans HC9.out)
  have e9 : (c9 == c9) = true := by rw [beq_iff_eq]
  have hww : IntKind.i64.wrap (xa - 3) = xa - 3 := IntWalk.i64_in _ (by omega)
  go_upto_region 5 with (fail)
  have Ba := Ba.drew
  have Bb := Bb.drew
  have Bc := Bc.drew
  have Qa := Qa.drew
  have Qb := Qb.drew
  have Qc := Qc.drew
  have HB := hide HB.out.drew
  have tok0 : True := trivial
  go_region_held3 (fun w' => w'.cell? ⟨w.heap.size, 0, none⟩ = some (.bool ma) ∧ w'.cell? ⟨w.heap.size, 1, none⟩ = some (.slice Ca ja ia) ∧ w'.cell? ⟨w.heap.size, 2, none⟩ = some (.int .i64 xa) ∧ w'.cell? ⟨w.heap.size + 1, 0, none⟩ = some (.bool mb) ∧ w'.cell? ⟨w.heap.size + 1, 1, none⟩ = some (.slice Cb jb ib) ∧ w'.cell? ⟨w.heap.size + 1, 2, none⟩ = some (.int .i64 xb) ∧ w'.cell? ⟨w.heap.size + 2, 0, none⟩ = some (.bool mc) ∧ w'.cell? ⟨w.heap.size + 2, 1, none⟩ = some (.slice Cc jc ic) ∧ w'.cell? ⟨w.heap.size + 2, 2, none⟩ = some (.int .i64 xc)) (go_keep)
    (first
      | (go_at_call 50; have _t := tok0; (with_reducible refine (e_add 4000 Qa Qb (Nat.le_refl _) (by omega) (by omega) hxa5 hxb5 HVa.out HVb.out HZz1.out HXx1.out).mono ?_); rintro e w9 ⟨hb, n21, A21, l21, k21, rfl, q21⟩
         have Ba := Ba.below hb Ba.lt
         have Bb := Bb.below hb Bb.lt
         have Bc := Bc.below hb Bc.lt
         have Qa := Qa.below hb
         have Qb := Qb.below hb
         have Qc := Qc.below hb
         have HB := hide (HB.out.trans (hb.mono HB.out.size))
         obtain ⟨ca0, ca1, ca2, -, -, -⟩ := Ba.three
         obtain ⟨cb0, cb1, cb2, -, -, -⟩ := Bb.three
         obtain ⟨cc0, cc1, cc2, -, -, -⟩ := Bc.three
         clear _t tok0
         have tok1 : True := trivial)
      | (go_at_call 54; have _t := tok1; (with_reducible refine (e_mul 4000 4000 q21.q Qc (Nat.le_refl _) (Nat.le_refl _) (by omega) (by omega) bx1 hxc5 HV1.out HVc.out HZz2.out HXx2.out).mono ?_); rintro e w10 ⟨hb, n22, A22, l22, k22, rfl, q22⟩
         have Ba := Ba.below hb Ba.lt
         have Bb := Bb.below hb Bb.lt
         have Bc := Bc.below hb Bc.lt
         have Qa := Qa.below hb
         have Qb := Qb.below hb
         have Qc := Qc.below hb
         have q21 := q21.below hb
         have HB := hide (HB.out.trans (hb.mono HB.out.size))
         obtain ⟨ca0, ca1, ca2, -, -, -⟩ := Ba.three
         obtain ⟨cb0, cb1, cb2, -, -, -⟩ := Bb.three
         obtain ⟨cc0, cc1, cc2, -, -, -⟩ := Bc.three
         clear _t tok1
         have tok2 : True := trivial)
      | (go_at_call 54; have _t := tok2; (with_reducible refine (e_mul 4000 4000 Qa Qc (Nat.le_refl _) (Nat.le_refl _) (by omega) (by omega) hxa5 hxc5 HVa.out HVc.out HZz3.out HXx3.out).mono ?_); rintro e w11 ⟨hb, n23, A23, l23, k23, rfl, q23⟩
         have Ba := Ba.below hb Ba.lt
         have Bb := Bb.below hb Bb.lt
         have Bc := Bc.below hb Bc.lt
         have Qa := Qa.below hb
         have Qb := Qb.below hb
         have Qc := Qc.below hb
         have q21 := q21.below hb
         have q22 := q22.below hb
         have HB := hide (HB.out.trans (hb.mono HB.out.size))
         obtain ⟨ca0, ca1, ca2, -, -, -⟩ := Ba.three
         obtain ⟨cb0, cb1, cb2, -, -, -⟩ := Bb.three
         obtain ⟨cc0, cc1, cc2, -, -, -⟩ := Bc.three
         clear _t tok2
         have tok3 : True := trivial)
      | (go_at_call 54; have _t := tok3; (with_reducible refine (e_mul 4000 4000 Qb Qc (Nat.le_refl _) (Nat.le_refl _) (by omega) (by omega) hxb5 hxc5 HVb.out HVc.out HZz4.out HXx4.out).mono ?_); rintro e w12 ⟨hb, n24, A24, l24, k24, rfl, q24⟩
         have Ba := Ba.below hb Ba.lt
         have Bb := Bb.below hb Bb.lt
         have Bc := Bc.below hb Bc.lt
         have Qa := Qa.below hb
         have Qb := Qb.below hb
         have Qc := Qc.below hb
         have q21 := q21.below hb
         have q22 := q22.below hb
         have q23 := q23.below hb
         have HB := hide (HB.out.trans (hb.mono HB.out.size))
         obtain ⟨ca0, ca1, ca2, -, -, -⟩ := Ba.three
         obtain ⟨cb0, cb1, cb2, -, -, -⟩ := Bb.three
         obtain ⟨cc0, cc1, cc2, -, -, -⟩ := Bc.three
         clear _t tok3
         have tok4 : True := trivial)
      | (go_at_call 50; have _t := tok4; (with_reducible refine (e_add (4000 + 4000) q23.q q24.q (by omega) (by omega) (by omega) bx3 bx4 HV3.out HV4.out HS1.out HS2.out).mono ?_); rintro e w13 ⟨hb, n25, A25, l25, k25, rfl, q25⟩
         have Ba := Ba.below hb Ba.lt
         have Bb := Bb.below hb Bb.lt
         have Bc := Bc.below hb Bc.lt
         have Qa := Qa.below hb
         have Qb := Qb.below hb
         have Qc := Qc.below hb
         have q21 := q21.below hb
         have q22 := q22.below hb
         have q23 := q23.below hb
         have q24 := q24.below hb
         have HB := hide (HB.out.trans (hb.mono HB.out.size))
         obtain ⟨ca0, ca1, ca2, -, -, -⟩ := Ba.three
         obtain ⟨cb0, cb1, cb2, -, -, -⟩ := Bb.three
         obtain ⟨cc0, cc1, cc2, -, -, -⟩ := Bc.three
         clear _t tok4
         have tok5 : True := trivial)
      | (go_at_call 27; have _t := tok5; (with_reducible refine (e_eq q22 q25 rfl rfl).mono ?_); rintro e w14 ⟨hb, rfl⟩
         have Ba := Ba.below hb Ba.lt
         have Bb := Bb.below hb Bb.lt
         have Bc := Bc.below hb Bc.lt
         have Qa := Qa.below hb
         have Qb := Qb.below hb
         have Qc := Qc.below hb
         have q21 := q21.below hb
         have q22 := q22.below hb
         have q23 := q23.below hb
         have q24 := q24.below hb
         have q25 := q25.below hb
         have HB := hide (HB.out.trans (hb.mono HB.out.size))
         obtain ⟨ca0, ca1, ca2, -, -, -⟩ := Ba.three
         obtain ⟨cb0, cb1, cb2, -, -, -⟩ := Bb.three
         obtain ⟨cc0, cc1, cc2, -, -, -⟩ := Bc.three
         clear _t tok5
         have tok6 : True := trivial))
  clear q21 q22 q23 q24 q25
  go_upto_region 6 with (fail)
  have Ba := Ba.drew
  have Bb := Bb.drew
  have Bc := Bc.drew
  have Qa := Qa.drew
  have Qb := Qb.drew
  have Qc := Qc.drew
  have HB := hide HB.out.drew
  have tok0 : True := trivial
  go_region_held3 (fun w' => w'.cell? ⟨w.heap.size, 0, none⟩ = some (.bool ma) ∧ w'.cell? ⟨w.heap.size, 1, none⟩ = some (.slice Ca ja ia) ∧ w'.cell? ⟨w.heap.size, 2, none⟩ = some (.int .i64 xa) ∧ w'.cell? ⟨w.heap.size + 1, 0, none⟩ = some (.bool mb) ∧ w'.cell? ⟨w.heap.size + 1, 1, none⟩ = some (.slice Cb jb ib) ∧ w'.cell? ⟨w.heap.size + 1, 2, none⟩ = some (.int .i64 xb) ∧ w'.cell? ⟨w.heap.size + 2, 0, none⟩ = some (.bool mc) ∧ w'.cell? ⟨w.heap.size + 2, 1, none⟩ = some (.slice Cc jc ic) ∧ w'.cell? ⟨w.heap.size + 2, 2, none⟩ = some (.int .i64 xc)) (go_keep)
    (first
      | (go_at_call 52; have _t := tok0; (with_reducible refine (e_sub 4000 Qa Qb (Nat.le_refl _) (by omega) (by omega) hxa5 hxb5 HVa.out HVb.out HZz5.out HXx5.out).mono ?_); rintro e w15 ⟨hb, n31, A31, l31, k31, rfl, q31⟩
         have Ba := Ba.below hb Ba.lt
         have Bb := Bb.below hb Bb.lt
         have Bc := Bc.below hb Bc.lt
         have Qa := Qa.below hb
         have Qb := Qb.below hb
         have Qc := Qc.below hb
         have HB := hide (HB.out.trans (hb.mono HB.out.size))
         obtain ⟨ca0, ca1, ca2, -, -, -⟩ := Ba.three
         obtain ⟨cb0, cb1, cb2, -, -, -⟩ := Bb.three
         obtain ⟨cc0, cc1, cc2, -, -, -⟩ := Bc.three
         clear _t tok0
         have tok1 : True := trivial)
      | (go_at_call 50; have _t := tok1; (with_reducible refine (e_add 4000 q31.q Qb (Nat.le_refl _) (by omega) (by omega) bx5 hxb5 HV5.out HVb.out HS3.out HS4.out).mono ?_); rintro e w16 ⟨hb, n32, A32, l32, k32, rfl, q32⟩
         have Ba := Ba.below hb Ba.lt
         have Bb := Bb.below hb Bb.lt
         have Bc := Bc.below hb Bc.lt
         have Qa := Qa.below hb
         have Qb := Qb.below hb
         have Qc := Qc.below hb
         have q31 := q31.below hb
         have HB := hide (HB.out.trans (hb.mono HB.out.size))
         obtain ⟨ca0, ca1, ca2, -, -, -⟩ := Ba.three
         obtain ⟨cb0, cb1, cb2, -, -, -⟩ := Bb.three
         obtain ⟨cc0, cc1, cc2, -, -, -⟩ := Bc.three
         clear _t tok1
         have tok2 : True := trivial)
      | (go_at_call 32; have _t := tok2; (with_reducible refine (e_norm 4000 Qa (Nat.le_refl _) (by omega) hxa5 HVa.out HZz6.out HXx6.out).mono ?_); rintro e w17 ⟨hb, n33, A33, l33, k33, rfl, q33⟩
         have Ba := Ba.below hb Ba.lt
         have Bb := Bb.below hb Bb.lt
         have Bc := Bc.below hb Bc.lt
         have Qa := Qa.below hb
         have Qb := Qb.below hb
         have Qc := Qc.below hb
         have q31 := q31.below hb
         have q32 := q32.below hb
         have HB := hide (HB.out.trans (hb.mono HB.out.size))
         obtain ⟨ca0, ca1, ca2, -, -, -⟩ := Ba.three
         obtain ⟨cb0, cb1, cb2, -, -, -⟩ := Bb.three
         obtain ⟨cc0, cc1, cc2, -, -, -⟩ := Bc.three
         clear _t tok2
         have tok3 : True := trivial)
      | (go_at_call 27; have _t := tok3; (with_reducible refine (e_eq q32 q33 rfl rfl).mono ?_); rintro e w18 ⟨hb, rfl⟩
         have Ba := Ba.below hb Ba.lt
         have Bb := Bb.below hb Bb.lt
         have Bc := Bc.below hb Bc.lt
         have Qa := Qa.below hb
         have Qb := Qb.below hb
         have Qc := Qc.below hb
         have q31 := q31.below hb
         have q32 := q32.below hb
         have q33 := q33.below hb
         have HB := hide (HB.out.trans (hb.mono HB.out.size))
         obtain ⟨ca0, ca1, ca2, -, -, -⟩ := Ba.three
         obtain ⟨cb0, cb1, cb2, -, -, -⟩ := Bb.three
         obtain ⟨cc0, cc1, cc2, -, -, -⟩ := Bc.three
         clear _t tok3
         have tok4 : True := trivial))
  clear q31 q32 q33
  go_upto_region 7 with (fail)
  go_cut [10] (fun v wx => ∃ g m C j i, v = .pointer (some ⟨g, 0, none⟩) ∧ Blk wx g 26 #[.bool m, .slice C j i, .int .i64 (xa - 3)] ∧ Q wx 5 m C j i z7 ∧ Below w.heap.size w wx ∧ Blk wx (w.heap.size) 26 #[.bool ma, .slice Ca ja ia, .int .i64 xa] ∧ Blk wx (w.heap.size + 1) 26 #[.bool mb, .slice Cb jb ib, .int .i64 xb] ∧ Q wx 4 ma Ca ja ia za ∧ Q wx 4 mb Cb jb ib zb)
  case first =>
    have HPa := z_shl Qa.drew (by omega) 3 (by omega)
    have Qz : Q (w18.alloc (.cells #[.bool false, .slice none 0 0, .int .i64 0] 26)).drew 4 ma Ca ja ia za := Q.drew (Qa.below ((Below.refl _ _).alloc (Nat.le_refl _) _))
    have Qy : Q (w18.alloc (.cells #[.bool false, .slice none 0 0, .int .i64 0] 26)).drew 4 mb Cb jb ib zb := Q.drew (Qb.below ((Below.refl _ _).alloc (Nat.le_refl _) _))
    have Bz : Blk (w18.alloc (.cells #[.bool false, .slice none 0 0, .int .i64 0] 26)).drew w18.heap.size 26 #[.bool false, .slice none 0 0, .int .i64 0] := Blk.new _ _ _
    have Bza := (Ba.alloc (.cells #[.bool false, .slice none 0 0, .int .i64 0] 26)).drew
    have Bzb := (Bb.alloc (.cells #[.bool false, .slice none 0 0, .int .i64 0] 26)).drew
    have HBz := hide ((HB.out.alloc HB.out.size (.cells #[.bool false, .slice none 0 0, .int .i64 0] 26)).drew)
    have HPb := z_shl Qz (by omega) 3 (by omega)
    rw [HZ7.out, show (((3 : Nat) : Int)) = 3 from rfl] at HPa HPb
    have HPa := hide HPa
    have HPb := hide HPb
    have hne1 : ¬ w18.heap.size = w.heap.size := by have := Ba.lt; omega
    have hne2 : ¬ w.heap.size = w18.heap.size := by omega
    have hz7 : Hid (z7.natAbs < W ^ 5) := hide (by have := z_shl_lt (c := 3) (t := 1) Qa.lt (by omega); rwa [HZ7.out] at this)
    go_region_held3 (fun w' => w'.cell? ⟨w.heap.size, 0, none⟩ = some (.bool ma) ∧ w'.cell? ⟨w.heap.size, 1, none⟩ = some (.slice Ca ja ia) ∧ w'.cell? ⟨w.heap.size, 2, none⟩ = some (.int .i64 xa)) (go_keep)
      (first
        | (go_at_call 61; (with_reducible refine HPa.out.mono ?_); rintro e w0 ⟨hb, u7, d7, rfl, hu7, hd7⟩
           obtain ⟨A7, k7, rfl⟩ := hu7.form
           have hAA : True := trivial
           have Xa := Ba.drew.below hb Ba.lt
           have Xb := Bb.drew.below hb Bb.lt
           have Ya := Qa.drew.below hb
           have Yb := Qb.drew.below hb
           have HX := hide (HB.out.drew.trans (hb.mono HB.out.size))
           obtain ⟨i0, i1, i2, -, -, -⟩ := Xa.three)
        | (go_at_call 61; (with_reducible refine HPb.out.mono ?_); rintro e w0 ⟨hb, u7, d7, rfl, hu7, hd7⟩
           obtain ⟨A7, k7, rfl⟩ := hu7.form
           have Xa := Bza.below hb Bza.lt
           have Xb := Bzb.below hb Bzb.lt
           have Ya := Qz.below hb
           have Yb := Qy.below hb
           have Xz := Bz.below hb Bz.lt
           have HX := hide (HBz.out.trans (hb.mono HBz.out.size))
           obtain ⟨i0, i1, i2, -, -, -⟩ := Xa.three
           obtain ⟨j0, j1, j2, j3, j4, j5⟩ := Xz.three))
    all_goals go_wp2_with fail
    all_goals go_meet
    all_goals have s0 := hb.size
    · have HF : Below w18.heap.size w18 _ := ((Below.refl _ _).drew.trans hb).alloc (by simpa using s0) (.cells #[.bool (decide (z7 < 0)), .slice A7 d7.length k7, .int .i64 (xa - 3)] 26)
      have hq7 := (hu7.mono (Nat.zero_le _)).alloc (.cells #[.bool (decide (z7 < 0)), .slice A7 d7.length k7, .int .i64 (xa - 3)] 26)
      exact ⟨_, _, A7, d7.length, k7, rfl, Blk.new _ _ _, ⟨d7, hq7, by rw [hd7.len]; exact hz7.out, by rw [hd7.val, ival_self]⟩, HB.out.trans (HF.mono HB.out.size), Ba.below HF Ba.lt, Bb.below HF Bb.lt, Qa.below HF, Qb.below HF⟩
    · have HF : Below w18.heap.size w18 _ := below3 (((Below.refl _ _).alloc (Nat.le_refl _) _).drew.trans (hb.mono (by simp))) (Nat.le_refl _) (.bool (decide (z7 < 0))) (.slice A7 d7.length k7) (.int .i64 (xa - 3))
      have hq7 := (nums_low3 (r := w18.heap.size) hu7 (by simp) (.bool (decide (z7 < 0))) (.slice A7 d7.length k7) (.int .i64 (xa - 3))).mono (Nat.zero_le _)
      exact ⟨_, _, A7, d7.length, k7, rfl, by simpa using ((Xz.set_ 0 (.bool (decide (z7 < 0)))).set_ 1 (.slice A7 d7.length k7)).set_ 2 (.int .i64 (xa - 3)), ⟨d7, hq7, by rw [hd7.len]; exact hz7.out, by rw [hd7.val, ival_self]⟩, HB.out.trans (HF.mono HB.out.size), Ba.below HF Ba.lt, Bb.below HF Bb.lt, Qa.below HF, Qb.below HF⟩
  case rest =>
    obtain ⟨g, mt, Ct, jt, it, rfl, Bt, Qt, hB, Ba, Bb, Qa, Qb⟩ := hcut
    have HB := hide hB
    clear hB
    have hxt5 : -100000 ≤ xa - 3 ∧ xa - 3 ≤ 100000 := by omega
    obtain ⟨ca0, ca1, ca2, -, -, -⟩ := Ba.three
    obtain ⟨cb0, cb1, cb2, -, -, -⟩ := Bb.three
    obtain ⟨ct0, ct1, ct2, -, -, -⟩ := Bt.three
    go_upto_region 8 with (fail)
    have Ba := Ba.drew
    have Bb := Bb.drew
    have Bt := Bt.drew
    have Qa := Qa.drew
    have Qb := Qb.drew
    have Qt := Qt.drew
    have HB := hide HB.out.drew
    have tok0 : True := trivial
    go_region_held3 (fun w' => w'.cell? ⟨w.heap.size, 0, none⟩ = some (.bool ma) ∧ w'.cell? ⟨w.heap.size, 1, none⟩ = some (.slice Ca ja ia) ∧ w'.cell? ⟨w.heap.size, 2, none⟩ = some (.int .i64 xa) ∧ w'.cell? ⟨w.heap.size + 1, 0, none⟩ = some (.bool mb) ∧ w'.cell? ⟨w.heap.size + 1, 1, none⟩ = some (.slice Cb jb ib) ∧ w'.cell? ⟨w.heap.size + 1, 2, none⟩ = some (.int .i64 xb) ∧ w'.cell? ⟨g, 0, none⟩ = some (.bool mt) ∧ w'.cell? ⟨g, 1, none⟩ = some (.slice Ct jt it) ∧ w'.cell? ⟨g, 2, none⟩ = some (.int .i64 (xa - 3))) (go_keep)
      (first
        | (go_at_call 50; have _t := tok0; (with_reducible refine (e_add 4000 Qt Qb (Nat.le_refl _) (by omega) (by omega) hxt5 hxb5 HV7.out HVb.out HZz1.out HXx1.out).mono ?_); rintro e w41 ⟨hb, n41, A41, l41, k41, rfl, q41⟩
           have Ba := Ba.below hb Ba.lt
           have Bb := Bb.below hb Bb.lt
           have Bt := Bt.below hb Bt.lt
           have Qa := Qa.below hb
           have Qb := Qb.below hb
           have Qt := Qt.below hb
           have HB := hide (HB.out.trans (hb.mono HB.out.size))
           obtain ⟨ca0, ca1, ca2, -, -, -⟩ := Ba.three
           obtain ⟨cb0, cb1, cb2, -, -, -⟩ := Bb.three
           obtain ⟨ct0, ct1, ct2, -, -, -⟩ := Bt.three
           clear _t tok0
           have tok1 : True := trivial)
        | (go_at_call 50; have _t := tok1; (with_reducible refine (e_add 4000 Qa Qb (Nat.le_refl _) (by omega) (by omega) hxa5 hxb5 HVa.out HVb.out HZz1.out HXx1.out).mono ?_); rintro e w42 ⟨hb, n42, A42, l42, k42, rfl, q42⟩
           have Ba := Ba.below hb Ba.lt
           have Bb := Bb.below hb Bb.lt
           have Bt := Bt.below hb Bt.lt
           have Qa := Qa.below hb
           have Qb := Qb.below hb
           have Qt := Qt.below hb
           have q41 := q41.below hb
           have HB := hide (HB.out.trans (hb.mono HB.out.size))
           obtain ⟨ca0, ca1, ca2, -, -, -⟩ := Ba.three
           obtain ⟨cb0, cb1, cb2, -, -, -⟩ := Bb.three
           obtain ⟨ct0, ct1, ct2, -, -, -⟩ := Bt.three
           clear _t tok1
           have tok2 : True := trivial)
        | (go_at_call 27; have _t := tok2; (with_reducible refine (e_eq q41 q42 rfl rfl).mono ?_); rintro e w43 ⟨hb, rfl⟩
           have Ba := Ba.below hb Ba.lt
           have Bb := Bb.below hb Bb.lt
           have Bt := Bt.below hb Bt.lt
           have Qa := Qa.below hb
           have Qb := Qb.below hb
           have Qt := Qt.below hb
           have q41 := q41.below hb
           have q42 := q42.below hb
           have HB := hide (HB.out.trans (hb.mono HB.out.size))
           obtain ⟨ca0, ca1, ca2, -, -, -⟩ := Ba.three
           obtain ⟨cb0, cb1, cb2, -, -, -⟩ := Bb.three
           obtain ⟨ct0, ct1, ct2, -, -, -⟩ := Bt.three
           clear _t tok2
           have tok3 : True := trivial))
    clear q41 q42
    have HCZ : Hid (cmpZ Va Va = 0) := hide (cmpZ_self _)
    go_upto_region 9 with (fail)
    have Ba := Ba.drew
    have Bb := Bb.drew
    have Bt := Bt.drew
    have Qa := Qa.drew
    have Qb := Qb.drew
    have Qt := Qt.drew
    have HB := hide HB.out.drew
    have tok0 : True := trivial
    go_region_held3 (fun w' => w'.cell? ⟨w.heap.size, 0, none⟩ = some (.bool ma) ∧ w'.cell? ⟨w.heap.size, 1, none⟩ = some (.slice Ca ja ia) ∧ w'.cell? ⟨w.heap.size, 2, none⟩ = some (.int .i64 xa) ∧ w'.cell? ⟨w.heap.size + 1, 0, none⟩ = some (.bool mb) ∧ w'.cell? ⟨w.heap.size + 1, 1, none⟩ = some (.slice Cb jb ib) ∧ w'.cell? ⟨w.heap.size + 1, 2, none⟩ = some (.int .i64 xb) ∧ w'.cell? ⟨g, 0, none⟩ = some (.bool mt) ∧ w'.cell? ⟨g, 1, none⟩ = some (.slice Ct jt it) ∧ w'.cell? ⟨g, 2, none⟩ = some (.int .i64 (xa - 3))) (go_keep)
      (first
        | (go_at_call 40; have _t := tok0; (with_reducible refine (e_cmp 4000 Qa Qb (Nat.le_refl _) (by omega) (by omega) hxa5 hxb5 HVa.out HVb.out HC9.out).mono ?_); rintro e w44 ⟨hb, rfl⟩
           have Ba := Ba.below hb Ba.lt
           have Bb := Bb.below hb Bb.lt
           have Bt := Bt.below hb Bt.lt
           have Qa := Qa.below hb
           have Qb := Qb.below hb
           have Qt := Qt.below hb
           have HB := hide (HB.out.trans (hb.mono HB.out.size))
           obtain ⟨ca0, ca1, ca2, -, -, -⟩ := Ba.three
           obtain ⟨cb0, cb1, cb2, -, -, -⟩ := Bb.three
           obtain ⟨ct0, ct1, ct2, -, -, -⟩ := Bt.three
           clear _t tok0
           have tok1 : True := trivial)
        | (go_at_call 52; have _t := tok1; (with_reducible refine (e_sub 4000 Qa Qb (Nat.le_refl _) (by omega) (by omega) hxa5 hxb5 HVa.out HVb.out HZz5.out HXx5.out).mono ?_); rintro e w45 ⟨hb, n51, A51, l51, k51, rfl, q51⟩
           have Ba := Ba.below hb Ba.lt
           have Bb := Bb.below hb Bb.lt
           have Bt := Bt.below hb Bt.lt
           have Qa := Qa.below hb
           have Qb := Qb.below hb
           have Qt := Qt.below hb
           have HB := hide (HB.out.trans (hb.mono HB.out.size))
           obtain ⟨ca0, ca1, ca2, -, -, -⟩ := Ba.three
           obtain ⟨cb0, cb1, cb2, -, -, -⟩ := Bb.three
           obtain ⟨ct0, ct1, ct2, -, -, -⟩ := Bt.three
           clear _t tok1
           have tok2 : True := trivial)
        | (go_at_call 38; have _t := tok2; (with_reducible refine (e_sign 4000 q51.q (by omega) bx5 HV5.out HC9s.out).mono ?_); rintro e w46 ⟨hb, rfl⟩
           have Ba := Ba.below hb Ba.lt
           have Bb := Bb.below hb Bb.lt
           have Bt := Bt.below hb Bt.lt
           have Qa := Qa.below hb
           have Qb := Qb.below hb
           have Qt := Qt.below hb
           have q51 := q51.below hb
           have HB := hide (HB.out.trans (hb.mono HB.out.size))
           obtain ⟨ca0, ca1, ca2, -, -, -⟩ := Ba.three
           obtain ⟨cb0, cb1, cb2, -, -, -⟩ := Bb.three
           obtain ⟨ct0, ct1, ct2, -, -, -⟩ := Bt.three
           clear _t tok2
           have tok3 : True := trivial)
        | (go_at_call 40; have _t := tok3; (with_reducible refine (e_cmp 4000 Qt Qa (Nat.le_refl _) (by omega) (by omega) hxt5 hxa5 HV7.out HVa.out HCZ.out).mono ?_); rintro e w47 ⟨hb, rfl⟩
           have Ba := Ba.below hb Ba.lt
           have Bb := Bb.below hb Bb.lt
           have Bt := Bt.below hb Bt.lt
           have Qa := Qa.below hb
           have Qb := Qb.below hb
           have Qt := Qt.below hb
           have q51 := q51.below hb
           have HB := hide (HB.out.trans (hb.mono HB.out.size))
           obtain ⟨ca0, ca1, ca2, -, -, -⟩ := Ba.three
           obtain ⟨cb0, cb1, cb2, -, -, -⟩ := Bb.three
           obtain ⟨ct0, ct1, ct2, -, -, -⟩ := Bt.three
           clear _t tok3
           have tok4 : True := trivial))
    go_wp2_with fail
    go_ret
    exact ⟨rfl, HB.out⟩

theorem walk (w : World) (n0 : Bool) (A0 : Option Addr) (l0 c0 : Nat) (x0 : Int) (s0 : ∃ L, Nums w 0 (.slice A0 l0 c0) L) (w0 : (Lit.int .i64 x0).wf = true) (n1 : Bool) (A1 : Option Addr) (l1 c1 : Nat) (x1 : Int) (s1 : ∃ L, Nums w 0 (.slice A1 l1 c1) L) (w1 : (Lit.int .i64 x1).wf = true) (n2 : Bool) (A2 : Option Addr) (l2 c2 : Nat) (x2 : Int) (s2 : ∃ L, Nums w 0 (.slice A2 l2 c2) L) (w2 : (Lit.int .i64 x2).wf = true) :
    Calls Try.prog 12 #[.agg #[.bool n0, .slice A0 l0 c0, .int .i64 x0], .agg #[.bool n1, .slice A1 l1 c1, .int .i64 x1], .agg #[.bool n2, .slice A2 l2 c2, .int .i64 x2]] w fun e w' => e = .returned (.bool true) ∧ Below w.heap.size w w' := by
  obtain ⟨L0, h0⟩ := s0
  obtain ⟨L1, h1⟩ := s1
  obtain ⟨L2, h2⟩ := s2
  exact walkN n0 n1 n2 A0 A1 A2 l0 l1 l2 c0 c1 c2 x0 x1 x2 L0 L1 L2 w h0 h1 h2

/-! ### the row -/
set_option maxRecDepth 100000 in
theorem lifted (os : Os) (started : os.Started) (H : Type) (enc : TypeId × Value → H) :
    ReturnsInHanded {} Try.checked os 12 .any (Rows.dyadRingSpec.pre6 enc Try.prog Try.f12 Rows.dyadRingRow.domain false) (Rows.dyadRingSpec.post enc Try.prog Try.f12 false true false false) := by
  refine returnsInHanded_of_change (C := Try.checked) own started (by kernel_rfl) Try.func12
    (ChangeSpec.witness6 (enc := enc) (C := Try.checked) false ⟨#[], #[.agg #[.bool false, .slice none 0 0, .int .i64 0], .agg #[.bool false, .slice none 0 0, .int .i64 0], .agg #[.bool false, .slice none 0 0, .int .i64 0]], []⟩ 8 (by kernel_rfl) (by kernel_rfl) (by kernel_rfl) (by kernel_rfl)) ?_
  intro W base args ds gs before hval0 hW hcnd _
  have hval : ∀ (j : Nat) t v, Try.f12.params[j]? = some t → args[j]? = some v → Value.okWide Try.prog W .any base t v := hval0
  have hW' := hW
  obtain ⟨p, q, hA0, hV, rfl, hfz, hnd⟩ := hW
  have hA : DataW.TrodAll enc Try.prog W 0 (fun _ => true) true Try.f12.params.toList args.toList ds p := hA0
  rw [Try.params12] at hA hval
  obtain ⟨v0, vs0, d0, ds0, p0, q0, hargs, rfl, rfl, h0, r0⟩ := trodAll_cons hA
  obtain ⟨v1, vs1, d1, ds1, p1, q1, rfl, rfl, rfl, h1, r1⟩ := trodAll_cons r0
  obtain ⟨v2, vs2, d2, ds2, p2, q2, rfl, rfl, rfl, h2, r2⟩ := trodAll_cons r1
  obtain ⟨rfl, rfl, rfl⟩ := trodAll_nil r2
  obtain rfl : args = #[v0, v1, v2] := by cases args; simp_all
  obtain ⟨rfl, rfl⟩ := trodVars_none hV
  have k0 := h0
  have lt0 : ∀ x ∈ p0, x.block < W.heap.size := by obtain ⟨m, hm⟩ := k0; exact DataW.trod_lt m _ _ _ hm
  obtain ⟨n0, A0, l0, c0, x0, rfl, s0, w0⟩ := open_dyad (hval 0 26 v0 rfl rfl) h0
  have k1 := h1
  have lt1 : ∀ x ∈ p1, x.block < W.heap.size := by obtain ⟨m, hm⟩ := k1; exact DataW.trod_lt m _ _ _ hm
  obtain ⟨n1, A1, l1, c1, x1, rfl, s1, w1⟩ := open_dyad (hval 1 26 v1 rfl rfl) h1
  have k2 := h2
  have lt2 : ∀ x ∈ p2, x.block < W.heap.size := by obtain ⟨m, hm⟩ := k2; exact DataW.trod_lt m _ _ _ hm
  obtain ⟨n2, A2, l2, c2, x2, rfl, s2, w2⟩ := open_dyad (hval 2 26 v2 rfl rfl) h2
  clear hA0 hval0
  refine (walk W n0 A0 l0 c0 x0 s0 w0 n1 A1 l1 c1 x1 s1 w1 n2 A2 l2 c2 x2 s2 w2).mono fun e W' ⟨he, bel⟩ => ?_
  subst he
  exact ⟨_, rfl, _, _, _, [], _, [], hW', trodAll_mk1 (shut_bool Try.underlying4 _), (trodAll_cons_mk (Below.trod laidOut (by kernel_rfl) (of_decide_eq_true (by kernel_rfl)) k0 bel lt0) (trodAll_cons_mk (Below.trod laidOut (by kernel_rfl) (of_decide_eq_true (by kernel_rfl)) k1 bel lt1) (trodAll_cons_mk (Below.trod laidOut (by kernel_rfl) (of_decide_eq_true (by kernel_rfl)) k2 bel lt2) trodAll_mk0))), rfl, bel.frame _, fun h => by cases h⟩

theorem over : Rows.dyadRingRow.holds Try.pinned (OpenSpec.ofChange Rows.dyadRingSpec) :=
  OpenClaim.holds_of_wide 12 Try.f12 rfl rfl rfl rfl rfl rfl rfl ⟨rfl, rfl, rfl, rfl, rfl⟩ rfl rfl rfl rfl rfl (by kernel_rfl) Try.func12 (by kernel_rfl)
    (of_decide_eq_true (by kernel_rfl)) (by unfold Func.isWrapper; first | (rw [if_pos (by decide +kernel)]; kernel_rfl) | (rw [if_neg (by decide +kernel)]; exact ⟨rfl, rfl⟩))
    (fun os started H enc _ => lifted os started H enc)

theorem proved : Rows.DyadRingSaid := over
#print axioms proved
end Go.Proofs.Ytnkembnachhicaa.dyadRing
