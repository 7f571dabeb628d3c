/-
  hairlinelaw03.DyadSums returns true for any two dyads and any number of places. Conditions: none.
-/
import Derived.Test.YtnkembnachhicaaRows
import Derived.Test.YtnkembnachhicaaRefQ
import Derived.Test.YtnkembnachhicaaLaws
import Derived.Test.YtnkembnachhicaaLasts
namespace Go.Proofs.Ytnkembnachhicaa.dyadSums
open Go.ChangeShapes Go.WideShapes Go.ChangeAt Go.RowKit
open L (val)
set_option linter.unusedVariables false
set_option linter.unusedSimpArgs false

theorem own : ownKnob Try.prog.godebug = none := by kernel_rfl
theorem laidOut : laidOutB Try.prog = true := by kernel_rfl

set_option maxHeartbeats 8000000 in
set_option maxRecDepth 100000 in
theorem walkN (na nb : Bool) (Aa Ab : Option Addr) (la lb ka kb : Nat) (xa xb q : Int) (hx0 : -9223372036854775808 ≤ xa) (hx1 : xa ≤ 9223372036854775807) (hy0 : -9223372036854775808 ≤ xb) (hy1 : xb ≤ 9223372036854775807) (La Lb : List Nat) (w : World) (ha : Nums w 0 (.slice Aa la ka) La) (hb0 : Nums w 0 (.slice Ab lb kb) Lb) :
    Calls Try.prog 9 #[.agg #[.bool na, .slice Aa la ka, .int .i64 xa], .agg #[.bool nb, .slice Ab lb kb, .int .i64 xb], .int .i64 q] w fun e w' => e = .returned (.bool true) ∧ Below w.heap.size w w' := by
  obtain ⟨w1, hW, Ba, Bb, hB1, hs⟩ := start2 w 26 26 #[.bool na, .slice Aa la ka, .int .i64 xa] #[.bool nb, .slice Ab lb kb, .int .i64 xb]
  have HB := hide hB1
  clear hB1
  have hs0 : w.heap.size + 1 < w1.heap.size := by omega
  clear hs
  obtain ⟨ca0, ca1, ca2, -, -, -⟩ := Ba.three
  obtain ⟨cb0, cb1, cb2, -, -, -⟩ := Bb.three
  obtain ⟨za, HZa⟩ : ∃ z, Hid (ival na (val W (La.take 12)) = z) := ⟨_, hide rfl⟩
  obtain ⟨zb, HZb⟩ : ∃ z, Hid (ival nb (val W (Lb.take 12)) = z) := ⟨_, hide rfl⟩
  obtain ⟨z1, HZz1⟩ : ∃ z, Hid (pM (av 4000 za xa + av 4000 zb xb) = z) := ⟨_, hide rfl⟩
  obtain ⟨x1, HXx1⟩ : ∃ z, Hid (pE (av 4000 za xa + av 4000 zb xb) (-((4000 : Nat) : Int)) = z) := ⟨_, hide rfl⟩
  obtain ⟨z2, HZz2⟩ : ∃ z, Hid (pM (av 4000 za xa - av 4000 zb xb) = z) := ⟨_, hide rfl⟩
  obtain ⟨x2, HXx2⟩ : ∃ z, Hid (pE (av 4000 za xa - av 4000 zb xb) (-((4000 : Nat) : Int)) = z) := ⟨_, hide rfl⟩
  obtain ⟨z3, HZz3⟩ : ∃ z, Hid (pM (av 4000 za xa * av 4000 zb xb) = z) := ⟨_, hide rfl⟩
  obtain ⟨x3, HXx3⟩ : ∃ z, Hid (pE (av 4000 za xa * av 4000 zb xb) (-((4000 + 4000 : Nat) : Int)) = z) := ⟨_, hide rfl⟩
  obtain ⟨z4, HZz4⟩ : ∃ z, Hid (pM (-av 4000 za xa) = z) := ⟨_, hide rfl⟩
  obtain ⟨x4, HXx4⟩ : ∃ z, Hid (pE (-av 4000 za xa) (-((4000 : Nat) : Int)) = z) := ⟨_, hide rfl⟩
  obtain ⟨z5, HZz5⟩ : ∃ z, Hid (pM (av 4000 za xa) = z) := ⟨_, hide rfl⟩
  obtain ⟨x5, HXx5⟩ : ∃ z, Hid (pE (av 4000 za xa) (nearZ q - ((4000 : Nat) : Int)) = z) := ⟨_, hide rfl⟩
  go_enter Try.func9, Try.ntmps9
  go_upto_region 1 with (fail)
  rw [← hW]
  clear hW
  have HP := shown3_calls w1
  go_wp2_with fail
  refine HP.mono ?_
  rintro e w2 ⟨hb, rfl⟩
  clear HP
  clear ca0 ca1 ca2 cb0 cb1 cb2
  have Ba := Ba.below hb Ba.lt
  have Bb := Bb.below hb Bb.lt
  have HB := hide (HB.out.trans (hb.mono HB.out.size))
  obtain ⟨ca0, ca1, ca2, -, -, -⟩ := Ba.three
  obtain ⟨cb0, cb1, cb2, -, -, -⟩ := Bb.three
  have HP := cut3_calls w2 na Aa la ka xa 12 La (ha.up HB.out) (by omega)
  rw [HZa.out] at HP
  go_wp2_with fail
  refine HP.mono ?_
  have hsza := HB.out.size
  have hbasea : w.heap.size + 1 < w2.heap.size := Bb.lt
  rintro e w3 ⟨hb, ma, Ca, ja, ia, da, rfl, hna, hda, hva⟩
  clear HP
  clear ca0 ca1 ca2 cb0 cb1 cb2
  have Ba := Ba.below hb Ba.lt
  have Bb := Bb.below hb Bb.lt
  have HB := hide (HB.out.trans (hb.mono HB.out.size))
  obtain ⟨ca0, ca1, ca2, fa0, fa1, fa2⟩ := Ba.three
  obtain ⟨w4, hW, Ba, hk1, hk2, hs, hk3⟩ := set3_all Ba (.bool ma) (.slice Ca ja ia) (.int .i64 xa)
  have Bb := hk1 _ _ _ (by omega) Bb
  have hna := hk2 _ _ _ (by omega) hna
  have HB := hide (hk3 _ _ HB.out (by omega))
  clear hk1 hk2 hk3 hs
  go_upto_region 3 with (fail)
  rw [← hW]
  clear hW ca0 ca1 ca2 fa0 fa1 fa2
  obtain ⟨ca0, ca1, ca2, -, -, -⟩ := Ba.three
  obtain ⟨cb0, cb1, cb2, -, -, -⟩ := Bb.three
  have HP := cut3_calls w4 nb Ab lb kb xb 12 Lb (hb0.up HB.out) (by omega)
  rw [HZb.out] at HP
  go_wp2_with fail
  refine HP.mono ?_
  have hszb := HB.out.size
  have hbaseb : w.heap.size + 1 < w4.heap.size := Bb.lt
  rintro e w5 ⟨hb, mb, Cb, jb, ib, db, rfl, hnb, hdb, hvb⟩
  clear HP
  clear ca0 ca1 ca2 cb0 cb1 cb2
  have Ba := Ba.below hb Ba.lt
  have Bb := Bb.below hb Bb.lt
  have HB := hide (HB.out.trans (hb.mono HB.out.size))
  have hna := hna.below hb
  obtain ⟨cb0, cb1, cb2, fb0, fb1, fb2⟩ := Bb.three
  obtain ⟨w6, hW, Bb, hk1, hk2, hs, hk3⟩ := set3_all Bb (.bool mb) (.slice Cb jb ib) (.int .i64 xb)
  have Ba := hk1 _ _ _ (by omega) Ba
  have hna := hk2 _ _ _ (by omega) hna
  have hnb := hk2 _ _ _ (by omega) hnb
  have HB := hide (hk3 _ _ HB.out (by omega))
  clear hk1 hk2 hk3 hs
  go_upto_region 4 with (fail)
  rw [← hW]
  clear hW cb0 cb1 cb2 fb0 fb1 fb2
  obtain ⟨ca0, ca1, ca2, -, -, -⟩ := Ba.three
  obtain ⟨cb0, cb1, cb2, -, -, -⟩ := Bb.three
  have Qa : Q w6 12 ma Ca ja ia za := ⟨da, hna.mono (Nat.zero_le _), hda, hva⟩
  have Qb : Q w6 12 mb Cb jb ib zb := ⟨db, hnb.mono (Nat.zero_le _), hdb, hvb⟩
  have Ba := Ba.drew
  have Bb := Bb.drew
  have Qa := Qa.drew
  have Qb := Qb.drew
  have HB := hide HB.out.drew
  have tok0 : True := trivial
  go_region_held3 (fun w' => w'.cell? ⟨w.heap.size, 0, none⟩ = some (.bool ma) ∧ w'.cell? ⟨w.heap.size, 1, none⟩ = some (.slice Ca ja ia) ∧ w'.cell? ⟨w.heap.size, 2, none⟩ = some (.int .i64 xa) ∧ w'.cell? ⟨w.heap.size + 1, 0, none⟩ = some (.bool mb) ∧ w'.cell? ⟨w.heap.size + 1, 1, none⟩ = some (.slice Cb jb ib) ∧ w'.cell? ⟨w.heap.size + 1, 2, none⟩ = some (.int .i64 xb)) (go_keep)
    (first
      | (go_at_call 50; have _t := tok0; (with_reducible refine (p_add 4000 Qa Qb (Nat.le_refl _) (by omega) (by omega) hx0 hx1 hy0 hy1 HZz1.out HXx1.out).mono ?_); rintro e w7 ⟨hb, n11, A11, l11, k11, rfl, q11⟩
         have Ba := Ba.below hb Ba.lt
         have Bb := Bb.below hb Bb.lt
         have Qa := Qa.below hb
         have Qb := Qb.below hb
         have HB := hide (HB.out.trans (hb.mono HB.out.size))
         obtain ⟨ca0, ca1, ca2, -, -, -⟩ := Ba.three
         obtain ⟨cb0, cb1, cb2, -, -, -⟩ := Bb.three
         clear _t tok0
         have tok1 : True := trivial)
      | (go_at_call 51; have _t := tok1; (with_reducible refine (r_add 4000 Qa Qb (Nat.le_refl _) (by omega) (by omega) hx0 hx1 hy0 hy1 HZz1.out HXx1.out q11.q.lt).mono ?_); rintro e w8 ⟨hb, n12, A12, l12, k12, rfl, q12⟩
         have Ba := Ba.below hb Ba.lt
         have Bb := Bb.below hb Bb.lt
         have Qa := Qa.below hb
         have Qb := Qb.below hb
         have q11 := q11.below hb
         have HB := hide (HB.out.trans (hb.mono HB.out.size))
         obtain ⟨ca0, ca1, ca2, -, -, -⟩ := Ba.three
         obtain ⟨cb0, cb1, cb2, -, -, -⟩ := Bb.three
         clear _t tok1
         have tok2 : True := trivial)
      | (go_at_call 27; have _t := tok2; (with_reducible refine (e_eq q11 q12 rfl rfl).mono ?_); rintro e w9 ⟨hb, rfl⟩
         have Ba := Ba.below hb Ba.lt
         have Bb := Bb.below hb Bb.lt
         have Qa := Qa.below hb
         have Qb := Qb.below hb
         have q11 := q11.below hb
         have q12 := q12.below hb
         have HB := hide (HB.out.trans (hb.mono HB.out.size))
         obtain ⟨ca0, ca1, ca2, -, -, -⟩ := Ba.three
         obtain ⟨cb0, cb1, cb2, -, -, -⟩ := Bb.three
         clear _t tok2
         have tok3 : True := trivial))
  clear q11 q12
  go_upto_region 5 with (fail)
  have Ba := Ba.drew
  have Bb := Bb.drew
  have Qa := Qa.drew
  have Qb := Qb.drew
  have HB := hide HB.out.drew
  have tok0 : True := trivial
  go_region_held3 (fun w' => w'.cell? ⟨w.heap.size, 0, none⟩ = some (.bool ma) ∧ w'.cell? ⟨w.heap.size, 1, none⟩ = some (.slice Ca ja ia) ∧ w'.cell? ⟨w.heap.size, 2, none⟩ = some (.int .i64 xa) ∧ w'.cell? ⟨w.heap.size + 1, 0, none⟩ = some (.bool mb) ∧ w'.cell? ⟨w.heap.size + 1, 1, none⟩ = some (.slice Cb jb ib) ∧ w'.cell? ⟨w.heap.size + 1, 2, none⟩ = some (.int .i64 xb)) (go_keep)
    (first
      | (go_at_call 52; have _t := tok0; (with_reducible refine (p_sub 4000 Qa Qb (Nat.le_refl _) (by omega) (by omega) hx0 hx1 hy0 hy1 HZz2.out HXx2.out).mono ?_); rintro e w10 ⟨hb, n21, A21, l21, k21, rfl, q21⟩
         have Ba := Ba.below hb Ba.lt
         have Bb := Bb.below hb Bb.lt
         have Qa := Qa.below hb
         have Qb := Qb.below hb
         have HB := hide (HB.out.trans (hb.mono HB.out.size))
         obtain ⟨ca0, ca1, ca2, -, -, -⟩ := Ba.three
         obtain ⟨cb0, cb1, cb2, -, -, -⟩ := Bb.three
         clear _t tok0
         have tok1 : True := trivial)
      | (go_at_call 53; have _t := tok1; (with_reducible refine (r_sub 4000 Qa Qb (Nat.le_refl _) (by omega) (by omega) hx0 hx1 hy0 hy1 HZz2.out HXx2.out q21.q.lt).mono ?_); rintro e w11 ⟨hb, n22, A22, l22, k22, rfl, q22⟩
         have Ba := Ba.below hb Ba.lt
         have Bb := Bb.below hb Bb.lt
         have Qa := Qa.below hb
         have Qb := Qb.below hb
         have q21 := q21.below hb
         have HB := hide (HB.out.trans (hb.mono HB.out.size))
         obtain ⟨ca0, ca1, ca2, -, -, -⟩ := Ba.three
         obtain ⟨cb0, cb1, cb2, -, -, -⟩ := Bb.three
         clear _t tok1
         have tok2 : True := trivial)
      | (go_at_call 27; have _t := tok2; (with_reducible refine (e_eq q21 q22 rfl rfl).mono ?_); rintro e w12 ⟨hb, rfl⟩
         have Ba := Ba.below hb Ba.lt
         have Bb := Bb.below hb Bb.lt
         have Qa := Qa.below hb
         have Qb := Qb.below hb
         have q21 := q21.below hb
         have q22 := q22.below hb
         have HB := hide (HB.out.trans (hb.mono HB.out.size))
         obtain ⟨ca0, ca1, ca2, -, -, -⟩ := Ba.three
         obtain ⟨cb0, cb1, cb2, -, -, -⟩ := Bb.three
         clear _t tok2
         have tok3 : True := trivial))
  clear q21 q22
  go_upto_region 6 with (fail)
  have Ba := Ba.drew
  have Bb := Bb.drew
  have Qa := Qa.drew
  have Qb := Qb.drew
  have HB := hide HB.out.drew
  have tok0 : True := trivial
  go_region_held3 (fun w' => w'.cell? ⟨w.heap.size, 0, none⟩ = some (.bool ma) ∧ w'.cell? ⟨w.heap.size, 1, none⟩ = some (.slice Ca ja ia) ∧ w'.cell? ⟨w.heap.size, 2, none⟩ = some (.int .i64 xa) ∧ w'.cell? ⟨w.heap.size + 1, 0, none⟩ = some (.bool mb) ∧ w'.cell? ⟨w.heap.size + 1, 1, none⟩ = some (.slice Cb jb ib) ∧ w'.cell? ⟨w.heap.size + 1, 2, none⟩ = some (.int .i64 xb)) (go_keep)
    (first
      | (go_at_call 54; have _t := tok0; (with_reducible refine (p_mul 4000 Qa Qb (Nat.le_refl _) (by omega) (by omega) hx0 hx1 hy0 hy1 HZz3.out HXx3.out).mono ?_); rintro e w13 ⟨hb, n31, A31, l31, k31, rfl, q31⟩
         have Ba := Ba.below hb Ba.lt
         have Bb := Bb.below hb Bb.lt
         have Qa := Qa.below hb
         have Qb := Qb.below hb
         have HB := hide (HB.out.trans (hb.mono HB.out.size))
         obtain ⟨ca0, ca1, ca2, -, -, -⟩ := Ba.three
         obtain ⟨cb0, cb1, cb2, -, -, -⟩ := Bb.three
         clear _t tok0
         have tok1 : True := trivial)
      | (go_at_call 55; have _t := tok1; (with_reducible refine (r_mul 4000 Qa Qb (Nat.le_refl _) (by omega) (by omega) hx0 hx1 hy0 hy1 HZz3.out HXx3.out q31.q.lt).mono ?_); rintro e w14 ⟨hb, n32, A32, l32, k32, rfl, q32⟩
         have Ba := Ba.below hb Ba.lt
         have Bb := Bb.below hb Bb.lt
         have Qa := Qa.below hb
         have Qb := Qb.below hb
         have q31 := q31.below hb
         have HB := hide (HB.out.trans (hb.mono HB.out.size))
         obtain ⟨ca0, ca1, ca2, -, -, -⟩ := Ba.three
         obtain ⟨cb0, cb1, cb2, -, -, -⟩ := Bb.three
         clear _t tok1
         have tok2 : True := trivial)
      | (go_at_call 27; have _t := tok2; (with_reducible refine (e_eq q31 q32 rfl rfl).mono ?_); rintro e w15 ⟨hb, rfl⟩
         have Ba := Ba.below hb Ba.lt
         have Bb := Bb.below hb Bb.lt
         have Qa := Qa.below hb
         have Qb := Qb.below hb
         have q31 := q31.below hb
         have q32 := q32.below hb
         have HB := hide (HB.out.trans (hb.mono HB.out.size))
         obtain ⟨ca0, ca1, ca2, -, -, -⟩ := Ba.three
         obtain ⟨cb0, cb1, cb2, -, -, -⟩ := Bb.three
         clear _t tok2
         have tok3 : True := trivial))
  clear q31 q32
  go_upto_region 7 with (fail)
  have Ba := Ba.drew
  have Bb := Bb.drew
  have Qa := Qa.drew
  have Qb := Qb.drew
  have HB := hide HB.out.drew
  have tok0 : True := trivial
  go_region_held3 (fun w' => w'.cell? ⟨w.heap.size, 0, none⟩ = some (.bool ma) ∧ w'.cell? ⟨w.heap.size, 1, none⟩ = some (.slice Ca ja ia) ∧ w'.cell? ⟨w.heap.size, 2, none⟩ = some (.int .i64 xa)) (go_keep)
    (first
      | (go_at_call 56; have _t := tok0; (with_reducible refine (p_neg 4000 Qa (Nat.le_refl _) (by omega) hx0 hx1 HZz4.out HXx4.out).mono ?_); rintro e w16 ⟨hb, n41, A41, l41, k41, rfl, q41⟩
         have Ba := Ba.below hb Ba.lt
         have Bb := Bb.below hb Bb.lt
         have Qa := Qa.below hb
         have Qb := Qb.below hb
         have HB := hide (HB.out.trans (hb.mono HB.out.size))
         obtain ⟨ca0, ca1, ca2, -, -, -⟩ := Ba.three
         obtain ⟨cb0, cb1, cb2, -, -, -⟩ := Bb.three
         clear _t tok0
         have tok1 : True := trivial)
      | (go_at_call 57; have _t := tok1; (with_reducible refine (r_neg 4000 Qa (Nat.le_refl _) (by omega) hx0 hx1 HZz4.out HXx4.out q41.q.lt).mono ?_); rintro e w17 ⟨hb, n42, A42, l42, k42, rfl, q42⟩
         have Ba := Ba.below hb Ba.lt
         have Bb := Bb.below hb Bb.lt
         have Qa := Qa.below hb
         have Qb := Qb.below hb
         have q41 := q41.below hb
         have HB := hide (HB.out.trans (hb.mono HB.out.size))
         obtain ⟨ca0, ca1, ca2, -, -, -⟩ := Ba.three
         obtain ⟨cb0, cb1, cb2, -, -, -⟩ := Bb.three
         clear _t tok1
         have tok2 : True := trivial)
      | (go_at_call 27; have _t := tok2; (with_reducible refine (e_eq q41 q42 rfl rfl).mono ?_); rintro e w18 ⟨hb, rfl⟩
         have Ba := Ba.below hb Ba.lt
         have Bb := Bb.below hb Bb.lt
         have Qa := Qa.below hb
         have Qb := Qb.below hb
         have q41 := q41.below hb
         have q42 := q42.below hb
         have HB := hide (HB.out.trans (hb.mono HB.out.size))
         obtain ⟨ca0, ca1, ca2, -, -, -⟩ := Ba.three
         obtain ⟨cb0, cb1, cb2, -, -, -⟩ := Bb.three
         clear _t tok2
         have tok3 : True := trivial))
  clear q41 q42
  go_upto_region 8 with (fail)
  have Ba := Ba.drew
  have Bb := Bb.drew
  have Qa := Qa.drew
  have Qb := Qb.drew
  have HB := hide HB.out.drew
  have tok0 : True := trivial
  go_region_held3 (fun w' => w'.cell? ⟨w.heap.size, 0, none⟩ = some (.bool ma) ∧ w'.cell? ⟨w.heap.size, 1, none⟩ = some (.slice Ca ja ia) ∧ w'.cell? ⟨w.heap.size, 2, none⟩ = some (.int .i64 xa)) (go_keep)
    (first
      | (go_at_call 43; have _t := tok0; (with_reducible refine (p_shift 4000 q Qa (Nat.le_refl _) (by omega) hx0 hx1 HZz5.out HXx5.out).mono ?_); rintro e w19 ⟨hb, n51, A51, l51, k51, rfl, q51⟩
         have Ba := Ba.below hb Ba.lt
         have Bb := Bb.below hb Bb.lt
         have Qa := Qa.below hb
         have Qb := Qb.below hb
         have HB := hide (HB.out.trans (hb.mono HB.out.size))
         obtain ⟨ca0, ca1, ca2, -, -, -⟩ := Ba.three
         obtain ⟨cb0, cb1, cb2, -, -, -⟩ := Bb.three
         clear _t tok0
         have tok1 : True := trivial)
      | (go_at_call 58; have _t := tok1; (with_reducible refine (r_shift 4000 q Qa (Nat.le_refl _) (by omega) hx0 hx1 HZz5.out HXx5.out q51.q.lt).mono ?_); rintro e w20 ⟨hb, n52, A52, l52, k52, rfl, q52⟩
         have Ba := Ba.below hb Ba.lt
         have Bb := Bb.below hb Bb.lt
         have Qa := Qa.below hb
         have Qb := Qb.below hb
         have q51 := q51.below hb
         have HB := hide (HB.out.trans (hb.mono HB.out.size))
         obtain ⟨ca0, ca1, ca2, -, -, -⟩ := Ba.three
         obtain ⟨cb0, cb1, cb2, -, -, -⟩ := Bb.three
         clear _t tok1
         have tok2 : True := trivial)
      | (go_at_call 27; have _t := tok2; (with_reducible refine (e_eq q51 q52 rfl rfl).mono ?_); rintro e w21 ⟨hb, rfl⟩
         have Ba := Ba.below hb Ba.lt
         have Bb := Bb.below hb Bb.lt
         have Qa := Qa.below hb
         have Qb := Qb.below hb
         have q51 := q51.below hb
         have q52 := q52.below hb
         have HB := hide (HB.out.trans (hb.mono HB.out.size))
         obtain ⟨ca0, ca1, ca2, -, -, -⟩ := Ba.three
         obtain ⟨cb0, cb1, cb2, -, -, -⟩ := Bb.three
         clear _t tok2
         have tok3 : True := trivial))
  clear q51 q52
  go_wp2_with fail
  go_ret
  exact ⟨rfl, HB.out⟩

theorem walk (w : World) (n0 : Bool) (A0 : Option Addr) (l0 c0 : Nat) (x0 : Int) (s0 : ∃ L, Nums w 0 (.slice A0 l0 c0) L) (w0 : (Lit.int .i64 x0).wf = true) (n1 : Bool) (A1 : Option Addr) (l1 c1 : Nat) (x1 : Int) (s1 : ∃ L, Nums w 0 (.slice A1 l1 c1) L) (w1 : (Lit.int .i64 x1).wf = true) (a2 : Int) (w2 : (Lit.int .i64 a2).wf = true) :
    Calls Try.prog 9 #[.agg #[.bool n0, .slice A0 l0 c0, .int .i64 x0], .agg #[.bool n1, .slice A1 l1 c1, .int .i64 x1], .int .i64 a2] w fun e w' => e = .returned (.bool true) ∧ Below w.heap.size w w' := by
  obtain ⟨L0, h0⟩ := s0
  obtain ⟨L1, h1⟩ := s1
  have hb := bounds_i64 w0
  have hc := bounds_i64 w1
  exact walkN n0 n1 A0 A1 l0 l1 c0 c1 x0 x1 a2 hb.1 hb.2 hc.1 hc.2 L0 L1 w h0 h1

/-! ### the row -/
set_option maxRecDepth 100000 in
theorem lifted (os : Os) (started : os.Started) (H : Type) (enc : TypeId × Value → H) :
    ReturnsInHanded {} Try.checked os 9 .any (Rows.dyadSumsSpec.pre6 enc Try.prog Try.f9 Rows.dyadSumsRow.domain false) (Rows.dyadSumsSpec.post enc Try.prog Try.f9 false true false false) := by
  refine returnsInHanded_of_change (C := Try.checked) own started (by kernel_rfl) Try.func9
    (ChangeSpec.witness6 (enc := enc) (C := Try.checked) false ⟨#[], #[.agg #[.bool false, .slice none 0 0, .int .i64 0], .agg #[.bool false, .slice none 0 0, .int .i64 0], .int .i64 0], []⟩ 8 (by kernel_rfl) (by kernel_rfl) (by kernel_rfl) (by kernel_rfl)) ?_
  intro W base args ds gs before hval0 hW hcnd _
  have hval : ∀ (j : Nat) t v, Try.f9.params[j]? = some t → args[j]? = some v → Value.okWide Try.prog W .any base t v := hval0
  have hW' := hW
  obtain ⟨p, q, hA0, hV, rfl, hfz, hnd⟩ := hW
  have hA : DataW.TrodAll enc Try.prog W 0 (fun _ => true) true Try.f9.params.toList args.toList ds p := hA0
  rw [Try.params9] at hA hval
  obtain ⟨v0, vs0, d0, ds0, p0, q0, hargs, rfl, rfl, h0, r0⟩ := trodAll_cons hA
  obtain ⟨v1, vs1, d1, ds1, p1, q1, rfl, rfl, rfl, h1, r1⟩ := trodAll_cons r0
  obtain ⟨v2, vs2, d2, ds2, p2, q2, rfl, rfl, rfl, h2, r2⟩ := trodAll_cons r1
  obtain ⟨rfl, rfl, rfl⟩ := trodAll_nil r2
  obtain rfl : args = #[v0, v1, v2] := by cases args; simp_all
  obtain ⟨rfl, rfl⟩ := trodVars_none hV
  have k0 := h0
  have lt0 : ∀ x ∈ p0, x.block < W.heap.size := by obtain ⟨m, hm⟩ := k0; exact DataW.trod_lt m _ _ _ hm
  obtain ⟨n0, A0, l0, c0, x0, rfl, s0, w0⟩ := open_dyad (hval 0 26 v0 rfl rfl) h0
  have k1 := h1
  have lt1 : ∀ x ∈ p1, x.block < W.heap.size := by obtain ⟨m, hm⟩ := k1; exact DataW.trod_lt m _ _ _ hm
  obtain ⟨n1, A1, l1, c1, x1, rfl, s1, w1⟩ := open_dyad (hval 1 26 v1 rfl rfl) h1
  obtain ⟨a2, rfl, rfl, rfl, w2⟩ := open_int Try.underlying3 (hval 2 3 v2 rfl rfl) h2
  clear hA0 hval0
  refine (walk W n0 A0 l0 c0 x0 s0 w0 n1 A1 l1 c1 x1 s1 w1 a2 w2).mono fun e W' ⟨he, bel⟩ => ?_
  subst he
  exact ⟨_, rfl, _, _, _, [], _, [], hW', trodAll_mk1 (shut_bool Try.underlying4 _), (trodAll_cons_mk (Below.trod laidOut (by kernel_rfl) (of_decide_eq_true (by kernel_rfl)) k0 bel lt0) (trodAll_cons_mk (Below.trod laidOut (by kernel_rfl) (of_decide_eq_true (by kernel_rfl)) k1 bel lt1) (trodAll_cons_mk (shut_int Try.underlying3 w2) trodAll_mk0))), rfl, bel.frame _, fun h => by cases h⟩

theorem over : Rows.dyadSumsRow.holds Try.pinned (OpenSpec.ofChange Rows.dyadSumsSpec) :=
  OpenClaim.holds_of_wide 9 Try.f9 rfl rfl rfl rfl rfl rfl rfl ⟨rfl, rfl, rfl, rfl, rfl⟩ rfl rfl rfl rfl rfl (by kernel_rfl) Try.func9 (by kernel_rfl)
    (of_decide_eq_true (by kernel_rfl)) (by unfold Func.isWrapper; first | (rw [if_pos (by decide +kernel)]; kernel_rfl) | (rw [if_neg (by decide +kernel)]; exact ⟨rfl, rfl⟩))
    (fun os started H enc _ => lifted os started H enc)

theorem proved : Rows.DyadSumsSaid := over
#print axioms proved
end Go.Proofs.Ytnkembnachhicaa.dyadSums
