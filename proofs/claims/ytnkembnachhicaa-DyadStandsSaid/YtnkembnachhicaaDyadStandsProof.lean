/-
  hairlinelaw03.DyadStands returns true for any two dyads. Conditions: none.
-/
import Derived.Test.YtnkembnachhicaaRows
import Derived.Test.YtnkembnachhicaaRefQ
import Derived.Test.YtnkembnachhicaaRaw
import Derived.Test.YtnkembnachhicaaLaws
import Derived.Test.YtnkembnachhicaaLasts
namespace Go.Proofs.Ytnkembnachhicaa.dyadStands
open Go.ChangeShapes Go.WideShapes Go.ChangeAt Go.RowKit
open L (val)
set_option linter.unusedVariables false
set_option linter.unusedSimpArgs false

theorem own : ownKnob Try.prog.godebug = none := by kernel_rfl
theorem laidOut : laidOutB Try.prog = true := by kernel_rfl

set_option maxHeartbeats 8000000 in
set_option maxRecDepth 100000 in
theorem walkN (na nb : Bool) (Aa Ab : Option Addr) (la lb ka kb : Nat) (xa xb : Int) (hx0 : -9223372036854775808 ≤ xa) (hx1 : xa ≤ 9223372036854775807) (hy0 : -9223372036854775808 ≤ xb) (hy1 : xb ≤ 9223372036854775807) (La Lb : List Nat) (w : World) (ha : Nums w 0 (.slice Aa la ka) La) (hb0 : Nums w 0 (.slice Ab lb kb) Lb) :
    Calls Try.prog 6 #[.agg #[.bool na, .slice Aa la ka, .int .i64 xa], .agg #[.bool nb, .slice Ab lb kb, .int .i64 xb]] w fun e w' => e = .returned (.bool true) ∧ Below w.heap.size w w' := by
  obtain ⟨w1, hW, Ba, Bb, hB1, hs⟩ := start2 w 26 26 #[.bool na, .slice Aa la ka, .int .i64 xa] #[.bool nb, .slice Ab lb kb, .int .i64 xb]
  have HB := hide hB1
  clear hB1
  have hs0 : w.heap.size + 1 < w1.heap.size := by omega
  clear hs
  obtain ⟨ca0, ca1, ca2, -, -, -⟩ := Ba.three
  obtain ⟨cb0, cb1, cb2, -, -, -⟩ := Bb.three
  obtain ⟨Ma, HMa⟩ : ∃ z, Hid (La.take 12 = z) := ⟨_, hide rfl⟩
  have hMa : Ma.length ≤ 12 := by rw [← HMa.out]; simp; omega
  obtain ⟨za, HZa⟩ : ∃ z, Hid (ival na (val W Ma) = z) := ⟨_, hide rfl⟩
  obtain ⟨Mb, HMb⟩ : ∃ z, Hid (Lb.take 12 = z) := ⟨_, hide rfl⟩
  have hMb : Mb.length ≤ 12 := by rw [← HMb.out]; simp; omega
  obtain ⟨zb, HZb⟩ : ∃ z, Hid (ival nb (val W Mb) = z) := ⟨_, hide rfl⟩
  have HMM : Hid (Ma.take 12 = Ma) := hide (List.take_of_length_le hMa)
  obtain ⟨z1, HVz1⟩ : ∃ z, Hid ((nM za xa) = z) := ⟨_, hide rfl⟩
  obtain ⟨x1, HVx1⟩ : ∃ z, Hid ((nE za xa) = z) := ⟨_, hide rfl⟩
  obtain ⟨z2, HVz2⟩ : ∃ z, Hid ((nM zb xa) = z) := ⟨_, hide rfl⟩
  obtain ⟨x2, HVx2⟩ : ∃ z, Hid ((nE zb xa) = z) := ⟨_, hide rfl⟩
  obtain ⟨ln, HVln⟩ : ∃ z, Hid ((lgN za xa) = z) := ⟨_, hide rfl⟩
  obtain ⟨lo, HVlo⟩ : ∃ z, Hid ((lgOk za xa) = z) := ⟨_, hide rfl⟩
  obtain ⟨sg, HVsg⟩ : ∃ z, Hid (((cM za xa).sign) = z) := ⟨_, hide rfl⟩
  obtain ⟨cp, HVcp⟩ : ∃ z, Hid (((av 4000 za xa - av 4000 zb xb).sign) = z) := ⟨_, hide rfl⟩
  have e1 : (ln == ln) = true := by rw [beq_iff_eq]
  have e2 : (lo == lo) = true := by rw [beq_iff_eq]
  have e3 : (sg == sg) = true := by rw [beq_iff_eq]
  have e4 : (cp == cp) = true := by rw [beq_iff_eq]
  have HEQ : Hid (((Ma == Ma) && (na == na)) = true) := hide (by simp)
  go_enter Try.func6, Try.ntmps6
  go_upto_region 1 with (fail)
  rw [← hW]
  clear hW
  have HP := shown3_calls w1
  go_wp2_with fail
  refine HP.mono ?_
  rintro e w2 ⟨hb, rfl⟩
  clear HP
  clear ca0 ca1 ca2 cb0 cb1 cb2
  have Ba := Ba.below hb Ba.lt
  have Bb := Bb.below hb Bb.lt
  have HB := hide (HB.out.trans (hb.mono HB.out.size))
  obtain ⟨ca0, ca1, ca2, -, -, -⟩ := Ba.three
  obtain ⟨cb0, cb1, cb2, -, -, -⟩ := Bb.three
  have HP := cut3L_calls w2 na Aa la ka xa 12 La (ha.up HB.out) (by omega)
  rw [HMa.out] at HP
  go_wp2_with fail
  refine HP.mono ?_
  have hsza := HB.out.size
  have hbasea : w.heap.size + 1 < w2.heap.size := Bb.lt
  rintro e w3 ⟨hb, Ca, ja, ia, rfl, hna⟩
  clear HP
  clear ca0 ca1 ca2 cb0 cb1 cb2
  have Ba := Ba.below hb Ba.lt
  have Bb := Bb.below hb Bb.lt
  have HB := hide (HB.out.trans (hb.mono HB.out.size))
  obtain ⟨ca0, ca1, ca2, fa0, fa1, fa2⟩ := Ba.three
  obtain ⟨w4, hW, Ba, hk1, hk2, hs, hk3⟩ := set3_all Ba (.bool na) (.slice Ca ja ia) (.int .i64 xa)
  have Bb := hk1 _ _ _ (by omega) Bb
  have hna := hk2 _ _ _ (by omega) hna
  have HB := hide (hk3 _ _ HB.out (by omega))
  clear hk1 hk2 hk3 hs
  go_upto_region 3 with (fail)
  rw [← hW]
  clear hW ca0 ca1 ca2 fa0 fa1 fa2
  obtain ⟨ca0, ca1, ca2, -, -, -⟩ := Ba.three
  obtain ⟨cb0, cb1, cb2, -, -, -⟩ := Bb.three
  have HP := cut3L_calls w4 nb Ab lb kb xb 12 Lb (hb0.up HB.out) (by omega)
  rw [HMb.out] at HP
  go_wp2_with fail
  refine HP.mono ?_
  have hszb := HB.out.size
  have hbaseb : w.heap.size + 1 < w4.heap.size := Bb.lt
  rintro e w5 ⟨hb, Cb, jb, ib, rfl, hnb⟩
  clear HP
  clear ca0 ca1 ca2 cb0 cb1 cb2
  have Ba := Ba.below hb Ba.lt
  have Bb := Bb.below hb Bb.lt
  have HB := hide (HB.out.trans (hb.mono HB.out.size))
  have hna := hna.below hb
  obtain ⟨cb0, cb1, cb2, fb0, fb1, fb2⟩ := Bb.three
  obtain ⟨w6, hW, Bb, hk1, hk2, hs, hk3⟩ := set3_all Bb (.bool nb) (.slice Cb jb ib) (.int .i64 xb)
  have Ba := hk1 _ _ _ (by omega) Ba
  have hna := hk2 _ _ _ (by omega) hna
  have hnb := hk2 _ _ _ (by omega) hnb
  have HB := hide (hk3 _ _ HB.out (by omega))
  clear hk1 hk2 hk3 hs
  go_upto_region 4 with (fail)
  rw [← hW]
  clear hW cb0 cb1 cb2 fb0 fb1 fb2
  obtain ⟨ca0, ca1, ca2, -, -, -⟩ := Ba.three
  obtain ⟨cb0, cb1, cb2, -, -, -⟩ := Bb.three
  have hna := hna.mono (Nat.zero_le _)
  have hnb := hnb.mono (Nat.zero_le _)
  have HP := cut3L_calls w6 na Ca ja ia xa 12 Ma hna (by omega)
  rw [HMM.out] at HP
  go_wp2_with fail
  refine HP.mono ?_
  rintro e w7 ⟨hb, Co, jo, io, rfl, hno⟩
  clear HP
  have hno := hno.mono (Nat.zero_le _)
  clear ca0 ca1 ca2 cb0 cb1 cb2
  have Ba := Ba.below hb Ba.lt
  have Bb := Bb.below hb Bb.lt
  have HB := hide (HB.out.trans (hb.mono HB.out.size))
  have hna := hna.below hb
  have hnb := hnb.below hb
  obtain ⟨w8, hW, Bo, hb, hs⟩ := start1 w7 26 #[.bool na, .slice Co jo io, .int .i64 xa]
  clear hs
  have Ba := Ba.below hb Ba.lt
  have Bb := Bb.below hb Bb.lt
  have HB := hide (HB.out.trans (hb.mono HB.out.size))
  have hna := hna.below hb
  have hnb := hnb.below hb
  have hno := hno.below hb
  go_upto_region 5 with (fail)
  rw [← hW]
  clear hW
  obtain ⟨ca0, ca1, ca2, -, -, -⟩ := Ba.three
  obtain ⟨cb0, cb1, cb2, -, -, -⟩ := Bb.three
  obtain ⟨co0, co1, co2, -, -, -⟩ := Bo.three
  have Qa : Q w8 12 na Ca ja ia za := ⟨Ma, hna, hMa, HZa.out⟩
  have Qb : Q w8 12 nb Cb jb ib zb := ⟨Mb, hnb, hMb, HZb.out⟩
  have HP := norm_dyad_calls w8 na 0 _ Ma xa hna (by omega) hx0 hx1
  rw [HZa.out, HVz1.out, HVx1.out] at HP
  go_wp2_with fail
  refine HP.mono ?_
  have sBa := Ba
  have sBb := Bb
  have sBo := Bo
  have sQa := Qa
  have sQb := Qb
  have sna := hna
  have sno := hno
  have sHB := HB
  have hz1 : Hid (z1.natAbs < W ^ 12) := hide (by rw [← HVz1.out]; exact nM_lt Qa.lt)
  have hpos : 0 < w8.heap.size := by have := Ba.lt; omega
  rintro e w9 ⟨hb, u, d, rfl, hnx, hdx⟩
  clear HP
  obtain ⟨Cx, ix, rfl⟩ := hnx.form
  obtain ⟨jx, HJ⟩ : ∃ j, Hid (d.length = j) := ⟨_, hide rfl⟩
  have HCX : Hid (∀ b off, Cx = some ⟨b, off, none⟩ → 0 < jx → b < w9.heap.size) := hide (fun b off hh hj => by obtain ⟨b1, o1, h1, -, h2, -⟩ := hnx.room (k := 0) (by rw [HJ.out]; exact hj) hpos; rw [h1] at hh; cases hh; exact h2)
  have hjx : jx ≤ 12 := by rw [← HJ.out, hdx.len]; exact hz1.out
  rw [HJ.out] at hnx ⊢
  clear ca0 ca1 ca2 cb0 cb1 cb2 co0 co1 co2
  have Ba := Ba.below hb Ba.lt
  have Bb := Bb.below hb Bb.lt
  have Bo := Bo.below hb Bo.lt
  have Qa := Qa.below hb
  have Qb := Qb.below hb
  have HB := hide (HB.out.trans (hb.mono HB.out.size))
  have hna := hna.below hb
  have hnb := hnb.below hb
  have hno := hno.below hb
  have hb5 := hb
  obtain ⟨w10, hW, Bx, hb, hs⟩ := start1 w9 26 #[.bool (decide (z1 < 0)), .slice Cx jx ix, .int .i64 x1]
  clear hs
  have Ba := Ba.below hb Ba.lt
  have Bb := Bb.below hb Bb.lt
  have Bo := Bo.below hb Bo.lt
  have Qa := Qa.below hb
  have Qb := Qb.below hb
  have HB := hide (HB.out.trans (hb.mono HB.out.size))
  have hna := hna.below hb
  have hnb := hnb.below hb
  have hno := hno.below hb
  have hnx := hnx.below hb
  have hb5 := hb5.trans (hb.mono hb5.size)
  have qx : QC w10 12 (decide (z1 < 0)) Cx jx ix z1 := ⟨d, hnx.mono (Nat.zero_le _), by rw [hdx.len]; exact hz1.out, hdx, rfl⟩
  go_upto_region 6 with (fail)
  rw [← hW]
  clear hW
  obtain ⟨ca0, ca1, ca2, -, -, -⟩ := Ba.three
  obtain ⟨cb0, cb1, cb2, -, -, -⟩ := Bb.three
  obtain ⟨co0, co1, co2, -, -, -⟩ := Bo.three
  obtain ⟨cx0, cx1, cx2, -, -, -⟩ := Bx.three
  have hnx := hnx.drew
  have hb5 := hb5.drew
  have Ba := Ba.drew
  have Bb := Bb.drew
  have Bo := Bo.drew
  have Bx := Bx.drew
  have Qa := Qa.drew
  have Qb := Qb.drew
  have qx := qx.drew
  have HB := hide HB.out.drew
  have tok0 : True := trivial
  go_region_held3 (fun w' => w'.cell? ⟨w.heap.size, 0, none⟩ = some (.bool na) ∧ w'.cell? ⟨w.heap.size, 1, none⟩ = some (.slice Ca ja ia) ∧ w'.cell? ⟨w.heap.size, 2, none⟩ = some (.int .i64 xa) ∧ w'.cell? ⟨w9.heap.size, 0, none⟩ = some (.bool (decide (z1 < 0))) ∧ w'.cell? ⟨w9.heap.size, 1, none⟩ = some (.slice Cx jx ix) ∧ w'.cell? ⟨w9.heap.size, 2, none⟩ = some (.int .i64 x1)) (go_keep)
    (first
      | (go_at_call 33; have _t := tok0; (with_reducible refine (r_norm Qa (by omega) hx0 hx1 HVz1.out HVx1.out hz1.out).mono ?_); rintro e w11 ⟨hb, n11, A11, l11, k11, rfl, q11⟩
         have Ba := Ba.below hb Ba.lt
         have Bb := Bb.below hb Bb.lt
         have Bo := Bo.below hb Bo.lt
         have Bx := Bx.below hb Bx.lt
         have Qa := Qa.below hb
         have Qb := Qb.below hb
         have qx := qx.below hb
         have HB := hide (HB.out.trans (hb.mono HB.out.size))
         have hnx := hnx.below hb
         have hb5 := hb5.trans (hb.mono hb5.size)
         obtain ⟨ca0, ca1, ca2, -, -, -⟩ := Ba.three
         obtain ⟨cb0, cb1, cb2, -, -, -⟩ := Bb.three
         obtain ⟨co0, co1, co2, -, -, -⟩ := Bo.three
         obtain ⟨cx0, cx1, cx2, -, -, -⟩ := Bx.three
         clear _t tok0
         have tok1 : True := trivial)
      | (go_at_call 27; have _t := tok1; (with_reducible refine (e_eq qx q11 rfl rfl).mono ?_); rintro e w12 ⟨hb, rfl⟩
         have Ba := Ba.below hb Ba.lt
         have Bb := Bb.below hb Bb.lt
         have Bo := Bo.below hb Bo.lt
         have Bx := Bx.below hb Bx.lt
         have Qa := Qa.below hb
         have Qb := Qb.below hb
         have qx := qx.below hb
         have q11 := q11.below hb
         have HB := hide (HB.out.trans (hb.mono HB.out.size))
         have hnx := hnx.below hb
         have hb5 := hb5.trans (hb.mono hb5.size)
         obtain ⟨ca0, ca1, ca2, -, -, -⟩ := Ba.three
         obtain ⟨cb0, cb1, cb2, -, -, -⟩ := Bb.three
         obtain ⟨co0, co1, co2, -, -, -⟩ := Bo.three
         obtain ⟨cx0, cx1, cx2, -, -, -⟩ := Bx.three
         clear _t tok1
         have tok2 : True := trivial))
  clear q11 qx
  clear ca0 ca1 ca2 cb0 cb1 cb2 co0 co1 co2 cx0 cx1 cx2
  go_wp2_with fail
  go_loopw [9] (fun i wr => ∃ (k : Nat) (d : List Nat), i = .int .i64 k ∧ k ≤ jx ∧ Hid (d.length = jx) ∧ Blk wr w9.heap.size 26 #[.bool (decide (z1 < 0)), .slice Cx jx ix, .int .i64 x1] ∧ Nums wr w8.heap.size (.slice Cx jx ix) d ∧ Below w8.heap.size w8 wr) (fun i _ => jx - (intOf i).toNat)
  case atStart => exact ⟨0, d, rfl, Nat.zero_le _, HJ, Bx, hnx, hb5⟩
  case round =>
    clear Ba Bb Bo Qa Qb hna hnb hno HB hnx hb5 Bx hdx HJ
    obtain ⟨k, d, rfl, hk, HJ, Bx, hnx, hb5⟩ := hrel
    obtain ⟨cx0, cx1, cx2, -, -, -⟩ := Bx.three
    by_cases hlt : k < jx
    · skip
      have hkd : k < d.length := by rw [HJ.out]; exact hlt
      obtain ⟨b, off, rfl, hb1, hb2, hc, hf, -⟩ := hnx.room hkd hpos
      have HN := hide (hnx.set_ hkd (x := 7) (by unfold W; omega) (z := 7) rfl)
      have hne : ¬ w9.heap.size = b := by have := HCX.out b off rfl (by omega); omega
      have HX := hide (Bx.far (p := ⟨b, off + k, none⟩) hne (.int .u64 7))
      have HF := hide (hb5.setCell (p := ⟨b, off + k, none⟩) hb1 (.int .u64 7))
      clear hnx
      go_wp2_with fail
      go_roundw
      case rel => exact ⟨k + 1, _, by go_num, by omega, hide (by rw [List.length_set]; exact HJ.out), HX.out, HN.out, HF.out⟩
      case measure => simp [intOf]; omega
    · skip
      clear hnx
      have Ba := sBa.below hb5 sBa.lt
      have Bb := sBb.below hb5 sBb.lt
      have Bo := sBo.below hb5 sBo.lt
      have Qa := sQa.below hb5
      have Qb := sQb.below hb5
      have hna := sna.below hb5
      have hno := sno.below hb5
      have HB := hide (sHB.out.trans (hb5.mono sHB.out.size))
      clear sBa sBb sBo sQa sQb sna sno sHB hb5 Bx
      obtain ⟨ca0, ca1, ca2, -, -, -⟩ := Ba.three
      obtain ⟨cb0, cb1, cb2, -, -, -⟩ := Bb.three
      obtain ⟨co0, co1, co2, -, -, -⟩ := Bo.three
      go_upto_region 11 with (fail)
      have hna := hna.drew
      have hno := hno.drew
      have Ba := Ba.drew
      have Bb := Bb.drew
      have Bo := Bo.drew
      have Qa := Qa.drew
      have Qb := Qb.drew
      have HB := hide HB.out.drew
      have tok0 : True := trivial
      go_region_held3 (fun w' => w'.cell? ⟨w.heap.size, 0, none⟩ = some (.bool na) ∧ w'.cell? ⟨w.heap.size, 1, none⟩ = some (.slice Ca ja ia) ∧ w'.cell? ⟨w.heap.size, 2, none⟩ = some (.int .i64 xa) ∧ w'.cell? ⟨w.heap.size + 1, 0, none⟩ = some (.bool nb) ∧ w'.cell? ⟨w.heap.size + 1, 1, none⟩ = some (.slice Cb jb ib) ∧ w'.cell? ⟨w.heap.size + 1, 2, none⟩ = some (.int .i64 xb)) (go_keep)
        (first
          | (go_at_call 34; have _t := tok0; (with_reducible refine (p_of Qb (by omega) hx0 hx1 HVz2.out HVx2.out).mono ?_); rintro e w13 ⟨hb, n21, A21, l21, k21, rfl, q21⟩
             have Ba := Ba.below hb Ba.lt
             have Bb := Bb.below hb Bb.lt
             have Bo := Bo.below hb Bo.lt
             have Qa := Qa.below hb
             have Qb := Qb.below hb
             have HB := hide (HB.out.trans (hb.mono HB.out.size))
             have hna := hna.below hb
             have hno := hno.below hb
             obtain ⟨ca0, ca1, ca2, -, -, -⟩ := Ba.three
             obtain ⟨cb0, cb1, cb2, -, -, -⟩ := Bb.three
             obtain ⟨co0, co1, co2, -, -, -⟩ := Bo.three
             clear _t tok0
             have tok1 : True := trivial)
          | (go_at_call 35; have _t := tok1; (with_reducible refine (r_of Qb (by omega) hx0 hx1 HVz2.out HVx2.out q21.q.lt).mono ?_); rintro e w14 ⟨hb, n22, A22, l22, k22, rfl, q22⟩
             have Ba := Ba.below hb Ba.lt
             have Bb := Bb.below hb Bb.lt
             have Bo := Bo.below hb Bo.lt
             have Qa := Qa.below hb
             have Qb := Qb.below hb
             have q21 := q21.below hb
             have HB := hide (HB.out.trans (hb.mono HB.out.size))
             have hna := hna.below hb
             have hno := hno.below hb
             obtain ⟨ca0, ca1, ca2, -, -, -⟩ := Ba.three
             obtain ⟨cb0, cb1, cb2, -, -, -⟩ := Bb.three
             obtain ⟨co0, co1, co2, -, -, -⟩ := Bo.three
             clear _t tok1
             have tok2 : True := trivial)
          | (go_at_call 27; have _t := tok2; (with_reducible refine (e_eq q21 q22 rfl rfl).mono ?_); rintro e w15 ⟨hb, rfl⟩
             have Ba := Ba.below hb Ba.lt
             have Bb := Bb.below hb Bb.lt
             have Bo := Bo.below hb Bo.lt
             have Qa := Qa.below hb
             have Qb := Qb.below hb
             have q21 := q21.below hb
             have q22 := q22.below hb
             have HB := hide (HB.out.trans (hb.mono HB.out.size))
             have hna := hna.below hb
             have hno := hno.below hb
             obtain ⟨ca0, ca1, ca2, -, -, -⟩ := Ba.three
             obtain ⟨cb0, cb1, cb2, -, -, -⟩ := Bb.three
             obtain ⟨co0, co1, co2, -, -, -⟩ := Bo.three
             clear _t tok2
             have tok3 : True := trivial))
      clear q21 q22
      have HP := p_log Qa (by omega) hx0 hx1 HVln.out HVlo.out
      go_wp2_with fail
      refine HP.mono ?_
      rintro e w16 ⟨hb, rfl⟩
      clear HP
      clear ca0 ca1 ca2 cb0 cb1 cb2 co0 co1 co2
      have Ba := Ba.below hb Ba.lt
      have Bb := Bb.below hb Bb.lt
      have Bo := Bo.below hb Bo.lt
      have Qa := Qa.below hb
      have Qb := Qb.below hb
      have HB := hide (HB.out.trans (hb.mono HB.out.size))
      obtain ⟨ca0, ca1, ca2, -, -, -⟩ := Ba.three
      obtain ⟨cb0, cb1, cb2, -, -, -⟩ := Bb.three
      obtain ⟨co0, co1, co2, -, -, -⟩ := Bo.three
      have hna := hna.below hb
      have hno := hno.below hb
      have HP := r_log Qa (by omega) hx0 hx1 HVln.out HVlo.out
      go_wp2_with fail
      refine HP.mono ?_
      rintro e w17 ⟨hb, rfl⟩
      clear HP
      clear ca0 ca1 ca2 cb0 cb1 cb2 co0 co1 co2
      have Ba := Ba.below hb Ba.lt
      have Bb := Bb.below hb Bb.lt
      have Bo := Bo.below hb Bo.lt
      have Qa := Qa.below hb
      have Qb := Qb.below hb
      have HB := hide (HB.out.trans (hb.mono HB.out.size))
      obtain ⟨ca0, ca1, ca2, -, -, -⟩ := Ba.three
      obtain ⟨cb0, cb1, cb2, -, -, -⟩ := Bb.three
      obtain ⟨co0, co1, co2, -, -, -⟩ := Bo.three
      have hna := hna.below hb
      have hno := hno.below hb
      have HP := eqD_raw (x := xa) (x' := xa) true hno hna HEQ
      rw [Bool.true_and] at HP
      rw [show (xa == xa) = true from by rw [beq_iff_eq]] at HP
      go_wp2_with fail
      refine HP.mono ?_
      rintro e w18 ⟨hb, rfl⟩
      clear HP
      clear ca0 ca1 ca2 cb0 cb1 cb2 co0 co1 co2
      have Ba := Ba.below hb Ba.lt
      have Bb := Bb.below hb Bb.lt
      have Bo := Bo.below hb Bo.lt
      have Qa := Qa.below hb
      have Qb := Qb.below hb
      have HB := hide (HB.out.trans (hb.mono HB.out.size))
      obtain ⟨ca0, ca1, ca2, -, -, -⟩ := Ba.three
      obtain ⟨cb0, cb1, cb2, -, -, -⟩ := Bb.three
      obtain ⟨co0, co1, co2, -, -, -⟩ := Bo.three
      have hna := hna.below hb
      have hno := hno.below hb
      go_upto_region 15 with (fail)
      have Ba := Ba.drew
      have Bb := Bb.drew
      have Bo := Bo.drew
      have Qa := Qa.drew
      have Qb := Qb.drew
      have HB := hide HB.out.drew
      have tok0 : True := trivial
      go_region_held3 (fun w' => w'.cell? ⟨w.heap.size, 0, none⟩ = some (.bool na) ∧ w'.cell? ⟨w.heap.size, 1, none⟩ = some (.slice Ca ja ia) ∧ w'.cell? ⟨w.heap.size, 2, none⟩ = some (.int .i64 xa) ∧ w'.cell? ⟨w.heap.size + 1, 0, none⟩ = some (.bool nb) ∧ w'.cell? ⟨w.heap.size + 1, 1, none⟩ = some (.slice Cb jb ib) ∧ w'.cell? ⟨w.heap.size + 1, 2, none⟩ = some (.int .i64 xb)) (go_keep)
        (first
          | (go_at_call 38; have _t := tok0; (with_reducible refine (p_sign Qa (by omega) hx0 hx1 HVsg.out).mono ?_); rintro e w19 ⟨hb, rfl⟩
             have Ba := Ba.below hb Ba.lt
             have Bb := Bb.below hb Bb.lt
             have Bo := Bo.below hb Bo.lt
             have Qa := Qa.below hb
             have Qb := Qb.below hb
             have HB := hide (HB.out.trans (hb.mono HB.out.size))
             obtain ⟨ca0, ca1, ca2, -, -, -⟩ := Ba.three
             obtain ⟨cb0, cb1, cb2, -, -, -⟩ := Bb.three
             obtain ⟨co0, co1, co2, -, -, -⟩ := Bo.three
             clear _t tok0
             have tok1 : True := trivial)
          | (go_at_call 39; have _t := tok1; (with_reducible refine (r_sign Qa (by omega) hx0 hx1 HVsg.out).mono ?_); rintro e w20 ⟨hb, rfl⟩
             have Ba := Ba.below hb Ba.lt
             have Bb := Bb.below hb Bb.lt
             have Bo := Bo.below hb Bo.lt
             have Qa := Qa.below hb
             have Qb := Qb.below hb
             have HB := hide (HB.out.trans (hb.mono HB.out.size))
             obtain ⟨ca0, ca1, ca2, -, -, -⟩ := Ba.three
             obtain ⟨cb0, cb1, cb2, -, -, -⟩ := Bb.three
             obtain ⟨co0, co1, co2, -, -, -⟩ := Bo.three
             clear _t tok1
             have tok2 : True := trivial)
          | (go_at_call 40; have _t := tok2; (with_reducible refine (p_cmp 4000 Qa Qb (Nat.le_refl _) (by omega) (by omega) hx0 hx1 hy0 hy1 HVcp.out).mono ?_); rintro e w21 ⟨hb, rfl⟩
             have Ba := Ba.below hb Ba.lt
             have Bb := Bb.below hb Bb.lt
             have Bo := Bo.below hb Bo.lt
             have Qa := Qa.below hb
             have Qb := Qb.below hb
             have HB := hide (HB.out.trans (hb.mono HB.out.size))
             obtain ⟨ca0, ca1, ca2, -, -, -⟩ := Ba.three
             obtain ⟨cb0, cb1, cb2, -, -, -⟩ := Bb.three
             obtain ⟨co0, co1, co2, -, -, -⟩ := Bo.three
             clear _t tok2
             have tok3 : True := trivial)
          | (go_at_call 41; have _t := tok3; (with_reducible refine (r_cmp 4000 Qa Qb (Nat.le_refl _) (by omega) (by omega) hx0 hx1 hy0 hy1 HVcp.out).mono ?_); rintro e w22 ⟨hb, rfl⟩
             have Ba := Ba.below hb Ba.lt
             have Bb := Bb.below hb Bb.lt
             have Bo := Bo.below hb Bo.lt
             have Qa := Qa.below hb
             have Qb := Qb.below hb
             have HB := hide (HB.out.trans (hb.mono HB.out.size))
             obtain ⟨ca0, ca1, ca2, -, -, -⟩ := Ba.three
             obtain ⟨cb0, cb1, cb2, -, -, -⟩ := Bb.three
             obtain ⟨co0, co1, co2, -, -, -⟩ := Bo.three
             clear _t tok3
             have tok4 : True := trivial))
      go_wp2_with fail
      go_ret
      exact ⟨rfl, HB.out⟩

theorem walk (w : World) (n0 : Bool) (A0 : Option Addr) (l0 c0 : Nat) (x0 : Int) (s0 : ∃ L, Nums w 0 (.slice A0 l0 c0) L) (w0 : (Lit.int .i64 x0).wf = true) (n1 : Bool) (A1 : Option Addr) (l1 c1 : Nat) (x1 : Int) (s1 : ∃ L, Nums w 0 (.slice A1 l1 c1) L) (w1 : (Lit.int .i64 x1).wf = true) :
    Calls Try.prog 6 #[.agg #[.bool n0, .slice A0 l0 c0, .int .i64 x0], .agg #[.bool n1, .slice A1 l1 c1, .int .i64 x1]] w fun e w' => e = .returned (.bool true) ∧ Below w.heap.size w w' := by
  obtain ⟨L0, h0⟩ := s0
  obtain ⟨L1, h1⟩ := s1
  have hb := bounds_i64 w0
  have hc := bounds_i64 w1
  exact walkN n0 n1 A0 A1 l0 l1 c0 c1 x0 x1 hb.1 hb.2 hc.1 hc.2 L0 L1 w h0 h1

/-! ### the row -/
set_option maxRecDepth 100000 in
theorem lifted (os : Os) (started : os.Started) (H : Type) (enc : TypeId × Value → H) :
    ReturnsInHanded {} Try.checked os 6 .any (Rows.dyadStandsSpec.pre6 enc Try.prog Try.f6 Rows.dyadStandsRow.domain false) (Rows.dyadStandsSpec.post enc Try.prog Try.f6 false true false false) := by
  refine returnsInHanded_of_change (C := Try.checked) own started (by kernel_rfl) Try.func6
    (ChangeSpec.witness6 (enc := enc) (C := Try.checked) false ⟨#[], #[.agg #[.bool false, .slice none 0 0, .int .i64 0], .agg #[.bool false, .slice none 0 0, .int .i64 0]], []⟩ 8 (by kernel_rfl) (by kernel_rfl) (by kernel_rfl) (by kernel_rfl)) ?_
  intro W base args ds gs before hval0 hW hcnd _
  have hval : ∀ (j : Nat) t v, Try.f6.params[j]? = some t → args[j]? = some v → Value.okWide Try.prog W .any base t v := hval0
  have hW' := hW
  obtain ⟨p, q, hA0, hV, rfl, hfz, hnd⟩ := hW
  have hA : DataW.TrodAll enc Try.prog W 0 (fun _ => true) true Try.f6.params.toList args.toList ds p := hA0
  rw [Try.params6] at hA hval
  obtain ⟨v0, vs0, d0, ds0, p0, q0, hargs, rfl, rfl, h0, r0⟩ := trodAll_cons hA
  obtain ⟨v1, vs1, d1, ds1, p1, q1, rfl, rfl, rfl, h1, r1⟩ := trodAll_cons r0
  obtain ⟨rfl, rfl, rfl⟩ := trodAll_nil r1
  obtain rfl : args = #[v0, v1] := by cases args; simp_all
  obtain ⟨rfl, rfl⟩ := trodVars_none hV
  have k0 := h0
  have lt0 : ∀ x ∈ p0, x.block < W.heap.size := by obtain ⟨m, hm⟩ := k0; exact DataW.trod_lt m _ _ _ hm
  obtain ⟨n0, A0, l0, c0, x0, rfl, s0, w0⟩ := open_dyad (hval 0 26 v0 rfl rfl) h0
  have k1 := h1
  have lt1 : ∀ x ∈ p1, x.block < W.heap.size := by obtain ⟨m, hm⟩ := k1; exact DataW.trod_lt m _ _ _ hm
  obtain ⟨n1, A1, l1, c1, x1, rfl, s1, w1⟩ := open_dyad (hval 1 26 v1 rfl rfl) h1
  clear hA0 hval0
  refine (walk W n0 A0 l0 c0 x0 s0 w0 n1 A1 l1 c1 x1 s1 w1).mono fun e W' ⟨he, bel⟩ => ?_
  subst he
  exact ⟨_, rfl, _, _, _, [], _, [], hW', trodAll_mk1 (shut_bool Try.underlying4 _), (trodAll_cons_mk (Below.trod laidOut (by kernel_rfl) (of_decide_eq_true (by kernel_rfl)) k0 bel lt0) (trodAll_cons_mk (Below.trod laidOut (by kernel_rfl) (of_decide_eq_true (by kernel_rfl)) k1 bel lt1) trodAll_mk0)), rfl, bel.frame _, fun h => by cases h⟩

theorem over : Rows.dyadStandsRow.holds Try.pinned (OpenSpec.ofChange Rows.dyadStandsSpec) :=
  OpenClaim.holds_of_wide 6 Try.f6 rfl rfl rfl rfl rfl rfl rfl ⟨rfl, rfl, rfl, rfl, rfl⟩ rfl rfl rfl rfl rfl (by kernel_rfl) Try.func6 (by kernel_rfl)
    (of_decide_eq_true (by kernel_rfl)) (by unfold Func.isWrapper; first | (rw [if_pos (by decide +kernel)]; kernel_rfl) | (rw [if_neg (by decide +kernel)]; exact ⟨rfl, rfl⟩))
    (fun os started H enc _ => lifted os started H enc)

theorem proved : Rows.DyadStandsSaid := over
#print axioms proved
end Go.Proofs.Ytnkembnachhicaa.dyadStands
