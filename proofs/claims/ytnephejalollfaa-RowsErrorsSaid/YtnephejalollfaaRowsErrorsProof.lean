/-
  hairlinelaw06.RowsErrors returns true for any integer, any places and any terms. Conditions: none.
-/
import Derived.Test.YtnephejalollfaaRows
import Derived.Test.YtnephejalollfaaRs
import Derived.Test.YtnephejalollfaaRk
import Derived.Test.YtnephejalollfaaOp5
namespace Go.Proofs.Ytnephejalollfaa.rowsErrors
open Go.ChangeShapes Go.WideShapes Go.ChangeAt Go.RowKit
open L (val)
set_option linter.unusedVariables false
set_option linter.unusedSimpArgs false

theorem own : ownKnob Try.prog.godebug = none := by kernel_rfl
theorem laidOut : laidOutB Try.prog = true := by kernel_rfl
set_option maxHeartbeats 4000000 in
set_option maxRecDepth 100000 in
theorem walkN {w : World} {L0 : List Nat} {k0 : Nat} {n0 : Bool} {A0 : Option Addr} {l0 c0 : Nat} {x0 : Int} {q n : Int} (h0 : Q w k0 n0 A0 l0 c0 x0) (hL0 : Nums w 0 (.slice A0 l0 c0) L0) :
    Calls Try.prog 7 #[.agg #[.bool n0, .slice A0 l0 c0], .int .i64 q, .int .i64 n] w fun e w' => Below w.heap.size w w' ∧ VF (Fact.eq (.bool true)) e w' := by
 have HL0 := hide hL0
 clear hL0
 obtain ⟨t, Ht⟩ : ∃ t, Hid (ival n0 (val W (L0.take 20)) = t) := ⟨_, hide rfl⟩
 obtain ⟨nn, Hn⟩ : ∃ m, Hid (fewZ q n = m) := ⟨_, hide rfl⟩
 obtain ⟨s, HS⟩ : ∃ s, Hid (t.sign = s) := ⟨_, hide rfl⟩
 have HS0 : Hid ((0 : Int).sign = 0) := hide rfl
 obtain ⟨m5, HM5⟩ : ∃ m, Hid ((decide (0 ≤ q) && (decide (q ≤ 1200) && (decide (1 ≤ nn) && (decide (nn ≤ 400) && decide (0 ≤ s))))) = m) := ⟨_, hide rfl⟩
 have HM5t : Hid (m5 = true → (0 ≤ q ∧ q ≤ 1200) ∧ (1 ≤ nn ∧ nn ≤ 400) ∧ 0 ≤ s) := hide (fun h => by
  rw [← HM5.out] at h
  simp only [Bool.and_eq_true, decide_eq_true_eq] at h
  obtain ⟨h1, h2, h3, h4, h5⟩ := h
  exact ⟨⟨h1, h2⟩, ⟨h3, h4⟩, h5⟩)
 have HMR : Hid (∀ b, mayR t q nn b = (m5 && decide (t * 2 ≤ b * 2 ^ q.toNat))) := hide (fun b => by
  unfold mayR
  have e : decide (0 ≤ t) = decide (0 ≤ t.sign) := (decide_eq_decide.2 (sign_nn t)).symm
  rw [← HM5.out, ← HS.out, e]
  simp only [Bool.and_assoc])
 go_enter Try.func7, Try.ntmps7
 have HB : Hid (Below w.heap.size w w) := hide (Below.refl _ _)
 go_upto_region 0 with (fail)
 refine F2.regionS [.al 24 #[.bool n0, .slice A0 l0 c0], .o] [Fact.any, Fact.eq ?ca6_] [3, 6] [3, 6] (by kernel_rfl) ?soa ?sopa (by kernel_rfl) ?sta ?fina
 case soa => exact fun x hx => by cases hx
 case sopa => exact List.Pairwise.nil
 case sta =>
  refine F2.Steps.consA rfl ⟨NoU.two nB nS, ?_⟩ ?_
  ·
   intro vz wz hBz K hK
   replace hK := hK.out
   apply Kept.mk
   simp only [F2.Wp, F2.fc, actv, fill, Act.put, sZ, sS, fC, fN, tA, cS, cZ] at hK ⊢
   go_simp
   exact hK
  refine F2.Steps.consO rfl ?_ ?_
  ·
   intro vz wz hBz hDz hTz K hK
   have HW := hBz.ext
   replace hK := hK.out
   apply Kept.mk
   simp only [F2.Wp, F2.fc, actv, fill, Act.put, sZ, sS, fC, fN, tA, cS, cZ] at hK ⊢
   go_simp
   refine hK _ wz (Below.refl _ _) (Fact.eq_mk ?_)
   with_reducible rfl
  exact F2.Steps.nil
 intro va w1 hBz ⟨hOz, hAz, hNz, hSz⟩
 obtain ⟨g3, cs3, E3, hg3, bx3, hs3, hz3⟩ := hAz 0 _ _ (by decide) rfl
 have hzz := hz3 (F2.nost (by kernel_rfl))
 subst hzz
 have E6 : va 6 = _ := hOz 1 (by decide) rfl
 simp only [Act.put, actv, fill, fC, fN, tA, cS, cZ]
 simp only [(show va 3 = _ from E3), E6]
 clear E3 E6
 have hge3 : w.heap.size ≤ g3 := Nat.le_trans HB.out.size hg3
 replace h0 := h0.ext hBz.ext
 replace HL0 := hide (HL0.out.ext (hBz).ext)
 replace HB := hide (HB.out.trans (hBz.below (B := w.heap.size) HB.out.size zE))
 clear hOz hAz hNz hSz hs3 hz3 hBz
 go_upto_region 1 with (fail)
 refine F2.regionS [.o, .o] [Fact.eq ?cb14_, Fact.eq ?cb7_] [14, 7] [14, 7] (by kernel_rfl) ?sob ?sopb (by kernel_rfl) ?stb ?finb
 case sob => exact fun x hx => by cases hx
 case sopb => exact List.Pairwise.nil
 case stb =>
  refine F2.Steps.consO rfl ?_ ?_
  ·
   intro vz wz hBz hDz hTz K hK
   have HW := hBz.ext
   replace hK := hK.out
   apply Kept.mk
   simp only [F2.Wp, F2.fc, actv, fill, Act.put, sZ, sS, fC, fN, tA, cS, cZ] at hK ⊢
   go_simp
   refine Calls.mono (shown6_calls) ?_
   rintro e w2z ⟨hb2, uz, rfl, hf⟩
   refine hK _ w2z hb2 (Fact.cast (hf) ?_)
   with_reducible rfl
  refine F2.Steps.consO rfl ?_ ?_
  ·
   intro vz wz hBz hDz hTz K hK
   have E14 : vz 14 = _ := hDz 0 (by kernel_rfl) rfl
   have HW := hBz.ext
   replace hK := hK.out
   apply Kept.mk
   simp only [F2.Wp, F2.fc, actv, fill, Act.put, sZ, sS, fC, fN, tA, cS, cZ] at hK ⊢
   simp only [E14] at hK ⊢
   go_simp
   refine hK _ wz (Below.refl _ _) (Fact.eq_mk ?_)
   with_reducible rfl
  exact F2.Steps.nil
 intro vb w2 hBz ⟨hOz, hAz, hNz, hSz⟩
 have E14 : vb 14 = _ := hOz 0 (by decide) rfl
 have E7 : vb 7 = _ := hOz 1 (by decide) rfl
 simp only [Act.put, actv, fill, fC, fN, tA, cS, cZ]
 simp only [E14, E7]
 clear E14 E7
 replace h0 := h0.ext hBz.ext
 replace bx3 := hBz.blk bx3 zN
 replace HL0 := hide (HL0.out.ext (hBz).ext)
 replace HB := hide (HB.out.trans (hBz.below (B := w.heap.size) HB.out.size zE))
 clear hOz hAz hNz hSz hBz
 go_upto_region 2 with (fail)
 refine F2.regionS [.o, .o, .so (g3) 24 #[.bool n0, .slice A0 l0 c0]] [Fact.eq ?cc15_, Fact.s_z ?kc16_a ?zc16_a, Fact.s_z ?kcs3_a ?zcs3_a] [15, 16] [15, 16, 0] (by kernel_rfl) ?soc ?sopc (by kernel_rfl) ?stc ?finc
 case soc => exact List.forall_mem_cons.2 ⟨⟨bx3, NoU.two nB nS⟩, fun x hx => by cases hx⟩
 case sopc => exact List.Pairwise.cons (fun y hy => by cases hy) (List.Pairwise.nil)
 case stc =>
  refine F2.Steps.consO rfl ?_ ?_
  ·
   intro vz wz hBz hDz hTz K hK
   have HW := hBz.ext
   have bx3z := hTz 2 _ _ _ _ rfl rfl (by kernel_rfl)
   obtain ⟨zl0, zl1, -⟩ := bx3z.two
   replace hK := hK.out
   apply Kept.mk
   simp only [F2.Wp, F2.fc, actv, fill, Act.put, sZ, sS, fC, fN, tA, cS, cZ] at hK ⊢
   go_simp
   refine hK _ wz (Below.refl _ _) (Fact.eq_mk ?_)
   with_reducible rfl
  refine F2.Steps.consO rfl ?_ ?_
  ·
   intro vz wz hBz hDz hTz K hK
   have E15 : vz 15 = _ := hDz 0 (by kernel_rfl) rfl
   have HW := hBz.ext
   replace hK := hK.out
   apply Kept.mk
   simp only [F2.Wp, F2.fc, actv, fill, Act.put, sZ, sS, fC, fN, tA, cS, cZ] at hK ⊢
   simp only [E15] at hK ⊢
   go_simp
   refine Calls.mono (Ht.out ▸ cut6_calls   20 (HL0.out.ext HW) (by omega)) ?_
   rintro e w2z ⟨hb2, uz, rfl, hf⟩
   refine hK _ w2z hb2 (Fact.cast (hf) ?_)
   with_reducible rfl
  refine F2.Steps.consT rfl ?_ ?_
  ·
   intro vz wz hBz hDz hbz K hK
   obtain ⟨zc0, zc1, zc2, zc3⟩ := hbz.two
   obtain ⟨n16a_, A16a_, l16a_, c16a_, E16, q16a⟩ : SV_z _ _ wz (vz 16) := hDz 1 (by kernel_rfl) rfl
   have HW := hBz.ext
   replace hK := hK.out
   apply Kept.mk
   simp only [F2.Wp, F2.fc, actv, fill, Act.put, sZ, sS, fC, fN, tA, cS, cZ] at hK ⊢
   simp only [E16] at hK ⊢
   go_simp
   refine hK _ ((Far.set _ _ 0 _).trans (Far.set _ _ 1 _)) ⟨_, blk_two hbz, NoU.two nB nS, Fact.cast (Fact.s_z_mk q16a) ?_⟩
   with_reducible rfl
  exact F2.Steps.nil
 intro vc w3 hBz ⟨hOz, hAz, hNz, hSz⟩
 have E15 : vc 15 = _ := hOz 0 (by decide) rfl
 obtain ⟨n16a_, A16a_, l16a_, c16a_, E16, q16a⟩ : SV_z _ _ w3 (vc 16) := hOz 1 (by decide) rfl
 obtain ⟨cs3, bx3n, hs3⟩ := hSz 2 _ _ _ (by decide) rfl
 obtain ⟨n3sca_, A3sca_, l3sca_, c3sca_, E3sc, q3sca⟩ : SV_z _ _ w3 (.agg cs3) := hs3
 injection E3sc with E3sc
 subst E3sc
 simp only [Act.put, actv, fill, fC, fN, tA, cS, cZ]
 simp only [E15, E16]
 clear E15 E16
 replace h0 := h0.ext hBz.ext
 replace HL0 := hide (HL0.out.ext (hBz).ext)
 replace HB := hide (HB.out.trans (hBz.below (B := w.heap.size) HB.out.size (zA hge3 zE)))
 clear bx3
 have bx3 := bx3n
 clear bx3n
 clear hOz hAz hNz hSz hBz
 go_upto_region 3 with (fail)
 obtain ⟨bx3c0, bx3c1, -⟩ := bx3.two
 go_wp2_with fail
 refine Calls.mono (Hn.out ▸ few_calls) ?_
 rintro e w4 ⟨hb2, uz4, rfl, hf⟩
 clear bx3c0 bx3c1
 obtain rfl := Fact.eq_of hf
 have HW := ext_of hb2
 replace h0 := h0.ext HW
 replace q3sca := q3sca.ext HW
 replace bx3 := bx3.below hb2 bx3.lt
 replace HL0 := hide (HL0.out.ext ((low_of hb2)).ext)
 replace HB := hide (HB.out.trans (hb2.mono HB.out.size))
 clear HW hb2
 go_upto_region 4 with (fail)
 clear HL0 Ht Hn
 refine F2.regionS [.o] [Fact.eq ?ce8_] [8] [8] (by kernel_rfl) ?soe ?sope (by kernel_rfl) ?ste ?fine
 case soe => exact fun x hx => by cases hx
 case sope => exact List.Pairwise.nil
 case ste =>
  refine F2.Steps.consO rfl ?_ ?_
  ·
   intro vz wz hBz hDz hTz K hK
   have HW := hBz.ext
   replace hK := hK.out
   apply Kept.mk
   simp only [F2.Wp, F2.fc, actv, fill, Act.put, sZ, sS, fC, fN, tA, cS, cZ] at hK ⊢
   go_simp
   refine hK _ wz (Below.refl _ _) (Fact.eq_mk ?_)
   with_reducible rfl
  exact F2.Steps.nil
 intro ve w5 hBz ⟨hOz, hAz, hNz, hSz⟩
 have E8 : ve 8 = _ := hOz 0 (by decide) rfl
 simp only [Act.put, actv, fill, fC, fN, tA, cS, cZ]
 simp only [E8]
 clear E8
 replace q3sca := q3sca.ext hBz.ext
 replace h0 := h0.ext hBz.ext
 replace bx3 := hBz.blk bx3 zN
 replace HB := hide (HB.out.trans (hBz.below (B := w.heap.size) HB.out.size zE))
 clear hOz hAz hNz hSz hBz
 go_wp2_with fail
 go_loopw [8] (fun iv wr6 => ∃ i : Nat, i ≤ 5 ∧ iv = .int .i64 i ∧ Low [] w5 wr6 ∧ True) (fun iv _ => 5 + 0 - (intOf iv).toNat)
 case atStart => exact ⟨0, by omega, rfl, Low.refl _ _, trivial⟩
 case round =>
  obtain ⟨i, hi, rfl, HL6, hmore⟩ := hrel
  replace q3sca := q3sca.ext HL6.ext
  replace h0 := h0.ext HL6.ext
  replace bx3 := HL6.blk bx3 zN
  replace HB := hide (HB.out.trans (HL6.below (B := w.heap.size) HB.out.size zE))
  have hszHL6 := HL6.size
  by_cases hlti : i < 5
  ·
   have hlti' : (i : Int) < 5 := by omega
   obtain ⟨bd, Hbd⟩ : ∃ b, Hid (mostK i = b) := ⟨_, hide rfl⟩
   have hbd : 1 ≤ bd ∧ bd ≤ 4 := by rw [← Hbd.out]; unfold mostK; split <;> omega
   go_upto_block 2 with (fail)
   go_cut [9] (fun c wx => wr = wx ∧ c = .int .i64 bd)
   case first =>
    obtain rfl | rfl | rfl | rfl | rfl : i = 0 ∨ i = 1 ∨ i = 2 ∨ i = 3 ∨ i = 4 := by omega
    ·
     obtain rfl : bd = 2 := by rw [← Hbd.out]; rfl
     go_wp2_with fail
     go_meet
     exact ⟨rfl, rfl⟩
    ·
     obtain rfl : bd = 1 := by rw [← Hbd.out]; rfl
     go_wp2_with fail
     go_meet
     exact ⟨rfl, rfl⟩
    ·
     obtain rfl : bd = 1 := by rw [← Hbd.out]; rfl
     go_wp2_with fail
     go_meet
     exact ⟨rfl, rfl⟩
    ·
     obtain rfl : bd = 4 := by rw [← Hbd.out]; rfl
     go_wp2_with fail
     go_meet
     exact ⟨rfl, rfl⟩
    ·
     obtain rfl : bd = 4 := by rw [← Hbd.out]; rfl
     go_wp2_with fail
     go_meet
     exact ⟨rfl, rfl⟩
   case rest =>
    obtain ⟨rfl, rfl⟩ := hcut
    obtain ⟨mm, HM⟩ : ∃ m, Hid (mayR t q nn bd = m) := ⟨_, hide rfl⟩
    go_upto_region 15 with (fail)
    have HC := Low.refl [] wr
    go_cut [10] (fun c wx => Low [] wr wx ∧ c = .bool m5)
    case first =>
     by_cases g0 : 0 ≤ q
     ·
      by_cases g1 : q ≤ 1200
      ·
       by_cases g2 : 1 ≤ nn
       ·
        by_cases g3 : nn ≤ 400
        ·
         obtain ⟨bx3c0, bx3c1, -⟩ := bx3.two
         go_wp2_with fail
         refine Calls.mono (HS.out ▸ v_sign q3sca (by omega)) ?_
         rintro e w7 ⟨hb2, uz7, rfl, hf⟩
         clear bx3c0 bx3c1
         obtain rfl := Fact.eq_of hf
         have HW := ext_of hb2
         replace h0 := h0.ext HW
         replace q3sca := q3sca.ext HW
         replace bx3 := bx3.below hb2 bx3.lt
         replace HL6 := HL6.step (low_of hb2) zE
         replace HC := HC.step (low_of hb2) zE
         replace HB := hide (HB.out.trans (hb2.mono HB.out.size))
         clear HW hb2
         by_cases g4 : 0 ≤ s
         ·
          go_wp2_with fail
          go_meet
          exact ⟨HC, congrArg Value.bool (by rw [← HM5.out]; simp only [decide_eq_true (show 0 ≤ q by omega), decide_eq_true (show q ≤ 1200 by omega), decide_eq_true (show 1 ≤ nn by omega), decide_eq_true (show nn ≤ 400 by omega), decide_eq_true (show 0 ≤ s by omega), Bool.true_and, Bool.false_and])⟩
         ·
          go_wp2_with fail
          go_meet
          exact ⟨HC, congrArg Value.bool (by rw [← HM5.out]; simp only [decide_eq_true (show 0 ≤ q by omega), decide_eq_true (show q ≤ 1200 by omega), decide_eq_true (show 1 ≤ nn by omega), decide_eq_true (show nn ≤ 400 by omega), decide_eq_false (show ¬ (0 ≤ s) by omega), Bool.true_and, Bool.false_and])⟩
        ·
         go_wp2_with fail
         go_meet
         exact ⟨HC, congrArg Value.bool (by rw [← HM5.out]; simp only [decide_eq_true (show 0 ≤ q by omega), decide_eq_true (show q ≤ 1200 by omega), decide_eq_true (show 1 ≤ nn by omega), decide_eq_false (show ¬ (nn ≤ 400) by omega), Bool.true_and, Bool.false_and])⟩
       ·
        go_wp2_with fail
        go_meet
        exact ⟨HC, congrArg Value.bool (by rw [← HM5.out]; simp only [decide_eq_true (show 0 ≤ q by omega), decide_eq_true (show q ≤ 1200 by omega), decide_eq_false (show ¬ (1 ≤ nn) by omega), Bool.true_and, Bool.false_and])⟩
      ·
       go_wp2_with fail
       go_meet
       exact ⟨HC, congrArg Value.bool (by rw [← HM5.out]; simp only [decide_eq_true (show 0 ≤ q by omega), decide_eq_false (show ¬ (q ≤ 1200) by omega), Bool.true_and, Bool.false_and])⟩
     ·
      go_wp2_with fail
      go_meet
      exact ⟨HC, congrArg Value.bool (by rw [← HM5.out]; simp only [decide_eq_false (show ¬ (0 ≤ q) by omega), Bool.true_and, Bool.false_and])⟩
    case rest =>
     clear HC
     skip
     obtain ⟨HC, rfl⟩ := hcut
     replace q3sca := q3sca.ext HC.ext
     replace h0 := h0.ext HC.ext
     replace bx3 := HC.blk bx3 zN
     replace HL6 := HL6.step HC zE
     replace HB := hide (HB.out.trans (HC.below (B := w.heap.size) HB.out.size zE))
     clear HC
     go_upto_if 50 with (fail)
     have HC := Low.refl [] wc
     go_cut [10] (fun c wx => Low [] wc wx ∧ c = .bool mm)
     case first =>
      cases m5 with
      | false =>
       go_wp2_with fail
       go_meet
       exact ⟨HC, congrArg Value.bool (by rw [← HM.out, HMR.out]; rfl)⟩
      | true =>
       obtain ⟨hq, hn, hs⟩ := HM5t.out rfl
       obtain ⟨c, HCm⟩ : ∃ c, Hid (cmpZ (t * 2 ^ (1 : Int).toNat) (bd * 2 ^ q.toNat) = c) := ⟨_, hide rfl⟩
       obtain ⟨bx3c0, bx3c1, -⟩ := bx3.two
       go_wp2_with fail
       refine Calls.mono (v_shl q3sca (by omega) (by omega) (by omega)) ?_
       rintro e w8 ⟨hb2, uz8, rfl, hf⟩
       clear bx3c0 bx3c1
       obtain ⟨n52_, A52_, l52_, c52_, rfl, q52⟩ : IntV 0 _ _ w8 uz8 := hf
       have HW := ext_of hb2
       replace h0 := h0.ext HW
       replace q3sca := q3sca.ext HW
       replace bx3 := bx3.below hb2 bx3.lt
       replace HL6 := HL6.step (low_of hb2) zE
       replace HC := HC.step (low_of hb2) zE
       replace HB := hide (HB.out.trans (hb2.mono HB.out.size))
       clear HW hb2
       obtain ⟨bx3c0, bx3c1, -⟩ := bx3.two
       go_wp2_with fail
       refine Calls.mono (v_of  (by omega) (by omega)) ?_
       rintro e w9 ⟨hb2, uz9, rfl, hf⟩
       clear bx3c0 bx3c1
       obtain ⟨n54_, A54_, l54_, c54_, rfl, q54⟩ : IntV 0 _ _ w9 uz9 := hf
       have HW := ext_of hb2
       replace h0 := h0.ext HW
       replace q3sca := q3sca.ext HW
       replace q52 := q52.ext HW
       replace bx3 := bx3.below hb2 bx3.lt
       replace HL6 := HL6.step (low_of hb2) zE
       replace HC := HC.step (low_of hb2) zE
       replace HB := hide (HB.out.trans (hb2.mono HB.out.size))
       clear HW hb2
       obtain ⟨bx3c0, bx3c1, -⟩ := bx3.two
       go_wp2_with fail
       refine Calls.mono (v_shl q54.q (by omega) (by omega) (by omega)) ?_
       rintro e w10 ⟨hb2, uz10, rfl, hf⟩
       clear bx3c0 bx3c1
       obtain ⟨n56_, A56_, l56_, c56_, rfl, q56⟩ : IntV 0 _ _ w10 uz10 := hf
       have HW := ext_of hb2
       replace h0 := h0.ext HW
       replace q3sca := q3sca.ext HW
       replace q52 := q52.ext HW
       replace q54 := q54.ext HW
       replace bx3 := bx3.below hb2 bx3.lt
       replace HL6 := HL6.step (low_of hb2) zE
       replace HC := HC.step (low_of hb2) zE
       replace HB := hide (HB.out.trans (hb2.mono HB.out.size))
       clear HW hb2
       obtain ⟨bx3c0, bx3c1, -⟩ := bx3.two
       go_wp2_with fail
       refine Calls.mono (HCm.out ▸ v_cmp q52.q q56.q (by omega) (by omega)) ?_
       rintro e w11 ⟨hb2, uz11, rfl, hf⟩
       clear bx3c0 bx3c1
       obtain rfl := Fact.eq_of hf
       have HW := ext_of hb2
       replace h0 := h0.ext HW
       replace q3sca := q3sca.ext HW
       replace q52 := q52.ext HW
       replace q54 := q54.ext HW
       replace q56 := q56.ext HW
       replace bx3 := bx3.below hb2 bx3.lt
       replace HL6 := HL6.step (low_of hb2) zE
       replace HC := HC.step (low_of hb2) zE
       replace HB := hide (HB.out.trans (hb2.mono HB.out.size))
       clear HW hb2
       go_wp2_with fail
       go_meet
       exact ⟨HC, congrArg Value.bool (by rw [← HM.out, HMR.out, ← HCm.out, Bool.true_and]; exact decide_eq_decide.2 (cmpZ_le _ _))⟩
     case rest =>
      clear HC
      skip
      obtain ⟨HC, rfl⟩ := hcut
      replace q3sca := q3sca.ext HC.ext
      replace h0 := h0.ext HC.ext
      replace bx3 := HC.blk bx3 zN
      replace HL6 := HL6.step HC zE
      replace HB := hide (HB.out.trans (HC.below (B := w.heap.size) HB.out.size zE))
      clear HC
      cases mm with
      | false =>
       have hno : ¬ mayR t q nn (mostK i) = true := by rw [Hbd.out, HM.out]; decide
       have HRA : Hid ((if mayR t q nn (mostK i) = true then sumLo i t q nn.toNat else 0) = 0) := hide (if_neg hno)
       have HRB : Hid ((if mayR t q nn (mostK i) = true then sumHi i t q nn.toNat else 0) = 0) := hide (if_neg hno)
       have HRC : Hid ((if mayR t q nn (mostK i) = true then (0 : Int) else 1) = 1) := hide (if_neg hno)
       clear hno
       go_upto_region 18 with (fail)
       refine F2.regionS [.o, .o, .o, .o, .o, .o, .o, .o, .o, .al 24 #[.bool false, .slice none 0 0], .al 24 #[.bool false, .slice none 0 0], .st 9, .st 10, .o] [Fact.eq ?cl60_, Fact.eq ?cl61_, Fact.eq ?cl62_, Fact.eq ?cl63_, Fact.t3 (Fact.z ?kl64_p ?zl64_p) (Fact.z ?kl64_q ?zl64_q) (Fact.eq ?cl64_r), Fact.t3 (Fact.z ?kl59_p ?zl59_p) (Fact.z ?kl59_q ?zl59_q) (Fact.eq ?cl59_r), Fact.z ?kl65_ ?zl65_, Fact.z ?kl66_ ?zl66_, Fact.eq ?cl67_, Fact.any, Fact.any, Fact.z ?kls11_ ?zls11_, Fact.z ?kls12_ ?zls12_, Fact.eq ?cl13_] [60, 61, 62, 63, 64, 59, 65, 66, 67, 11, 12, 13] [60, 61, 62, 63, 64, 59, 65, 66, 67, 11, 12, 0, 0, 13] (by kernel_rfl) ?sol ?sopl (by kernel_rfl) ?stl ?finl
       case sol => exact fun x hx => by cases hx
       case sopl => exact List.Pairwise.nil
       case stl =>
        refine F2.Steps.consO rfl ?_ ?_
        ·
         intro vz wz hBz hDz hTz K hK
         have HW := hBz.ext
         replace hK := hK.out
         apply Kept.mk
         simp only [F2.Wp, F2.fc, actv, fill, Act.put, sZ, sS, fC, fN, tA, cS, cZ] at hK ⊢
         go_simp
         refine hK _ wz (Below.refl _ _) (Fact.eq_mk ?_)
         with_reducible rfl
        refine F2.Steps.consO rfl ?_ ?_
        ·
         intro vz wz hBz hDz hTz K hK
         have HW := hBz.ext
         have bx3z := hBz.blk bx3 zN
         obtain ⟨zl0, zl1, -⟩ := bx3z.two
         replace hK := hK.out
         apply Kept.mk
         simp only [F2.Wp, F2.fc, actv, fill, Act.put, sZ, sS, fC, fN, tA, cS, cZ] at hK ⊢
         go_simp
         refine hK _ wz (Below.refl _ _) (Fact.eq_mk ?_)
         with_reducible rfl
        refine F2.Steps.consO rfl ?_ ?_
        ·
         intro vz wz hBz hDz hTz K hK
         have HW := hBz.ext
         replace hK := hK.out
         apply Kept.mk
         simp only [F2.Wp, F2.fc, actv, fill, Act.put, sZ, sS, fC, fN, tA, cS, cZ] at hK ⊢
         go_simp
         refine hK _ wz (Below.refl _ _) (Fact.eq_mk ?_)
         with_reducible rfl
        refine F2.Steps.consO rfl ?_ ?_
        ·
         intro vz wz hBz hDz hTz K hK
         have HW := hBz.ext
         replace hK := hK.out
         apply Kept.mk
         simp only [F2.Wp, F2.fc, actv, fill, Act.put, sZ, sS, fC, fN, tA, cS, cZ] at hK ⊢
         go_simp
         refine hK _ wz (Below.refl _ _) (Fact.eq_mk ?_)
         with_reducible rfl
        refine F2.Steps.consO rfl ?_ ?_
        ·
         intro vz wz hBz hDz hTz K hK
         have E60 : vz 60 = _ := hDz 0 (by kernel_rfl) rfl
         have E61 : vz 61 = _ := hDz 1 (by kernel_rfl) rfl
         have E62 : vz 62 = _ := hDz 2 (by kernel_rfl) rfl
         have E63 : vz 63 = _ := hDz 3 (by kernel_rfl) rfl
         have HW := hBz.ext
         replace hK := hK.out
         apply Kept.mk
         simp only [F2.Wp, F2.fc, actv, fill, Act.put, sZ, sS, fC, fN, tA, cS, cZ] at hK ⊢
         simp only [E60, E61, E62, E63] at hK ⊢
         go_simp
         refine Calls.mono (sum_named i hlti (q3sca.ext HW) (by omega) HRA HRB HRC) ?_
         rintro e w2z ⟨hb2, uz, rfl, hf⟩
         refine hK _ w2z hb2 (Fact.cast (hf) ?_)
         with_reducible rfl
        refine F2.Steps.consO rfl ?_ ?_
        ·
         intro vz wz hBz hDz hTz K hK
         obtain ⟨x64p_, x64q_, x64r_, E64, h64p, h64q, h64r⟩ : TV3 _ _ _ wz (vz 64) := hDz 4 (by kernel_rfl) rfl
         obtain rfl := Fact.eq_of h64r
         have HW := hBz.ext
         replace hK := hK.out
         apply Kept.mk
         simp only [F2.Wp, F2.fc, actv, fill, Act.put, sZ, sS, fC, fN, tA, cS, cZ] at hK ⊢
         simp only [E64] at hK ⊢
         go_simp
         refine hK _ wz (Below.refl _ _) (Fact.cast (Fact.t3_mk h64p h64q (Fact.eq_self _ _)) ?_)
         with_reducible rfl
        refine F2.Steps.consO rfl ?_ ?_
        ·
         intro vz wz hBz hDz hTz K hK
         obtain ⟨x59p_, x59q_, x59r_, E59, h59p, h59q, h59r⟩ : TV3 _ _ _ wz (vz 59) := hDz 5 (by kernel_rfl) rfl
         obtain rfl := Fact.eq_of h59r
         have HW := hBz.ext
         replace hK := hK.out
         apply Kept.mk
         simp only [F2.Wp, F2.fc, actv, fill, Act.put, sZ, sS, fC, fN, tA, cS, cZ] at hK ⊢
         simp only [E59] at hK ⊢
         go_simp
         refine hK _ wz (Below.refl _ _) (Fact.cast (h59p) ?_)
         with_reducible rfl
        refine F2.Steps.consO rfl ?_ ?_
        ·
         intro vz wz hBz hDz hTz K hK
         obtain ⟨x59p_, x59q_, x59r_, E59, h59p, h59q, h59r⟩ : TV3 _ _ _ wz (vz 59) := hDz 5 (by kernel_rfl) rfl
         obtain rfl := Fact.eq_of h59r
         have HW := hBz.ext
         replace hK := hK.out
         apply Kept.mk
         simp only [F2.Wp, F2.fc, actv, fill, Act.put, sZ, sS, fC, fN, tA, cS, cZ] at hK ⊢
         simp only [E59] at hK ⊢
         go_simp
         refine hK _ wz (Below.refl _ _) (Fact.cast (h59q) ?_)
         with_reducible rfl
        refine F2.Steps.consO rfl ?_ ?_
        ·
         intro vz wz hBz hDz hTz K hK
         obtain ⟨x59p_, x59q_, x59r_, E59, h59p, h59q, h59r⟩ : TV3 _ _ _ wz (vz 59) := hDz 5 (by kernel_rfl) rfl
         obtain rfl := Fact.eq_of h59r
         have HW := hBz.ext
         replace hK := hK.out
         apply Kept.mk
         simp only [F2.Wp, F2.fc, actv, fill, Act.put, sZ, sS, fC, fN, tA, cS, cZ] at hK ⊢
         simp only [E59] at hK ⊢
         go_simp
         refine hK _ wz (Below.refl _ _) (Fact.eq_mk ?_)
         with_reducible rfl
        refine F2.Steps.consA rfl ⟨NoU.two nB nS, ?_⟩ ?_
        ·
         intro vz wz hBz K hK
         replace hK := hK.out
         apply Kept.mk
         simp only [F2.Wp, F2.fc, actv, fill, Act.put, sZ, sS, fC, fN, tA, cS, cZ] at hK ⊢
         go_simp
         exact hK
        refine F2.Steps.consA rfl ⟨NoU.two nB nS, ?_⟩ ?_
        ·
         intro vz wz hBz K hK
         replace hK := hK.out
         apply Kept.mk
         simp only [F2.Wp, F2.fc, actv, fill, Act.put, sZ, sS, fC, fN, tA, cS, cZ] at hK ⊢
         go_simp
         exact hK
        refine F2.Steps.consS rfl rfl ?_ ?_
        ·
         intro vz wz gz hBz hDz E11' hgz hbz K hK
         obtain ⟨zc0, zc1, zc2, zc3⟩ := hbz.two
         obtain ⟨n65_, A65_, l65_, c65_, E65, q65⟩ : IntV 0 _ _ wz (vz 65) := hDz 6 (by kernel_rfl) rfl
         have E11 : vz 11 = .pointer (some ⟨gz, 0, none⟩) := E11'
         have HW := hBz.ext
         replace hK := hK.out
         apply Kept.mk
         simp only [F2.Wp, F2.fc, actv, fill, Act.put, sZ, sS, fC, fN, tA, cS, cZ] at hK ⊢
         simp only [E11, E65] at hK ⊢
         go_simp
         refine hK _ ((Far.set _ gz 0 _).trans (Far.set _ gz 1 _)) ⟨_, blk_two hbz, NoU.two nB nS, Fact.cast (Fact.z_mk q65) ?_⟩
         with_reducible rfl
        refine F2.Steps.consS rfl rfl ?_ ?_
        ·
         intro vz wz gz hBz hDz E12' hgz hbz K hK
         obtain ⟨zc0, zc1, zc2, zc3⟩ := hbz.two
         obtain ⟨n66_, A66_, l66_, c66_, E66, q66⟩ : IntV 0 _ _ wz (vz 66) := hDz 7 (by kernel_rfl) rfl
         have E12 : vz 12 = .pointer (some ⟨gz, 0, none⟩) := E12'
         have HW := hBz.ext
         replace hK := hK.out
         apply Kept.mk
         simp only [F2.Wp, F2.fc, actv, fill, Act.put, sZ, sS, fC, fN, tA, cS, cZ] at hK ⊢
         simp only [E12, E66] at hK ⊢
         go_simp
         refine hK _ ((Far.set _ gz 0 _).trans (Far.set _ gz 1 _)) ⟨_, blk_two hbz, NoU.two nB nS, Fact.cast (Fact.z_mk q66) ?_⟩
         with_reducible rfl
        refine F2.Steps.consO rfl ?_ ?_
        ·
         intro vz wz hBz hDz hTz K hK
         have E67 : vz 67 = _ := hDz 8 (by kernel_rfl) rfl
         have HW := hBz.ext
         replace hK := hK.out
         apply Kept.mk
         simp only [F2.Wp, F2.fc, actv, fill, Act.put, sZ, sS, fC, fN, tA, cS, cZ] at hK ⊢
         simp only [E67] at hK ⊢
         go_simp
         refine hK _ wz (Below.refl _ _) (Fact.eq_mk ?_)
         with_reducible rfl
        exact F2.Steps.nil
       intro vl w12 hBz ⟨hOz, hAz, hNz, hSz⟩
       have E60 : vl 60 = _ := hOz 0 (by decide) rfl
       have E61 : vl 61 = _ := hOz 1 (by decide) rfl
       have E62 : vl 62 = _ := hOz 2 (by decide) rfl
       have E63 : vl 63 = _ := hOz 3 (by decide) rfl
       obtain ⟨x64p_, x64q_, x64r_, E64, h64p, h64q, h64r⟩ : TV3 _ _ _ w12 (vl 64) := hOz 4 (by decide) rfl
       obtain rfl := Fact.eq_of h64r
       obtain ⟨x59p_, x59q_, x59r_, E59, h59p, h59q, h59r⟩ : TV3 _ _ _ w12 (vl 59) := hOz 5 (by decide) rfl
       obtain rfl := Fact.eq_of h59r
       obtain ⟨n65_, A65_, l65_, c65_, E65, q65⟩ : IntV 0 _ _ w12 (vl 65) := hOz 6 (by decide) rfl
       obtain ⟨n66_, A66_, l66_, c66_, E66, q66⟩ : IntV 0 _ _ w12 (vl 66) := hOz 7 (by decide) rfl
       have E67 : vl 67 = _ := hOz 8 (by decide) rfl
       obtain ⟨g11, cs11, E11, hg11, bx11, hs11, hz11⟩ := hAz 9 _ _ (by decide) rfl
       obtain ⟨g12, cs12, E12, hg12, bx12, hs12, hz12⟩ := hAz 10 _ _ (by decide) rfl
       obtain ⟨n11sl_, A11sl_, l11sl_, c11sl_, E11sl, q11sl⟩ : IntV 0 _ _ w12 (.agg cs11) := hs11 11 (by decide) rfl
       injection E11sl with E11sl
       subst E11sl
       obtain ⟨n12sl_, A12sl_, l12sl_, c12sl_, E12sl, q12sl⟩ : IntV 0 _ _ w12 (.agg cs12) := hs12 12 (by decide) rfl
       injection E12sl with E12sl
       subst E12sl
       have E13 : vl 13 = _ := hOz 13 (by decide) rfl
       have hne11_12 : Hid (¬ g11 = g12) := hide (fun h => hNz 9 10 _ _ _ _ (by decide) (by decide) (by decide) rfl rfl (by rw [E11, E12, h]))
       simp only [Act.put, actv, fill, fC, fN, tA, cS, cZ]
       simp only [E60, E61, E62, E63, E64, E59, E65, E66, E67, (show vl 11 = _ from E11), (show vl 12 = _ from E12), E13]
       clear E60 E61 E62 E63 E64 E59 E65 E66 E67 E11 E12 E13
       have hge11 : w.heap.size ≤ g11 := Nat.le_trans HB.out.size hg11
       have hne11_3 := hide (Nat.ne_of_gt (Nat.lt_of_lt_of_le bx3.lt (show wc.heap.size ≤ g11 from hg11)))
       have hge12 : w.heap.size ≤ g12 := Nat.le_trans HB.out.size hg12
       have hne12_3 := hide (Nat.ne_of_gt (Nat.lt_of_lt_of_le bx3.lt (show wc.heap.size ≤ g12 from hg12)))
       replace q3sca := q3sca.ext hBz.ext
       replace h0 := h0.ext hBz.ext
       replace bx3 := hBz.blk bx3 zN
       replace HL6 := HL6.step hBz zE
       replace HB := hide (HB.out.trans (hBz.below (B := w.heap.size) HB.out.size zE))
       clear hOz hAz hNz hSz hs11 hz11 hs12 hz12 hBz
       obtain ⟨bx3c0, bx3c1, -⟩ := bx3.two
       obtain ⟨bx11c0, bx11c1, -⟩ := bx11.two
       obtain ⟨bx12c0, bx12c1, -⟩ := bx12.two
       go_wp2_with fail
       refine Calls.mono (HS0.out ▸ v_sign q11sl.q (by omega)) ?_
       rintro e w13 ⟨hb2, uz13, rfl, hf⟩
       clear bx3c0 bx3c1 bx11c0 bx11c1 bx12c0 bx12c1
       obtain rfl := Fact.eq_of hf
       have HW := ext_of hb2
       replace h0 := h0.ext HW
       replace q11sl := q11sl.ext HW
       replace q12sl := q12sl.ext HW
       replace q3sca := q3sca.ext HW
       replace bx3 := bx3.below hb2 bx3.lt
       replace bx11 := bx11.below hb2 bx11.lt
       replace bx12 := bx12.below hb2 bx12.lt
       replace HL6 := HL6.step (low_of hb2) zE
       replace HB := hide (HB.out.trans (hb2.mono HB.out.size))
       clear HW hb2
       obtain ⟨bx3c0, bx3c1, -⟩ := bx3.two
       obtain ⟨bx11c0, bx11c1, -⟩ := bx11.two
       obtain ⟨bx12c0, bx12c1, -⟩ := bx12.two
       go_wp2_with fail
       refine Calls.mono (HS0.out ▸ v_sign q12sl.q (by omega)) ?_
       rintro e w14 ⟨hb2, uz14, rfl, hf⟩
       clear bx3c0 bx3c1 bx11c0 bx11c1 bx12c0 bx12c1
       obtain rfl := Fact.eq_of hf
       have HW := ext_of hb2
       replace h0 := h0.ext HW
       replace q11sl := q11sl.ext HW
       replace q12sl := q12sl.ext HW
       replace q3sca := q3sca.ext HW
       replace bx3 := bx3.below hb2 bx3.lt
       replace bx11 := bx11.below hb2 bx11.lt
       replace bx12 := bx12.below hb2 bx12.lt
       replace HL6 := HL6.step (low_of hb2) zE
       replace HB := hide (HB.out.trans (hb2.mono HB.out.size))
       clear HW hb2
       go_wp2_with fail
       go_roundw
       case rel => exact ⟨i + 1, by omega, by go_num, HL6, trivial⟩
       case measure => simp [intOf]; omega
      | true =>
       have hyes : mayR t q nn (mostK i) = true := by rw [Hbd.out, HM.out]
       have HRA : Hid ((if mayR t q nn (mostK i) = true then sumLo i t q nn.toNat else 0) = sumLo i t q nn.toNat) := hide (if_pos hyes)
       have HRB : Hid ((if mayR t q nn (mostK i) = true then sumHi i t q nn.toNat else 0) = sumHi i t q nn.toNat) := hide (if_pos hyes)
       have HRC : Hid ((if mayR t q nn (mostK i) = true then (0 : Int) else 1) = 0) := hide (if_pos hyes)
       clear hyes
       go_upto_region 18 with (fail)
       refine F2.regionS [.o, .o, .o, .o, .o, .o, .o, .o, .o, .al 24 #[.bool false, .slice none 0 0], .al 24 #[.bool false, .slice none 0 0], .st 9, .st 10, .o] [Fact.eq ?co60_, Fact.eq ?co61_, Fact.eq ?co62_, Fact.eq ?co63_, Fact.t3 (Fact.z ?ko64_p ?zo64_p) (Fact.z ?ko64_q ?zo64_q) (Fact.eq ?co64_r), Fact.t3 (Fact.z ?ko59_p ?zo59_p) (Fact.z ?ko59_q ?zo59_q) (Fact.eq ?co59_r), Fact.z ?ko65_ ?zo65_, Fact.z ?ko66_ ?zo66_, Fact.eq ?co67_, Fact.any, Fact.any, Fact.z ?kos11_ ?zos11_, Fact.z ?kos12_ ?zos12_, Fact.eq ?co13_] [60, 61, 62, 63, 64, 59, 65, 66, 67, 11, 12, 13] [60, 61, 62, 63, 64, 59, 65, 66, 67, 11, 12, 0, 0, 13] (by kernel_rfl) ?soo ?sopo (by kernel_rfl) ?sto ?fino
       case soo => exact fun x hx => by cases hx
       case sopo => exact List.Pairwise.nil
       case sto =>
        refine F2.Steps.consO rfl ?_ ?_
        ·
         intro vz wz hBz hDz hTz K hK
         have HW := hBz.ext
         replace hK := hK.out
         apply Kept.mk
         simp only [F2.Wp, F2.fc, actv, fill, Act.put, sZ, sS, fC, fN, tA, cS, cZ] at hK ⊢
         go_simp
         refine hK _ wz (Below.refl _ _) (Fact.eq_mk ?_)
         with_reducible rfl
        refine F2.Steps.consO rfl ?_ ?_
        ·
         intro vz wz hBz hDz hTz K hK
         have HW := hBz.ext
         have bx3z := hBz.blk bx3 zN
         obtain ⟨zl0, zl1, -⟩ := bx3z.two
         replace hK := hK.out
         apply Kept.mk
         simp only [F2.Wp, F2.fc, actv, fill, Act.put, sZ, sS, fC, fN, tA, cS, cZ] at hK ⊢
         go_simp
         refine hK _ wz (Below.refl _ _) (Fact.eq_mk ?_)
         with_reducible rfl
        refine F2.Steps.consO rfl ?_ ?_
        ·
         intro vz wz hBz hDz hTz K hK
         have HW := hBz.ext
         replace hK := hK.out
         apply Kept.mk
         simp only [F2.Wp, F2.fc, actv, fill, Act.put, sZ, sS, fC, fN, tA, cS, cZ] at hK ⊢
         go_simp
         refine hK _ wz (Below.refl _ _) (Fact.eq_mk ?_)
         with_reducible rfl
        refine F2.Steps.consO rfl ?_ ?_
        ·
         intro vz wz hBz hDz hTz K hK
         have HW := hBz.ext
         replace hK := hK.out
         apply Kept.mk
         simp only [F2.Wp, F2.fc, actv, fill, Act.put, sZ, sS, fC, fN, tA, cS, cZ] at hK ⊢
         go_simp
         refine hK _ wz (Below.refl _ _) (Fact.eq_mk ?_)
         with_reducible rfl
        refine F2.Steps.consO rfl ?_ ?_
        ·
         intro vz wz hBz hDz hTz K hK
         have E60 : vz 60 = _ := hDz 0 (by kernel_rfl) rfl
         have E61 : vz 61 = _ := hDz 1 (by kernel_rfl) rfl
         have E62 : vz 62 = _ := hDz 2 (by kernel_rfl) rfl
         have E63 : vz 63 = _ := hDz 3 (by kernel_rfl) rfl
         have HW := hBz.ext
         replace hK := hK.out
         apply Kept.mk
         simp only [F2.Wp, F2.fc, actv, fill, Act.put, sZ, sS, fC, fN, tA, cS, cZ] at hK ⊢
         simp only [E60, E61, E62, E63] at hK ⊢
         go_simp
         refine Calls.mono (sum_named i hlti (q3sca.ext HW) (by omega) HRA HRB HRC) ?_
         rintro e w2z ⟨hb2, uz, rfl, hf⟩
         refine hK _ w2z hb2 (Fact.cast (hf) ?_)
         with_reducible rfl
        refine F2.Steps.consO rfl ?_ ?_
        ·
         intro vz wz hBz hDz hTz K hK
         obtain ⟨x64p_, x64q_, x64r_, E64, h64p, h64q, h64r⟩ : TV3 _ _ _ wz (vz 64) := hDz 4 (by kernel_rfl) rfl
         obtain rfl := Fact.eq_of h64r
         have HW := hBz.ext
         replace hK := hK.out
         apply Kept.mk
         simp only [F2.Wp, F2.fc, actv, fill, Act.put, sZ, sS, fC, fN, tA, cS, cZ] at hK ⊢
         simp only [E64] at hK ⊢
         go_simp
         refine hK _ wz (Below.refl _ _) (Fact.cast (Fact.t3_mk h64p h64q (Fact.eq_self _ _)) ?_)
         with_reducible rfl
        refine F2.Steps.consO rfl ?_ ?_
        ·
         intro vz wz hBz hDz hTz K hK
         obtain ⟨x59p_, x59q_, x59r_, E59, h59p, h59q, h59r⟩ : TV3 _ _ _ wz (vz 59) := hDz 5 (by kernel_rfl) rfl
         obtain rfl := Fact.eq_of h59r
         have HW := hBz.ext
         replace hK := hK.out
         apply Kept.mk
         simp only [F2.Wp, F2.fc, actv, fill, Act.put, sZ, sS, fC, fN, tA, cS, cZ] at hK ⊢
         simp only [E59] at hK ⊢
         go_simp
         refine hK _ wz (Below.refl _ _) (Fact.cast (h59p) ?_)
         with_reducible rfl
        refine F2.Steps.consO rfl ?_ ?_
        ·
         intro vz wz hBz hDz hTz K hK
         obtain ⟨x59p_, x59q_, x59r_, E59, h59p, h59q, h59r⟩ : TV3 _ _ _ wz (vz 59) := hDz 5 (by kernel_rfl) rfl
         obtain rfl := Fact.eq_of h59r
         have HW := hBz.ext
         replace hK := hK.out
         apply Kept.mk
         simp only [F2.Wp, F2.fc, actv, fill, Act.put, sZ, sS, fC, fN, tA, cS, cZ] at hK ⊢
         simp only [E59] at hK ⊢
         go_simp
         refine hK _ wz (Below.refl _ _) (Fact.cast (h59q) ?_)
         with_reducible rfl
        refine F2.Steps.consO rfl ?_ ?_
        ·
         intro vz wz hBz hDz hTz K hK
         obtain ⟨x59p_, x59q_, x59r_, E59, h59p, h59q, h59r⟩ : TV3 _ _ _ wz (vz 59) := hDz 5 (by kernel_rfl) rfl
         obtain rfl := Fact.eq_of h59r
         have HW := hBz.ext
         replace hK := hK.out
         apply Kept.mk
         simp only [F2.Wp, F2.fc, actv, fill, Act.put, sZ, sS, fC, fN, tA, cS, cZ] at hK ⊢
         simp only [E59] at hK ⊢
         go_simp
         refine hK _ wz (Below.refl _ _) (Fact.eq_mk ?_)
         with_reducible rfl
        refine F2.Steps.consA rfl ⟨NoU.two nB nS, ?_⟩ ?_
        ·
         intro vz wz hBz K hK
         replace hK := hK.out
         apply Kept.mk
         simp only [F2.Wp, F2.fc, actv, fill, Act.put, sZ, sS, fC, fN, tA, cS, cZ] at hK ⊢
         go_simp
         exact hK
        refine F2.Steps.consA rfl ⟨NoU.two nB nS, ?_⟩ ?_
        ·
         intro vz wz hBz K hK
         replace hK := hK.out
         apply Kept.mk
         simp only [F2.Wp, F2.fc, actv, fill, Act.put, sZ, sS, fC, fN, tA, cS, cZ] at hK ⊢
         go_simp
         exact hK
        refine F2.Steps.consS rfl rfl ?_ ?_
        ·
         intro vz wz gz hBz hDz E11' hgz hbz K hK
         obtain ⟨zc0, zc1, zc2, zc3⟩ := hbz.two
         obtain ⟨n65_, A65_, l65_, c65_, E65, q65⟩ : IntV 0 _ _ wz (vz 65) := hDz 6 (by kernel_rfl) rfl
         have E11 : vz 11 = .pointer (some ⟨gz, 0, none⟩) := E11'
         have HW := hBz.ext
         replace hK := hK.out
         apply Kept.mk
         simp only [F2.Wp, F2.fc, actv, fill, Act.put, sZ, sS, fC, fN, tA, cS, cZ] at hK ⊢
         simp only [E11, E65] at hK ⊢
         go_simp
         refine hK _ ((Far.set _ gz 0 _).trans (Far.set _ gz 1 _)) ⟨_, blk_two hbz, NoU.two nB nS, Fact.cast (Fact.z_mk q65) ?_⟩
         with_reducible rfl
        refine F2.Steps.consS rfl rfl ?_ ?_
        ·
         intro vz wz gz hBz hDz E12' hgz hbz K hK
         obtain ⟨zc0, zc1, zc2, zc3⟩ := hbz.two
         obtain ⟨n66_, A66_, l66_, c66_, E66, q66⟩ : IntV 0 _ _ wz (vz 66) := hDz 7 (by kernel_rfl) rfl
         have E12 : vz 12 = .pointer (some ⟨gz, 0, none⟩) := E12'
         have HW := hBz.ext
         replace hK := hK.out
         apply Kept.mk
         simp only [F2.Wp, F2.fc, actv, fill, Act.put, sZ, sS, fC, fN, tA, cS, cZ] at hK ⊢
         simp only [E12, E66] at hK ⊢
         go_simp
         refine hK _ ((Far.set _ gz 0 _).trans (Far.set _ gz 1 _)) ⟨_, blk_two hbz, NoU.two nB nS, Fact.cast (Fact.z_mk q66) ?_⟩
         with_reducible rfl
        refine F2.Steps.consO rfl ?_ ?_
        ·
         intro vz wz hBz hDz hTz K hK
         have E67 : vz 67 = _ := hDz 8 (by kernel_rfl) rfl
         have HW := hBz.ext
         replace hK := hK.out
         apply Kept.mk
         simp only [F2.Wp, F2.fc, actv, fill, Act.put, sZ, sS, fC, fN, tA, cS, cZ] at hK ⊢
         simp only [E67] at hK ⊢
         go_simp
         refine hK _ wz (Below.refl _ _) (Fact.eq_mk ?_)
         with_reducible rfl
        exact F2.Steps.nil
       intro vo w15 hBz ⟨hOz, hAz, hNz, hSz⟩
       have E60 : vo 60 = _ := hOz 0 (by decide) rfl
       have E61 : vo 61 = _ := hOz 1 (by decide) rfl
       have E62 : vo 62 = _ := hOz 2 (by decide) rfl
       have E63 : vo 63 = _ := hOz 3 (by decide) rfl
       obtain ⟨x64p_, x64q_, x64r_, E64, h64p, h64q, h64r⟩ : TV3 _ _ _ w15 (vo 64) := hOz 4 (by decide) rfl
       obtain rfl := Fact.eq_of h64r
       obtain ⟨x59p_, x59q_, x59r_, E59, h59p, h59q, h59r⟩ : TV3 _ _ _ w15 (vo 59) := hOz 5 (by decide) rfl
       obtain rfl := Fact.eq_of h59r
       obtain ⟨n65_, A65_, l65_, c65_, E65, q65⟩ : IntV 0 _ _ w15 (vo 65) := hOz 6 (by decide) rfl
       obtain ⟨n66_, A66_, l66_, c66_, E66, q66⟩ : IntV 0 _ _ w15 (vo 66) := hOz 7 (by decide) rfl
       have E67 : vo 67 = _ := hOz 8 (by decide) rfl
       obtain ⟨g11, cs11, E11, hg11, bx11, hs11, hz11⟩ := hAz 9 _ _ (by decide) rfl
       obtain ⟨g12, cs12, E12, hg12, bx12, hs12, hz12⟩ := hAz 10 _ _ (by decide) rfl
       obtain ⟨n11so_, A11so_, l11so_, c11so_, E11so, q11so⟩ : IntV 0 _ _ w15 (.agg cs11) := hs11 11 (by decide) rfl
       injection E11so with E11so
       subst E11so
       obtain ⟨n12so_, A12so_, l12so_, c12so_, E12so, q12so⟩ : IntV 0 _ _ w15 (.agg cs12) := hs12 12 (by decide) rfl
       injection E12so with E12so
       subst E12so
       have E13 : vo 13 = _ := hOz 13 (by decide) rfl
       have hne11_12 : Hid (¬ g11 = g12) := hide (fun h => hNz 9 10 _ _ _ _ (by decide) (by decide) (by decide) rfl rfl (by rw [E11, E12, h]))
       simp only [Act.put, actv, fill, fC, fN, tA, cS, cZ]
       simp only [E60, E61, E62, E63, E64, E59, E65, E66, E67, (show vo 11 = _ from E11), (show vo 12 = _ from E12), E13]
       clear E60 E61 E62 E63 E64 E59 E65 E66 E67 E11 E12 E13
       have hge11 : w.heap.size ≤ g11 := Nat.le_trans HB.out.size hg11
       have hne11_3 := hide (Nat.ne_of_gt (Nat.lt_of_lt_of_le bx3.lt (show wc.heap.size ≤ g11 from hg11)))
       have hge12 : w.heap.size ≤ g12 := Nat.le_trans HB.out.size hg12
       have hne12_3 := hide (Nat.ne_of_gt (Nat.lt_of_lt_of_le bx3.lt (show wc.heap.size ≤ g12 from hg12)))
       replace q3sca := q3sca.ext hBz.ext
       replace h0 := h0.ext hBz.ext
       replace bx3 := hBz.blk bx3 zN
       replace HL6 := HL6.step hBz zE
       replace HB := hide (HB.out.trans (hBz.below (B := w.heap.size) HB.out.size zE))
       clear hOz hAz hNz hSz hs11 hz11 hs12 hz12 hBz
       go_wp2_with fail
       go_roundw
       case rel => exact ⟨i + 1, by omega, by go_num, HL6, trivial⟩
       case measure => simp [intOf]; omega
  ·
   have hgei : ¬ (i : Int) < 5 := by omega
   have hie := hide (show i = 5 by omega)
   clear hlti
   go_upto_region 21 with (fail)
   clear hgei
   refine F2.regionS [.o, .o] [Fact.eq ?cp90_, Fact.eq ?cp6_] [90, 6] [90, 6] (by kernel_rfl) ?sop ?sopp (by kernel_rfl) ?stp ?finp
   case sop => exact fun x hx => by cases hx
   case sopp => exact List.Pairwise.nil
   case stp =>
    refine F2.Steps.consO rfl ?_ ?_
    ·
     intro vz wz hBz hDz hTz K hK
     have HW := hBz.ext
     replace hK := hK.out
     apply Kept.mk
     simp only [F2.Wp, F2.fc, actv, fill, Act.put, sZ, sS, fC, fN, tA, cS, cZ] at hK ⊢
     go_simp
     refine hK _ wz (Below.refl _ _) (Fact.eq_mk ?_)
     with_reducible rfl
    refine F2.Steps.consO rfl ?_ ?_
    ·
     intro vz wz hBz hDz hTz K hK
     have E90 : vz 90 = _ := hDz 0 (by kernel_rfl) rfl
     have HW := hBz.ext
     replace hK := hK.out
     apply Kept.mk
     simp only [F2.Wp, F2.fc, actv, fill, Act.put, sZ, sS, fC, fN, tA, cS, cZ] at hK ⊢
     simp only [E90] at hK ⊢
     go_simp
     refine hK _ wz (Below.refl _ _) (Fact.eq_mk ?_)
     with_reducible rfl
    exact F2.Steps.nil
   intro vp w16 hBz ⟨hOz, hAz, hNz, hSz⟩
   have E90 : vp 90 = _ := hOz 0 (by decide) rfl
   have E6 : vp 6 = _ := hOz 1 (by decide) rfl
   simp only [Act.put, actv, fill, fC, fN, tA, cS, cZ]
   simp only [E90, E6]
   clear E90 E6
   replace q3sca := q3sca.ext hBz.ext
   replace h0 := h0.ext hBz.ext
   replace bx3 := hBz.blk bx3 zN
   replace HB := hide (HB.out.trans (hBz.below (B := w.heap.size) HB.out.size zE))
   clear hOz hAz hNz hSz hBz
   go_wp2_with fail
   go_ret
   exact ⟨HB.out, VF.mk (Fact.eq_self _ _)⟩

theorem walk (w : World) (n0 : Bool) (A0 : Option Addr) (l0 c0 : Nat) (s0 : ∃ L, Nums w 0 (.slice A0 l0 c0) L) (a1 : Int) (w1 : (Lit.int .i64 a1).wf = true) (a2 : Int) (w2 : (Lit.int .i64 a2).wf = true) :
    Calls Try.prog 7 #[.agg #[.bool n0, .slice A0 l0 c0], .int .i64 a1, .int .i64 a2] w fun e w' => e = .returned (.bool true) ∧ Below w.heap.size w w' := by
  obtain ⟨L, h⟩ := s0
  refine (walkN (k0 := L.length) (L0 := L) (x0 := ival n0 (val W L)) ⟨L, h, Nat.le_refl _, rfl⟩ h ).mono ?_
  rintro e w' ⟨hb, u, rfl, hu⟩
  exact ⟨by rw [Fact.eq_of hu], hb⟩

/-! ### the row -/
set_option maxRecDepth 100000 in
theorem lifted (os : Os) (started : os.Started) (H : Type) (enc : TypeId × Value → H) :
    ReturnsInHanded {} Try.checked os 7 .any (Rows.rowsErrorsSpec.pre6 enc Try.prog Try.f7 Rows.rowsErrorsRow.domain false) (Rows.rowsErrorsSpec.post enc Try.prog Try.f7 false true false false) := by
  refine returnsInHanded_of_change (C := Try.checked) own started (by kernel_rfl) Try.func7
    (ChangeSpec.witness6 (enc := enc) (C := Try.checked) false ⟨#[], #[.agg #[.bool false, .slice none 0 0], .int .i64 0, .int .i64 0], []⟩ 8 (by kernel_rfl) (by kernel_rfl) (by kernel_rfl) (by kernel_rfl)) ?_
  intro W base args ds gs before hval0 hW hcnd _
  have hval : ∀ (j : Nat) t v, Try.f7.params[j]? = some t → args[j]? = some v → Value.okWide Try.prog W .any base t v := hval0
  have hW' := hW
  obtain ⟨p, q, hA0, hV, rfl, hfz, hnd⟩ := hW
  have hA : DataW.TrodAll enc Try.prog W 0 (fun _ => true) true Try.f7.params.toList args.toList ds p := hA0
  rw [Try.params7] at hA hval
  obtain ⟨v0, vs0, d0, ds0, p0, q0, hargs, rfl, rfl, h0, r0⟩ := trodAll_cons hA
  obtain ⟨v1, vs1, d1, ds1, p1, q1, rfl, rfl, rfl, h1, r1⟩ := trodAll_cons r0
  obtain ⟨v2, vs2, d2, ds2, p2, q2, rfl, rfl, rfl, h2, r2⟩ := trodAll_cons r1
  obtain ⟨rfl, rfl, rfl⟩ := trodAll_nil r2
  obtain rfl : args = #[v0, v1, v2] := by cases args; simp_all
  obtain ⟨rfl, rfl⟩ := trodVars_none hV
  have k0 := h0
  have lt0 : ∀ x ∈ p0, x.block < W.heap.size := by obtain ⟨m, hm⟩ := k0; exact DataW.trod_lt m _ _ _ hm
  obtain ⟨n0, A0, l0, c0, rfl, s0⟩ := open_int_s (hval 0 24 v0 rfl rfl) h0
  obtain ⟨a1, rfl, rfl, rfl, w1⟩ := open_int Try.underlying3 (hval 1 3 v1 rfl rfl) h1
  obtain ⟨a2, rfl, rfl, rfl, w2⟩ := open_int Try.underlying3 (hval 2 3 v2 rfl rfl) h2
  clear hA0 hval0
  refine (walk W n0 A0 l0 c0 s0 a1 w1 a2 w2).mono fun e W' ⟨he, bel⟩ => ?_
  subst he
  exact ⟨_, rfl, _, _, _, [], _, [], hW', trodAll_mk1 (shut_bool Try.underlying4 _), (trodAll_cons_mk (Below.trod laidOut (by kernel_rfl) (of_decide_eq_true (by kernel_rfl)) k0 bel lt0) (trodAll_cons_mk (shut_int Try.underlying3 w1) (trodAll_cons_mk (shut_int Try.underlying3 w2) trodAll_mk0))), rfl, bel.frame _, fun h => by cases h⟩

theorem over : Rows.rowsErrorsRow.holds Try.pinned (OpenSpec.ofChange Rows.rowsErrorsSpec) :=
  OpenClaim.holds_of_wide 7 Try.f7 rfl rfl rfl rfl rfl rfl rfl ⟨rfl, rfl, rfl, rfl, rfl⟩ rfl rfl rfl rfl rfl (by kernel_rfl) Try.func7 (by kernel_rfl)
    (of_decide_eq_true (by kernel_rfl)) (by unfold Func.isWrapper; first | (rw [if_pos (by decide +kernel)]; kernel_rfl) | (rw [if_neg (by decide +kernel)]; exact ⟨rfl, rfl⟩))
    (fun os started H enc _ => lifted os started H enc)

theorem proved : Rows.RowsErrorsSaid := over
#print axioms proved
end Go.Proofs.Ytnephejalollfaa.rowsErrors
