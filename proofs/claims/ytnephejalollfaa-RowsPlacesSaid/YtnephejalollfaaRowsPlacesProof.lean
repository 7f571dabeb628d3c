/-
  hairlinelaw06.RowsPlaces returns true for any integer, any places, any more of them, any terms. Conditions: none.
-/
import Derived.Test.YtnephejalollfaaRows
import Derived.Test.YtnephejalollfaaRs
import Derived.Test.YtnephejalollfaaRq
import Derived.Test.YtnephejalollfaaOp5
namespace Go.Proofs.Ytnephejalollfaa.rowsPlaces
open Go.ChangeShapes Go.WideShapes Go.ChangeAt Go.RowKit
open L (val)
set_option linter.unusedVariables false
set_option linter.unusedSimpArgs false

theorem own : ownKnob Try.prog.godebug = none := by kernel_rfl
theorem laidOut : laidOutB Try.prog = true := by kernel_rfl
theorem F2.wp_yes {P : Program} {ops : Array Oper} {Q : Exit → Act → World → Prop} {o : Oper} {a : Act} {w : World} {K : Act → World → Prop} (hg : Region.wanted o (yielded ops a.tmps) = true) (h : Oper.wp P o a w K Q) : F2.Wp P ops Q o a w K := by
  unfold F2.Wp
  rw [if_pos hg]
  exact h
set_option maxHeartbeats 4000000 in
set_option maxRecDepth 100000 in
theorem walkN {w : World} {L0 : List Nat} {k0 : Nat} {n0 : Bool} {A0 : Option Addr} {l0 c0 : Nat} {x0 : Int} {q m n : Int} (h0 : Q w k0 n0 A0 l0 c0 x0) (hL0 : Nums w 0 (.slice A0 l0 c0) L0) :
    Calls Try.prog 6 #[.agg #[.bool n0, .slice A0 l0 c0], .int .i64 q, .int .i64 m, .int .i64 n] w fun e w' => Below w.heap.size w w' ∧ VF (Fact.eq (.bool true)) e w' := by
 have HL0 := hide hL0
 clear hL0
 obtain ⟨qa, Hqa⟩ : ∃ z, bits .and .i64 q 63 = z := ⟨_, rfl⟩
 have hqa : 0 ≤ qa ∧ qa ≤ 63 := by have := bits_range6 q 63 (by omega); rw [← Hqa]; exact this
 have Hqa := hide Hqa
 obtain ⟨ma, Hma⟩ : ∃ z, bits .and .i64 m 127 = z := ⟨_, rfl⟩
 have hma : 0 ≤ ma ∧ ma ≤ 127 := by have := bits_range6 m 127 (by omega); rw [← Hma]; exact this
 have Hma := hide Hma
 obtain ⟨na, Hna⟩ : ∃ z, bits .and .i64 n 31 = z := ⟨_, rfl⟩
 have hna : 0 ≤ na ∧ na ≤ 31 := by have := bits_range6 n 31 (by omega); rw [← Hna]; exact this
 have Hna := hide Hna
 obtain ⟨t, Ht⟩ : ∃ t, Hid (partZ n0 L0 (1 + qa) = t) := ⟨_, hide rfl⟩
 have Hlim := hide (part_lim (n := n0) (L := L0) (q := 1 + qa) (by omega))
 rw [Ht.out] at Hlim
 have Hlim2 : Hid (0 ≤ t * 2 ^ ma.toNat ∧ t * 2 ^ ma.toNat * 2 ≤ 1 * 2 ^ (1 + qa + ma).toNat) := hide ⟨Int.mul_nonneg Hlim.out.1 (Int.le_of_lt (two_pow_pos ma)), more_le (by omega) (by omega) Hlim.out.1 Hlim.out.2⟩
 have HAa : Hid (∀ kd, kd < 5 → Hid ((if mayR t (1 + qa) (1 + na) (mostK kd) = true then sumLo kd t (1 + qa) (1 + na).toNat else 0) = sumLo kd t (1 + qa) (1 + na).toNat)) := hide (fun kd _ => hide (if_pos (may_part (by omega) (by omega) Hlim.out.1 Hlim.out.2)))
 have HBa : Hid (∀ kd, kd < 5 → Hid ((if mayR t (1 + qa) (1 + na) (mostK kd) = true then sumHi kd t (1 + qa) (1 + na).toNat else 0) = sumHi kd t (1 + qa) (1 + na).toNat)) := hide (fun kd _ => hide (if_pos (may_part (by omega) (by omega) Hlim.out.1 Hlim.out.2)))
 have HCa : Hid (∀ kd, kd < 5 → Hid ((if mayR t (1 + qa) (1 + na) (mostK kd) = true then (0 : Int) else 1) = 0)) := hide (fun kd _ => hide (if_pos (may_part (by omega) (by omega) Hlim.out.1 Hlim.out.2)))
 have HAb : Hid (∀ kd, kd < 5 → Hid ((if mayR (t * 2 ^ ma.toNat) (1 + qa + ma) (1 + na) (mostK kd) = true then sumLo kd (t * 2 ^ ma.toNat) (1 + qa + ma) (1 + na).toNat else 0) = sumLo kd (t * 2 ^ ma.toNat) (1 + qa + ma) (1 + na).toNat)) := hide (fun kd _ => hide (if_pos (may_part (by omega) (by omega) Hlim2.out.1 Hlim2.out.2)))
 have HBb : Hid (∀ kd, kd < 5 → Hid ((if mayR (t * 2 ^ ma.toNat) (1 + qa + ma) (1 + na) (mostK kd) = true then sumHi kd (t * 2 ^ ma.toNat) (1 + qa + ma) (1 + na).toNat else 0) = sumHi kd (t * 2 ^ ma.toNat) (1 + qa + ma) (1 + na).toNat)) := hide (fun kd _ => hide (if_pos (may_part (by omega) (by omega) Hlim2.out.1 Hlim2.out.2)))
 have HCb : Hid (∀ kd, kd < 5 → Hid ((if mayR (t * 2 ^ ma.toNat) (1 + qa + ma) (1 + na) (mostK kd) = true then (0 : Int) else 1) = 0)) := hide (fun kd _ => hide (if_pos (may_part (by omega) (by omega) Hlim2.out.1 Hlim2.out.2)))
 have HO : Hid (∀ kd, kd < 5 → ∀ n : Nat, sumLo kd t (1 + qa) n * 2 ^ ma.toNat ≤ sumHi kd (t * 2 ^ ma.toNat) (1 + qa + ma) n ∧ sumLo kd (t * 2 ^ ma.toNat) (1 + qa + ma) n ≤ sumHi kd t (1 + qa) n * 2 ^ ma.toNat) := hide (fun kd h n => sums_places (by omega) (by omega) Hlim.out.1 Hlim.out.2 h n)
 go_enter Try.func6, Try.ntmps6
 have HB : Hid (Below w.heap.size w w) := hide (Below.refl _ _)
 go_upto_region 0 with (fail)
 refine F2.regionS [.al 24 #[.bool n0, .slice A0 l0 c0], .o] [Fact.any, Fact.eq ?ca8_] [4, 8] [4, 8] (by kernel_rfl) ?soa ?sopa (by kernel_rfl) ?sta ?fina
 case soa => exact fun x hx => by cases hx
 case sopa => exact List.Pairwise.nil
 case sta =>
  refine F2.Steps.consA rfl ⟨NoU.two nB nS, ?_⟩ ?_
  ·
   intro vz wz hBz K hK
   replace hK := hK.out
   apply Kept.mk
   simp only [F2.Wp, F2.fc, actv, fill, Act.put, sZ, sS, fC, fN, tA, cS, cZ] at hK ⊢
   go_simp
   exact hK
  refine F2.Steps.consO rfl ?_ ?_
  ·
   intro vz wz hBz hDz hTz K hK
   have HW := hBz.ext
   replace hK := hK.out
   apply Kept.mk
   simp only [F2.Wp, F2.fc, actv, fill, Act.put, sZ, sS, fC, fN, tA, cS, cZ] at hK ⊢
   go_simp
   refine hK _ wz (Below.refl _ _) (Fact.eq_mk ?_)
   with_reducible rfl
  exact F2.Steps.nil
 intro va w1 hBz ⟨hOz, hAz, hNz, hSz⟩
 obtain ⟨g4, cs4, E4, hg4, bx4, hs4, hz4⟩ := hAz 0 _ _ (by decide) rfl
 have hzz := hz4 (F2.nost (by kernel_rfl))
 subst hzz
 have E8 : va 8 = _ := hOz 1 (by decide) rfl
 simp only [Act.put, actv, fill, fC, fN, tA, cS, cZ]
 simp only [(show va 4 = _ from E4), E8]
 clear E4 E8
 have hge4 : w.heap.size ≤ g4 := Nat.le_trans HB.out.size hg4
 replace h0 := h0.ext hBz.ext
 replace HL0 := hide (HL0.out.ext (hBz).ext)
 replace HB := hide (HB.out.trans (hBz.below (B := w.heap.size) HB.out.size zE))
 clear hOz hAz hNz hSz hs4 hz4 hBz
 go_upto_region 1 with (fail)
 refine F2.regionS [.o, .o] [Fact.eq ?cb17_, Fact.eq ?cb9_] [17, 9] [17, 9] (by kernel_rfl) ?sob ?sopb (by kernel_rfl) ?stb ?finb
 case sob => exact fun x hx => by cases hx
 case sopb => exact List.Pairwise.nil
 case stb =>
  refine F2.Steps.consO rfl ?_ ?_
  ·
   intro vz wz hBz hDz hTz K hK
   have HW := hBz.ext
   replace hK := hK.out
   apply Kept.mk
   simp only [F2.Wp, F2.fc, actv, fill, Act.put, sZ, sS, fC, fN, tA, cS, cZ] at hK ⊢
   go_simp
   refine Calls.mono (shown6_calls) ?_
   rintro e w2z ⟨hb2, uz, rfl, hf⟩
   refine hK _ w2z hb2 (Fact.cast (hf) ?_)
   with_reducible rfl
  refine F2.Steps.consO rfl ?_ ?_
  ·
   intro vz wz hBz hDz hTz K hK
   have E17 : vz 17 = _ := hDz 0 (by kernel_rfl) rfl
   have HW := hBz.ext
   replace hK := hK.out
   apply Kept.mk
   simp only [F2.Wp, F2.fc, actv, fill, Act.put, sZ, sS, fC, fN, tA, cS, cZ] at hK ⊢
   simp only [E17] at hK ⊢
   go_simp
   refine hK _ wz (Below.refl _ _) (Fact.eq_mk ?_)
   with_reducible rfl
  exact F2.Steps.nil
 intro vb w2 hBz ⟨hOz, hAz, hNz, hSz⟩
 have E17 : vb 17 = _ := hOz 0 (by decide) rfl
 have E9 : vb 9 = _ := hOz 1 (by decide) rfl
 simp only [Act.put, actv, fill, fC, fN, tA, cS, cZ]
 simp only [E17, E9]
 clear E17 E9
 replace h0 := h0.ext hBz.ext
 replace bx4 := hBz.blk bx4 zN
 replace HL0 := hide (HL0.out.ext (hBz).ext)
 replace HB := hide (HB.out.trans (hBz.below (B := w.heap.size) HB.out.size zE))
 clear hOz hAz hNz hSz hBz
 go_upto_region 2 with (fail)
 replace Hqa := Hqa.out
 go_upto_region 3 with (fail)
 replace Hqa := hide Hqa
 refine F2.regionS [.o, .o, .o, .so (g4) 24 #[.bool n0, .slice A0 l0 c0]] [Fact.eq ?cc21_, Fact.eq ?cc22_, Fact.z ?kc23_ ?zc23_, Fact.z ?kcs4_ ?zcs4_] [21, 22, 23] [21, 22, 23, 0] (by kernel_rfl) ?soc ?sopc (by kernel_rfl) ?stc ?finc
 case soc => exact List.forall_mem_cons.2 ⟨⟨bx4, NoU.two nB nS⟩, fun x hx => by cases hx⟩
 case sopc => exact List.Pairwise.cons (fun y hy => by cases hy) (List.Pairwise.nil)
 case stc =>
  refine F2.Steps.consO rfl ?_ ?_
  ·
   intro vz wz hBz hDz hTz K hK
   have HW := hBz.ext
   have bx4z := hTz 3 _ _ _ _ rfl rfl (by kernel_rfl)
   obtain ⟨zl0, zl1, -⟩ := bx4z.two
   replace hK := hK.out
   apply Kept.mk
   simp only [F2.Wp, F2.fc, actv, fill, Act.put, sZ, sS, fC, fN, tA, cS, cZ] at hK ⊢
   go_simp
   refine hK _ wz (Below.refl _ _) (Fact.eq_mk ?_)
   with_reducible rfl
  refine F2.Steps.consO rfl ?_ ?_
  ·
   intro vz wz hBz hDz hTz K hK
   have HW := hBz.ext
   replace hK := hK.out
   apply Kept.mk
   simp only [F2.Wp, F2.fc, actv, fill, Act.put, sZ, sS, fC, fN, tA, cS, cZ] at hK ⊢
   go_simp
   refine hK _ wz (Below.refl _ _) (Fact.eq_mk ?_)
   with_reducible rfl
  refine F2.Steps.consO rfl ?_ ?_
  ·
   intro vz wz hBz hDz hTz K hK
   have E21 : vz 21 = _ := hDz 0 (by kernel_rfl) rfl
   have E22 : vz 22 = _ := hDz 1 (by kernel_rfl) rfl
   have HW := hBz.ext
   replace hK := hK.out
   apply Kept.mk
   simp only [F2.Wp, F2.fc, actv, fill, Act.put, sZ, sS, fC, fN, tA, cS, cZ] at hK ⊢
   simp only [E21, E22] at hK ⊢
   go_simp
   refine Calls.mono (Ht.out ▸ part_calls (h0.ext HW)  (HL0.out.ext HW) (by omega) (by omega)) ?_
   rintro e w2z ⟨hb2, uz, rfl, hf⟩
   refine hK _ w2z hb2 (Fact.cast (hf) ?_)
   with_reducible rfl
  refine F2.Steps.consT rfl ?_ ?_
  ·
   intro vz wz hBz hDz hbz K hK
   obtain ⟨zc0, zc1, zc2, zc3⟩ := hbz.two
   obtain ⟨n23_, A23_, l23_, c23_, E23, q23⟩ : IntV 0 _ _ wz (vz 23) := hDz 2 (by kernel_rfl) rfl
   have HW := hBz.ext
   replace hK := hK.out
   apply Kept.mk
   simp only [F2.Wp, F2.fc, actv, fill, Act.put, sZ, sS, fC, fN, tA, cS, cZ] at hK ⊢
   simp only [E23] at hK ⊢
   go_simp
   refine hK _ ((Far.set _ _ 0 _).trans (Far.set _ _ 1 _)) ⟨_, blk_two hbz, NoU.two nB nS, Fact.cast (Fact.z_mk q23) ?_⟩
   with_reducible rfl
  exact F2.Steps.nil
 intro vc w3 hBz ⟨hOz, hAz, hNz, hSz⟩
 have E21 : vc 21 = _ := hOz 0 (by decide) rfl
 have E22 : vc 22 = _ := hOz 1 (by decide) rfl
 obtain ⟨n23_, A23_, l23_, c23_, E23, q23⟩ : IntV 0 _ _ w3 (vc 23) := hOz 2 (by decide) rfl
 obtain ⟨cs4, bx4n, hs4⟩ := hSz 3 _ _ _ (by decide) rfl
 obtain ⟨n4sc_, A4sc_, l4sc_, c4sc_, E4sc, q4sc⟩ : IntV 0 _ _ w3 (.agg cs4) := hs4
 injection E4sc with E4sc
 subst E4sc
 simp only [Act.put, actv, fill, fC, fN, tA, cS, cZ]
 simp only [E21, E22, E23]
 clear E21 E22 E23
 replace h0 := h0.ext hBz.ext
 replace HL0 := hide (HL0.out.ext (hBz).ext)
 replace HB := hide (HB.out.trans (hBz.below (B := w.heap.size) HB.out.size (zA hge4 zE)))
 clear bx4
 have bx4 := bx4n
 clear bx4n
 clear hOz hAz hNz hSz hBz
 go_upto_region 4 with (fail)
 replace Hma := Hma.out
 go_upto_region 5 with (fail)
 replace Hma := hide Hma
 replace Hna := Hna.out
 go_upto_region 6 with (fail)
 replace Hna := hide Hna
 clear HL0 Ht
 refine F2.regionS [.o] [Fact.eq ?cd10_] [10] [10] (by kernel_rfl) ?sod ?sopd (by kernel_rfl) ?std ?find
 case sod => exact fun x hx => by cases hx
 case sopd => exact List.Pairwise.nil
 case std =>
  refine F2.Steps.consO rfl ?_ ?_
  ·
   intro vz wz hBz hDz hTz K hK
   have HW := hBz.ext
   replace hK := hK.out
   apply Kept.mk
   simp only [F2.Wp, F2.fc, actv, fill, Act.put, sZ, sS, fC, fN, tA, cS, cZ] at hK ⊢
   go_simp
   refine hK _ wz (Below.refl _ _) (Fact.eq_mk ?_)
   with_reducible rfl
  exact F2.Steps.nil
 intro vd w4 hBz ⟨hOz, hAz, hNz, hSz⟩
 have E10 : vd 10 = _ := hOz 0 (by decide) rfl
 simp only [Act.put, actv, fill, fC, fN, tA, cS, cZ]
 simp only [E10]
 clear E10
 replace q4sc := q4sc.ext hBz.ext
 replace h0 := h0.ext hBz.ext
 replace bx4 := hBz.blk bx4 zN
 replace HB := hide (HB.out.trans (hBz.below (B := w.heap.size) HB.out.size zE))
 clear hOz hAz hNz hSz hBz
 go_wp2_with fail
 go_loopw [10] (fun iv wr5 => ∃ i : Nat, i ≤ 5 ∧ iv = .int .i64 i ∧ Low [] w4 wr5 ∧ True) (fun iv _ => 5 + 0 - (intOf iv).toNat)
 case atStart => exact ⟨0, by omega, rfl, Low.refl _ _, trivial⟩
 case round =>
  obtain ⟨i, hi, rfl, HL5, hmore⟩ := hrel
  replace q4sc := q4sc.ext HL5.ext
  replace h0 := h0.ext HL5.ext
  replace bx4 := HL5.blk bx4 zN
  replace HB := hide (HB.out.trans (HL5.below (B := w.heap.size) HB.out.size zE))
  have hszHL5 := HL5.size
  by_cases hlti : i < 5
  ·
   have hlti' : (i : Int) < 5 := by omega
   go_upto_region 9 with (fail)
   refine F2.regionS [.o, .o, .o, .o, .o, .o, .o, .o, .o, .al 24 #[.bool false, .slice none 0 0], .al 24 #[.bool false, .slice none 0 0], .st 9, .st 10, .o] [Fact.eq ?cf34_, Fact.eq ?cf35_, Fact.eq ?cf36_, Fact.eq ?cf37_, Fact.t3 (Fact.z ?kf38_p ?zf38_p) (Fact.z ?kf38_q ?zf38_q) (Fact.eq ?cf38_r), Fact.t3 (Fact.z ?kf33_p ?zf33_p) (Fact.z ?kf33_q ?zf33_q) (Fact.eq ?cf33_r), Fact.z ?kf39_ ?zf39_, Fact.z ?kf40_ ?zf40_, Fact.eq ?cf41_, Fact.any, Fact.any, Fact.z ?kfs11_ ?zfs11_, Fact.z ?kfs12_ ?zfs12_, Fact.eq ?cf13_] [34, 35, 36, 37, 38, 33, 39, 40, 41, 11, 12, 13] [34, 35, 36, 37, 38, 33, 39, 40, 41, 11, 12, 0, 0, 13] (by kernel_rfl) ?sof ?sopf (by kernel_rfl) ?stf ?finf
   case sof => exact fun x hx => by cases hx
   case sopf => exact List.Pairwise.nil
   case stf =>
    refine F2.Steps.consO rfl ?_ ?_
    ·
     intro vz wz hBz hDz hTz K hK
     have HW := hBz.ext
     replace hK := hK.out
     apply Kept.mk
     simp only [F2.Wp, F2.fc, actv, fill, Act.put, sZ, sS, fC, fN, tA, cS, cZ] at hK ⊢
     go_simp
     refine hK _ wz (Below.refl _ _) (Fact.eq_mk ?_)
     with_reducible rfl
    refine F2.Steps.consO rfl ?_ ?_
    ·
     intro vz wz hBz hDz hTz K hK
     have HW := hBz.ext
     have bx4z := hBz.blk bx4 zN
     obtain ⟨zl0, zl1, -⟩ := bx4z.two
     replace hK := hK.out
     apply Kept.mk
     simp only [F2.Wp, F2.fc, actv, fill, Act.put, sZ, sS, fC, fN, tA, cS, cZ] at hK ⊢
     go_simp
     refine hK _ wz (Below.refl _ _) (Fact.eq_mk ?_)
     with_reducible rfl
    refine F2.Steps.consO rfl ?_ ?_
    ·
     intro vz wz hBz hDz hTz K hK
     have HW := hBz.ext
     replace hK := hK.out
     apply Kept.mk
     simp only [F2.Wp, F2.fc, actv, fill, Act.put, sZ, sS, fC, fN, tA, cS, cZ] at hK ⊢
     go_simp
     refine hK _ wz (Below.refl _ _) (Fact.eq_mk ?_)
     with_reducible rfl
    refine F2.Steps.consO rfl ?_ ?_
    ·
     intro vz wz hBz hDz hTz K hK
     have HW := hBz.ext
     replace hK := hK.out
     apply Kept.mk
     simp only [F2.Wp, F2.fc, actv, fill, Act.put, sZ, sS, fC, fN, tA, cS, cZ] at hK ⊢
     go_simp
     refine hK _ wz (Below.refl _ _) (Fact.eq_mk ?_)
     with_reducible rfl
    refine F2.Steps.consO rfl ?_ ?_
    ·
     intro vz wz hBz hDz hTz K hK
     have E34 : vz 34 = _ := hDz 0 (by kernel_rfl) rfl
     have E35 : vz 35 = _ := hDz 1 (by kernel_rfl) rfl
     have E36 : vz 36 = _ := hDz 2 (by kernel_rfl) rfl
     have E37 : vz 37 = _ := hDz 3 (by kernel_rfl) rfl
     have HW := hBz.ext
     replace hK := hK.out
     apply Kept.mk
     simp only [F2.Wp, F2.fc, actv, fill, Act.put, sZ, sS, fC, fN, tA, cS, cZ] at hK ⊢
     simp only [E34, E35, E36, E37] at hK ⊢
     go_simp
     refine Calls.mono (sum_named i hlti (q4sc.ext HW).q (by omega) (HAa.out i hlti) (HBa.out i hlti) (HCa.out i hlti)) ?_
     rintro e w2z ⟨hb2, uz, rfl, hf⟩
     refine hK _ w2z hb2 (Fact.cast (hf) ?_)
     with_reducible rfl
    refine F2.Steps.consO rfl ?_ ?_
    ·
     intro vz wz hBz hDz hTz K hK
     obtain ⟨x38p_, x38q_, x38r_, E38, h38p, h38q, h38r⟩ : TV3 _ _ _ wz (vz 38) := hDz 4 (by kernel_rfl) rfl
     obtain rfl := Fact.eq_of h38r
     have HW := hBz.ext
     replace hK := hK.out
     apply Kept.mk
     simp only [F2.Wp, F2.fc, actv, fill, Act.put, sZ, sS, fC, fN, tA, cS, cZ] at hK ⊢
     simp only [E38] at hK ⊢
     go_simp
     refine hK _ wz (Below.refl _ _) (Fact.cast (Fact.t3_mk h38p h38q (Fact.eq_self _ _)) ?_)
     with_reducible rfl
    refine F2.Steps.consO rfl ?_ ?_
    ·
     intro vz wz hBz hDz hTz K hK
     obtain ⟨x33p_, x33q_, x33r_, E33, h33p, h33q, h33r⟩ : TV3 _ _ _ wz (vz 33) := hDz 5 (by kernel_rfl) rfl
     obtain rfl := Fact.eq_of h33r
     have HW := hBz.ext
     replace hK := hK.out
     apply Kept.mk
     simp only [F2.Wp, F2.fc, actv, fill, Act.put, sZ, sS, fC, fN, tA, cS, cZ] at hK ⊢
     simp only [E33] at hK ⊢
     go_simp
     refine hK _ wz (Below.refl _ _) (Fact.cast (h33p) ?_)
     with_reducible rfl
    refine F2.Steps.consO rfl ?_ ?_
    ·
     intro vz wz hBz hDz hTz K hK
     obtain ⟨x33p_, x33q_, x33r_, E33, h33p, h33q, h33r⟩ : TV3 _ _ _ wz (vz 33) := hDz 5 (by kernel_rfl) rfl
     obtain rfl := Fact.eq_of h33r
     have HW := hBz.ext
     replace hK := hK.out
     apply Kept.mk
     simp only [F2.Wp, F2.fc, actv, fill, Act.put, sZ, sS, fC, fN, tA, cS, cZ] at hK ⊢
     simp only [E33] at hK ⊢
     go_simp
     refine hK _ wz (Below.refl _ _) (Fact.cast (h33q) ?_)
     with_reducible rfl
    refine F2.Steps.consO rfl ?_ ?_
    ·
     intro vz wz hBz hDz hTz K hK
     obtain ⟨x33p_, x33q_, x33r_, E33, h33p, h33q, h33r⟩ : TV3 _ _ _ wz (vz 33) := hDz 5 (by kernel_rfl) rfl
     obtain rfl := Fact.eq_of h33r
     have HW := hBz.ext
     replace hK := hK.out
     apply Kept.mk
     simp only [F2.Wp, F2.fc, actv, fill, Act.put, sZ, sS, fC, fN, tA, cS, cZ] at hK ⊢
     simp only [E33] at hK ⊢
     go_simp
     refine hK _ wz (Below.refl _ _) (Fact.eq_mk ?_)
     with_reducible rfl
    refine F2.Steps.consA rfl ⟨NoU.two nB nS, ?_⟩ ?_
    ·
     intro vz wz hBz K hK
     replace hK := hK.out
     apply Kept.mk
     simp only [F2.Wp, F2.fc, actv, fill, Act.put, sZ, sS, fC, fN, tA, cS, cZ] at hK ⊢
     go_simp
     exact hK
    refine F2.Steps.consA rfl ⟨NoU.two nB nS, ?_⟩ ?_
    ·
     intro vz wz hBz K hK
     replace hK := hK.out
     apply Kept.mk
     simp only [F2.Wp, F2.fc, actv, fill, Act.put, sZ, sS, fC, fN, tA, cS, cZ] at hK ⊢
     go_simp
     exact hK
    refine F2.Steps.consS rfl rfl ?_ ?_
    ·
     intro vz wz gz hBz hDz E11' hgz hbz K hK
     obtain ⟨zc0, zc1, zc2, zc3⟩ := hbz.two
     obtain ⟨n39_, A39_, l39_, c39_, E39, q39⟩ : IntV 0 _ _ wz (vz 39) := hDz 6 (by kernel_rfl) rfl
     have E11 : vz 11 = .pointer (some ⟨gz, 0, none⟩) := E11'
     have HW := hBz.ext
     replace hK := hK.out
     apply Kept.mk
     simp only [F2.Wp, F2.fc, actv, fill, Act.put, sZ, sS, fC, fN, tA, cS, cZ] at hK ⊢
     simp only [E11, E39] at hK ⊢
     go_simp
     refine hK _ ((Far.set _ gz 0 _).trans (Far.set _ gz 1 _)) ⟨_, blk_two hbz, NoU.two nB nS, Fact.cast (Fact.z_mk q39) ?_⟩
     with_reducible rfl
    refine F2.Steps.consS rfl rfl ?_ ?_
    ·
     intro vz wz gz hBz hDz E12' hgz hbz K hK
     obtain ⟨zc0, zc1, zc2, zc3⟩ := hbz.two
     obtain ⟨n40_, A40_, l40_, c40_, E40, q40⟩ : IntV 0 _ _ wz (vz 40) := hDz 7 (by kernel_rfl) rfl
     have E12 : vz 12 = .pointer (some ⟨gz, 0, none⟩) := E12'
     have HW := hBz.ext
     replace hK := hK.out
     apply Kept.mk
     simp only [F2.Wp, F2.fc, actv, fill, Act.put, sZ, sS, fC, fN, tA, cS, cZ] at hK ⊢
     simp only [E12, E40] at hK ⊢
     go_simp
     refine hK _ ((Far.set _ gz 0 _).trans (Far.set _ gz 1 _)) ⟨_, blk_two hbz, NoU.two nB nS, Fact.cast (Fact.z_mk q40) ?_⟩
     with_reducible rfl
    refine F2.Steps.consO rfl ?_ ?_
    ·
     intro vz wz hBz hDz hTz K hK
     have E41 : vz 41 = _ := hDz 8 (by kernel_rfl) rfl
     have HW := hBz.ext
     replace hK := hK.out
     apply Kept.mk
     simp only [F2.Wp, F2.fc, actv, fill, Act.put, sZ, sS, fC, fN, tA, cS, cZ] at hK ⊢
     simp only [E41] at hK ⊢
     go_simp
     refine hK _ wz (Below.refl _ _) (Fact.eq_mk ?_)
     with_reducible rfl
    exact F2.Steps.nil
   intro vf w6 hBz ⟨hOz, hAz, hNz, hSz⟩
   have E34 : vf 34 = _ := hOz 0 (by decide) rfl
   have E35 : vf 35 = _ := hOz 1 (by decide) rfl
   have E36 : vf 36 = _ := hOz 2 (by decide) rfl
   have E37 : vf 37 = _ := hOz 3 (by decide) rfl
   obtain ⟨x38p_, x38q_, x38r_, E38, h38p, h38q, h38r⟩ : TV3 _ _ _ w6 (vf 38) := hOz 4 (by decide) rfl
   obtain rfl := Fact.eq_of h38r
   obtain ⟨x33p_, x33q_, x33r_, E33, h33p, h33q, h33r⟩ : TV3 _ _ _ w6 (vf 33) := hOz 5 (by decide) rfl
   obtain rfl := Fact.eq_of h33r
   obtain ⟨n39_, A39_, l39_, c39_, E39, q39⟩ : IntV 0 _ _ w6 (vf 39) := hOz 6 (by decide) rfl
   obtain ⟨n40_, A40_, l40_, c40_, E40, q40⟩ : IntV 0 _ _ w6 (vf 40) := hOz 7 (by decide) rfl
   have E41 : vf 41 = _ := hOz 8 (by decide) rfl
   obtain ⟨g11, cs11, E11, hg11, bx11, hs11, hz11⟩ := hAz 9 _ _ (by decide) rfl
   obtain ⟨g12, cs12, E12, hg12, bx12, hs12, hz12⟩ := hAz 10 _ _ (by decide) rfl
   obtain ⟨n11sf_, A11sf_, l11sf_, c11sf_, E11sf, q11sf⟩ : IntV 0 _ _ w6 (.agg cs11) := hs11 11 (by decide) rfl
   injection E11sf with E11sf
   subst E11sf
   obtain ⟨n12sf_, A12sf_, l12sf_, c12sf_, E12sf, q12sf⟩ : IntV 0 _ _ w6 (.agg cs12) := hs12 12 (by decide) rfl
   injection E12sf with E12sf
   subst E12sf
   have E13 : vf 13 = _ := hOz 13 (by decide) rfl
   have hne11_12 : Hid (¬ g11 = g12) := hide (fun h => hNz 9 10 _ _ _ _ (by decide) (by decide) (by decide) rfl rfl (by rw [E11, E12, h]))
   simp only [Act.put, actv, fill, fC, fN, tA, cS, cZ]
   simp only [E34, E35, E36, E37, E38, E33, E39, E40, E41, (show vf 11 = _ from E11), (show vf 12 = _ from E12), E13]
   clear E34 E35 E36 E37 E38 E33 E39 E40 E41 E11 E12 E13
   have hge11 : w.heap.size ≤ g11 := Nat.le_trans HB.out.size hg11
   have hne11_4 := hide (Nat.ne_of_gt (Nat.lt_of_lt_of_le bx4.lt (show wr.heap.size ≤ g11 from hg11)))
   have hge12 : w.heap.size ≤ g12 := Nat.le_trans HB.out.size hg12
   have hne12_4 := hide (Nat.ne_of_gt (Nat.lt_of_lt_of_le bx4.lt (show wr.heap.size ≤ g12 from hg12)))
   replace q4sc := q4sc.ext hBz.ext
   replace h0 := h0.ext hBz.ext
   replace bx4 := hBz.blk bx4 zN
   replace HL5 := HL5.step hBz zE
   replace HB := hide (HB.out.trans (hBz.below (B := w.heap.size) HB.out.size zE))
   clear hOz hAz hNz hSz hs11 hz11 hs12 hz12 hBz
   go_upto_region 10 with (fail)
   refine F2.regionS [.o, .o, .o, .o, .o, .o, .o, .o, .o, .o, .o, .o, .o, .al 24 #[.bool false, .slice none 0 0], .al 24 #[.bool false, .slice none 0 0], .st 13, .st 14, .o] [Fact.eq ?cg43_, Fact.eq ?cg44_, Fact.eq ?cg45_, Fact.z ?kg46_ ?zg46_, Fact.eq ?cg47_, Fact.eq ?cg48_, Fact.eq ?cg49_, Fact.eq ?cg50_, Fact.t3 (Fact.z ?kg51_p ?zg51_p) (Fact.z ?kg51_q ?zg51_q) (Fact.eq ?cg51_r), Fact.t3 (Fact.z ?kg42_p ?zg42_p) (Fact.z ?kg42_q ?zg42_q) (Fact.eq ?cg42_r), Fact.z ?kg52_ ?zg52_, Fact.z ?kg53_ ?zg53_, Fact.eq ?cg54_, Fact.any, Fact.any, Fact.z ?kgs14_ ?zgs14_, Fact.z ?kgs15_ ?zgs15_, Fact.eq ?cg16_] [43, 44, 45, 46, 47, 48, 49, 50, 51, 42, 52, 53, 54, 14, 15, 16] [43, 44, 45, 46, 47, 48, 49, 50, 51, 42, 52, 53, 54, 14, 15, 0, 0, 16] (by kernel_rfl) ?sog ?sopg (by kernel_rfl) ?stg ?fing
   case sog => exact fun x hx => by cases hx
   case sopg => exact List.Pairwise.nil
   case stg =>
    refine F2.Steps.consO rfl ?_ ?_
    ·
     intro vz wz hBz hDz hTz K hK
     have HW := hBz.ext
     replace hK := hK.out
     apply Kept.mk
     simp only [F2.Wp, F2.fc, actv, fill, Act.put, sZ, sS, fC, fN, tA, cS, cZ] at hK ⊢
     go_simp
     refine hK _ wz (Below.refl _ _) (Fact.eq_mk ?_)
     with_reducible rfl
    refine F2.Steps.consO rfl ?_ ?_
    ·
     intro vz wz hBz hDz hTz K hK
     have HW := hBz.ext
     have bx4z := hBz.blk bx4 zN
     obtain ⟨zl0, zl1, -⟩ := bx4z.two
     replace hK := hK.out
     apply Kept.mk
     simp only [F2.Wp, F2.fc, actv, fill, Act.put, sZ, sS, fC, fN, tA, cS, cZ] at hK ⊢
     go_simp
     refine hK _ wz (Below.refl _ _) (Fact.eq_mk ?_)
     with_reducible rfl
    refine F2.Steps.consO rfl ?_ ?_
    ·
     intro vz wz hBz hDz hTz K hK
     have HW := hBz.ext
     replace hK := hK.out
     apply Kept.mk
     simp only [F2.Wp, F2.fc, actv, fill, Act.put, sZ, sS, fC, fN, tA, cS, cZ] at hK ⊢
     go_simp
     refine hK _ wz (Below.refl _ _) (Fact.eq_mk ?_)
     with_reducible rfl
    refine F2.Steps.consO rfl ?_ ?_
    ·
     intro vz wz hBz hDz hTz K hK
     have E44 : vz 44 = _ := hDz 1 (by kernel_rfl) rfl
     have E45 : vz 45 = _ := hDz 2 (by kernel_rfl) rfl
     have HW := hBz.ext
     replace hK := hK.out
     apply Kept.mk
     simp only [F2.Wp, F2.fc, actv, fill, Act.put, sZ, sS, fC, fN, tA, cS, cZ] at hK ⊢
     simp only [E44, E45] at hK ⊢
     go_simp
     refine Calls.mono (v_shl (q4sc.ext HW).q (by omega) (by omega) (by omega)) ?_
     rintro e w2z ⟨hb2, uz, rfl, hf⟩
     refine hK _ w2z hb2 (Fact.cast (hf) ?_)
     with_reducible rfl
    refine F2.Steps.consO rfl ?_ ?_
    ·
     intro vz wz hBz hDz hTz K hK
     have HW := hBz.ext
     replace hK := hK.out
     apply Kept.mk
     simp only [F2.Wp, F2.fc, actv, fill, Act.put, sZ, sS, fC, fN, tA, cS, cZ] at hK ⊢
     go_simp
     refine hK _ wz (Below.refl _ _) (Fact.eq_mk ?_)
     with_reducible rfl
    refine F2.Steps.consO rfl ?_ ?_
    ·
     intro vz wz hBz hDz hTz K hK
     have HW := hBz.ext
     replace hK := hK.out
     apply Kept.mk
     simp only [F2.Wp, F2.fc, actv, fill, Act.put, sZ, sS, fC, fN, tA, cS, cZ] at hK ⊢
     go_simp
     refine hK _ wz (Below.refl _ _) (Fact.eq_mk ?_)
     with_reducible rfl
    refine F2.Steps.consO rfl ?_ ?_
    ·
     intro vz wz hBz hDz hTz K hK
     have E47 : vz 47 = _ := hDz 4 (by kernel_rfl) rfl
     have E48 : vz 48 = _ := hDz 5 (by kernel_rfl) rfl
     have HW := hBz.ext
     replace hK := hK.out
     apply Kept.mk
     simp only [F2.Wp, F2.fc, actv, fill, Act.put, sZ, sS, fC, fN, tA, cS, cZ] at hK ⊢
     simp only [E47, E48] at hK ⊢
     go_simp
     try simp (disch := omega) only [IntWalk.i64_in]
     refine hK _ wz (Below.refl _ _) (Fact.eq_mk ?_)
     with_reducible rfl
    refine F2.Steps.consO rfl ?_ ?_
    ·
     intro vz wz hBz hDz hTz K hK
     have HW := hBz.ext
     replace hK := hK.out
     apply Kept.mk
     simp only [F2.Wp, F2.fc, actv, fill, Act.put, sZ, sS, fC, fN, tA, cS, cZ] at hK ⊢
     go_simp
     refine hK _ wz (Below.refl _ _) (Fact.eq_mk ?_)
     with_reducible rfl
    refine F2.Steps.consO rfl ?_ ?_
    ·
     intro vz wz hBz hDz hTz K hK
     have E43 : vz 43 = _ := hDz 0 (by kernel_rfl) rfl
     obtain ⟨n46_, A46_, l46_, c46_, E46, q46⟩ : IntV 0 _ _ wz (vz 46) := hDz 3 (by kernel_rfl) rfl
     have E49 : vz 49 = _ := hDz 6 (by kernel_rfl) rfl
     have E50 : vz 50 = _ := hDz 7 (by kernel_rfl) rfl
     have HW := hBz.ext
     replace hK := hK.out
     apply Kept.mk
     simp only [F2.Wp, F2.fc, actv, fill, Act.put, sZ, sS, fC, fN, tA, cS, cZ] at hK ⊢
     simp only [E43, E46, E49, E50] at hK ⊢
     go_simp
     refine Calls.mono (sum_named i hlti q46.q (by omega) (HAb.out i hlti) (HBb.out i hlti) (HCb.out i hlti)) ?_
     rintro e w2z ⟨hb2, uz, rfl, hf⟩
     refine hK _ w2z hb2 (Fact.cast (hf) ?_)
     with_reducible rfl
    refine F2.Steps.consO rfl ?_ ?_
    ·
     intro vz wz hBz hDz hTz K hK
     obtain ⟨x51p_, x51q_, x51r_, E51, h51p, h51q, h51r⟩ : TV3 _ _ _ wz (vz 51) := hDz 8 (by kernel_rfl) rfl
     obtain rfl := Fact.eq_of h51r
     have HW := hBz.ext
     replace hK := hK.out
     apply Kept.mk
     simp only [F2.Wp, F2.fc, actv, fill, Act.put, sZ, sS, fC, fN, tA, cS, cZ] at hK ⊢
     simp only [E51] at hK ⊢
     go_simp
     refine hK _ wz (Below.refl _ _) (Fact.cast (Fact.t3_mk h51p h51q (Fact.eq_self _ _)) ?_)
     with_reducible rfl
    refine F2.Steps.consO rfl ?_ ?_
    ·
     intro vz wz hBz hDz hTz K hK
     obtain ⟨x42p_, x42q_, x42r_, E42, h42p, h42q, h42r⟩ : TV3 _ _ _ wz (vz 42) := hDz 9 (by kernel_rfl) rfl
     obtain rfl := Fact.eq_of h42r
     have HW := hBz.ext
     replace hK := hK.out
     apply Kept.mk
     simp only [F2.Wp, F2.fc, actv, fill, Act.put, sZ, sS, fC, fN, tA, cS, cZ] at hK ⊢
     simp only [E42] at hK ⊢
     go_simp
     refine hK _ wz (Below.refl _ _) (Fact.cast (h42p) ?_)
     with_reducible rfl
    refine F2.Steps.consO rfl ?_ ?_
    ·
     intro vz wz hBz hDz hTz K hK
     obtain ⟨x42p_, x42q_, x42r_, E42, h42p, h42q, h42r⟩ : TV3 _ _ _ wz (vz 42) := hDz 9 (by kernel_rfl) rfl
     obtain rfl := Fact.eq_of h42r
     have HW := hBz.ext
     replace hK := hK.out
     apply Kept.mk
     simp only [F2.Wp, F2.fc, actv, fill, Act.put, sZ, sS, fC, fN, tA, cS, cZ] at hK ⊢
     simp only [E42] at hK ⊢
     go_simp
     refine hK _ wz (Below.refl _ _) (Fact.cast (h42q) ?_)
     with_reducible rfl
    refine F2.Steps.consO rfl ?_ ?_
    ·
     intro vz wz hBz hDz hTz K hK
     obtain ⟨x42p_, x42q_, x42r_, E42, h42p, h42q, h42r⟩ : TV3 _ _ _ wz (vz 42) := hDz 9 (by kernel_rfl) rfl
     obtain rfl := Fact.eq_of h42r
     have HW := hBz.ext
     replace hK := hK.out
     apply Kept.mk
     simp only [F2.Wp, F2.fc, actv, fill, Act.put, sZ, sS, fC, fN, tA, cS, cZ] at hK ⊢
     simp only [E42] at hK ⊢
     go_simp
     refine hK _ wz (Below.refl _ _) (Fact.eq_mk ?_)
     with_reducible rfl
    refine F2.Steps.consA rfl ⟨NoU.two nB nS, ?_⟩ ?_
    ·
     intro vz wz hBz K hK
     replace hK := hK.out
     apply Kept.mk
     simp only [F2.Wp, F2.fc, actv, fill, Act.put, sZ, sS, fC, fN, tA, cS, cZ] at hK ⊢
     go_simp
     exact hK
    refine F2.Steps.consA rfl ⟨NoU.two nB nS, ?_⟩ ?_
    ·
     intro vz wz hBz K hK
     replace hK := hK.out
     apply Kept.mk
     simp only [F2.Wp, F2.fc, actv, fill, Act.put, sZ, sS, fC, fN, tA, cS, cZ] at hK ⊢
     go_simp
     exact hK
    refine F2.Steps.consS rfl rfl ?_ ?_
    ·
     intro vz wz gz hBz hDz E14' hgz hbz K hK
     obtain ⟨zc0, zc1, zc2, zc3⟩ := hbz.two
     obtain ⟨n52_, A52_, l52_, c52_, E52, q52⟩ : IntV 0 _ _ wz (vz 52) := hDz 10 (by kernel_rfl) rfl
     have E14 : vz 14 = .pointer (some ⟨gz, 0, none⟩) := E14'
     have HW := hBz.ext
     replace hK := hK.out
     apply Kept.mk
     simp only [F2.Wp, F2.fc, actv, fill, Act.put, sZ, sS, fC, fN, tA, cS, cZ] at hK ⊢
     simp only [E14, E52] at hK ⊢
     go_simp
     refine hK _ ((Far.set _ gz 0 _).trans (Far.set _ gz 1 _)) ⟨_, blk_two hbz, NoU.two nB nS, Fact.cast (Fact.z_mk q52) ?_⟩
     with_reducible rfl
    refine F2.Steps.consS rfl rfl ?_ ?_
    ·
     intro vz wz gz hBz hDz E15' hgz hbz K hK
     obtain ⟨zc0, zc1, zc2, zc3⟩ := hbz.two
     obtain ⟨n53_, A53_, l53_, c53_, E53, q53⟩ : IntV 0 _ _ wz (vz 53) := hDz 11 (by kernel_rfl) rfl
     have E15 : vz 15 = .pointer (some ⟨gz, 0, none⟩) := E15'
     have HW := hBz.ext
     replace hK := hK.out
     apply Kept.mk
     simp only [F2.Wp, F2.fc, actv, fill, Act.put, sZ, sS, fC, fN, tA, cS, cZ] at hK ⊢
     simp only [E15, E53] at hK ⊢
     go_simp
     refine hK _ ((Far.set _ gz 0 _).trans (Far.set _ gz 1 _)) ⟨_, blk_two hbz, NoU.two nB nS, Fact.cast (Fact.z_mk q53) ?_⟩
     with_reducible rfl
    refine F2.Steps.consO rfl ?_ ?_
    ·
     intro vz wz hBz hDz hTz K hK
     have E54 : vz 54 = _ := hDz 12 (by kernel_rfl) rfl
     have HW := hBz.ext
     replace hK := hK.out
     apply Kept.mk
     simp only [F2.Wp, F2.fc, actv, fill, Act.put, sZ, sS, fC, fN, tA, cS, cZ] at hK ⊢
     simp only [E54] at hK ⊢
     go_simp
     refine hK _ wz (Below.refl _ _) (Fact.eq_mk ?_)
     with_reducible rfl
    exact F2.Steps.nil
   intro vg w7 hBz ⟨hOz, hAz, hNz, hSz⟩
   have E43 : vg 43 = _ := hOz 0 (by decide) rfl
   have E44 : vg 44 = _ := hOz 1 (by decide) rfl
   have E45 : vg 45 = _ := hOz 2 (by decide) rfl
   obtain ⟨n46_, A46_, l46_, c46_, E46, q46⟩ : IntV 0 _ _ w7 (vg 46) := hOz 3 (by decide) rfl
   have E47 : vg 47 = _ := hOz 4 (by decide) rfl
   have E48 : vg 48 = _ := hOz 5 (by decide) rfl
   have E49 : vg 49 = _ := hOz 6 (by decide) rfl
   have E50 : vg 50 = _ := hOz 7 (by decide) rfl
   obtain ⟨x51p_, x51q_, x51r_, E51, h51p, h51q, h51r⟩ : TV3 _ _ _ w7 (vg 51) := hOz 8 (by decide) rfl
   obtain rfl := Fact.eq_of h51r
   obtain ⟨x42p_, x42q_, x42r_, E42, h42p, h42q, h42r⟩ : TV3 _ _ _ w7 (vg 42) := hOz 9 (by decide) rfl
   obtain rfl := Fact.eq_of h42r
   obtain ⟨n52_, A52_, l52_, c52_, E52, q52⟩ : IntV 0 _ _ w7 (vg 52) := hOz 10 (by decide) rfl
   obtain ⟨n53_, A53_, l53_, c53_, E53, q53⟩ : IntV 0 _ _ w7 (vg 53) := hOz 11 (by decide) rfl
   have E54 : vg 54 = _ := hOz 12 (by decide) rfl
   obtain ⟨g14, cs14, E14, hg14, bx14, hs14, hz14⟩ := hAz 13 _ _ (by decide) rfl
   obtain ⟨g15, cs15, E15, hg15, bx15, hs15, hz15⟩ := hAz 14 _ _ (by decide) rfl
   obtain ⟨n14sg_, A14sg_, l14sg_, c14sg_, E14sg, q14sg⟩ : IntV 0 _ _ w7 (.agg cs14) := hs14 15 (by decide) rfl
   injection E14sg with E14sg
   subst E14sg
   obtain ⟨n15sg_, A15sg_, l15sg_, c15sg_, E15sg, q15sg⟩ : IntV 0 _ _ w7 (.agg cs15) := hs15 16 (by decide) rfl
   injection E15sg with E15sg
   subst E15sg
   have E16 : vg 16 = _ := hOz 17 (by decide) rfl
   have hne14_15 : Hid (¬ g14 = g15) := hide (fun h => hNz 13 14 _ _ _ _ (by decide) (by decide) (by decide) rfl rfl (by rw [E14, E15, h]))
   simp only [Act.put, actv, fill, fC, fN, tA, cS, cZ]
   simp only [E43, E44, E45, E46, E47, E48, E49, E50, E51, E42, E52, E53, E54, (show vg 14 = _ from E14), (show vg 15 = _ from E15), E16]
   clear E43 E44 E45 E46 E47 E48 E49 E50 E51 E42 E52 E53 E54 E14 E15 E16
   have hge14 : w.heap.size ≤ g14 := Nat.le_trans HB.out.size hg14
   have hne14_4 := hide (Nat.ne_of_gt (Nat.lt_of_lt_of_le bx4.lt (show w6.heap.size ≤ g14 from hg14)))
   have hne14_11 := hide (Nat.ne_of_gt (Nat.lt_of_lt_of_le bx11.lt (show w6.heap.size ≤ g14 from hg14)))
   have hne14_12 := hide (Nat.ne_of_gt (Nat.lt_of_lt_of_le bx12.lt (show w6.heap.size ≤ g14 from hg14)))
   have hge15 : w.heap.size ≤ g15 := Nat.le_trans HB.out.size hg15
   have hne15_4 := hide (Nat.ne_of_gt (Nat.lt_of_lt_of_le bx4.lt (show w6.heap.size ≤ g15 from hg15)))
   have hne15_11 := hide (Nat.ne_of_gt (Nat.lt_of_lt_of_le bx11.lt (show w6.heap.size ≤ g15 from hg15)))
   have hne15_12 := hide (Nat.ne_of_gt (Nat.lt_of_lt_of_le bx12.lt (show w6.heap.size ≤ g15 from hg15)))
   replace q4sc := q4sc.ext hBz.ext
   replace q11sf := q11sf.ext hBz.ext
   replace q12sf := q12sf.ext hBz.ext
   replace h0 := h0.ext hBz.ext
   replace bx4 := hBz.blk bx4 zN
   replace bx11 := hBz.blk bx11 zN
   replace bx12 := hBz.blk bx12 zN
   replace HL5 := HL5.step hBz zE
   replace HB := hide (HB.out.trans (hBz.below (B := w.heap.size) HB.out.size zE))
   clear hOz hAz hNz hSz hs14 hz14 hs15 hz15 hBz
   obtain ⟨d0, HD0⟩ : ∃ c, Hid (cmpZ (sumLo i t (1 + qa) (1 + na).toNat * 2 ^ ma.toNat) (sumHi i (t * 2 ^ ma.toNat) (1 + qa + ma) (1 + na).toNat) = c) := ⟨_, hide rfl⟩
   have hd0 : Hid (¬ 0 < d0) := hide (by rw [← HD0.out]; have := cmp_order (HO.out i hlti (1 + na).toNat).1; omega)
   obtain ⟨d1, HD1⟩ : ∃ c, Hid (cmpZ (sumLo i (t * 2 ^ ma.toNat) (1 + qa + ma) (1 + na).toNat) (sumHi i t (1 + qa) (1 + na).toNat * 2 ^ ma.toNat) = c) := ⟨_, hide rfl⟩
   have hd1 : Hid (¬ 0 < d1) := hide (by rw [← HD1.out]; have := cmp_order (HO.out i hlti (1 + na).toNat).2; omega)
   go_upto_region 11 with (fail)
   refine F2.region [.o, .o, .o, .o, .o, .o, .o, .o, .o, .o, .o, .o, .o, .o, .o, .o, .o, .o, .o, .o, .o, .o] [Fact.eq ?ch55_, Fact.eq ?ch56_, Fact.eq ?ch57_, Fact.eq ?ch58_, Fact.eq ?ch59_, Fact.eq ?ch60_, Fact.eq ?ch61_, Fact.eq ?ch62_, Fact.eq ?ch63_, Fact.z ?kh64_ ?zh64_, Fact.eq ?ch65_, Fact.eq ?ch66_, Fact.eq ?ch67_, Fact.eq ?ch68_, Fact.eq ?ch69_, Fact.eq ?ch70_, Fact.eq ?ch71_, Fact.eq ?ch72_, Fact.z ?kh73_ ?zh73_, Fact.eq ?ch74_, Fact.eq ?ch75_, Fact.eq ?ch76_] [55, 56, 57, 58, 59, 60, 61, 62, 63, 64, 65, 66, 67, 68, 69, 70, 71, 72, 73, 74, 75, 76] [55, 56, 57, 58, 59, 60, 61, 62, 63, 64, 65, 66, 67, 68, 69, 70, 71, 72, 73, 74, 75, 76] (by kernel_rfl) ?soh ?soph (by kernel_rfl) ?sth ?finh
   case soh => exact fun x hx => by cases hx
   case soph => exact List.Pairwise.nil
   case sth =>
    refine F2.Steps.consO rfl ?_ ?_
    ·
     intro vz wz hBz hDz hTz K hK
     have HW := ext_drew hBz.ext
     replace hK := hK.out
     apply Kept.mk
     simp only [F2.Wp, F2.fc, actv, fill, Act.put, sZ, sS, fC, fN, tA, cS, cZ] at hK ⊢
     go_simp
     refine hK _ wz (Below.refl _ _) (Fact.eq_mk ?_)
     with_reducible rfl
    refine F2.Steps.consO rfl ?_ ?_
    ·
     intro vz wz hBz hDz hTz K hK
     have E55 : vz 55 = _ := hDz 0 (by kernel_rfl) rfl
     have HW := ext_drew hBz.ext
     replace hK := hK.out
     apply Kept.mk
     simp only [F2.Wp, F2.fc, actv, fill, Act.put, sZ, sS, fC, fN, tA, cS, cZ] at hK ⊢
     simp only [E55] at hK ⊢
     go_simp
     refine hK _ wz (Below.refl _ _) (Fact.eq_mk ?_)
     with_reducible rfl
    refine F2.Steps.consO rfl ?_ ?_
    ·
     intro vz wz hBz hDz hTz K hK
     have E56 : vz 56 = _ := hDz 1 (by kernel_rfl) rfl
     have HW := ext_drew hBz.ext
     replace hK := hK.out
     apply Kept.mk
     simp only [F2.Wp, F2.fc, actv, fill, Act.put, sZ, sS, fC, fN, tA, cS, cZ] at hK ⊢
     simp only [E56] at hK ⊢
     go_simp
     refine hK _ wz (Below.refl _ _) (Fact.eq_mk ?_)
     with_reducible rfl
    refine F2.Steps.consO rfl ?_ ?_
    ·
     intro vz wz hBz hDz hTz K hK
     have E57 : vz 57 = _ := hDz 2 (by kernel_rfl) rfl
     have HW := ext_drew hBz.ext
     replace hK := hK.out
     apply Kept.mk
     simp only [F2.fc, actv, fill, Act.put, sZ, sS, fC, fN, tA, cS, cZ] at hK ⊢
     simp only [E57] at hK ⊢
     refine F2.wp_yes (by kernel_rfl) ?_
     go_simp
     refine hK _ wz (Below.refl _ _) (Fact.eq_mk ?_)
     with_reducible rfl
    refine F2.Steps.consO rfl ?_ ?_
    ·
     intro vz wz hBz hDz hTz K hK
     have E58 : vz 58 = _ := hDz 3 (by kernel_rfl) rfl
     have E57 : vz 57 = _ := hDz 2 (by kernel_rfl) rfl
     have HW := ext_drew hBz.ext
     replace hK := hK.out
     apply Kept.mk
     simp only [F2.fc, actv, fill, Act.put, sZ, sS, fC, fN, tA, cS, cZ] at hK ⊢
     simp only [E58, E57] at hK ⊢
     refine F2.wp_yes (by kernel_rfl) ?_
     go_simp
     refine hK _ wz (Below.refl _ _) (Fact.eq_mk ?_)
     with_reducible rfl
    refine F2.Steps.consO rfl ?_ ?_
    ·
     intro vz wz hBz hDz hTz K hK
     have E57 : vz 57 = _ := hDz 2 (by kernel_rfl) rfl
     have E59 : vz 59 = _ := hDz 4 (by kernel_rfl) rfl
     have HW := ext_drew hBz.ext
     replace hK := hK.out
     apply Kept.mk
     simp only [F2.Wp, F2.fc, actv, fill, Act.put, sZ, sS, fC, fN, tA, cS, cZ] at hK ⊢
     simp only [E57, E59] at hK ⊢
     go_simp
     refine hK _ wz (Below.refl _ _) (Fact.eq_mk ?_)
     with_reducible rfl
    refine F2.Steps.consO rfl ?_ ?_
    ·
     intro vz wz hBz hDz hTz K hK
     have E60 : vz 60 = _ := hDz 5 (by kernel_rfl) rfl
     have HW := ext_drew hBz.ext
     replace hK := hK.out
     apply Kept.mk
     simp only [F2.Wp, F2.fc, actv, fill, Act.put, sZ, sS, fC, fN, tA, cS, cZ] at hK ⊢
     simp only [E60] at hK ⊢
     go_simp
     refine hK _ wz (Below.refl _ _) (Fact.eq_mk ?_)
     with_reducible rfl
    refine F2.Steps.consO rfl ?_ ?_
    ·
     intro vz wz hBz hDz hTz K hK
     have E61 : vz 61 = _ := hDz 6 (by kernel_rfl) rfl
     have HW := ext_drew hBz.ext
     have bx11z := hBz.blk bx11.drew zN
     obtain ⟨zl0, zl1, -⟩ := bx11z.two
     replace hK := hK.out
     apply Kept.mk
     simp only [F2.fc, actv, fill, Act.put, sZ, sS, fC, fN, tA, cS, cZ] at hK ⊢
     simp only [E61] at hK ⊢
     refine F2.wp_yes (by kernel_rfl) ?_
     go_simp
     refine hK _ wz (Below.refl _ _) (Fact.eq_mk ?_)
     with_reducible rfl
    refine F2.Steps.consO rfl ?_ ?_
    ·
     intro vz wz hBz hDz hTz K hK
     have E61 : vz 61 = _ := hDz 6 (by kernel_rfl) rfl
     have HW := ext_drew hBz.ext
     replace hK := hK.out
     apply Kept.mk
     simp only [F2.fc, actv, fill, Act.put, sZ, sS, fC, fN, tA, cS, cZ] at hK ⊢
     simp only [E61] at hK ⊢
     refine F2.wp_yes (by kernel_rfl) ?_
     go_simp
     refine hK _ wz (Below.refl _ _) (Fact.eq_mk ?_)
     with_reducible rfl
    refine F2.Steps.consO rfl ?_ ?_
    ·
     intro vz wz hBz hDz hTz K hK
     have E62 : vz 62 = _ := hDz 7 (by kernel_rfl) rfl
     have E63 : vz 63 = _ := hDz 8 (by kernel_rfl) rfl
     have E61 : vz 61 = _ := hDz 6 (by kernel_rfl) rfl
     have HW := ext_drew hBz.ext
     replace hK := hK.out
     apply Kept.mk
     simp only [F2.fc, actv, fill, Act.put, sZ, sS, fC, fN, tA, cS, cZ] at hK ⊢
     simp only [E62, E63, E61] at hK ⊢
     refine F2.wp_yes (by kernel_rfl) ?_
     go_simp
     refine Calls.mono (v_shl (q11sf.ext HW).q (by omega) (by omega) (by omega)) ?_
     rintro e w2z ⟨hb2, uz, rfl, hf⟩
     refine hK _ w2z hb2 (Fact.cast (hf) ?_)
     with_reducible rfl
    refine F2.Steps.consO rfl ?_ ?_
    ·
     intro vz wz hBz hDz hTz K hK
     have E61 : vz 61 = _ := hDz 6 (by kernel_rfl) rfl
     have HW := ext_drew hBz.ext
     have bx15z := hBz.blk bx15.drew zN
     obtain ⟨zl0, zl1, -⟩ := bx15z.two
     replace hK := hK.out
     apply Kept.mk
     simp only [F2.fc, actv, fill, Act.put, sZ, sS, fC, fN, tA, cS, cZ] at hK ⊢
     simp only [E61] at hK ⊢
     refine F2.wp_yes (by kernel_rfl) ?_
     go_simp
     refine hK _ wz (Below.refl _ _) (Fact.eq_mk ?_)
     with_reducible rfl
    refine F2.Steps.consO rfl ?_ ?_
    ·
     intro vz wz hBz hDz hTz K hK
     obtain ⟨n64_, A64_, l64_, c64_, E64, q64⟩ : IntV 0 _ _ wz (vz 64) := hDz 9 (by kernel_rfl) rfl
     have E65 : vz 65 = _ := hDz 10 (by kernel_rfl) rfl
     have E61 : vz 61 = _ := hDz 6 (by kernel_rfl) rfl
     have HW := ext_drew hBz.ext
     replace hK := hK.out
     apply Kept.mk
     simp only [F2.fc, actv, fill, Act.put, sZ, sS, fC, fN, tA, cS, cZ] at hK ⊢
     simp only [E64, E65, E61] at hK ⊢
     refine F2.wp_yes (by kernel_rfl) ?_
     go_simp
     refine Calls.mono (HD0.out ▸ v_cmp q64.q (q15sg.ext HW).q (by omega) (by omega)) ?_
     rintro e w2z ⟨hb2, uz, rfl, hf⟩
     refine hK _ w2z hb2 (Fact.cast (hf) ?_)
     with_reducible rfl
    refine F2.Steps.consO rfl ?_ ?_
    ·
     intro vz wz hBz hDz hTz K hK
     have E66 : vz 66 = _ := hDz 11 (by kernel_rfl) rfl
     have E61 : vz 61 = _ := hDz 6 (by kernel_rfl) rfl
     have HW := ext_drew hBz.ext
     have hd0 := hd0.out
     replace hK := hK.out
     apply Kept.mk
     simp only [F2.fc, actv, fill, Act.put, sZ, sS, fC, fN, tA, cS, cZ] at hK ⊢
     simp only [E66, E61] at hK ⊢
     refine F2.wp_yes (by kernel_rfl) ?_
     go_simp
     refine hK _ wz (Below.refl _ _) (Fact.eq_mk ?_)
     with_reducible rfl
    refine F2.Steps.consO rfl ?_ ?_
    ·
     intro vz wz hBz hDz hTz K hK
     have E61 : vz 61 = _ := hDz 6 (by kernel_rfl) rfl
     have E67 : vz 67 = _ := hDz 12 (by kernel_rfl) rfl
     have HW := ext_drew hBz.ext
     replace hK := hK.out
     apply Kept.mk
     simp only [F2.Wp, F2.fc, actv, fill, Act.put, sZ, sS, fC, fN, tA, cS, cZ] at hK ⊢
     simp only [E61, E67] at hK ⊢
     go_simp
     refine hK _ wz (Below.refl _ _) (Fact.eq_mk ?_)
     with_reducible rfl
    refine F2.Steps.consO rfl ?_ ?_
    ·
     intro vz wz hBz hDz hTz K hK
     have E68 : vz 68 = _ := hDz 13 (by kernel_rfl) rfl
     have HW := ext_drew hBz.ext
     replace hK := hK.out
     apply Kept.mk
     simp only [F2.Wp, F2.fc, actv, fill, Act.put, sZ, sS, fC, fN, tA, cS, cZ] at hK ⊢
     simp only [E68] at hK ⊢
     go_simp
     refine hK _ wz (Below.refl _ _) (Fact.eq_mk ?_)
     with_reducible rfl
    refine F2.Steps.consO rfl ?_ ?_
    ·
     intro vz wz hBz hDz hTz K hK
     have E69 : vz 69 = _ := hDz 14 (by kernel_rfl) rfl
     have HW := ext_drew hBz.ext
     have bx14z := hBz.blk bx14.drew zN
     obtain ⟨zl0, zl1, -⟩ := bx14z.two
     replace hK := hK.out
     apply Kept.mk
     simp only [F2.fc, actv, fill, Act.put, sZ, sS, fC, fN, tA, cS, cZ] at hK ⊢
     simp only [E69] at hK ⊢
     refine F2.wp_yes (by kernel_rfl) ?_
     go_simp
     refine hK _ wz (Below.refl _ _) (Fact.eq_mk ?_)
     with_reducible rfl
    refine F2.Steps.consO rfl ?_ ?_
    ·
     intro vz wz hBz hDz hTz K hK
     have E69 : vz 69 = _ := hDz 14 (by kernel_rfl) rfl
     have HW := ext_drew hBz.ext
     have bx12z := hBz.blk bx12.drew zN
     obtain ⟨zl0, zl1, -⟩ := bx12z.two
     replace hK := hK.out
     apply Kept.mk
     simp only [F2.fc, actv, fill, Act.put, sZ, sS, fC, fN, tA, cS, cZ] at hK ⊢
     simp only [E69] at hK ⊢
     refine F2.wp_yes (by kernel_rfl) ?_
     go_simp
     refine hK _ wz (Below.refl _ _) (Fact.eq_mk ?_)
     with_reducible rfl
    refine F2.Steps.consO rfl ?_ ?_
    ·
     intro vz wz hBz hDz hTz K hK
     have E69 : vz 69 = _ := hDz 14 (by kernel_rfl) rfl
     have HW := ext_drew hBz.ext
     replace hK := hK.out
     apply Kept.mk
     simp only [F2.fc, actv, fill, Act.put, sZ, sS, fC, fN, tA, cS, cZ] at hK ⊢
     simp only [E69] at hK ⊢
     refine F2.wp_yes (by kernel_rfl) ?_
     go_simp
     refine hK _ wz (Below.refl _ _) (Fact.eq_mk ?_)
     with_reducible rfl
    refine F2.Steps.consO rfl ?_ ?_
    ·
     intro vz wz hBz hDz hTz K hK
     have E71 : vz 71 = _ := hDz 16 (by kernel_rfl) rfl
     have E72 : vz 72 = _ := hDz 17 (by kernel_rfl) rfl
     have E69 : vz 69 = _ := hDz 14 (by kernel_rfl) rfl
     have HW := ext_drew hBz.ext
     replace hK := hK.out
     apply Kept.mk
     simp only [F2.fc, actv, fill, Act.put, sZ, sS, fC, fN, tA, cS, cZ] at hK ⊢
     simp only [E71, E72, E69] at hK ⊢
     refine F2.wp_yes (by kernel_rfl) ?_
     go_simp
     refine Calls.mono (v_shl (q12sf.ext HW).q (by omega) (by omega) (by omega)) ?_
     rintro e w2z ⟨hb2, uz, rfl, hf⟩
     refine hK _ w2z hb2 (Fact.cast (hf) ?_)
     with_reducible rfl
    refine F2.Steps.consO rfl ?_ ?_
    ·
     intro vz wz hBz hDz hTz K hK
     have E70 : vz 70 = _ := hDz 15 (by kernel_rfl) rfl
     obtain ⟨n73_, A73_, l73_, c73_, E73, q73⟩ : IntV 0 _ _ wz (vz 73) := hDz 18 (by kernel_rfl) rfl
     have E69 : vz 69 = _ := hDz 14 (by kernel_rfl) rfl
     have HW := ext_drew hBz.ext
     replace hK := hK.out
     apply Kept.mk
     simp only [F2.fc, actv, fill, Act.put, sZ, sS, fC, fN, tA, cS, cZ] at hK ⊢
     simp only [E70, E73, E69] at hK ⊢
     refine F2.wp_yes (by kernel_rfl) ?_
     go_simp
     refine Calls.mono (HD1.out ▸ v_cmp (q14sg.ext HW).q q73.q (by omega) (by omega)) ?_
     rintro e w2z ⟨hb2, uz, rfl, hf⟩
     refine hK _ w2z hb2 (Fact.cast (hf) ?_)
     with_reducible rfl
    refine F2.Steps.consO rfl ?_ ?_
    ·
     intro vz wz hBz hDz hTz K hK
     have E74 : vz 74 = _ := hDz 19 (by kernel_rfl) rfl
     have E69 : vz 69 = _ := hDz 14 (by kernel_rfl) rfl
     have HW := ext_drew hBz.ext
     have hd1 := hd1.out
     replace hK := hK.out
     apply Kept.mk
     simp only [F2.fc, actv, fill, Act.put, sZ, sS, fC, fN, tA, cS, cZ] at hK ⊢
     simp only [E74, E69] at hK ⊢
     refine F2.wp_yes (by kernel_rfl) ?_
     go_simp
     refine hK _ wz (Below.refl _ _) (Fact.eq_mk ?_)
     with_reducible rfl
    refine F2.Steps.consO rfl ?_ ?_
    ·
     intro vz wz hBz hDz hTz K hK
     have E69 : vz 69 = _ := hDz 14 (by kernel_rfl) rfl
     have E75 : vz 75 = _ := hDz 20 (by kernel_rfl) rfl
     have HW := ext_drew hBz.ext
     replace hK := hK.out
     apply Kept.mk
     simp only [F2.Wp, F2.fc, actv, fill, Act.put, sZ, sS, fC, fN, tA, cS, cZ] at hK ⊢
     simp only [E69, E75] at hK ⊢
     go_simp
     refine hK _ wz (Below.refl _ _) (Fact.eq_mk ?_)
     with_reducible rfl
    exact F2.Steps.nil
   intro vh w8 hBz ⟨hOz, hAz, hNz, hSz⟩
   have E55 : vh 55 = _ := hOz 0 (by decide) rfl
   have E56 : vh 56 = _ := hOz 1 (by decide) rfl
   have E57 : vh 57 = _ := hOz 2 (by decide) rfl
   have E58 : vh 58 = _ := hOz 3 (by decide) rfl
   have E59 : vh 59 = _ := hOz 4 (by decide) rfl
   have E60 : vh 60 = _ := hOz 5 (by decide) rfl
   have E61 : vh 61 = _ := hOz 6 (by decide) rfl
   have E62 : vh 62 = _ := hOz 7 (by decide) rfl
   have E63 : vh 63 = _ := hOz 8 (by decide) rfl
   obtain ⟨n64_, A64_, l64_, c64_, E64, q64⟩ : IntV 0 _ _ w8 (vh 64) := hOz 9 (by decide) rfl
   have E65 : vh 65 = _ := hOz 10 (by decide) rfl
   have E66 : vh 66 = _ := hOz 11 (by decide) rfl
   have E67 : vh 67 = _ := hOz 12 (by decide) rfl
   have E68 : vh 68 = _ := hOz 13 (by decide) rfl
   have E69 : vh 69 = _ := hOz 14 (by decide) rfl
   have E70 : vh 70 = _ := hOz 15 (by decide) rfl
   have E71 : vh 71 = _ := hOz 16 (by decide) rfl
   have E72 : vh 72 = _ := hOz 17 (by decide) rfl
   obtain ⟨n73_, A73_, l73_, c73_, E73, q73⟩ : IntV 0 _ _ w8 (vh 73) := hOz 18 (by decide) rfl
   have E74 : vh 74 = _ := hOz 19 (by decide) rfl
   have E75 : vh 75 = _ := hOz 20 (by decide) rfl
   have E76 : vh 76 = _ := hOz 21 (by decide) rfl
   simp only [Act.put, actv, fill, fC, fN, tA, cS, cZ]
   simp only [E55, E56, E57, E58, E59, E60, E61, E62, E63, E64, E65, E66, E67, E68, E69, E70, E71, E72, E73, E74, E75, E76]
   clear E55 E56 E57 E58 E59 E60 E61 E62 E63 E64 E65 E66 E67 E68 E69 E70 E71 E72 E73 E74 E75 E76
   replace q4sc := q4sc.ext hBz.ext
   replace q11sf := q11sf.ext hBz.ext
   replace q12sf := q12sf.ext hBz.ext
   replace q14sg := q14sg.ext hBz.ext
   replace q15sg := q15sg.ext hBz.ext
   replace h0 := h0.ext hBz.ext
   replace bx4 := hBz.blk bx4 zN
   replace bx11 := hBz.blk bx11 zN
   replace bx12 := hBz.blk bx12 zN
   replace bx14 := hBz.blk bx14 zN
   replace bx15 := hBz.blk bx15 zN
   replace HL5 := HL5.step hBz zE
   replace HB := hide (HB.out.trans (hBz.below (B := w.heap.size) HB.out.size zE))
   clear hOz hAz hNz hSz hBz
   go_wp2_with fail
   go_roundw
   case rel => exact ⟨i + 1, by omega, by go_num, HL5, trivial⟩
   case measure => simp [intOf]; omega
  ·
   have hgei : ¬ (i : Int) < 5 := by omega
   have hie := hide (show i = 5 by omega)
   clear hlti
   go_upto_region 13 with (fail)
   clear hgei
   refine F2.regionS [.o, .o] [Fact.eq ?ci77_, Fact.eq ?ci8_] [77, 8] [77, 8] (by kernel_rfl) ?soi ?sopi (by kernel_rfl) ?sti ?fini
   case soi => exact fun x hx => by cases hx
   case sopi => exact List.Pairwise.nil
   case sti =>
    refine F2.Steps.consO rfl ?_ ?_
    ·
     intro vz wz hBz hDz hTz K hK
     have HW := hBz.ext
     replace hK := hK.out
     apply Kept.mk
     simp only [F2.Wp, F2.fc, actv, fill, Act.put, sZ, sS, fC, fN, tA, cS, cZ] at hK ⊢
     go_simp
     refine hK _ wz (Below.refl _ _) (Fact.eq_mk ?_)
     with_reducible rfl
    refine F2.Steps.consO rfl ?_ ?_
    ·
     intro vz wz hBz hDz hTz K hK
     have E77 : vz 77 = _ := hDz 0 (by kernel_rfl) rfl
     have HW := hBz.ext
     replace hK := hK.out
     apply Kept.mk
     simp only [F2.Wp, F2.fc, actv, fill, Act.put, sZ, sS, fC, fN, tA, cS, cZ] at hK ⊢
     simp only [E77] at hK ⊢
     go_simp
     refine hK _ wz (Below.refl _ _) (Fact.eq_mk ?_)
     with_reducible rfl
    exact F2.Steps.nil
   intro vi w9 hBz ⟨hOz, hAz, hNz, hSz⟩
   have E77 : vi 77 = _ := hOz 0 (by decide) rfl
   have E8 : vi 8 = _ := hOz 1 (by decide) rfl
   simp only [Act.put, actv, fill, fC, fN, tA, cS, cZ]
   simp only [E77, E8]
   clear E77 E8
   replace q4sc := q4sc.ext hBz.ext
   replace h0 := h0.ext hBz.ext
   replace bx4 := hBz.blk bx4 zN
   replace HB := hide (HB.out.trans (hBz.below (B := w.heap.size) HB.out.size zE))
   clear hOz hAz hNz hSz hBz
   go_wp2_with fail
   go_ret
   exact ⟨HB.out, VF.mk (Fact.eq_self _ _)⟩

theorem walk (w : World) (n0 : Bool) (A0 : Option Addr) (l0 c0 : Nat) (s0 : ∃ L, Nums w 0 (.slice A0 l0 c0) L) (a1 : Int) (w1 : (Lit.int .i64 a1).wf = true) (a2 : Int) (w2 : (Lit.int .i64 a2).wf = true) (a3 : Int) (w3 : (Lit.int .i64 a3).wf = true) :
    Calls Try.prog 6 #[.agg #[.bool n0, .slice A0 l0 c0], .int .i64 a1, .int .i64 a2, .int .i64 a3] w fun e w' => e = .returned (.bool true) ∧ Below w.heap.size w w' := by
  obtain ⟨L, h⟩ := s0
  refine (walkN (k0 := L.length) (L0 := L) (x0 := ival n0 (val W L)) ⟨L, h, Nat.le_refl _, rfl⟩ h ).mono ?_
  rintro e w' ⟨hb, u, rfl, hu⟩
  exact ⟨by rw [Fact.eq_of hu], hb⟩

/-! ### the row -/
set_option maxRecDepth 100000 in
theorem lifted (os : Os) (started : os.Started) (H : Type) (enc : TypeId × Value → H) :
    ReturnsInHanded {} Try.checked os 6 .any (Rows.rowsPlacesSpec.pre6 enc Try.prog Try.f6 Rows.rowsPlacesRow.domain false) (Rows.rowsPlacesSpec.post enc Try.prog Try.f6 false true false false) := by
  refine returnsInHanded_of_change (C := Try.checked) own started (by kernel_rfl) Try.func6
    (ChangeSpec.witness6 (enc := enc) (C := Try.checked) false ⟨#[], #[.agg #[.bool false, .slice none 0 0], .int .i64 0, .int .i64 0, .int .i64 0], []⟩ 8 (by kernel_rfl) (by kernel_rfl) (by kernel_rfl) (by kernel_rfl)) ?_
  intro W base args ds gs before hval0 hW hcnd _
  have hval : ∀ (j : Nat) t v, Try.f6.params[j]? = some t → args[j]? = some v → Value.okWide Try.prog W .any base t v := hval0
  have hW' := hW
  obtain ⟨p, q, hA0, hV, rfl, hfz, hnd⟩ := hW
  have hA : DataW.TrodAll enc Try.prog W 0 (fun _ => true) true Try.f6.params.toList args.toList ds p := hA0
  rw [Try.params6] at hA hval
  obtain ⟨v0, vs0, d0, ds0, p0, q0, hargs, rfl, rfl, h0, r0⟩ := trodAll_cons hA
  obtain ⟨v1, vs1, d1, ds1, p1, q1, rfl, rfl, rfl, h1, r1⟩ := trodAll_cons r0
  obtain ⟨v2, vs2, d2, ds2, p2, q2, rfl, rfl, rfl, h2, r2⟩ := trodAll_cons r1
  obtain ⟨v3, vs3, d3, ds3, p3, q3, rfl, rfl, rfl, h3, r3⟩ := trodAll_cons r2
  obtain ⟨rfl, rfl, rfl⟩ := trodAll_nil r3
  obtain rfl : args = #[v0, v1, v2, v3] := by cases args; simp_all
  obtain ⟨rfl, rfl⟩ := trodVars_none hV
  have k0 := h0
  have lt0 : ∀ x ∈ p0, x.block < W.heap.size := by obtain ⟨m, hm⟩ := k0; exact DataW.trod_lt m _ _ _ hm
  obtain ⟨n0, A0, l0, c0, rfl, s0⟩ := open_int_s (hval 0 24 v0 rfl rfl) h0
  obtain ⟨a1, rfl, rfl, rfl, w1⟩ := open_int Try.underlying3 (hval 1 3 v1 rfl rfl) h1
  obtain ⟨a2, rfl, rfl, rfl, w2⟩ := open_int Try.underlying3 (hval 2 3 v2 rfl rfl) h2
  obtain ⟨a3, rfl, rfl, rfl, w3⟩ := open_int Try.underlying3 (hval 3 3 v3 rfl rfl) h3
  clear hA0 hval0
  refine (walk W n0 A0 l0 c0 s0 a1 w1 a2 w2 a3 w3).mono fun e W' ⟨he, bel⟩ => ?_
  subst he
  exact ⟨_, rfl, _, _, _, [], _, [], hW', trodAll_mk1 (shut_bool Try.underlying4 _), (trodAll_cons_mk (Below.trod laidOut (by kernel_rfl) (of_decide_eq_true (by kernel_rfl)) k0 bel lt0) (trodAll_cons_mk (shut_int Try.underlying3 w1) (trodAll_cons_mk (shut_int Try.underlying3 w2) (trodAll_cons_mk (shut_int Try.underlying3 w3) trodAll_mk0)))), rfl, bel.frame _, fun h => by cases h⟩

theorem over : Rows.rowsPlacesRow.holds Try.pinned (OpenSpec.ofChange Rows.rowsPlacesSpec) :=
  OpenClaim.holds_of_wide 6 Try.f6 rfl rfl rfl rfl rfl rfl rfl ⟨rfl, rfl, rfl, rfl, rfl⟩ rfl rfl rfl rfl rfl (by kernel_rfl) Try.func6 (by kernel_rfl)
    (of_decide_eq_true (by kernel_rfl)) (by unfold Func.isWrapper; first | (rw [if_pos (by decide +kernel)]; kernel_rfl) | (rw [if_neg (by decide +kernel)]; exact ⟨rfl, rfl⟩))
    (fun os started H enc _ => lifted os started H enc)

theorem proved : Rows.RowsPlacesSaid := over
#print axioms proved
end Go.Proofs.Ytnephejalollfaa.rowsPlaces
