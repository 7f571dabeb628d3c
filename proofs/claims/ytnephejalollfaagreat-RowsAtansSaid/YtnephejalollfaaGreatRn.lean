/- hairlineref06: Atan. -/
import Derived.Test.YtnephejalollfaaGreatRm
set_option linter.unusedVariables false
set_option linter.unusedSimpArgs false
namespace Go.Proofs.YtnephejalollfaaGreat
open Go.RowKit
open L (val dig nth)
set_option maxHeartbeats 4000000 in
set_option maxRecDepth 100000 in
theorem datan_calls {w : World}  {k0 : Nat} {n0 : Bool} {A0 : Option Addr} {l0 c0 : Nat} {x0 : Int} {q n : Int} (h0 : Q w k0 n0 A0 l0 c0 x0) (hk0 : k0 ≤ 40) :
    Calls Tryz.prog 16 #[.agg #[.bool n0, .slice A0 l0 c0], .int .i64 q, .int .i64 n] w fun e w' => Below w.heap.size w w' ∧ VF (Fact.t3 (Fact.z 340 (if mayR x0 q n 1 = true then atanLo x0 q n.toNat else 0)) (Fact.z 340 (if mayR x0 q n 1 = true then atanHi x0 q n.toNat else 0)) (Fact.eq (.int .i64 (if mayR x0 q n 1 = true then 0 else 1)))) e w' := by
 obtain ⟨mm, HM⟩ : ∃ m, Hid (mayR x0 q n 1 = m) := ⟨_, hide rfl⟩; have HM2 : Hid (mayD x0 q n 1 1 = mm) := hide (by rw [mayD_pow, HM.out]); rw [HM.out]
 go_enter Tryz.func16, Tryz.ntmps16
 have HB : Hid (Below w.heap.size w w) := hide (Below.refl _ _)
 go_upto_region 0 with (fail)
 refine F2.regionS [.al 24 #[.bool n0, .slice A0 l0 c0], .al 24 #[.bool false, .slice none 0 0], .al 24 #[.bool false, .slice none 0 0], .o] [Fact.any, Fact.any, Fact.any, Fact.eq ?ca8_] [3, 6, 7, 8] [3, 6, 7, 8] (by kernel_rfl) ?soa ?sopa (by kernel_rfl) ?sta ?fina
 case soa => exact fun x hx => by cases hx
 case sopa => exact List.Pairwise.nil
 case sta =>
  refine F2.Steps.consA rfl ⟨NoU.two nB nS, ?_⟩ ?_
  ·
   intro vz wz hBz K hK; simp only [zy, F2.Wp] at hK ⊢; go_simp; exact hK
  refine F2.Steps.consA rfl ⟨NoU.two nB nS, ?_⟩ ?_
  ·
   intro vz wz hBz K hK; simp only [zy, F2.Wp] at hK ⊢; go_simp; exact hK
  refine F2.Steps.consA rfl ⟨NoU.two nB nS, ?_⟩ ?_
  ·
   intro vz wz hBz K hK; simp only [zy, F2.Wp] at hK ⊢; go_simp; exact hK
  refine F2.Steps.consO rfl ?_ ?_
  ·
   intro vz wz hBz hDz hTz K hK; have HW := hBz.ext; simp only [zy, F2.Wp] at hK ⊢; go_simp; refine hK _ wz zB (Fact.eq_mk ?_); with_reducible rfl
  exact F2.Steps.nil
 intro va w1 hBz ⟨hOz, hAz, hNz, hSz⟩; obtain ⟨g3, cs3, E3, hg3, bx3, hs3, hz3⟩ := hAz 0 _ _ (by decide) rfl; have hzz := hz3 (F2.nost (by kernel_rfl)); subst hzz; obtain ⟨g6, cs6, E6, hg6, bx6, hs6, hz6⟩ := hAz 1 _ _ (by decide) rfl; have hzz := hz6 (F2.nost (by kernel_rfl)); subst hzz; obtain ⟨g7, cs7, E7, hg7, bx7, hs7, hz7⟩ := hAz 2 _ _ (by decide) rfl; have hzz := hz7 (F2.nost (by kernel_rfl)); subst hzz; have E8 : va 8 = _ := hOz 3 (by decide) rfl; have hne3_6 : Hid (¬ g3 = g6) := hide (fun h => hNz 0 1 _ _ _ _ (by decide) (by decide) (by decide) rfl rfl (by rw [E3, E6, h])); have hne3_7 : Hid (¬ g3 = g7) := hide (fun h => hNz 0 2 _ _ _ _ (by decide) (by decide) (by decide) rfl rfl (by rw [E3, E7, h])); have hne6_7 : Hid (¬ g6 = g7) := hide (fun h => hNz 1 2 _ _ _ _ (by decide) (by decide) (by decide) rfl rfl (by rw [E6, E7, h])); simp only [Act.put, actv, fill, fC, fN, tA, cS, cZ]; simp only [(show va 3 = _ from E3), (show va 6 = _ from E6), (show va 7 = _ from E7), E8]; clear E3 E6 E7 E8; have hge3 : w.heap.size ≤ g3 := Nat.le_trans HB.out.size hg3; have hge6 : w.heap.size ≤ g6 := Nat.le_trans HB.out.size hg6; have hge7 : w.heap.size ≤ g7 := Nat.le_trans HB.out.size hg7; replace h0 := h0.ext hBz.ext; replace HB := hide (HB.out.trans (hBz.below (B := w.heap.size) HB.out.size zE)); clear hOz hAz hNz hSz hs3 hz3 hs6 hz6 hs7 hz7 hBz
 go_upto_region 1 with (fail)
 refine F2.regionS [.o, .o, .o, .o, .o] [Fact.eq ?cb19_, Fact.eq ?cb20_, Fact.eq ?cb21_, Fact.eq ?cb22_, Fact.eq ?cb9_] [19, 20, 21, 22, 9] [19, 20, 21, 22, 9] (by kernel_rfl) ?sob ?sopb (by kernel_rfl) ?stb ?finb
 case sob => exact fun x hx => by cases hx
 case sopb => exact List.Pairwise.nil
 case stb =>
  refine F2.Steps.consO rfl ?_ ?_
  ·
   intro vz wz hBz hDz hTz K hK; have HW := hBz.ext; have bx3z := hBz.blk bx3 zN; obtain ⟨zl0, zl1, -⟩ := bx3z.two; simp only [zy, F2.Wp] at hK ⊢; go_simp; refine hK _ wz zB (Fact.eq_mk ?_); with_reducible rfl
  refine F2.Steps.consO rfl ?_ ?_
  ·
   intro vz wz hBz hDz hTz K hK; have HW := hBz.ext; simp only [zy, F2.Wp] at hK ⊢; go_simp; refine hK _ wz zB (Fact.eq_mk ?_); with_reducible rfl
  refine F2.Steps.consO rfl ?_ ?_
  ·
   intro vz wz hBz hDz hTz K hK; have HW := hBz.ext; simp only [zy, F2.Wp] at hK ⊢; go_simp; refine hK _ wz zB (Fact.eq_mk ?_); with_reducible rfl
  refine F2.Steps.consO rfl ?_ ?_
  ·
   intro vz wz hBz hDz hTz K hK; have E19 : vz 19 = _ := hDz 0 (by kernel_rfl) rfl; have E20 : vz 20 = _ := hDz 1 (by kernel_rfl) rfl; have E21 : vz 21 = _ := hDz 2 (by kernel_rfl) rfl; have HW := hBz.ext; simp only [zy, F2.Wp] at hK ⊢; simp only [E19, E20, E21] at hK ⊢; go_simp; refine Calls.mono (HM2.out ▸ dmay_calls (h0.ext HW) (by omega) (by omega) (by omega) (by omega) (by omega)) ?_; rintro e w2z ⟨hb2, uz, rfl, hf⟩; refine hK _ w2z hb2 (Fact.cast (hf) ?_); with_reducible rfl
  refine F2.Steps.consO rfl ?_ ?_
  ·
   intro vz wz hBz hDz hTz K hK; have E22 : vz 22 = _ := hDz 3 (by kernel_rfl) rfl; have HW := hBz.ext; simp only [zy, F2.Wp] at hK ⊢; simp only [E22] at hK ⊢; go_simp; refine hK _ wz zB (Fact.eq_mk ?_); with_reducible rfl
  exact F2.Steps.nil
 intro vb w2 hBz ⟨hOz, hAz, hNz, hSz⟩; have E19 : vb 19 = _ := hOz 0 (by decide) rfl; have E20 : vb 20 = _ := hOz 1 (by decide) rfl; have E21 : vb 21 = _ := hOz 2 (by decide) rfl; have E22 : vb 22 = _ := hOz 3 (by decide) rfl; have E9 : vb 9 = _ := hOz 4 (by decide) rfl; simp only [Act.put, actv, fill, fC, fN, tA, cS, cZ]; simp only [E19, E20, E21, E22, E9]; clear E19 E20 E21 E22 E9; replace h0 := h0.ext hBz.ext; replace bx3 := hBz.blk bx3 zN; replace bx6 := hBz.blk bx6 zN; replace bx7 := hBz.blk bx7 zN; replace HB := hide (HB.out.trans (hBz.below (B := w.heap.size) HB.out.size zE)); clear hOz hAz hNz hSz hBz
 go_upto_region 2 with (fail)
 refine F2.regionS [.o, .o] [Fact.eq ?cc23_, Fact.eq ?cc24_] [23, 24] [23, 24] (by kernel_rfl) ?soc ?sopc (by kernel_rfl) ?stc ?finc
 case soc => exact fun x hx => by cases hx
 case sopc => exact List.Pairwise.nil
 case stc =>
  refine F2.Steps.consO rfl ?_ ?_
  ·
   intro vz wz hBz hDz hTz K hK; have HW := hBz.ext; simp only [zy, F2.Wp] at hK ⊢; go_simp; refine hK _ wz zB (Fact.eq_mk ?_); with_reducible rfl
  refine F2.Steps.consO rfl ?_ ?_
  ·
   intro vz wz hBz hDz hTz K hK; have E23 : vz 23 = _ := hDz 0 (by kernel_rfl) rfl; have HW := hBz.ext; simp only [zy, F2.Wp] at hK ⊢; simp only [E23] at hK ⊢; go_simp; refine hK _ wz zB (Fact.eq_mk ?_); with_reducible rfl
  exact F2.Steps.nil
 intro vc w3 hBz ⟨hOz, hAz, hNz, hSz⟩; have E23 : vc 23 = _ := hOz 0 (by decide) rfl; have E24 : vc 24 = _ := hOz 1 (by decide) rfl; simp only [Act.put, actv, fill, fC, fN, tA, cS, cZ]; simp only [E23, E24]; clear E23 E24; replace h0 := h0.ext hBz.ext; replace bx3 := hBz.blk bx3 zN; replace bx6 := hBz.blk bx6 zN; replace bx7 := hBz.blk bx7 zN; replace HB := hide (HB.out.trans (hBz.below (B := w.heap.size) HB.out.size zE)); clear hOz hAz hNz hSz hBz
 cases mm with
 | false =>
  go_upto_region 3 with (fail)
  refine F2.regionS [.o, .o, .so (g6) 24 #[.bool false, .slice none 0 0], .so (g7) 24 #[.bool false, .slice none 0 0], .o] [Fact.eq ?cd25_, Fact.eq ?cd26_, Fact.z ?kds6_ ?zds6_, Fact.z ?kds7_ ?zds7_, Fact.eq ?cd8_] [25, 26, 8] [25, 26, 0, 0, 8] (by kernel_rfl) ?sod ?sopd (by kernel_rfl) ?std ?find
  case sod => exact List.forall_mem_cons.2 ⟨⟨bx6, NoU.two nB nS⟩, List.forall_mem_cons.2 ⟨⟨bx7, NoU.two nB nS⟩, fun x hx => by cases hx⟩⟩
  case sopd => exact List.Pairwise.cons (by intro y hy; simp [F2.sos] at hy; have hne6_7 := hne6_7.out; first | (subst hy; simp; done) | (subst hy; simp; omega) | (rcases hy with rfl | rfl <;> simp <;> omega)) (List.Pairwise.cons (fun y hy => by cases hy) (List.Pairwise.nil))
  case std =>
   refine F2.Steps.consO rfl ?_ ?_
   ·
    intro vz wz hBz hDz hTz K hK; have HW := hBz.ext; simp only [zy, F2.Wp] at hK ⊢; go_simp; refine hK _ wz zB (Fact.eq_mk ?_); with_reducible rfl
   refine F2.Steps.consO rfl ?_ ?_
   ·
    intro vz wz hBz hDz hTz K hK; have HW := hBz.ext; simp only [zy, F2.Wp] at hK ⊢; go_simp; refine hK _ wz zB (Fact.eq_mk ?_); with_reducible rfl
   refine F2.Steps.consT rfl ?_ ?_
   ·
    intro vz wz hBz hDz hbz K hK; obtain ⟨zc0, zc1, zc2, zc3⟩ := hbz.two; have E25 : vz 25 = _ := hDz 0 (by kernel_rfl) rfl; have HW := hBz.ext; simp only [zy, F2.Wp] at hK ⊢; simp only [E25] at hK ⊢; go_simp; refine hK _ ((Far.set _ _ 0 _).trans (Far.set _ _ 1 _)) ⟨_, blk_two hbz, NoU.two nB nS, Fact.cast (Fact.z_mk (QB.zero _ 0 0)) ?_⟩; with_reducible rfl
   refine F2.Steps.consT rfl ?_ ?_
   ·
    intro vz wz hBz hDz hbz K hK; obtain ⟨zc0, zc1, zc2, zc3⟩ := hbz.two; have E26 : vz 26 = _ := hDz 1 (by kernel_rfl) rfl; have HW := hBz.ext; simp only [zy, F2.Wp] at hK ⊢; simp only [E26] at hK ⊢; go_simp; refine hK _ ((Far.set _ _ 0 _).trans (Far.set _ _ 1 _)) ⟨_, blk_two hbz, NoU.two nB nS, Fact.cast (Fact.z_mk (QB.zero _ 0 0)) ?_⟩; with_reducible rfl
   refine F2.Steps.consO rfl ?_ ?_
   ·
    intro vz wz hBz hDz hTz K hK; have HW := hBz.ext; simp only [zy, F2.Wp] at hK ⊢; go_simp; refine hK _ wz zB (Fact.eq_mk ?_); with_reducible rfl
   exact F2.Steps.nil
  intro vd w4 hBz ⟨hOz, hAz, hNz, hSz⟩; have E25 : vd 25 = _ := hOz 0 (by decide) rfl; have E26 : vd 26 = _ := hOz 1 (by decide) rfl; obtain ⟨cs6, bx6n, hs6⟩ := hSz 2 _ _ _ (by decide) rfl; obtain ⟨n6sd_, A6sd_, l6sd_, c6sd_, E6sd, q6sd⟩ : IntV 0 _ _ w4 (.agg cs6) := hs6; injection E6sd with E6sd
  subst E6sd; obtain ⟨cs7, bx7n, hs7⟩ := hSz 3 _ _ _ (by decide) rfl; obtain ⟨n7sd_, A7sd_, l7sd_, c7sd_, E7sd, q7sd⟩ : IntV 0 _ _ w4 (.agg cs7) := hs7; injection E7sd with E7sd
  subst E7sd; have E8 : vd 8 = _ := hOz 4 (by decide) rfl; simp only [Act.put, actv, fill, fC, fN, tA, cS, cZ]; simp only [E25, E26, E8]; clear E25 E26 E8; replace h0 := h0.ext hBz.ext; replace bx3 := hBz.blk bx3 (zM hne3_6.out (zM hne3_7.out zN)); replace HB := hide (HB.out.trans (hBz.below (B := w.heap.size) HB.out.size (zA hge6 (zA hge7 zE)))); clear bx6; clear bx7; have bx6 := bx6n; clear bx6n; have bx7 := bx7n; clear bx7n; clear hOz hAz hNz hSz hBz
  go_wp2_with fail
  refine bodyPost_ret (results_int_int_tmp rfl _ _ _ _ _ _ _ _ _ _ rfl bx6 rfl bx7) rfl ⟨HB.out, ?_⟩; exact VF.mk (Fact.t3_mk (Fact.z_mk (q6sd.up (by omega))) (Fact.z_mk (q7sd.up (by omega))) (Fact.eq_self _ _))
 | true =>
  obtain ⟨hq, hn, ht0, hT⟩ := mayR_true HM.out; have HT0 := hide hT; clear hT; obtain ⟨N, rfl⟩ : ∃ N : Nat, n = (N : Int) := ⟨n.toNat, by omega⟩; obtain ⟨L, hL⟩ : ∃ L, Hid (L = 2 * N + 1) := ⟨_, hide rfl⟩; have hLN : L ≤ 801 := by have := hL.out; omega
  have HL0 := hide (lim_pow (q := q) hq.1 ht0 HT0.out); have HLo := hide (lim_odd (q := q) hq.1 ht0 HT0.out); have HX := hide (first_le hq.2 (by omega) HT0.out); have HA := hide (HL0.out.la HX.out); have HB_ := hide (HL0.out.lb HX.out); have HC := hide (HLo.out.la HX.out); have HD := hide (HLo.out.lb HX.out); have HS := hide (HLo.out.ta HX.out); have HT := hide (HLo.out.tb HX.out); clear HL0 HLo HX
  go_upto_region 4 with (fail)
  refine F2.regionS [.o, .o, .o, .al 24 #[.bool false, .slice none 0 0], .st 3] [Fact.eq ?ce27_, Fact.eq ?ce28_, Fact.z ?ke29_ ?ze29_, Fact.any, Fact.z ?kes10_ ?zes10_] [27, 28, 29, 10] [27, 28, 29, 10, 0] (by kernel_rfl) ?soe ?sope (by kernel_rfl) ?ste ?fine
  case soe => exact fun x hx => by cases hx
  case sope => exact List.Pairwise.nil
  case ste =>
   refine F2.Steps.consO rfl ?_ ?_
   ·
    intro vz wz hBz hDz hTz K hK; have HW := hBz.ext; have bx3z := hBz.blk bx3 zN; obtain ⟨zl0, zl1, -⟩ := bx3z.two; simp only [zy, F2.Wp] at hK ⊢; go_simp; refine hK _ wz zB (Fact.eq_mk ?_); with_reducible rfl
   refine F2.Steps.consO rfl ?_ ?_
   ·
    intro vz wz hBz hDz hTz K hK; have HW := hBz.ext; have bx3z := hBz.blk bx3 zN; obtain ⟨zl0, zl1, -⟩ := bx3z.two; simp only [zy, F2.Wp] at hK ⊢; go_simp; refine hK _ wz zB (Fact.eq_mk ?_); with_reducible rfl
   refine F2.Steps.consO rfl ?_ ?_
   ·
    intro vz wz hBz hDz hTz K hK; have E27 : vz 27 = _ := hDz 0 (by kernel_rfl) rfl; have E28 : vz 28 = _ := hDz 1 (by kernel_rfl) rfl; have HW := hBz.ext; simp only [zy, F2.Wp] at hK ⊢; simp only [E27, E28] at hK ⊢; go_simp; refine Calls.mono (u_mul (h0.ext HW) (h0.ext HW) (by omega) (by omega)) ?_; rintro e w2z ⟨hb2, uz, rfl, hf⟩; refine hK _ w2z hb2 (Fact.cast (hf) ?_); with_reducible rfl
   refine F2.Steps.consA rfl ⟨NoU.two nB nS, ?_⟩ ?_
   ·
    intro vz wz hBz K hK; simp only [zy, F2.Wp] at hK ⊢; go_simp; exact hK
   refine F2.Steps.consS rfl rfl ?_ ?_
   ·
    intro vz wz gz hBz hDz E10' hgz hbz K hK; obtain ⟨zc0, zc1, zc2, zc3⟩ := hbz.two; obtain ⟨n29_, A29_, l29_, c29_, E29, q29⟩ : IntV 0 _ _ wz (vz 29) := hDz 2 (by kernel_rfl) rfl; have E10 : vz 10 = .pointer (some ⟨gz, 0, none⟩) := E10'; have HW := hBz.ext; simp only [zy, F2.Wp] at hK ⊢; simp only [E10, E29] at hK ⊢; go_simp; refine hK _ ((Far.set _ gz 0 _).trans (Far.set _ gz 1 _)) ⟨_, blk_two hbz, NoU.two nB nS, Fact.cast (Fact.z_mk q29) ?_⟩; with_reducible rfl
   exact F2.Steps.nil
  intro ve w5 hBz ⟨hOz, hAz, hNz, hSz⟩; have E27 : ve 27 = _ := hOz 0 (by decide) rfl; have E28 : ve 28 = _ := hOz 1 (by decide) rfl; obtain ⟨n29_, A29_, l29_, c29_, E29, q29⟩ : IntV 0 _ _ w5 (ve 29) := hOz 2 (by decide) rfl; obtain ⟨g10, cs10, E10, hg10, bx10, hs10, hz10⟩ := hAz 3 _ _ (by decide) rfl; obtain ⟨n10se_, A10se_, l10se_, c10se_, E10se, q10se⟩ : IntV 0 _ _ w5 (.agg cs10) := hs10 4 (by decide) rfl; injection E10se with E10se
  subst E10se; simp only [Act.put, actv, fill, fC, fN, tA, cS, cZ]; simp only [E27, E28, E29, (show ve 10 = _ from E10)]; clear E27 E28 E29 E10; have hge10 : w.heap.size ≤ g10 := Nat.le_trans HB.out.size hg10; have hne10_3 := hide (Nat.ne_of_gt (Nat.lt_of_lt_of_le bx3.lt (show w3.heap.size ≤ g10 from hg10))); have hne10_6 := hide (Nat.ne_of_gt (Nat.lt_of_lt_of_le bx6.lt (show w3.heap.size ≤ g10 from hg10))); have hne10_7 := hide (Nat.ne_of_gt (Nat.lt_of_lt_of_le bx7.lt (show w3.heap.size ≤ g10 from hg10))); replace h0 := h0.ext hBz.ext; replace bx3 := hBz.blk bx3 zN; replace bx6 := hBz.blk bx6 zN; replace bx7 := hBz.blk bx7 zN; replace HB := hide (HB.out.trans (hBz.below (B := w.heap.size) HB.out.size zE)); clear hOz hAz hNz hSz hs10 hz10 hBz
  go_upto_region 5 with (fail)
  refine F2.regionS [.o, .o, .al 24 #[.bool false, .slice none 0 0], .st 2] [Fact.eq ?cf30_, Fact.z ?kf31_ ?zf31_, Fact.any, Fact.z ?kfs11_ ?zfs11_] [30, 31, 11] [30, 31, 11, 0] (by kernel_rfl) ?sof ?sopf (by kernel_rfl) ?stf ?finf
  case sof => exact fun x hx => by cases hx
  case sopf => exact List.Pairwise.nil
  case stf =>
   refine F2.Steps.consO rfl ?_ ?_
   ·
    intro vz wz hBz hDz hTz K hK; have HW := hBz.ext; have bx3z := hBz.blk bx3 zN; obtain ⟨zl0, zl1, -⟩ := bx3z.two; simp only [zy, F2.Wp] at hK ⊢; go_simp; refine hK _ wz zB (Fact.eq_mk ?_); with_reducible rfl
   refine F2.Steps.consO rfl ?_ ?_
   ·
    intro vz wz hBz hDz hTz K hK; have E30 : vz 30 = _ := hDz 0 (by kernel_rfl) rfl; have HW := hBz.ext; simp only [zy, F2.Wp] at hK ⊢; simp only [E30] at hK ⊢; go_simp; refine Calls.mono (u_norm (h0.ext HW) (by omega)) ?_; rintro e w2z ⟨hb2, uz, rfl, hf⟩; refine hK _ w2z hb2 (Fact.cast (hf) ?_); with_reducible rfl
   refine F2.Steps.consA rfl ⟨NoU.two nB nS, ?_⟩ ?_
   ·
    intro vz wz hBz K hK; simp only [zy, F2.Wp] at hK ⊢; go_simp; exact hK
   refine F2.Steps.consS rfl rfl ?_ ?_
   ·
    intro vz wz gz hBz hDz E11' hgz hbz K hK; obtain ⟨zc0, zc1, zc2, zc3⟩ := hbz.two; obtain ⟨n31_, A31_, l31_, c31_, E31, q31⟩ : IntV 0 _ _ wz (vz 31) := hDz 1 (by kernel_rfl) rfl; have E11 : vz 11 = .pointer (some ⟨gz, 0, none⟩) := E11'; have HW := hBz.ext; simp only [zy, F2.Wp] at hK ⊢; simp only [E11, E31] at hK ⊢; go_simp; refine hK _ ((Far.set _ gz 0 _).trans (Far.set _ gz 1 _)) ⟨_, blk_two hbz, NoU.two nB nS, Fact.cast (Fact.z_mk q31) ?_⟩; with_reducible rfl
   exact F2.Steps.nil
  intro vf w6 hBz ⟨hOz, hAz, hNz, hSz⟩; have E30 : vf 30 = _ := hOz 0 (by decide) rfl; obtain ⟨n31_, A31_, l31_, c31_, E31, q31⟩ : IntV 0 _ _ w6 (vf 31) := hOz 1 (by decide) rfl; obtain ⟨g11, cs11, E11, hg11, bx11, hs11, hz11⟩ := hAz 2 _ _ (by decide) rfl; obtain ⟨n11sf_, A11sf_, l11sf_, c11sf_, E11sf, q11sf⟩ : IntV 0 _ _ w6 (.agg cs11) := hs11 3 (by decide) rfl; injection E11sf with E11sf
  subst E11sf; simp only [Act.put, actv, fill, fC, fN, tA, cS, cZ]; simp only [E30, E31, (show vf 11 = _ from E11)]; clear E30 E31 E11; have hge11 : w.heap.size ≤ g11 := Nat.le_trans HB.out.size hg11; have hne11_3 := hide (Nat.ne_of_gt (Nat.lt_of_lt_of_le bx3.lt (show w5.heap.size ≤ g11 from hg11))); have hne11_6 := hide (Nat.ne_of_gt (Nat.lt_of_lt_of_le bx6.lt (show w5.heap.size ≤ g11 from hg11))); have hne11_7 := hide (Nat.ne_of_gt (Nat.lt_of_lt_of_le bx7.lt (show w5.heap.size ≤ g11 from hg11))); have hne11_10 := hide (Nat.ne_of_gt (Nat.lt_of_lt_of_le bx10.lt (show w5.heap.size ≤ g11 from hg11))); replace h0 := h0.ext hBz.ext; replace q10se := q10se.ext hBz.ext; replace bx3 := hBz.blk bx3 zN; replace bx6 := hBz.blk bx6 zN; replace bx7 := hBz.blk bx7 zN; replace bx10 := hBz.blk bx10 zN; replace HB := hide (HB.out.trans (hBz.below (B := w.heap.size) HB.out.size zE)); clear hOz hAz hNz hSz hs11 hz11 hBz
  go_upto_region 6 with (fail)
  refine F2.regionS [.o, .al 24 #[.bool false, .slice none 0 0], .st 1] [Fact.eq ?cg32_, Fact.any, Fact.z ?kgs12_ ?zgs12_] [32, 12] [32, 12, 0] (by kernel_rfl) ?sog ?sopg (by kernel_rfl) ?stg ?fing
  case sog => exact fun x hx => by cases hx
  case sopg => exact List.Pairwise.nil
  case stg =>
   refine F2.Steps.consO rfl ?_ ?_
   ·
    intro vz wz hBz hDz hTz K hK; have HW := hBz.ext; have bx11z := hBz.blk bx11 zN; obtain ⟨zl0, zl1, -⟩ := bx11z.two; simp only [zy, F2.Wp] at hK ⊢; go_simp; refine hK _ wz zB (Fact.eq_mk ?_); with_reducible rfl
   refine F2.Steps.consA rfl ⟨NoU.two nB nS, ?_⟩ ?_
   ·
    intro vz wz hBz K hK; simp only [zy, F2.Wp] at hK ⊢; go_simp; exact hK
   refine F2.Steps.consS rfl rfl ?_ ?_
   ·
    intro vz wz gz hBz hDz E12' hgz hbz K hK; obtain ⟨zc0, zc1, zc2, zc3⟩ := hbz.two; have E32 : vz 32 = _ := hDz 0 (by kernel_rfl) rfl; have E12 : vz 12 = .pointer (some ⟨gz, 0, none⟩) := E12'; have HW := hBz.ext; simp only [zy, F2.Wp] at hK ⊢; simp only [E12, E32] at hK ⊢; go_simp; refine hK _ ((Far.set _ gz 0 _).trans (Far.set _ gz 1 _)) ⟨_, blk_two hbz, NoU.two nB nS, Fact.cast (Fact.z_mk (q11sf.ext HW)) ?_⟩; with_reducible rfl
   exact F2.Steps.nil
  intro vg w7 hBz ⟨hOz, hAz, hNz, hSz⟩; have E32 : vg 32 = _ := hOz 0 (by decide) rfl; obtain ⟨g12, cs12, E12, hg12, bx12, hs12, hz12⟩ := hAz 1 _ _ (by decide) rfl; obtain ⟨n12sg_, A12sg_, l12sg_, c12sg_, E12sg, q12sg⟩ : IntV 0 _ _ w7 (.agg cs12) := hs12 2 (by decide) rfl; injection E12sg with E12sg
  subst E12sg; simp only [Act.put, actv, fill, fC, fN, tA, cS, cZ]; simp only [E32, (show vg 12 = _ from E12)]; clear E32 E12; have hge12 : w.heap.size ≤ g12 := Nat.le_trans HB.out.size hg12; have hne12_3 := hide (Nat.ne_of_gt (Nat.lt_of_lt_of_le bx3.lt (show w6.heap.size ≤ g12 from hg12))); have hne12_6 := hide (Nat.ne_of_gt (Nat.lt_of_lt_of_le bx6.lt (show w6.heap.size ≤ g12 from hg12))); have hne12_7 := hide (Nat.ne_of_gt (Nat.lt_of_lt_of_le bx7.lt (show w6.heap.size ≤ g12 from hg12))); have hne12_10 := hide (Nat.ne_of_gt (Nat.lt_of_lt_of_le bx10.lt (show w6.heap.size ≤ g12 from hg12))); have hne12_11 := hide (Nat.ne_of_gt (Nat.lt_of_lt_of_le bx11.lt (show w6.heap.size ≤ g12 from hg12))); replace h0 := h0.ext hBz.ext; replace q10se := q10se.ext hBz.ext; replace q11sf := q11sf.ext hBz.ext; replace bx3 := hBz.blk bx3 zN; replace bx6 := hBz.blk bx6 zN; replace bx7 := hBz.blk bx7 zN; replace bx10 := hBz.blk bx10 zN; replace bx11 := hBz.blk bx11 zN; replace HB := hide (HB.out.trans (hBz.below (B := w.heap.size) HB.out.size zE)); clear hOz hAz hNz hSz hs12 hz12 hBz
  go_upto_region 7 with (fail)
  refine F2.regionS [.o, .al 24 #[.bool false, .slice none 0 0], .st 1] [Fact.z ?kh33_ ?zh33_, Fact.any, Fact.z ?khs13_ ?zhs13_] [33, 13] [33, 13, 0] (by kernel_rfl) ?soh ?soph (by kernel_rfl) ?sth ?finh
  case soh => exact fun x hx => by cases hx
  case soph => exact List.Pairwise.nil
  case sth =>
   refine F2.Steps.consO rfl ?_ ?_
   ·
    intro vz wz hBz hDz hTz K hK; have HW := hBz.ext; simp only [zy, F2.Wp] at hK ⊢; go_simp; refine Calls.mono (u_of  (by omega) (by omega)) ?_; rintro e w2z ⟨hb2, uz, rfl, hf⟩; refine hK _ w2z hb2 (Fact.cast (hf) ?_); with_reducible rfl
   refine F2.Steps.consA rfl ⟨NoU.two nB nS, ?_⟩ ?_
   ·
    intro vz wz hBz K hK; simp only [zy, F2.Wp] at hK ⊢; go_simp; exact hK
   refine F2.Steps.consS rfl rfl ?_ ?_
   ·
    intro vz wz gz hBz hDz E13' hgz hbz K hK; obtain ⟨zc0, zc1, zc2, zc3⟩ := hbz.two; obtain ⟨n33_, A33_, l33_, c33_, E33, q33⟩ : IntV 0 _ _ wz (vz 33) := hDz 0 (by kernel_rfl) rfl; have E13 : vz 13 = .pointer (some ⟨gz, 0, none⟩) := E13'; have HW := hBz.ext; simp only [zy, F2.Wp] at hK ⊢; simp only [E13, E33] at hK ⊢; go_simp; refine hK _ ((Far.set _ gz 0 _).trans (Far.set _ gz 1 _)) ⟨_, blk_two hbz, NoU.two nB nS, Fact.cast (Fact.z_mk q33) ?_⟩; with_reducible rfl
   exact F2.Steps.nil
  intro vh w8 hBz ⟨hOz, hAz, hNz, hSz⟩; obtain ⟨n33_, A33_, l33_, c33_, E33, q33⟩ : IntV 0 _ _ w8 (vh 33) := hOz 0 (by decide) rfl; obtain ⟨g13, cs13, E13, hg13, bx13, hs13, hz13⟩ := hAz 1 _ _ (by decide) rfl; obtain ⟨n13sh_, A13sh_, l13sh_, c13sh_, E13sh, q13sh⟩ : IntV 0 _ _ w8 (.agg cs13) := hs13 2 (by decide) rfl; injection E13sh with E13sh
  subst E13sh; simp only [Act.put, actv, fill, fC, fN, tA, cS, cZ]; simp only [E33, (show vh 13 = _ from E13)]; clear E33 E13; have hge13 : w.heap.size ≤ g13 := Nat.le_trans HB.out.size hg13; have hne13_3 := hide (Nat.ne_of_gt (Nat.lt_of_lt_of_le bx3.lt (show w7.heap.size ≤ g13 from hg13))); have hne13_6 := hide (Nat.ne_of_gt (Nat.lt_of_lt_of_le bx6.lt (show w7.heap.size ≤ g13 from hg13))); have hne13_7 := hide (Nat.ne_of_gt (Nat.lt_of_lt_of_le bx7.lt (show w7.heap.size ≤ g13 from hg13))); have hne13_10 := hide (Nat.ne_of_gt (Nat.lt_of_lt_of_le bx10.lt (show w7.heap.size ≤ g13 from hg13))); have hne13_11 := hide (Nat.ne_of_gt (Nat.lt_of_lt_of_le bx11.lt (show w7.heap.size ≤ g13 from hg13))); have hne13_12 := hide (Nat.ne_of_gt (Nat.lt_of_lt_of_le bx12.lt (show w7.heap.size ≤ g13 from hg13))); replace h0 := h0.ext hBz.ext; replace q10se := q10se.ext hBz.ext; replace q11sf := q11sf.ext hBz.ext; replace q12sg := q12sg.ext hBz.ext; replace bx3 := hBz.blk bx3 zN; replace bx6 := hBz.blk bx6 zN; replace bx7 := hBz.blk bx7 zN; replace bx10 := hBz.blk bx10 zN; replace bx11 := hBz.blk bx11 zN; replace bx12 := hBz.blk bx12 zN; replace HB := hide (HB.out.trans (hBz.below (B := w.heap.size) HB.out.size zE)); clear hOz hAz hNz hSz hs13 hz13 hBz
  go_wp2_with fail
  have hl3 := bx3.lt; have hl6 := bx6.lt; have hl7 := bx7.lt; have hl10 := bx10.lt; have hl11 := bx11.lt; have hl12 := bx12.lt; have hl13 := bx13.lt; have hbL := HB.out.size
  go_loopw [14, 15, 16] (fun ra_ rb_ iv wr1 => ∃ i : Nat, i ≤ L ∧ iv = .int .i64 ((i : Int)) ∧ Low [g11, g12] w8 wr1 ∧ RowW wr1 w8.heap.size 40 ra_ (lst (oA (rA (dPow q) (x0 * x0) x0)) i) ∧ RowW wr1 w8.heap.size 40 rb_ (lst (oB (rB (dPow q) (x0 * x0) x0)) i) ∧ Apart ra_ rb_ ∧ (∃ n11a A11a l11a c11a, Blk wr1 (g11) 24 #[.bool n11a, .slice A11a l11a c11a] ∧ QB wr1 0 (40) n11a A11a l11a c11a ((rA (dPow q) (x0 * x0) x0) i)) ∧ (∃ n12a A12a l12a c12a, Blk wr1 (g12) 24 #[.bool n12a, .slice A12a l12a c12a] ∧ QB wr1 0 (40) n12a A12a l12a c12a ((rB (dPow q) (x0 * x0) x0) i))) (fun _ _ iv _ => L + 0 - (intOf iv).toNat)
  case atStart => exact ⟨0, by omega, rfl, Low.refl _ _, RowW.nil _ _ _, RowW.nil _ _ _, Apart.nil, ⟨_, _, _, _, bx11, (q11sf.up (by omega))⟩, ⟨_, _, _, _, bx12, (q12sg.up (by omega))⟩⟩
  case round =>
   obtain ⟨i, hi, rfl, HL, ha, hb, hap, ⟨n11a, A11a, l11a, c11a, bx11, q11a⟩, ⟨n12a, A12a, l12a, c12a, bx12, q12a⟩⟩ := hrel; replace h0 := h0.ext HL.ext; replace q10se := q10se.ext HL.ext; replace q13sh := q13sh.ext HL.ext; replace bx3 := HL.blk bx3 (zM (Ne.symm hne11_3.out) (zM (Ne.symm hne12_3.out) zN)); replace bx6 := HL.blk bx6 (zM (Ne.symm hne11_6.out) (zM (Ne.symm hne12_6.out) zN)); replace bx7 := HL.blk bx7 (zM (Ne.symm hne11_7.out) (zM (Ne.symm hne12_7.out) zN)); replace bx10 := HL.blk bx10 (zM (Ne.symm hne11_10.out) (zM (Ne.symm hne12_10.out) zN)); replace bx13 := HL.blk bx13 (zM hne13_11.out (zM hne13_12.out zN)); replace HB := hide (HB.out.trans (HL.below (B := w.heap.size) HB.out.size (zA hge11 (zA hge12 zE))))
   by_cases hlt : i < L
   ·
    have hlt' : (i : Int) ≤ 2 * (N : Int) := by have := hL.out; omega
    go_upto_region 13 with (fail)
    obtain ⟨bx3c0, bx3c1, -⟩ := bx3.two; obtain ⟨bx6c0, bx6c1, -⟩ := bx6.two; obtain ⟨bx7c0, bx7c1, -⟩ := bx7.two; obtain ⟨bx10c0, bx10c1, -⟩ := bx10.two; obtain ⟨bx11c0, bx11c1, -⟩ := bx11.two; obtain ⟨bx12c0, bx12c1, -⟩ := bx12.two; obtain ⟨bx13c0, bx13c1, -⟩ := bx13.two
    go_wp2_with fail
    refine Calls.mono (ddown_calls q11a.q q13sh.q (by omega) (by omega) (by omega) (by omega) (by omega) (by omega)) ?_; rintro e w9 ⟨hb2, uz9, rfl, hf⟩; clear bx3c0 bx3c1 bx6c0 bx6c1 bx7c0 bx7c1 bx10c0 bx10c1 bx11c0 bx11c1 bx12c0 bx12c1 bx13c0 bx13c1; obtain ⟨n46_, A46_, l46_, c46_, rfl, q46⟩ : IntV 0 _ _ w9 uz9 := hf; have HW := ext_of hb2; replace h0 := h0.ext HW; replace q10se := q10se.ext HW; replace q11a := q11a.ext HW; replace q12a := q12a.ext HW; replace q13sh := q13sh.ext HW; replace bx3 := bx3.below hb2 bx3.lt; replace bx6 := bx6.below hb2 bx6.lt; replace bx7 := bx7.below hb2 bx7.lt; replace bx10 := bx10.below hb2 bx10.lt; replace bx11 := bx11.below hb2 bx11.lt; replace bx12 := bx12.below hb2 bx12.lt; replace bx13 := bx13.below hb2 bx13.lt; replace ha := ha.low1 (g := g11) (low_of hb2) zE (ha.ne hl11); replace hb := hb.low1 (g := g11) (low_of hb2) zE (hb.ne hl11); replace HL := HL.step (low_of hb2) zE; replace HB := hide (HB.out.trans (hb2.mono HB.out.size)); clear HW hb2; obtain ⟨bx3c0, bx3c1, -⟩ := bx3.two; obtain ⟨bx6c0, bx6c1, -⟩ := bx6.two; obtain ⟨bx7c0, bx7c1, -⟩ := bx7.two; obtain ⟨bx10c0, bx10c1, -⟩ := bx10.two; obtain ⟨bx11c0, bx11c1, -⟩ := bx11.two; obtain ⟨bx12c0, bx12c1, -⟩ := bx12.two; obtain ⟨bx13c0, bx13c1, -⟩ := bx13.two; have HBA := alloc_below w9 (.cells #[.bool n46_, .slice A46_ l46_ c46_] 24); have hszA : w8.heap.size ≤ (w9.alloc (.cells #[.bool n46_, .slice A46_ l46_ c46_] 24)).heap.size := Nat.le_trans HL.size HBA.size
    go_upto_region 14 with (at_builtin; refine wpList_appendW rfl _ _ rfl rfl (ha.below HBA) rfl (Blk.new _ _ _) ((show QB _ 0 40 _ _ _ _ ((oA (rA (dPow q) (x0 * x0) x0)) i) from q46.fit (HC.out i (by omega))).ext (ext_of HBA)) (by rw [lst_len]; omega) hszA ?_; intro va13 w10 han hgr hown hlow)
    clear bx3c0 bx3c1 bx6c0 bx6c1 bx7c0 bx7c1 bx10c0 bx10c1 bx11c0 bx11c1 bx12c0 bx12c1 bx13c0 bx13c1; have HZ : Low u14.ownBlock.toList w9 w10 := ((Low.refl u14.ownBlock.toList w9).grow HBA).step hlow (fun g hg => Or.inl hg); have hap0 : Apart u14 u15 := hap; replace hap := hap0.grow hown (fun g hg => ((hb.below HBA).lt g hg).2); replace hb := (hb.below HBA).step hgr (Apart.or hap0) hlow.ext; replace h0 := h0.ext HZ.ext; replace q10se := q10se.ext HZ.ext; replace q11a := q11a.ext HZ.ext; replace q12a := q12a.ext HZ.ext; replace q13sh := q13sh.ext HZ.ext; replace bx3 := HZ.blk bx3 (ha.far hl3); replace bx6 := HZ.blk bx6 (ha.far hl6); replace bx7 := HZ.blk bx7 (ha.far hl7); replace bx10 := HZ.blk bx10 (ha.far hl10); replace bx11 := HZ.blk bx11 (ha.far hl11); replace bx12 := HZ.blk bx12 (ha.far hl12); replace bx13 := HZ.blk bx13 (ha.far hl13); replace HB := hide (HB.out.trans (HZ.below (B := w.heap.size) HB.out.size (ha.near hbL))); replace HL := HL.step HZ (fun g hg => Or.inr (ha.near (Nat.le_refl _) g hg)); clear ha HBA hszA hgr hown hlow HZ hap0; have ha := han; clear han; clear q46
    go_upto_region 14 with (fail)
    obtain ⟨bx3c0, bx3c1, -⟩ := bx3.two; obtain ⟨bx6c0, bx6c1, -⟩ := bx6.two; obtain ⟨bx7c0, bx7c1, -⟩ := bx7.two; obtain ⟨bx10c0, bx10c1, -⟩ := bx10.two; obtain ⟨bx11c0, bx11c1, -⟩ := bx11.two; obtain ⟨bx12c0, bx12c1, -⟩ := bx12.two; obtain ⟨bx13c0, bx13c1, -⟩ := bx13.two
    go_wp2_with fail
    refine Calls.mono (dup_calls q12a.q q13sh.q (by omega) (by omega) (by omega) (by omega) (by omega) (by omega)) ?_; rintro e w11 ⟨hb2, uz11, rfl, hf⟩; clear bx3c0 bx3c1 bx6c0 bx6c1 bx7c0 bx7c1 bx10c0 bx10c1 bx11c0 bx11c1 bx12c0 bx12c1 bx13c0 bx13c1; obtain ⟨n55_, A55_, l55_, c55_, rfl, q55⟩ : IntV 0 _ _ w11 uz11 := hf; have HW := ext_of hb2; replace h0 := h0.ext HW; replace q10se := q10se.ext HW; replace q11a := q11a.ext HW; replace q12a := q12a.ext HW; replace q13sh := q13sh.ext HW; replace bx3 := bx3.below hb2 bx3.lt; replace bx6 := bx6.below hb2 bx6.lt; replace bx7 := bx7.below hb2 bx7.lt; replace bx10 := bx10.below hb2 bx10.lt; replace bx11 := bx11.below hb2 bx11.lt; replace bx12 := bx12.below hb2 bx12.lt; replace bx13 := bx13.below hb2 bx13.lt; replace ha := ha.low1 (g := g11) (low_of hb2) zE (ha.ne hl11); replace hb := hb.low1 (g := g11) (low_of hb2) zE (hb.ne hl11); replace HL := HL.step (low_of hb2) zE; replace HB := hide (HB.out.trans (hb2.mono HB.out.size)); clear HW hb2; obtain ⟨bx3c0, bx3c1, -⟩ := bx3.two; obtain ⟨bx6c0, bx6c1, -⟩ := bx6.two; obtain ⟨bx7c0, bx7c1, -⟩ := bx7.two; obtain ⟨bx10c0, bx10c1, -⟩ := bx10.two; obtain ⟨bx11c0, bx11c1, -⟩ := bx11.two; obtain ⟨bx12c0, bx12c1, -⟩ := bx12.two; obtain ⟨bx13c0, bx13c1, -⟩ := bx13.two; have HBA := alloc_below w11 (.cells #[.bool n55_, .slice A55_ l55_ c55_] 24); have hszA : w8.heap.size ≤ (w11.alloc (.cells #[.bool n55_, .slice A55_ l55_ c55_] 24)).heap.size := Nat.le_trans HL.size HBA.size
    go_upto_region 15 with (at_builtin; refine wpList_appendW rfl _ _ rfl rfl (hb.below HBA) rfl (Blk.new _ _ _) ((show QB _ 0 40 _ _ _ _ ((oB (rB (dPow q) (x0 * x0) x0)) i) from q55.fit (HD.out i (by omega))).ext (ext_of HBA)) (by rw [lst_len]; omega) hszA ?_; intro vb14 w12 hbn hgr hown hlow)
    clear bx3c0 bx3c1 bx6c0 bx6c1 bx7c0 bx7c1 bx10c0 bx10c1 bx11c0 bx11c1 bx12c0 bx12c1 bx13c0 bx13c1; have HZ : Low u15.ownBlock.toList w11 w12 := ((Low.refl u15.ownBlock.toList w11).grow HBA).step hlow (fun g hg => Or.inl hg); have hap0 : Apart u15 va13 := hap.symm; replace hap := (hap0.grow hown (fun g hg => ((ha.below HBA).lt g hg).2)).symm; replace ha := (ha.below HBA).step hgr (Apart.or hap0) hlow.ext; replace h0 := h0.ext HZ.ext; replace q10se := q10se.ext HZ.ext; replace q11a := q11a.ext HZ.ext; replace q12a := q12a.ext HZ.ext; replace q13sh := q13sh.ext HZ.ext; replace bx3 := HZ.blk bx3 (hb.far hl3); replace bx6 := HZ.blk bx6 (hb.far hl6); replace bx7 := HZ.blk bx7 (hb.far hl7); replace bx10 := HZ.blk bx10 (hb.far hl10); replace bx11 := HZ.blk bx11 (hb.far hl11); replace bx12 := HZ.blk bx12 (hb.far hl12); replace bx13 := HZ.blk bx13 (hb.far hl13); replace HB := hide (HB.out.trans (HZ.below (B := w.heap.size) HB.out.size (hb.near hbL))); replace HL := HL.step HZ (fun g hg => Or.inr (hb.near (Nat.le_refl _) g hg)); clear hb HBA hszA hgr hown hlow HZ hap0; have hb := hbn; clear hbn; clear q55
    go_upto_region 15 with (fail)
    refine F2.regionS [.o, .o, .o, .o, .o, .so (g11) 24 #[.bool n11a, .slice A11a l11a c11a]] [Fact.eq ?cm58_, Fact.eq ?cm59_, Fact.eq ?cm60_, Fact.eq ?cm61_, Fact.z ?km62_ ?zm62_, Fact.z ?kms11_ ?zms11_] [58, 59, 60, 61, 62] [58, 59, 60, 61, 62, 0] (by kernel_rfl) ?som ?sopm (by kernel_rfl) ?stm ?finm
    case som => exact List.forall_mem_cons.2 ⟨⟨bx11, NoU.two nB nS⟩, fun x hx => by cases hx⟩
    case sopm => exact List.Pairwise.cons (fun y hy => by cases hy) (List.Pairwise.nil)
    case stm =>
     refine F2.Steps.consO rfl ?_ ?_
     ·
      intro vz wz hBz hDz hTz K hK; have HW := hBz.ext; have bx11z := hTz 5 _ _ _ _ rfl rfl (by kernel_rfl); obtain ⟨zl0, zl1, -⟩ := bx11z.two; simp only [zy, F2.Wp] at hK ⊢; go_simp; refine hK _ wz zB (Fact.eq_mk ?_); with_reducible rfl
     refine F2.Steps.consO rfl ?_ ?_
     ·
      intro vz wz hBz hDz hTz K hK; have HW := hBz.ext; have bx10z := hBz.blk bx10 (zM (Ne.symm hne11_10.out) zN); obtain ⟨zl0, zl1, -⟩ := bx10z.two; simp only [zy, F2.Wp] at hK ⊢; go_simp; refine hK _ wz zB (Fact.eq_mk ?_); with_reducible rfl
     refine F2.Steps.consO rfl ?_ ?_
     ·
      intro vz wz hBz hDz hTz K hK; have HW := hBz.ext; simp only [zy, F2.Wp] at hK ⊢; go_simp; refine hK _ wz zB (Fact.eq_mk ?_); with_reducible rfl
     refine F2.Steps.consO rfl ?_ ?_
     ·
      intro vz wz hBz hDz hTz K hK; have E60 : vz 60 = _ := hDz 2 (by kernel_rfl) rfl; have HW := hBz.ext; simp only [zy, F2.Wp] at hK ⊢; simp only [E60] at hK ⊢; go_simp
      try simp (disch := omega) only [IntWalk.i64_in]
      refine hK _ wz zB (Fact.eq_mk ?_); with_reducible rfl
     refine F2.Steps.consO rfl ?_ ?_
     ·
      intro vz wz hBz hDz hTz K hK; have E58 : vz 58 = _ := hDz 0 (by kernel_rfl) rfl; have E59 : vz 59 = _ := hDz 1 (by kernel_rfl) rfl; have E61 : vz 61 = _ := hDz 3 (by kernel_rfl) rfl; have HW := hBz.ext; simp only [zy, F2.Wp] at hK ⊢; simp only [E58, E59, E61] at hK ⊢; go_simp; refine Calls.mono (ddown_calls (q11a.ext HW).q (q10se.ext HW).q (by omega) (by omega) (by omega) (by omega) (by omega) (by omega)) ?_; rintro e w2z ⟨hb2, uz, rfl, hf⟩; refine hK _ w2z hb2 (Fact.cast (hf) ?_); with_reducible rfl
     refine F2.Steps.consT rfl ?_ ?_
     ·
      intro vz wz hBz hDz hbz K hK; obtain ⟨zc0, zc1, zc2, zc3⟩ := hbz.two; obtain ⟨n62_, A62_, l62_, c62_, E62, q62⟩ : IntV 0 _ _ wz (vz 62) := hDz 4 (by kernel_rfl) rfl; have HW := hBz.ext; simp only [zy, F2.Wp] at hK ⊢; simp only [E62] at hK ⊢; go_simp; refine hK _ ((Far.set _ _ 0 _).trans (Far.set _ _ 1 _)) ⟨_, blk_two hbz, NoU.two nB nS, Fact.cast (Fact.z_mk q62) ?_⟩; with_reducible rfl
     exact F2.Steps.nil
    intro vm w13 hBz ⟨hOz, hAz, hNz, hSz⟩; have E58 : vm 58 = _ := hOz 0 (by decide) rfl; have E59 : vm 59 = _ := hOz 1 (by decide) rfl; have E60 : vm 60 = _ := hOz 2 (by decide) rfl; have E61 : vm 61 = _ := hOz 3 (by decide) rfl; obtain ⟨n62_, A62_, l62_, c62_, E62, q62⟩ : IntV 0 _ _ w13 (vm 62) := hOz 4 (by decide) rfl; obtain ⟨cs11, bx11n, hs11⟩ := hSz 5 _ _ _ (by decide) rfl; obtain ⟨n11sm_, A11sm_, l11sm_, c11sm_, E11sm, q11sm⟩ : IntV 0 _ _ w13 (.agg cs11) := hs11; injection E11sm with E11sm
    subst E11sm; simp only [Act.put, actv, fill, fC, fN, tA, cS, cZ]; simp only [E58, E59, E60, E61, E62]; clear E58 E59 E60 E61 E62; replace h0 := h0.ext hBz.ext; replace q10se := q10se.ext hBz.ext; replace q11a := q11a.ext hBz.ext; replace q12a := q12a.ext hBz.ext; replace q13sh := q13sh.ext hBz.ext; replace bx3 := hBz.blk bx3 (zM (Ne.symm hne11_3.out) zN); replace bx6 := hBz.blk bx6 (zM (Ne.symm hne11_6.out) zN); replace bx7 := hBz.blk bx7 (zM (Ne.symm hne11_7.out) zN); replace bx10 := hBz.blk bx10 (zM (Ne.symm hne11_10.out) zN); replace bx12 := hBz.blk bx12 (zM hne12_11.out zN); replace bx13 := hBz.blk bx13 (zM hne13_11.out zN); replace ha := ha.low1 (g := g11) hBz (zA rfl zE) (ha.ne hl11); replace hb := hb.low1 (g := g11) hBz (zA rfl zE) (hb.ne hl11); replace HL := HL.step hBz (zA (Or.inl (by simp)) zE); replace HB := hide (HB.out.trans (hBz.below (B := w.heap.size) HB.out.size (zA hge11 zE))); clear bx11; have bx11 := bx11n; clear bx11n; clear hOz hAz hNz hSz hBz
    go_upto_region 16 with (fail)
    refine F2.regionS [.o, .o, .o, .o, .o, .so (g12) 24 #[.bool n12a, .slice A12a l12a c12a]] [Fact.eq ?cn63_, Fact.eq ?cn64_, Fact.eq ?cn65_, Fact.eq ?cn66_, Fact.z ?kn67_ ?zn67_, Fact.z ?kns12_ ?zns12_] [63, 64, 65, 66, 67] [63, 64, 65, 66, 67, 0] (by kernel_rfl) ?son ?sopn (by kernel_rfl) ?stn ?finn
    case son => exact List.forall_mem_cons.2 ⟨⟨bx12, NoU.two nB nS⟩, fun x hx => by cases hx⟩
    case sopn => exact List.Pairwise.cons (fun y hy => by cases hy) (List.Pairwise.nil)
    case stn =>
     refine F2.Steps.consO rfl ?_ ?_
     ·
      intro vz wz hBz hDz hTz K hK; have HW := hBz.ext; have bx12z := hTz 5 _ _ _ _ rfl rfl (by kernel_rfl); obtain ⟨zl0, zl1, -⟩ := bx12z.two; simp only [zy, F2.Wp] at hK ⊢; go_simp; refine hK _ wz zB (Fact.eq_mk ?_); with_reducible rfl
     refine F2.Steps.consO rfl ?_ ?_
     ·
      intro vz wz hBz hDz hTz K hK; have HW := hBz.ext; have bx10z := hBz.blk bx10 (zM (Ne.symm hne12_10.out) zN); obtain ⟨zl0, zl1, -⟩ := bx10z.two; simp only [zy, F2.Wp] at hK ⊢; go_simp; refine hK _ wz zB (Fact.eq_mk ?_); with_reducible rfl
     refine F2.Steps.consO rfl ?_ ?_
     ·
      intro vz wz hBz hDz hTz K hK; have HW := hBz.ext; simp only [zy, F2.Wp] at hK ⊢; go_simp; refine hK _ wz zB (Fact.eq_mk ?_); with_reducible rfl
     refine F2.Steps.consO rfl ?_ ?_
     ·
      intro vz wz hBz hDz hTz K hK; have E65 : vz 65 = _ := hDz 2 (by kernel_rfl) rfl; have HW := hBz.ext; simp only [zy, F2.Wp] at hK ⊢; simp only [E65] at hK ⊢; go_simp
      try simp (disch := omega) only [IntWalk.i64_in]
      refine hK _ wz zB (Fact.eq_mk ?_); with_reducible rfl
     refine F2.Steps.consO rfl ?_ ?_
     ·
      intro vz wz hBz hDz hTz K hK; have E63 : vz 63 = _ := hDz 0 (by kernel_rfl) rfl; have E64 : vz 64 = _ := hDz 1 (by kernel_rfl) rfl; have E66 : vz 66 = _ := hDz 3 (by kernel_rfl) rfl; have HW := hBz.ext; simp only [zy, F2.Wp] at hK ⊢; simp only [E63, E64, E66] at hK ⊢; go_simp; refine Calls.mono (dup_calls (q12a.ext HW).q (q10se.ext HW).q (by omega) (by omega) (by omega) (by omega) (by omega) (by omega)) ?_; rintro e w2z ⟨hb2, uz, rfl, hf⟩; refine hK _ w2z hb2 (Fact.cast (hf) ?_); with_reducible rfl
     refine F2.Steps.consT rfl ?_ ?_
     ·
      intro vz wz hBz hDz hbz K hK; obtain ⟨zc0, zc1, zc2, zc3⟩ := hbz.two; obtain ⟨n67_, A67_, l67_, c67_, E67, q67⟩ : IntV 0 _ _ wz (vz 67) := hDz 4 (by kernel_rfl) rfl; have HW := hBz.ext; simp only [zy, F2.Wp] at hK ⊢; simp only [E67] at hK ⊢; go_simp; refine hK _ ((Far.set _ _ 0 _).trans (Far.set _ _ 1 _)) ⟨_, blk_two hbz, NoU.two nB nS, Fact.cast (Fact.z_mk q67) ?_⟩; with_reducible rfl
     exact F2.Steps.nil
    intro vn w14 hBz ⟨hOz, hAz, hNz, hSz⟩; have E63 : vn 63 = _ := hOz 0 (by decide) rfl; have E64 : vn 64 = _ := hOz 1 (by decide) rfl; have E65 : vn 65 = _ := hOz 2 (by decide) rfl; have E66 : vn 66 = _ := hOz 3 (by decide) rfl; obtain ⟨n67_, A67_, l67_, c67_, E67, q67⟩ : IntV 0 _ _ w14 (vn 67) := hOz 4 (by decide) rfl; obtain ⟨cs12, bx12n, hs12⟩ := hSz 5 _ _ _ (by decide) rfl; obtain ⟨n12sn_, A12sn_, l12sn_, c12sn_, E12sn, q12sn⟩ : IntV 0 _ _ w14 (.agg cs12) := hs12; injection E12sn with E12sn
    subst E12sn; simp only [Act.put, actv, fill, fC, fN, tA, cS, cZ]; simp only [E63, E64, E65, E66, E67]; clear E63 E64 E65 E66 E67; replace h0 := h0.ext hBz.ext; replace q10se := q10se.ext hBz.ext; replace q11sm := q11sm.ext hBz.ext; replace q12a := q12a.ext hBz.ext; replace q13sh := q13sh.ext hBz.ext; replace bx3 := hBz.blk bx3 (zM (Ne.symm hne12_3.out) zN); replace bx6 := hBz.blk bx6 (zM (Ne.symm hne12_6.out) zN); replace bx7 := hBz.blk bx7 (zM (Ne.symm hne12_7.out) zN); replace bx10 := hBz.blk bx10 (zM (Ne.symm hne12_10.out) zN); replace bx11 := hBz.blk bx11 (zM (Ne.symm hne12_11.out) zN); replace bx13 := hBz.blk bx13 (zM hne13_12.out zN); replace ha := ha.low1 (g := g12) hBz (zA rfl zE) (ha.ne hl12); replace hb := hb.low1 (g := g12) hBz (zA rfl zE) (hb.ne hl12); replace HL := HL.step hBz (zA (Or.inl (by simp)) zE); replace HB := hide (HB.out.trans (hBz.below (B := w.heap.size) HB.out.size (zA hge12 zE))); clear bx12; have bx12 := bx12n; clear bx12n; clear hOz hAz hNz hSz hBz
    go_wp2_with fail
    go_roundw
    case rel => (repeat apply Exists.intro); exact ⟨⟨i + 1, by omega, by go_num, HL, ha, hb, hap, ⟨_, _, _, _, bx11, (q11sm.fit (HA.out (i + 1) (by omega)))⟩, ⟨_, _, _, _, bx12, (q12sn.fit (HB_.out (i + 1) (by omega)))⟩⟩, rfl⟩
    case measure => simp [intOf]; omega
   ·
    have hge : ¬ ((i : Int) ≤ 2 * (N : Int)) := by have := hL.out; omega
    have hie := hide (show i = L by omega); clear hlt; obtain ⟨g1, cp1, rfl, hB1, hr1⟩ := ha.read_lst (L := i) (by have := hL.out; have := hie.out; omega); obtain ⟨g2, cp2, rfl, hB2, hr2⟩ := hb.read_lst (L := i) (by have := hL.out; have := hie.out; omega); clear ha hb hap; replace hL : Hid (i = 2 * N + 1) := hide (hie.out.trans hL.out); clear hie
    go_upto_region 17 with (fail)
    clear hge; refine F2.regionS [.o, .o, .o, .o, .o, .o, .al 24 #[.bool false, .slice none 0 0], .al 24 #[.bool false, .slice none 0 0], .st 6, .st 7] [Fact.eq ?co69_, Fact.eq ?co70_, Fact.t2 (Fact.z ?ko71_p ?zo71_p) (Fact.z ?ko71_q ?zo71_q), Fact.t2 (Fact.z ?ko68_p ?zo68_p) (Fact.z ?ko68_q ?zo68_q), Fact.z ?ko72_ ?zo72_, Fact.z ?ko73_ ?zo73_, Fact.any, Fact.any, Fact.z ?kos17_ ?zos17_, Fact.z ?kos18_ ?zos18_] [69, 70, 71, 68, 72, 73, 17, 18] [69, 70, 71, 68, 72, 73, 17, 18, 0, 0] (by kernel_rfl) ?soo ?sopo (by kernel_rfl) ?sto ?fino
    case soo => exact fun x hx => by cases hx
    case sopo => exact List.Pairwise.nil
    case sto =>
     refine F2.Steps.consO rfl ?_ ?_
     ·
      intro vz wz hBz hDz hTz K hK; have HW := hBz.ext; simp only [zy, F2.Wp] at hK ⊢; go_simp; refine hK _ wz zB (Fact.eq_mk ?_); with_reducible rfl
     refine F2.Steps.consO rfl ?_ ?_
     ·
      intro vz wz hBz hDz hTz K hK; have HW := hBz.ext; simp only [zy, F2.Wp] at hK ⊢; go_simp; refine hK _ wz zB (Fact.eq_mk ?_); with_reducible rfl
     refine F2.Steps.consO rfl ?_ ?_
     ·
      intro vz wz hBz hDz hTz K hK; have E69 : vz 69 = _ := hDz 0 (by kernel_rfl) rfl; have E70 : vz 70 = _ := hDz 1 (by kernel_rfl) rfl; have HW := hBz.ext; simp only [zy, F2.Wp] at hK ⊢; simp only [E69, E70] at hK ⊢; go_simp; refine Calls.mono (turned_calls   (hr1.low hBz zN) (hr2.low hBz zN) hL (show N ≤ 400 by omega) (by omega) (hide (fun i hi => HS.out i (by have := hL.out; omega))) (hide (fun i hi => HT.out i (by have := hL.out; omega)))) ?_; rintro e w2z ⟨hb2, uz, rfl, hf⟩; refine hK _ w2z hb2 (Fact.cast (hf) ?_); with_reducible rfl
     refine F2.Steps.consO rfl ?_ ?_
     ·
      intro vz wz hBz hDz hTz K hK; obtain ⟨x71p_, x71q_, E71, h71p, h71q⟩ : TV2 _ _ wz (vz 71) := hDz 2 (by kernel_rfl) rfl; have HW := hBz.ext; simp only [zy, F2.Wp] at hK ⊢; simp only [E71] at hK ⊢; go_simp; refine hK _ wz zB (Fact.cast (Fact.t2_mk h71p h71q) ?_); with_reducible rfl
     refine F2.Steps.consO rfl ?_ ?_
     ·
      intro vz wz hBz hDz hTz K hK; obtain ⟨x68p_, x68q_, E68, h68p, h68q⟩ : TV2 _ _ wz (vz 68) := hDz 3 (by kernel_rfl) rfl; have HW := hBz.ext; simp only [zy, F2.Wp] at hK ⊢; simp only [E68] at hK ⊢; go_simp; refine hK _ wz zB (Fact.cast (h68p) ?_); with_reducible rfl
     refine F2.Steps.consO rfl ?_ ?_
     ·
      intro vz wz hBz hDz hTz K hK; obtain ⟨x68p_, x68q_, E68, h68p, h68q⟩ : TV2 _ _ wz (vz 68) := hDz 3 (by kernel_rfl) rfl; have HW := hBz.ext; simp only [zy, F2.Wp] at hK ⊢; simp only [E68] at hK ⊢; go_simp; refine hK _ wz zB (Fact.cast (h68q) ?_); with_reducible rfl
     refine F2.Steps.consA rfl ⟨NoU.two nB nS, ?_⟩ ?_
     ·
      intro vz wz hBz K hK; simp only [zy, F2.Wp] at hK ⊢; go_simp; exact hK
     refine F2.Steps.consA rfl ⟨NoU.two nB nS, ?_⟩ ?_
     ·
      intro vz wz hBz K hK; simp only [zy, F2.Wp] at hK ⊢; go_simp; exact hK
     refine F2.Steps.consS rfl rfl ?_ ?_
     ·
      intro vz wz gz hBz hDz E17' hgz hbz K hK; obtain ⟨zc0, zc1, zc2, zc3⟩ := hbz.two; obtain ⟨n72_, A72_, l72_, c72_, E72, q72⟩ : IntV 0 _ _ wz (vz 72) := hDz 4 (by kernel_rfl) rfl; have E17 : vz 17 = .pointer (some ⟨gz, 0, none⟩) := E17'; have HW := hBz.ext; simp only [zy, F2.Wp] at hK ⊢; simp only [E17, E72] at hK ⊢; go_simp; refine hK _ ((Far.set _ gz 0 _).trans (Far.set _ gz 1 _)) ⟨_, blk_two hbz, NoU.two nB nS, Fact.cast (Fact.z_mk q72) ?_⟩; with_reducible rfl
     refine F2.Steps.consS rfl rfl ?_ ?_
     ·
      intro vz wz gz hBz hDz E18' hgz hbz K hK; obtain ⟨zc0, zc1, zc2, zc3⟩ := hbz.two; obtain ⟨n73_, A73_, l73_, c73_, E73, q73⟩ : IntV 0 _ _ wz (vz 73) := hDz 5 (by kernel_rfl) rfl; have E18 : vz 18 = .pointer (some ⟨gz, 0, none⟩) := E18'; have HW := hBz.ext; simp only [zy, F2.Wp] at hK ⊢; simp only [E18, E73] at hK ⊢; go_simp; refine hK _ ((Far.set _ gz 0 _).trans (Far.set _ gz 1 _)) ⟨_, blk_two hbz, NoU.two nB nS, Fact.cast (Fact.z_mk q73) ?_⟩; with_reducible rfl
     exact F2.Steps.nil
    intro vo w15 hBz ⟨hOz, hAz, hNz, hSz⟩; have E69 : vo 69 = _ := hOz 0 (by decide) rfl; have E70 : vo 70 = _ := hOz 1 (by decide) rfl; obtain ⟨x71p_, x71q_, E71, h71p, h71q⟩ : TV2 _ _ w15 (vo 71) := hOz 2 (by decide) rfl; obtain ⟨x68p_, x68q_, E68, h68p, h68q⟩ : TV2 _ _ w15 (vo 68) := hOz 3 (by decide) rfl; obtain ⟨n72_, A72_, l72_, c72_, E72, q72⟩ : IntV 0 _ _ w15 (vo 72) := hOz 4 (by decide) rfl; obtain ⟨n73_, A73_, l73_, c73_, E73, q73⟩ : IntV 0 _ _ w15 (vo 73) := hOz 5 (by decide) rfl; obtain ⟨g17, cs17, E17, hg17, bx17, hs17, hz17⟩ := hAz 6 _ _ (by decide) rfl; obtain ⟨g18, cs18, E18, hg18, bx18, hs18, hz18⟩ := hAz 7 _ _ (by decide) rfl; obtain ⟨n17so_, A17so_, l17so_, c17so_, E17so, q17so⟩ : IntV 0 _ _ w15 (.agg cs17) := hs17 8 (by decide) rfl; injection E17so with E17so
    subst E17so; obtain ⟨n18so_, A18so_, l18so_, c18so_, E18so, q18so⟩ : IntV 0 _ _ w15 (.agg cs18) := hs18 9 (by decide) rfl; injection E18so with E18so
    subst E18so; have hne17_18 : Hid (¬ g17 = g18) := hide (fun h => hNz 6 7 _ _ _ _ (by decide) (by decide) (by decide) rfl rfl (by rw [E17, E18, h])); simp only [Act.put, actv, fill, fC, fN, tA, cS, cZ]; simp only [E69, E70, E71, E68, E72, E73, (show vo 17 = _ from E17), (show vo 18 = _ from E18)]; clear E69 E70 E71 E68 E72 E73 E17 E18; have hge17 : w.heap.size ≤ g17 := Nat.le_trans HB.out.size hg17; have hne17_3 := hide (Nat.ne_of_gt (Nat.lt_of_lt_of_le bx3.lt (show wr.heap.size ≤ g17 from hg17))); have hne17_6 := hide (Nat.ne_of_gt (Nat.lt_of_lt_of_le bx6.lt (show wr.heap.size ≤ g17 from hg17))); have hne17_7 := hide (Nat.ne_of_gt (Nat.lt_of_lt_of_le bx7.lt (show wr.heap.size ≤ g17 from hg17))); have hne17_10 := hide (Nat.ne_of_gt (Nat.lt_of_lt_of_le bx10.lt (show wr.heap.size ≤ g17 from hg17))); have hne17_11 := hide (Nat.ne_of_gt (Nat.lt_of_lt_of_le bx11.lt (show wr.heap.size ≤ g17 from hg17))); have hne17_12 := hide (Nat.ne_of_gt (Nat.lt_of_lt_of_le bx12.lt (show wr.heap.size ≤ g17 from hg17))); have hne17_13 := hide (Nat.ne_of_gt (Nat.lt_of_lt_of_le bx13.lt (show wr.heap.size ≤ g17 from hg17))); have hge18 : w.heap.size ≤ g18 := Nat.le_trans HB.out.size hg18; have hne18_3 := hide (Nat.ne_of_gt (Nat.lt_of_lt_of_le bx3.lt (show wr.heap.size ≤ g18 from hg18))); have hne18_6 := hide (Nat.ne_of_gt (Nat.lt_of_lt_of_le bx6.lt (show wr.heap.size ≤ g18 from hg18))); have hne18_7 := hide (Nat.ne_of_gt (Nat.lt_of_lt_of_le bx7.lt (show wr.heap.size ≤ g18 from hg18))); have hne18_10 := hide (Nat.ne_of_gt (Nat.lt_of_lt_of_le bx10.lt (show wr.heap.size ≤ g18 from hg18))); have hne18_11 := hide (Nat.ne_of_gt (Nat.lt_of_lt_of_le bx11.lt (show wr.heap.size ≤ g18 from hg18))); have hne18_12 := hide (Nat.ne_of_gt (Nat.lt_of_lt_of_le bx12.lt (show wr.heap.size ≤ g18 from hg18))); have hne18_13 := hide (Nat.ne_of_gt (Nat.lt_of_lt_of_le bx13.lt (show wr.heap.size ≤ g18 from hg18))); replace h0 := h0.ext hBz.ext; replace q10se := q10se.ext hBz.ext; replace q11a := q11a.ext hBz.ext; replace q12a := q12a.ext hBz.ext; replace q13sh := q13sh.ext hBz.ext; replace bx3 := hBz.blk bx3 zN; replace bx6 := hBz.blk bx6 zN; replace bx7 := hBz.blk bx7 zN; replace bx10 := hBz.blk bx10 zN; replace bx11 := hBz.blk bx11 zN; replace bx12 := hBz.blk bx12 zN; replace bx13 := hBz.blk bx13 zN; replace HB := hide (HB.out.trans (hBz.below (B := w.heap.size) HB.out.size zE)); clear hOz hAz hNz hSz hs17 hz17 hs18 hz18 hBz
    go_upto_region 18 with (fail)
    refine F2.region [.o, .o, .so (g6) 24 #[.bool false, .slice none 0 0], .so (g7) 24 #[.bool false, .slice none 0 0], .o] [Fact.eq ?cp74_, Fact.eq ?cp75_, Fact.z ?kps6_ ?zps6_, Fact.z ?kps7_ ?zps7_, Fact.eq ?cp8_] [74, 75, 8] [74, 75, 0, 0, 8] (by kernel_rfl) ?sop ?sopp (by kernel_rfl) ?stp ?finp
    case sop => exact List.forall_mem_cons.2 ⟨⟨bx6, NoU.two nB nS⟩, List.forall_mem_cons.2 ⟨⟨bx7, NoU.two nB nS⟩, fun x hx => by cases hx⟩⟩
    case sopp => exact List.Pairwise.cons (by intro y hy; simp [F2.sos] at hy; have hne6_7 := hne6_7.out; first | (subst hy; simp; done) | (subst hy; simp; omega) | (rcases hy with rfl | rfl <;> simp <;> omega)) (List.Pairwise.cons (fun y hy => by cases hy) (List.Pairwise.nil))
    case stp =>
     refine F2.Steps.consO rfl ?_ ?_
     ·
      intro vz wz hBz hDz hTz K hK; have HW := ext_drew hBz.ext; have bx17z := hBz.blk bx17.drew (zM hne17_6.out (zM hne17_7.out zN)); obtain ⟨zl0, zl1, -⟩ := bx17z.two; simp only [zy, F2.Wp] at hK ⊢; go_simp; refine hK _ wz zB (Fact.eq_mk ?_); with_reducible rfl
     refine F2.Steps.consO rfl ?_ ?_
     ·
      intro vz wz hBz hDz hTz K hK; have HW := ext_drew hBz.ext; have bx18z := hBz.blk bx18.drew (zM hne18_6.out (zM hne18_7.out zN)); obtain ⟨zl0, zl1, -⟩ := bx18z.two; simp only [zy, F2.Wp] at hK ⊢; go_simp; refine hK _ wz zB (Fact.eq_mk ?_); with_reducible rfl
     refine F2.Steps.consT rfl ?_ ?_
     ·
      intro vz wz hBz hDz hbz K hK; obtain ⟨zc0, zc1, zc2, zc3⟩ := hbz.two; have E74 : vz 74 = _ := hDz 0 (by kernel_rfl) rfl; have HW := ext_drew hBz.ext; simp only [zy, F2.Wp] at hK ⊢; simp only [E74] at hK ⊢; go_simp; refine hK _ ((Far.set _ _ 0 _).trans (Far.set _ _ 1 _)) ⟨_, blk_two hbz, NoU.two nB nS, Fact.cast (Fact.z_mk (q17so.ext HW)) ?_⟩; with_reducible rfl
     refine F2.Steps.consT rfl ?_ ?_
     ·
      intro vz wz hBz hDz hbz K hK; obtain ⟨zc0, zc1, zc2, zc3⟩ := hbz.two; have E75 : vz 75 = _ := hDz 1 (by kernel_rfl) rfl; have HW := ext_drew hBz.ext; simp only [zy, F2.Wp] at hK ⊢; simp only [E75] at hK ⊢; go_simp; refine hK _ ((Far.set _ _ 0 _).trans (Far.set _ _ 1 _)) ⟨_, blk_two hbz, NoU.two nB nS, Fact.cast (Fact.z_mk (q18so.ext HW)) ?_⟩; with_reducible rfl
     refine F2.Steps.consO rfl ?_ ?_
     ·
      intro vz wz hBz hDz hTz K hK; have HW := ext_drew hBz.ext; simp only [zy, F2.Wp] at hK ⊢; go_simp; refine hK _ wz zB (Fact.eq_mk ?_); with_reducible rfl
     exact F2.Steps.nil
    intro vp w16 hBz ⟨hOz, hAz, hNz, hSz⟩; have E74 : vp 74 = _ := hOz 0 (by decide) rfl; have E75 : vp 75 = _ := hOz 1 (by decide) rfl; obtain ⟨cs6, bx6n, hs6⟩ := hSz 2 _ _ _ (by decide) rfl; obtain ⟨n6sp_, A6sp_, l6sp_, c6sp_, E6sp, q6sp⟩ : IntV 0 _ _ w16 (.agg cs6) := hs6; injection E6sp with E6sp
    subst E6sp; obtain ⟨cs7, bx7n, hs7⟩ := hSz 3 _ _ _ (by decide) rfl; obtain ⟨n7sp_, A7sp_, l7sp_, c7sp_, E7sp, q7sp⟩ : IntV 0 _ _ w16 (.agg cs7) := hs7; injection E7sp with E7sp
    subst E7sp; have E8 : vp 8 = _ := hOz 4 (by decide) rfl; simp only [Act.put, actv, fill, fC, fN, tA, cS, cZ]; simp only [E74, E75, E8]; clear E74 E75 E8; replace h0 := h0.ext hBz.ext; replace q10se := q10se.ext hBz.ext; replace q11a := q11a.ext hBz.ext; replace q12a := q12a.ext hBz.ext; replace q13sh := q13sh.ext hBz.ext; replace q17so := q17so.ext hBz.ext; replace q18so := q18so.ext hBz.ext; replace bx3 := hBz.blk bx3 (zM hne3_6.out (zM hne3_7.out zN)); replace bx10 := hBz.blk bx10 (zM hne10_6.out (zM hne10_7.out zN)); replace bx11 := hBz.blk bx11 (zM hne11_6.out (zM hne11_7.out zN)); replace bx12 := hBz.blk bx12 (zM hne12_6.out (zM hne12_7.out zN)); replace bx13 := hBz.blk bx13 (zM hne13_6.out (zM hne13_7.out zN)); replace bx17 := hBz.blk bx17 (zM hne17_6.out (zM hne17_7.out zN)); replace bx18 := hBz.blk bx18 (zM hne18_6.out (zM hne18_7.out zN)); replace HB := hide (HB.out.trans (hBz.below (B := w.heap.size) HB.out.size (zA hge6 (zA hge7 zE)))); clear bx6; clear bx7; have bx6 := bx6n; clear bx6n; have bx7 := bx7n; clear bx7n; clear hOz hAz hNz hSz hBz
    go_wp2_with fail
    refine bodyPost_ret (results_int_int_tmp rfl _ _ _ _ _ _ _ _ _ _ rfl bx6 rfl bx7) rfl ⟨HB.out, ?_⟩; exact VF.mk (Fact.t3_mk (Fact.z_mk (q6sp.up (by omega))) (Fact.z_mk ((q7sp.up (by omega)).cast_ (tu_even _ _ _))) (Fact.eq_self _ _))
end Go.Proofs.YtnephejalollfaaGreat
