/- hairlineref06: Sin, Cos. -/
import Derived.Test.YtnephejalollfaaGreatRm
set_option linter.unusedVariables false
set_option linter.unusedSimpArgs false
namespace Go.Proofs.YtnephejalollfaaGreat
open Go.RowKit
open L (val dig nth)
set_option maxHeartbeats 4000000 in
set_option maxRecDepth 100000 in
theorem dsin_calls {w : World}  {k0 : Nat} {n0 : Bool} {A0 : Option Addr} {l0 c0 : Nat} {x0 : Int} {q n : Int} (h0 : Q w k0 n0 A0 l0 c0 x0) (hk0 : k0 ≤ 40) :
    Calls Tryz.prog 9 #[.agg #[.bool n0, .slice A0 l0 c0], .int .i64 q, .int .i64 n] w fun e w' => Below w.heap.size w w' ∧ VF (Fact.t3 (Fact.z 340 (if mayR x0 q n 4 = true then sinLo x0 q n.toNat else 0)) (Fact.z 340 (if mayR x0 q n 4 = true then sinHi x0 q n.toNat else 0)) (Fact.eq (.int .i64 (if mayR x0 q n 4 = true then 0 else 1)))) e w' := by
 obtain ⟨mm, HM⟩ : ∃ m, Hid (mayR x0 q n 4 = m) := ⟨_, hide rfl⟩; have HM2 : Hid (mayD x0 q n 2 0 = mm) := hide (by rw [mayD_wave, HM.out]); rw [HM.out]
 go_enter Tryz.func9, Tryz.ntmps9
 have HB : Hid (Below w.heap.size w w) := hide (Below.refl _ _)
 go_upto_region 0 with (fail)
 refine F2.regionS [.al 24 #[.bool n0, .slice A0 l0 c0], .al 24 #[.bool false, .slice none 0 0], .al 24 #[.bool false, .slice none 0 0], .o] [Fact.any, Fact.any, Fact.any, Fact.eq ?ca8_] [3, 6, 7, 8] [3, 6, 7, 8] (by kernel_rfl) ?soa ?sopa (by kernel_rfl) ?sta ?fina
 case soa => exact fun x hx => by cases hx
 case sopa => exact List.Pairwise.nil
 case sta =>
  refine F2.Steps.consA rfl ⟨NoU.two nB nS, ?_⟩ ?_
  ·
   intro vz wz hBz K hK; simp only [zy, F2.Wp] at hK ⊢; go_simp; exact hK
  refine F2.Steps.consA rfl ⟨NoU.two nB nS, ?_⟩ ?_
  ·
   intro vz wz hBz K hK; simp only [zy, F2.Wp] at hK ⊢; go_simp; exact hK
  refine F2.Steps.consA rfl ⟨NoU.two nB nS, ?_⟩ ?_
  ·
   intro vz wz hBz K hK; simp only [zy, F2.Wp] at hK ⊢; go_simp; exact hK
  refine F2.Steps.consO rfl ?_ ?_
  ·
   intro vz wz hBz hDz hTz K hK; have HW := hBz.ext; simp only [zy, F2.Wp] at hK ⊢; go_simp; refine hK _ wz zB (Fact.eq_mk ?_); with_reducible rfl
  exact F2.Steps.nil
 intro va w1 hBz ⟨hOz, hAz, hNz, hSz⟩; obtain ⟨g3, cs3, E3, hg3, bx3, hs3, hz3⟩ := hAz 0 _ _ (by decide) rfl; have hzz := hz3 (F2.nost (by kernel_rfl)); subst hzz; obtain ⟨g6, cs6, E6, hg6, bx6, hs6, hz6⟩ := hAz 1 _ _ (by decide) rfl; have hzz := hz6 (F2.nost (by kernel_rfl)); subst hzz; obtain ⟨g7, cs7, E7, hg7, bx7, hs7, hz7⟩ := hAz 2 _ _ (by decide) rfl; have hzz := hz7 (F2.nost (by kernel_rfl)); subst hzz; have E8 : va 8 = _ := hOz 3 (by decide) rfl; have hne3_6 : Hid (¬ g3 = g6) := hide (fun h => hNz 0 1 _ _ _ _ (by decide) (by decide) (by decide) rfl rfl (by rw [E3, E6, h])); have hne3_7 : Hid (¬ g3 = g7) := hide (fun h => hNz 0 2 _ _ _ _ (by decide) (by decide) (by decide) rfl rfl (by rw [E3, E7, h])); have hne6_7 : Hid (¬ g6 = g7) := hide (fun h => hNz 1 2 _ _ _ _ (by decide) (by decide) (by decide) rfl rfl (by rw [E6, E7, h])); simp only [Act.put, actv, fill, fC, fN, tA, cS, cZ]; simp only [(show va 3 = _ from E3), (show va 6 = _ from E6), (show va 7 = _ from E7), E8]; clear E3 E6 E7 E8; have hge3 : w.heap.size ≤ g3 := Nat.le_trans HB.out.size hg3; have hge6 : w.heap.size ≤ g6 := Nat.le_trans HB.out.size hg6; have hge7 : w.heap.size ≤ g7 := Nat.le_trans HB.out.size hg7; replace h0 := h0.ext hBz.ext; replace HB := hide (HB.out.trans (hBz.below (B := w.heap.size) HB.out.size zE)); clear hOz hAz hNz hSz hs3 hz3 hs6 hz6 hs7 hz7 hBz
 go_upto_region 1 with (fail)
 refine F2.regionS [.o, .o, .o, .o, .o] [Fact.eq ?cb12_, Fact.eq ?cb13_, Fact.eq ?cb14_, Fact.eq ?cb15_, Fact.eq ?cb9_] [12, 13, 14, 15, 9] [12, 13, 14, 15, 9] (by kernel_rfl) ?sob ?sopb (by kernel_rfl) ?stb ?finb
 case sob => exact fun x hx => by cases hx
 case sopb => exact List.Pairwise.nil
 case stb =>
  refine F2.Steps.consO rfl ?_ ?_
  ·
   intro vz wz hBz hDz hTz K hK; have HW := hBz.ext; have bx3z := hBz.blk bx3 zN; obtain ⟨zl0, zl1, -⟩ := bx3z.two; simp only [zy, F2.Wp] at hK ⊢; go_simp; refine hK _ wz zB (Fact.eq_mk ?_); with_reducible rfl
  refine F2.Steps.consO rfl ?_ ?_
  ·
   intro vz wz hBz hDz hTz K hK; have HW := hBz.ext; simp only [zy, F2.Wp] at hK ⊢; go_simp; refine hK _ wz zB (Fact.eq_mk ?_); with_reducible rfl
  refine F2.Steps.consO rfl ?_ ?_
  ·
   intro vz wz hBz hDz hTz K hK; have HW := hBz.ext; simp only [zy, F2.Wp] at hK ⊢; go_simp; refine hK _ wz zB (Fact.eq_mk ?_); with_reducible rfl
  refine F2.Steps.consO rfl ?_ ?_
  ·
   intro vz wz hBz hDz hTz K hK; have E12 : vz 12 = _ := hDz 0 (by kernel_rfl) rfl; have E13 : vz 13 = _ := hDz 1 (by kernel_rfl) rfl; have E14 : vz 14 = _ := hDz 2 (by kernel_rfl) rfl; have HW := hBz.ext; simp only [zy, F2.Wp] at hK ⊢; simp only [E12, E13, E14] at hK ⊢; go_simp; refine Calls.mono (HM2.out ▸ dmay_calls (h0.ext HW) (by omega) (by omega) (by omega) (by omega) (by omega)) ?_; rintro e w2z ⟨hb2, uz, rfl, hf⟩; refine hK _ w2z hb2 (Fact.cast (hf) ?_); with_reducible rfl
  refine F2.Steps.consO rfl ?_ ?_
  ·
   intro vz wz hBz hDz hTz K hK; have E15 : vz 15 = _ := hDz 3 (by kernel_rfl) rfl; have HW := hBz.ext; simp only [zy, F2.Wp] at hK ⊢; simp only [E15] at hK ⊢; go_simp; refine hK _ wz zB (Fact.eq_mk ?_); with_reducible rfl
  exact F2.Steps.nil
 intro vb w2 hBz ⟨hOz, hAz, hNz, hSz⟩; have E12 : vb 12 = _ := hOz 0 (by decide) rfl; have E13 : vb 13 = _ := hOz 1 (by decide) rfl; have E14 : vb 14 = _ := hOz 2 (by decide) rfl; have E15 : vb 15 = _ := hOz 3 (by decide) rfl; have E9 : vb 9 = _ := hOz 4 (by decide) rfl; simp only [Act.put, actv, fill, fC, fN, tA, cS, cZ]; simp only [E12, E13, E14, E15, E9]; clear E12 E13 E14 E15 E9; replace h0 := h0.ext hBz.ext; replace bx3 := hBz.blk bx3 zN; replace bx6 := hBz.blk bx6 zN; replace bx7 := hBz.blk bx7 zN; replace HB := hide (HB.out.trans (hBz.below (B := w.heap.size) HB.out.size zE)); clear hOz hAz hNz hSz hBz
 go_upto_region 2 with (fail)
 refine F2.regionS [.o, .o] [Fact.eq ?cc16_, Fact.eq ?cc17_] [16, 17] [16, 17] (by kernel_rfl) ?soc ?sopc (by kernel_rfl) ?stc ?finc
 case soc => exact fun x hx => by cases hx
 case sopc => exact List.Pairwise.nil
 case stc =>
  refine F2.Steps.consO rfl ?_ ?_
  ·
   intro vz wz hBz hDz hTz K hK; have HW := hBz.ext; simp only [zy, F2.Wp] at hK ⊢; go_simp; refine hK _ wz zB (Fact.eq_mk ?_); with_reducible rfl
  refine F2.Steps.consO rfl ?_ ?_
  ·
   intro vz wz hBz hDz hTz K hK; have E16 : vz 16 = _ := hDz 0 (by kernel_rfl) rfl; have HW := hBz.ext; simp only [zy, F2.Wp] at hK ⊢; simp only [E16] at hK ⊢; go_simp; refine hK _ wz zB (Fact.eq_mk ?_); with_reducible rfl
  exact F2.Steps.nil
 intro vc w3 hBz ⟨hOz, hAz, hNz, hSz⟩; have E16 : vc 16 = _ := hOz 0 (by decide) rfl; have E17 : vc 17 = _ := hOz 1 (by decide) rfl; simp only [Act.put, actv, fill, fC, fN, tA, cS, cZ]; simp only [E16, E17]; clear E16 E17; replace h0 := h0.ext hBz.ext; replace bx3 := hBz.blk bx3 zN; replace bx6 := hBz.blk bx6 zN; replace bx7 := hBz.blk bx7 zN; replace HB := hide (HB.out.trans (hBz.below (B := w.heap.size) HB.out.size zE)); clear hOz hAz hNz hSz hBz
 cases mm with
 | false =>
  go_upto_region 3 with (fail)
  refine F2.regionS [.o, .o, .so (g6) 24 #[.bool false, .slice none 0 0], .so (g7) 24 #[.bool false, .slice none 0 0], .o] [Fact.eq ?cd18_, Fact.eq ?cd19_, Fact.z ?kds6_ ?zds6_, Fact.z ?kds7_ ?zds7_, Fact.eq ?cd8_] [18, 19, 8] [18, 19, 0, 0, 8] (by kernel_rfl) ?sod ?sopd (by kernel_rfl) ?std ?find
  case sod => exact List.forall_mem_cons.2 ⟨⟨bx6, NoU.two nB nS⟩, List.forall_mem_cons.2 ⟨⟨bx7, NoU.two nB nS⟩, fun x hx => by cases hx⟩⟩
  case sopd => exact List.Pairwise.cons (by intro y hy; simp [F2.sos] at hy; have hne6_7 := hne6_7.out; first | (subst hy; simp; done) | (subst hy; simp; omega) | (rcases hy with rfl | rfl <;> simp <;> omega)) (List.Pairwise.cons (fun y hy => by cases hy) (List.Pairwise.nil))
  case std =>
   refine F2.Steps.consO rfl ?_ ?_
   ·
    intro vz wz hBz hDz hTz K hK; have HW := hBz.ext; simp only [zy, F2.Wp] at hK ⊢; go_simp; refine hK _ wz zB (Fact.eq_mk ?_); with_reducible rfl
   refine F2.Steps.consO rfl ?_ ?_
   ·
    intro vz wz hBz hDz hTz K hK; have HW := hBz.ext; simp only [zy, F2.Wp] at hK ⊢; go_simp; refine hK _ wz zB (Fact.eq_mk ?_); with_reducible rfl
   refine F2.Steps.consT rfl ?_ ?_
   ·
    intro vz wz hBz hDz hbz K hK; obtain ⟨zc0, zc1, zc2, zc3⟩ := hbz.two; have E18 : vz 18 = _ := hDz 0 (by kernel_rfl) rfl; have HW := hBz.ext; simp only [zy, F2.Wp] at hK ⊢; simp only [E18] at hK ⊢; go_simp; refine hK _ ((Far.set _ _ 0 _).trans (Far.set _ _ 1 _)) ⟨_, blk_two hbz, NoU.two nB nS, Fact.cast (Fact.z_mk (QB.zero _ 0 0)) ?_⟩; with_reducible rfl
   refine F2.Steps.consT rfl ?_ ?_
   ·
    intro vz wz hBz hDz hbz K hK; obtain ⟨zc0, zc1, zc2, zc3⟩ := hbz.two; have E19 : vz 19 = _ := hDz 1 (by kernel_rfl) rfl; have HW := hBz.ext; simp only [zy, F2.Wp] at hK ⊢; simp only [E19] at hK ⊢; go_simp; refine hK _ ((Far.set _ _ 0 _).trans (Far.set _ _ 1 _)) ⟨_, blk_two hbz, NoU.two nB nS, Fact.cast (Fact.z_mk (QB.zero _ 0 0)) ?_⟩; with_reducible rfl
   refine F2.Steps.consO rfl ?_ ?_
   ·
    intro vz wz hBz hDz hTz K hK; have HW := hBz.ext; simp only [zy, F2.Wp] at hK ⊢; go_simp; refine hK _ wz zB (Fact.eq_mk ?_); with_reducible rfl
   exact F2.Steps.nil
  intro vd w4 hBz ⟨hOz, hAz, hNz, hSz⟩; have E18 : vd 18 = _ := hOz 0 (by decide) rfl; have E19 : vd 19 = _ := hOz 1 (by decide) rfl; obtain ⟨cs6, bx6n, hs6⟩ := hSz 2 _ _ _ (by decide) rfl; obtain ⟨n6sd_, A6sd_, l6sd_, c6sd_, E6sd, q6sd⟩ : IntV 0 _ _ w4 (.agg cs6) := hs6; injection E6sd with E6sd
  subst E6sd; obtain ⟨cs7, bx7n, hs7⟩ := hSz 3 _ _ _ (by decide) rfl; obtain ⟨n7sd_, A7sd_, l7sd_, c7sd_, E7sd, q7sd⟩ : IntV 0 _ _ w4 (.agg cs7) := hs7; injection E7sd with E7sd
  subst E7sd; have E8 : vd 8 = _ := hOz 4 (by decide) rfl; simp only [Act.put, actv, fill, fC, fN, tA, cS, cZ]; simp only [E18, E19, E8]; clear E18 E19 E8; replace h0 := h0.ext hBz.ext; replace bx3 := hBz.blk bx3 (zM hne3_6.out (zM hne3_7.out zN)); replace HB := hide (HB.out.trans (hBz.below (B := w.heap.size) HB.out.size (zA hge6 (zA hge7 zE)))); clear bx6; clear bx7; have bx6 := bx6n; clear bx6n; have bx7 := bx7n; clear bx7n; clear hOz hAz hNz hSz hBz
  go_wp2_with fail
  refine bodyPost_ret (results_int_int_tmp rfl _ _ _ _ _ _ _ _ _ _ rfl bx6 rfl bx7) rfl ⟨HB.out, ?_⟩; exact VF.mk (Fact.t3_mk (Fact.z_mk (q6sd.up (by omega))) (Fact.z_mk (q7sd.up (by omega))) (Fact.eq_self _ _))
 | true =>
  obtain ⟨hq, hn, ht0, hT⟩ := mayR_true HM.out; have HT0 := hide hT; clear hT; obtain ⟨N, rfl⟩ : ∃ N : Nat, n = (N : Int) := ⟨n.toNat, by omega⟩; have HLo := hide (lim_sin (q := q) hq.1 ht0 HT0.out); have HX := hide (first_le hq.2 (by omega) HT0.out); have HA := hide (fun i (hi : i ≤ 2 * N + 1) => HLo.out.la HX.out i (by omega)); have HB_ := hide (fun i (hi : i ≤ 2 * N + 1) => HLo.out.lb HX.out i (by omega)); have HS := hide (fun i (hi : i ≤ 2 * N + 1) => HLo.out.ta HX.out i (by omega)); have HT := hide (fun i (hi : i ≤ 2 * N + 1) => HLo.out.tb HX.out i (by omega)); clear HLo HX
  go_upto_region 4 with (fail)
  refine F2.region [.o, .o, .o, .o, .o, .o, .o, .o, .o, .al 24 #[.bool false, .slice none 0 0], .al 24 #[.bool false, .slice none 0 0], .st 9, .st 10] [Fact.eq ?ce21_, Fact.eq ?ce22_, Fact.z ?ke23_ ?ze23_, Fact.eq ?ce24_, Fact.eq ?ce25_, Fact.t2 (Fact.z ?ke26_p ?ze26_p) (Fact.z ?ke26_q ?ze26_q), Fact.t2 (Fact.z ?ke20_p ?ze20_p) (Fact.z ?ke20_q ?ze20_q), Fact.z ?ke27_ ?ze27_, Fact.z ?ke28_ ?ze28_, Fact.any, Fact.any, Fact.z ?kes10_ ?zes10_, Fact.z ?kes11_ ?zes11_] [21, 22, 23, 24, 25, 26, 20, 27, 28, 10, 11] [21, 22, 23, 24, 25, 26, 20, 27, 28, 10, 11, 0, 0] (by kernel_rfl) ?soe ?sope (by kernel_rfl) ?ste ?fine
  case soe => exact fun x hx => by cases hx
  case sope => exact List.Pairwise.nil
  case ste =>
   refine F2.Steps.consO rfl ?_ ?_
   ·
    intro vz wz hBz hDz hTz K hK; have HW := ext_drew hBz.ext; have bx3z := hBz.blk bx3.drew zN; obtain ⟨zl0, zl1, -⟩ := bx3z.two; simp only [zy, F2.Wp] at hK ⊢; go_simp; refine hK _ wz zB (Fact.eq_mk ?_); with_reducible rfl
   refine F2.Steps.consO rfl ?_ ?_
   ·
    intro vz wz hBz hDz hTz K hK; have HW := ext_drew hBz.ext; have bx3z := hBz.blk bx3.drew zN; obtain ⟨zl0, zl1, -⟩ := bx3z.two; simp only [zy, F2.Wp] at hK ⊢; go_simp; refine hK _ wz zB (Fact.eq_mk ?_); with_reducible rfl
   refine F2.Steps.consO rfl ?_ ?_
   ·
    intro vz wz hBz hDz hTz K hK; have E22 : vz 22 = _ := hDz 1 (by kernel_rfl) rfl; have HW := ext_drew hBz.ext; simp only [zy, F2.Wp] at hK ⊢; simp only [E22] at hK ⊢; go_simp; refine Calls.mono (u_norm (h0.ext HW) (by omega)) ?_; rintro e w2z ⟨hb2, uz, rfl, hf⟩; refine hK _ w2z hb2 (Fact.cast (hf) ?_); with_reducible rfl
   refine F2.Steps.consO rfl ?_ ?_
   ·
    intro vz wz hBz hDz hTz K hK; have HW := ext_drew hBz.ext; simp only [zy, F2.Wp] at hK ⊢; go_simp; refine hK _ wz zB (Fact.eq_mk ?_); with_reducible rfl
   refine F2.Steps.consO rfl ?_ ?_
   ·
    intro vz wz hBz hDz hTz K hK; have HW := ext_drew hBz.ext; simp only [zy, F2.Wp] at hK ⊢; go_simp; refine hK _ wz zB (Fact.eq_mk ?_); with_reducible rfl
   refine F2.Steps.consO rfl ?_ ?_
   ·
    intro vz wz hBz hDz hTz K hK; have E21 : vz 21 = _ := hDz 0 (by kernel_rfl) rfl; obtain ⟨n23_, A23_, l23_, c23_, E23, q23⟩ : IntV 0 _ _ wz (vz 23) := hDz 2 (by kernel_rfl) rfl; have E24 : vz 24 = _ := hDz 3 (by kernel_rfl) rfl; have E25 : vz 25 = _ := hDz 4 (by kernel_rfl) rfl; have HW := ext_drew hBz.ext; simp only [zy, F2.Wp] at hK ⊢; simp only [E21, E23, E24, E25] at hK ⊢; go_simp; refine Calls.mono (waveSin_calls (N := N) (h0.ext HW) q23 (by omega) (by omega) (by omega) (by omega) (by omega) HA HB_ HS HT) ?_; rintro e w2z ⟨hb2, uz, rfl, hf⟩; refine hK _ w2z hb2 (Fact.cast (hf) ?_); with_reducible rfl
   refine F2.Steps.consO rfl ?_ ?_
   ·
    intro vz wz hBz hDz hTz K hK; obtain ⟨x26p_, x26q_, E26, h26p, h26q⟩ : TV2 _ _ wz (vz 26) := hDz 5 (by kernel_rfl) rfl; have HW := ext_drew hBz.ext; simp only [zy, F2.Wp] at hK ⊢; simp only [E26] at hK ⊢; go_simp; refine hK _ wz zB (Fact.cast (Fact.t2_mk h26p h26q) ?_); with_reducible rfl
   refine F2.Steps.consO rfl ?_ ?_
   ·
    intro vz wz hBz hDz hTz K hK; obtain ⟨x20p_, x20q_, E20, h20p, h20q⟩ : TV2 _ _ wz (vz 20) := hDz 6 (by kernel_rfl) rfl; have HW := ext_drew hBz.ext; simp only [zy, F2.Wp] at hK ⊢; simp only [E20] at hK ⊢; go_simp; refine hK _ wz zB (Fact.cast (h20p) ?_); with_reducible rfl
   refine F2.Steps.consO rfl ?_ ?_
   ·
    intro vz wz hBz hDz hTz K hK; obtain ⟨x20p_, x20q_, E20, h20p, h20q⟩ : TV2 _ _ wz (vz 20) := hDz 6 (by kernel_rfl) rfl; have HW := ext_drew hBz.ext; simp only [zy, F2.Wp] at hK ⊢; simp only [E20] at hK ⊢; go_simp; refine hK _ wz zB (Fact.cast (h20q) ?_); with_reducible rfl
   refine F2.Steps.consA rfl ⟨NoU.two nB nS, ?_⟩ ?_
   ·
    intro vz wz hBz K hK; simp only [zy, F2.Wp] at hK ⊢; go_simp; exact hK
   refine F2.Steps.consA rfl ⟨NoU.two nB nS, ?_⟩ ?_
   ·
    intro vz wz hBz K hK; simp only [zy, F2.Wp] at hK ⊢; go_simp; exact hK
   refine F2.Steps.consS rfl rfl ?_ ?_
   ·
    intro vz wz gz hBz hDz E10' hgz hbz K hK; obtain ⟨zc0, zc1, zc2, zc3⟩ := hbz.two; obtain ⟨n27_, A27_, l27_, c27_, E27, q27⟩ : IntV 0 _ _ wz (vz 27) := hDz 7 (by kernel_rfl) rfl; have E10 : vz 10 = .pointer (some ⟨gz, 0, none⟩) := E10'; have HW := ext_drew hBz.ext; simp only [zy, F2.Wp] at hK ⊢; simp only [E10, E27] at hK ⊢; go_simp; refine hK _ ((Far.set _ gz 0 _).trans (Far.set _ gz 1 _)) ⟨_, blk_two hbz, NoU.two nB nS, Fact.cast (Fact.z_mk q27) ?_⟩; with_reducible rfl
   refine F2.Steps.consS rfl rfl ?_ ?_
   ·
    intro vz wz gz hBz hDz E11' hgz hbz K hK; obtain ⟨zc0, zc1, zc2, zc3⟩ := hbz.two; obtain ⟨n28_, A28_, l28_, c28_, E28, q28⟩ : IntV 0 _ _ wz (vz 28) := hDz 8 (by kernel_rfl) rfl; have E11 : vz 11 = .pointer (some ⟨gz, 0, none⟩) := E11'; have HW := ext_drew hBz.ext; simp only [zy, F2.Wp] at hK ⊢; simp only [E11, E28] at hK ⊢; go_simp; refine hK _ ((Far.set _ gz 0 _).trans (Far.set _ gz 1 _)) ⟨_, blk_two hbz, NoU.two nB nS, Fact.cast (Fact.z_mk q28) ?_⟩; with_reducible rfl
   exact F2.Steps.nil
  intro ve w5 hBz ⟨hOz, hAz, hNz, hSz⟩; have E21 : ve 21 = _ := hOz 0 (by decide) rfl; have E22 : ve 22 = _ := hOz 1 (by decide) rfl; obtain ⟨n23_, A23_, l23_, c23_, E23, q23⟩ : IntV 0 _ _ w5 (ve 23) := hOz 2 (by decide) rfl; have E24 : ve 24 = _ := hOz 3 (by decide) rfl; have E25 : ve 25 = _ := hOz 4 (by decide) rfl; obtain ⟨x26p_, x26q_, E26, h26p, h26q⟩ : TV2 _ _ w5 (ve 26) := hOz 5 (by decide) rfl; obtain ⟨x20p_, x20q_, E20, h20p, h20q⟩ : TV2 _ _ w5 (ve 20) := hOz 6 (by decide) rfl; obtain ⟨n27_, A27_, l27_, c27_, E27, q27⟩ : IntV 0 _ _ w5 (ve 27) := hOz 7 (by decide) rfl; obtain ⟨n28_, A28_, l28_, c28_, E28, q28⟩ : IntV 0 _ _ w5 (ve 28) := hOz 8 (by decide) rfl; obtain ⟨g10, cs10, E10, hg10, bx10, hs10, hz10⟩ := hAz 9 _ _ (by decide) rfl; obtain ⟨g11, cs11, E11, hg11, bx11, hs11, hz11⟩ := hAz 10 _ _ (by decide) rfl; obtain ⟨n10se_, A10se_, l10se_, c10se_, E10se, q10se⟩ : IntV 0 _ _ w5 (.agg cs10) := hs10 11 (by decide) rfl; injection E10se with E10se
  subst E10se; obtain ⟨n11se_, A11se_, l11se_, c11se_, E11se, q11se⟩ : IntV 0 _ _ w5 (.agg cs11) := hs11 12 (by decide) rfl; injection E11se with E11se
  subst E11se; have hne10_11 : Hid (¬ g10 = g11) := hide (fun h => hNz 9 10 _ _ _ _ (by decide) (by decide) (by decide) rfl rfl (by rw [E10, E11, h])); simp only [Act.put, actv, fill, fC, fN, tA, cS, cZ]; simp only [E21, E22, E23, E24, E25, E26, E20, E27, E28, (show ve 10 = _ from E10), (show ve 11 = _ from E11)]; clear E21 E22 E23 E24 E25 E26 E20 E27 E28 E10 E11; have hge10 : w.heap.size ≤ g10 := Nat.le_trans HB.out.size hg10; have hne10_3 := hide (Nat.ne_of_gt (Nat.lt_of_lt_of_le bx3.lt (show w3.heap.size ≤ g10 from hg10))); have hne10_6 := hide (Nat.ne_of_gt (Nat.lt_of_lt_of_le bx6.lt (show w3.heap.size ≤ g10 from hg10))); have hne10_7 := hide (Nat.ne_of_gt (Nat.lt_of_lt_of_le bx7.lt (show w3.heap.size ≤ g10 from hg10))); have hge11 : w.heap.size ≤ g11 := Nat.le_trans HB.out.size hg11; have hne11_3 := hide (Nat.ne_of_gt (Nat.lt_of_lt_of_le bx3.lt (show w3.heap.size ≤ g11 from hg11))); have hne11_6 := hide (Nat.ne_of_gt (Nat.lt_of_lt_of_le bx6.lt (show w3.heap.size ≤ g11 from hg11))); have hne11_7 := hide (Nat.ne_of_gt (Nat.lt_of_lt_of_le bx7.lt (show w3.heap.size ≤ g11 from hg11))); replace h0 := h0.ext hBz.ext; replace bx3 := hBz.blk bx3 zN; replace bx6 := hBz.blk bx6 zN; replace bx7 := hBz.blk bx7 zN; replace HB := hide (HB.out.trans (hBz.below (B := w.heap.size) HB.out.size zE)); clear hOz hAz hNz hSz hs10 hz10 hs11 hz11 hBz
  go_upto_region 5 with (fail)
  refine F2.region [.o, .o, .so (g6) 24 #[.bool false, .slice none 0 0], .so (g7) 24 #[.bool false, .slice none 0 0], .o] [Fact.eq ?cf29_, Fact.eq ?cf30_, Fact.z ?kfs6_ ?zfs6_, Fact.z ?kfs7_ ?zfs7_, Fact.eq ?cf8_] [29, 30, 8] [29, 30, 0, 0, 8] (by kernel_rfl) ?sof ?sopf (by kernel_rfl) ?stf ?finf
  case sof => exact List.forall_mem_cons.2 ⟨⟨bx6, NoU.two nB nS⟩, List.forall_mem_cons.2 ⟨⟨bx7, NoU.two nB nS⟩, fun x hx => by cases hx⟩⟩
  case sopf => exact List.Pairwise.cons (by intro y hy; simp [F2.sos] at hy; have hne6_7 := hne6_7.out; first | (subst hy; simp; done) | (subst hy; simp; omega) | (rcases hy with rfl | rfl <;> simp <;> omega)) (List.Pairwise.cons (fun y hy => by cases hy) (List.Pairwise.nil))
  case stf =>
   refine F2.Steps.consO rfl ?_ ?_
   ·
    intro vz wz hBz hDz hTz K hK; have HW := ext_drew hBz.ext; have bx10z := hBz.blk bx10.drew (zM hne10_6.out (zM hne10_7.out zN)); obtain ⟨zl0, zl1, -⟩ := bx10z.two; simp only [zy, F2.Wp] at hK ⊢; go_simp; refine hK _ wz zB (Fact.eq_mk ?_); with_reducible rfl
   refine F2.Steps.consO rfl ?_ ?_
   ·
    intro vz wz hBz hDz hTz K hK; have HW := ext_drew hBz.ext; have bx11z := hBz.blk bx11.drew (zM hne11_6.out (zM hne11_7.out zN)); obtain ⟨zl0, zl1, -⟩ := bx11z.two; simp only [zy, F2.Wp] at hK ⊢; go_simp; refine hK _ wz zB (Fact.eq_mk ?_); with_reducible rfl
   refine F2.Steps.consT rfl ?_ ?_
   ·
    intro vz wz hBz hDz hbz K hK; obtain ⟨zc0, zc1, zc2, zc3⟩ := hbz.two; have E29 : vz 29 = _ := hDz 0 (by kernel_rfl) rfl; have HW := ext_drew hBz.ext; simp only [zy, F2.Wp] at hK ⊢; simp only [E29] at hK ⊢; go_simp; refine hK _ ((Far.set _ _ 0 _).trans (Far.set _ _ 1 _)) ⟨_, blk_two hbz, NoU.two nB nS, Fact.cast (Fact.z_mk (q10se.ext HW)) ?_⟩; with_reducible rfl
   refine F2.Steps.consT rfl ?_ ?_
   ·
    intro vz wz hBz hDz hbz K hK; obtain ⟨zc0, zc1, zc2, zc3⟩ := hbz.two; have E30 : vz 30 = _ := hDz 1 (by kernel_rfl) rfl; have HW := ext_drew hBz.ext; simp only [zy, F2.Wp] at hK ⊢; simp only [E30] at hK ⊢; go_simp; refine hK _ ((Far.set _ _ 0 _).trans (Far.set _ _ 1 _)) ⟨_, blk_two hbz, NoU.two nB nS, Fact.cast (Fact.z_mk (q11se.ext HW)) ?_⟩; with_reducible rfl
   refine F2.Steps.consO rfl ?_ ?_
   ·
    intro vz wz hBz hDz hTz K hK; have HW := ext_drew hBz.ext; simp only [zy, F2.Wp] at hK ⊢; go_simp; refine hK _ wz zB (Fact.eq_mk ?_); with_reducible rfl
   exact F2.Steps.nil
  intro vf w6 hBz ⟨hOz, hAz, hNz, hSz⟩; have E29 : vf 29 = _ := hOz 0 (by decide) rfl; have E30 : vf 30 = _ := hOz 1 (by decide) rfl; obtain ⟨cs6, bx6n, hs6⟩ := hSz 2 _ _ _ (by decide) rfl; obtain ⟨n6sf_, A6sf_, l6sf_, c6sf_, E6sf, q6sf⟩ : IntV 0 _ _ w6 (.agg cs6) := hs6; injection E6sf with E6sf
  subst E6sf; obtain ⟨cs7, bx7n, hs7⟩ := hSz 3 _ _ _ (by decide) rfl; obtain ⟨n7sf_, A7sf_, l7sf_, c7sf_, E7sf, q7sf⟩ : IntV 0 _ _ w6 (.agg cs7) := hs7; injection E7sf with E7sf
  subst E7sf; have E8 : vf 8 = _ := hOz 4 (by decide) rfl; simp only [Act.put, actv, fill, fC, fN, tA, cS, cZ]; simp only [E29, E30, E8]; clear E29 E30 E8; replace h0 := h0.ext hBz.ext; replace q10se := q10se.ext hBz.ext; replace q11se := q11se.ext hBz.ext; replace bx3 := hBz.blk bx3 (zM hne3_6.out (zM hne3_7.out zN)); replace bx10 := hBz.blk bx10 (zM hne10_6.out (zM hne10_7.out zN)); replace bx11 := hBz.blk bx11 (zM hne11_6.out (zM hne11_7.out zN)); replace HB := hide (HB.out.trans (hBz.below (B := w.heap.size) HB.out.size (zA hge6 (zA hge7 zE)))); clear bx6; clear bx7; have bx6 := bx6n; clear bx6n; have bx7 := bx7n; clear bx7n; clear hOz hAz hNz hSz hBz
  go_wp2_with fail
  refine bodyPost_ret (results_int_int_tmp rfl _ _ _ _ _ _ _ _ _ _ rfl bx6 rfl bx7) rfl ⟨HB.out, ?_⟩; exact VF.mk (Fact.t3_mk (Fact.z_mk (q6sf.up (by omega))) (Fact.z_mk ((q7sf.up (by omega)).cast_ (tu_even _ _ _))) (Fact.eq_self _ _))
set_option maxHeartbeats 4000000 in
set_option maxRecDepth 100000 in
theorem dcos_calls {w : World}  {k0 : Nat} {n0 : Bool} {A0 : Option Addr} {l0 c0 : Nat} {x0 : Int} {q n : Int} (h0 : Q w k0 n0 A0 l0 c0 x0) (hk0 : k0 ≤ 40) :
    Calls Tryz.prog 12 #[.agg #[.bool n0, .slice A0 l0 c0], .int .i64 q, .int .i64 n] w fun e w' => Below w.heap.size w w' ∧ VF (Fact.t3 (Fact.z 340 (if mayR x0 q n 4 = true then cosLo x0 q n.toNat else 0)) (Fact.z 340 (if mayR x0 q n 4 = true then cosHi x0 q n.toNat else 0)) (Fact.eq (.int .i64 (if mayR x0 q n 4 = true then 0 else 1)))) e w' := by
 obtain ⟨mm, HM⟩ : ∃ m, Hid (mayR x0 q n 4 = m) := ⟨_, hide rfl⟩; have HM2 : Hid (mayD x0 q n 2 0 = mm) := hide (by rw [mayD_wave, HM.out]); rw [HM.out]
 go_enter Tryz.func12, Tryz.ntmps12
 have HB : Hid (Below w.heap.size w w) := hide (Below.refl _ _)
 go_upto_region 0 with (fail)
 refine F2.regionS [.al 24 #[.bool n0, .slice A0 l0 c0], .al 24 #[.bool false, .slice none 0 0], .al 24 #[.bool false, .slice none 0 0], .o] [Fact.any, Fact.any, Fact.any, Fact.eq ?ca8_] [3, 6, 7, 8] [3, 6, 7, 8] (by kernel_rfl) ?soa ?sopa (by kernel_rfl) ?sta ?fina
 case soa => exact fun x hx => by cases hx
 case sopa => exact List.Pairwise.nil
 case sta =>
  refine F2.Steps.consA rfl ⟨NoU.two nB nS, ?_⟩ ?_
  ·
   intro vz wz hBz K hK; simp only [zy, F2.Wp] at hK ⊢; go_simp; exact hK
  refine F2.Steps.consA rfl ⟨NoU.two nB nS, ?_⟩ ?_
  ·
   intro vz wz hBz K hK; simp only [zy, F2.Wp] at hK ⊢; go_simp; exact hK
  refine F2.Steps.consA rfl ⟨NoU.two nB nS, ?_⟩ ?_
  ·
   intro vz wz hBz K hK; simp only [zy, F2.Wp] at hK ⊢; go_simp; exact hK
  refine F2.Steps.consO rfl ?_ ?_
  ·
   intro vz wz hBz hDz hTz K hK; have HW := hBz.ext; simp only [zy, F2.Wp] at hK ⊢; go_simp; refine hK _ wz zB (Fact.eq_mk ?_); with_reducible rfl
  exact F2.Steps.nil
 intro va w1 hBz ⟨hOz, hAz, hNz, hSz⟩; obtain ⟨g3, cs3, E3, hg3, bx3, hs3, hz3⟩ := hAz 0 _ _ (by decide) rfl; have hzz := hz3 (F2.nost (by kernel_rfl)); subst hzz; obtain ⟨g6, cs6, E6, hg6, bx6, hs6, hz6⟩ := hAz 1 _ _ (by decide) rfl; have hzz := hz6 (F2.nost (by kernel_rfl)); subst hzz; obtain ⟨g7, cs7, E7, hg7, bx7, hs7, hz7⟩ := hAz 2 _ _ (by decide) rfl; have hzz := hz7 (F2.nost (by kernel_rfl)); subst hzz; have E8 : va 8 = _ := hOz 3 (by decide) rfl; have hne3_6 : Hid (¬ g3 = g6) := hide (fun h => hNz 0 1 _ _ _ _ (by decide) (by decide) (by decide) rfl rfl (by rw [E3, E6, h])); have hne3_7 : Hid (¬ g3 = g7) := hide (fun h => hNz 0 2 _ _ _ _ (by decide) (by decide) (by decide) rfl rfl (by rw [E3, E7, h])); have hne6_7 : Hid (¬ g6 = g7) := hide (fun h => hNz 1 2 _ _ _ _ (by decide) (by decide) (by decide) rfl rfl (by rw [E6, E7, h])); simp only [Act.put, actv, fill, fC, fN, tA, cS, cZ]; simp only [(show va 3 = _ from E3), (show va 6 = _ from E6), (show va 7 = _ from E7), E8]; clear E3 E6 E7 E8; have hge3 : w.heap.size ≤ g3 := Nat.le_trans HB.out.size hg3; have hge6 : w.heap.size ≤ g6 := Nat.le_trans HB.out.size hg6; have hge7 : w.heap.size ≤ g7 := Nat.le_trans HB.out.size hg7; replace h0 := h0.ext hBz.ext; replace HB := hide (HB.out.trans (hBz.below (B := w.heap.size) HB.out.size zE)); clear hOz hAz hNz hSz hs3 hz3 hs6 hz6 hs7 hz7 hBz
 go_upto_region 1 with (fail)
 refine F2.regionS [.o, .o, .o, .o, .o] [Fact.eq ?cb12_, Fact.eq ?cb13_, Fact.eq ?cb14_, Fact.eq ?cb15_, Fact.eq ?cb9_] [12, 13, 14, 15, 9] [12, 13, 14, 15, 9] (by kernel_rfl) ?sob ?sopb (by kernel_rfl) ?stb ?finb
 case sob => exact fun x hx => by cases hx
 case sopb => exact List.Pairwise.nil
 case stb =>
  refine F2.Steps.consO rfl ?_ ?_
  ·
   intro vz wz hBz hDz hTz K hK; have HW := hBz.ext; have bx3z := hBz.blk bx3 zN; obtain ⟨zl0, zl1, -⟩ := bx3z.two; simp only [zy, F2.Wp] at hK ⊢; go_simp; refine hK _ wz zB (Fact.eq_mk ?_); with_reducible rfl
  refine F2.Steps.consO rfl ?_ ?_
  ·
   intro vz wz hBz hDz hTz K hK; have HW := hBz.ext; simp only [zy, F2.Wp] at hK ⊢; go_simp; refine hK _ wz zB (Fact.eq_mk ?_); with_reducible rfl
  refine F2.Steps.consO rfl ?_ ?_
  ·
   intro vz wz hBz hDz hTz K hK; have HW := hBz.ext; simp only [zy, F2.Wp] at hK ⊢; go_simp; refine hK _ wz zB (Fact.eq_mk ?_); with_reducible rfl
  refine F2.Steps.consO rfl ?_ ?_
  ·
   intro vz wz hBz hDz hTz K hK; have E12 : vz 12 = _ := hDz 0 (by kernel_rfl) rfl; have E13 : vz 13 = _ := hDz 1 (by kernel_rfl) rfl; have E14 : vz 14 = _ := hDz 2 (by kernel_rfl) rfl; have HW := hBz.ext; simp only [zy, F2.Wp] at hK ⊢; simp only [E12, E13, E14] at hK ⊢; go_simp; refine Calls.mono (HM2.out ▸ dmay_calls (h0.ext HW) (by omega) (by omega) (by omega) (by omega) (by omega)) ?_; rintro e w2z ⟨hb2, uz, rfl, hf⟩; refine hK _ w2z hb2 (Fact.cast (hf) ?_); with_reducible rfl
  refine F2.Steps.consO rfl ?_ ?_
  ·
   intro vz wz hBz hDz hTz K hK; have E15 : vz 15 = _ := hDz 3 (by kernel_rfl) rfl; have HW := hBz.ext; simp only [zy, F2.Wp] at hK ⊢; simp only [E15] at hK ⊢; go_simp; refine hK _ wz zB (Fact.eq_mk ?_); with_reducible rfl
  exact F2.Steps.nil
 intro vb w2 hBz ⟨hOz, hAz, hNz, hSz⟩; have E12 : vb 12 = _ := hOz 0 (by decide) rfl; have E13 : vb 13 = _ := hOz 1 (by decide) rfl; have E14 : vb 14 = _ := hOz 2 (by decide) rfl; have E15 : vb 15 = _ := hOz 3 (by decide) rfl; have E9 : vb 9 = _ := hOz 4 (by decide) rfl; simp only [Act.put, actv, fill, fC, fN, tA, cS, cZ]; simp only [E12, E13, E14, E15, E9]; clear E12 E13 E14 E15 E9; replace h0 := h0.ext hBz.ext; replace bx3 := hBz.blk bx3 zN; replace bx6 := hBz.blk bx6 zN; replace bx7 := hBz.blk bx7 zN; replace HB := hide (HB.out.trans (hBz.below (B := w.heap.size) HB.out.size zE)); clear hOz hAz hNz hSz hBz
 go_upto_region 2 with (fail)
 refine F2.regionS [.o, .o] [Fact.eq ?cc16_, Fact.eq ?cc17_] [16, 17] [16, 17] (by kernel_rfl) ?soc ?sopc (by kernel_rfl) ?stc ?finc
 case soc => exact fun x hx => by cases hx
 case sopc => exact List.Pairwise.nil
 case stc =>
  refine F2.Steps.consO rfl ?_ ?_
  ·
   intro vz wz hBz hDz hTz K hK; have HW := hBz.ext; simp only [zy, F2.Wp] at hK ⊢; go_simp; refine hK _ wz zB (Fact.eq_mk ?_); with_reducible rfl
  refine F2.Steps.consO rfl ?_ ?_
  ·
   intro vz wz hBz hDz hTz K hK; have E16 : vz 16 = _ := hDz 0 (by kernel_rfl) rfl; have HW := hBz.ext; simp only [zy, F2.Wp] at hK ⊢; simp only [E16] at hK ⊢; go_simp; refine hK _ wz zB (Fact.eq_mk ?_); with_reducible rfl
  exact F2.Steps.nil
 intro vc w3 hBz ⟨hOz, hAz, hNz, hSz⟩; have E16 : vc 16 = _ := hOz 0 (by decide) rfl; have E17 : vc 17 = _ := hOz 1 (by decide) rfl; simp only [Act.put, actv, fill, fC, fN, tA, cS, cZ]; simp only [E16, E17]; clear E16 E17; replace h0 := h0.ext hBz.ext; replace bx3 := hBz.blk bx3 zN; replace bx6 := hBz.blk bx6 zN; replace bx7 := hBz.blk bx7 zN; replace HB := hide (HB.out.trans (hBz.below (B := w.heap.size) HB.out.size zE)); clear hOz hAz hNz hSz hBz
 cases mm with
 | false =>
  go_upto_region 3 with (fail)
  refine F2.regionS [.o, .o, .so (g6) 24 #[.bool false, .slice none 0 0], .so (g7) 24 #[.bool false, .slice none 0 0], .o] [Fact.eq ?cd18_, Fact.eq ?cd19_, Fact.z ?kds6_ ?zds6_, Fact.z ?kds7_ ?zds7_, Fact.eq ?cd8_] [18, 19, 8] [18, 19, 0, 0, 8] (by kernel_rfl) ?sod ?sopd (by kernel_rfl) ?std ?find
  case sod => exact List.forall_mem_cons.2 ⟨⟨bx6, NoU.two nB nS⟩, List.forall_mem_cons.2 ⟨⟨bx7, NoU.two nB nS⟩, fun x hx => by cases hx⟩⟩
  case sopd => exact List.Pairwise.cons (by intro y hy; simp [F2.sos] at hy; have hne6_7 := hne6_7.out; first | (subst hy; simp; done) | (subst hy; simp; omega) | (rcases hy with rfl | rfl <;> simp <;> omega)) (List.Pairwise.cons (fun y hy => by cases hy) (List.Pairwise.nil))
  case std =>
   refine F2.Steps.consO rfl ?_ ?_
   ·
    intro vz wz hBz hDz hTz K hK; have HW := hBz.ext; simp only [zy, F2.Wp] at hK ⊢; go_simp; refine hK _ wz zB (Fact.eq_mk ?_); with_reducible rfl
   refine F2.Steps.consO rfl ?_ ?_
   ·
    intro vz wz hBz hDz hTz K hK; have HW := hBz.ext; simp only [zy, F2.Wp] at hK ⊢; go_simp; refine hK _ wz zB (Fact.eq_mk ?_); with_reducible rfl
   refine F2.Steps.consT rfl ?_ ?_
   ·
    intro vz wz hBz hDz hbz K hK; obtain ⟨zc0, zc1, zc2, zc3⟩ := hbz.two; have E18 : vz 18 = _ := hDz 0 (by kernel_rfl) rfl; have HW := hBz.ext; simp only [zy, F2.Wp] at hK ⊢; simp only [E18] at hK ⊢; go_simp; refine hK _ ((Far.set _ _ 0 _).trans (Far.set _ _ 1 _)) ⟨_, blk_two hbz, NoU.two nB nS, Fact.cast (Fact.z_mk (QB.zero _ 0 0)) ?_⟩; with_reducible rfl
   refine F2.Steps.consT rfl ?_ ?_
   ·
    intro vz wz hBz hDz hbz K hK; obtain ⟨zc0, zc1, zc2, zc3⟩ := hbz.two; have E19 : vz 19 = _ := hDz 1 (by kernel_rfl) rfl; have HW := hBz.ext; simp only [zy, F2.Wp] at hK ⊢; simp only [E19] at hK ⊢; go_simp; refine hK _ ((Far.set _ _ 0 _).trans (Far.set _ _ 1 _)) ⟨_, blk_two hbz, NoU.two nB nS, Fact.cast (Fact.z_mk (QB.zero _ 0 0)) ?_⟩; with_reducible rfl
   refine F2.Steps.consO rfl ?_ ?_
   ·
    intro vz wz hBz hDz hTz K hK; have HW := hBz.ext; simp only [zy, F2.Wp] at hK ⊢; go_simp; refine hK _ wz zB (Fact.eq_mk ?_); with_reducible rfl
   exact F2.Steps.nil
  intro vd w4 hBz ⟨hOz, hAz, hNz, hSz⟩; have E18 : vd 18 = _ := hOz 0 (by decide) rfl; have E19 : vd 19 = _ := hOz 1 (by decide) rfl; obtain ⟨cs6, bx6n, hs6⟩ := hSz 2 _ _ _ (by decide) rfl; obtain ⟨n6sd_, A6sd_, l6sd_, c6sd_, E6sd, q6sd⟩ : IntV 0 _ _ w4 (.agg cs6) := hs6; injection E6sd with E6sd
  subst E6sd; obtain ⟨cs7, bx7n, hs7⟩ := hSz 3 _ _ _ (by decide) rfl; obtain ⟨n7sd_, A7sd_, l7sd_, c7sd_, E7sd, q7sd⟩ : IntV 0 _ _ w4 (.agg cs7) := hs7; injection E7sd with E7sd
  subst E7sd; have E8 : vd 8 = _ := hOz 4 (by decide) rfl; simp only [Act.put, actv, fill, fC, fN, tA, cS, cZ]; simp only [E18, E19, E8]; clear E18 E19 E8; replace h0 := h0.ext hBz.ext; replace bx3 := hBz.blk bx3 (zM hne3_6.out (zM hne3_7.out zN)); replace HB := hide (HB.out.trans (hBz.below (B := w.heap.size) HB.out.size (zA hge6 (zA hge7 zE)))); clear bx6; clear bx7; have bx6 := bx6n; clear bx6n; have bx7 := bx7n; clear bx7n; clear hOz hAz hNz hSz hBz
  go_wp2_with fail
  refine bodyPost_ret (results_int_int_tmp rfl _ _ _ _ _ _ _ _ _ _ rfl bx6 rfl bx7) rfl ⟨HB.out, ?_⟩; exact VF.mk (Fact.t3_mk (Fact.z_mk (q6sd.up (by omega))) (Fact.z_mk (q7sd.up (by omega))) (Fact.eq_self _ _))
 | true =>
  obtain ⟨hq, hn, ht0, hT⟩ := mayR_true HM.out; have HT0 := hide hT; clear hT; obtain ⟨N, rfl⟩ : ∃ N : Nat, n = (N : Int) := ⟨n.toNat, by omega⟩; have HLo := hide (lim_cos (q := q) hq.1 ht0 HT0.out); have HX := hide (one_le hq.2); have HA := hide (fun i (hi : i ≤ 2 * N + 1) => HLo.out.la HX.out i (by omega)); have HB_ := hide (fun i (hi : i ≤ 2 * N + 1) => HLo.out.lb HX.out i (by omega)); have HS := hide (fun i (hi : i ≤ 2 * N + 1) => HLo.out.ta HX.out i (by omega)); have HT := hide (fun i (hi : i ≤ 2 * N + 1) => HLo.out.tb HX.out i (by omega)); clear HLo HX
  go_upto_region 4 with (fail)
  refine F2.region [.o, .o, .o, .o, .o, .o, .o, .o, .o, .o, .al 24 #[.bool false, .slice none 0 0], .al 24 #[.bool false, .slice none 0 0], .st 10, .st 11] [Fact.eq ?ce21_, Fact.z ?ke22_ ?ze22_, Fact.eq ?ce23_, Fact.z ?ke24_ ?ze24_, Fact.eq ?ce25_, Fact.eq ?ce26_, Fact.t2 (Fact.z ?ke27_p ?ze27_p) (Fact.z ?ke27_q ?ze27_q), Fact.t2 (Fact.z ?ke20_p ?ze20_p) (Fact.z ?ke20_q ?ze20_q), Fact.z ?ke28_ ?ze28_, Fact.z ?ke29_ ?ze29_, Fact.any, Fact.any, Fact.z ?kes10_ ?zes10_, Fact.z ?kes11_ ?zes11_] [21, 22, 23, 24, 25, 26, 27, 20, 28, 29, 10, 11] [21, 22, 23, 24, 25, 26, 27, 20, 28, 29, 10, 11, 0, 0] (by kernel_rfl) ?soe ?sope (by kernel_rfl) ?ste ?fine
  case soe => exact fun x hx => by cases hx
  case sope => exact List.Pairwise.nil
  case ste =>
   refine F2.Steps.consO rfl ?_ ?_
   ·
    intro vz wz hBz hDz hTz K hK; have HW := ext_drew hBz.ext; have bx3z := hBz.blk bx3.drew zN; obtain ⟨zl0, zl1, -⟩ := bx3z.two; simp only [zy, F2.Wp] at hK ⊢; go_simp; refine hK _ wz zB (Fact.eq_mk ?_); with_reducible rfl
   refine F2.Steps.consO rfl ?_ ?_
   ·
    intro vz wz hBz hDz hTz K hK; have HW := ext_drew hBz.ext; simp only [zy, F2.Wp] at hK ⊢; go_simp; refine Calls.mono (u_of  (by omega) (by omega)) ?_; rintro e w2z ⟨hb2, uz, rfl, hf⟩; refine hK _ w2z hb2 (Fact.cast (hf) ?_); with_reducible rfl
   refine F2.Steps.consO rfl ?_ ?_
   ·
    intro vz wz hBz hDz hTz K hK; have HW := ext_drew hBz.ext; simp only [zy, F2.Wp] at hK ⊢; go_simp; refine hK _ wz zB (Fact.eq_mk ?_); with_reducible rfl
   refine F2.Steps.consO rfl ?_ ?_
   ·
    intro vz wz hBz hDz hTz K hK; obtain ⟨n22_, A22_, l22_, c22_, E22, q22⟩ : IntV 0 _ _ wz (vz 22) := hDz 1 (by kernel_rfl) rfl; have E23 : vz 23 = _ := hDz 2 (by kernel_rfl) rfl; have HW := ext_drew hBz.ext; simp only [zy, F2.Wp] at hK ⊢; simp only [E22, E23] at hK ⊢; go_simp; refine Calls.mono (u_shl q22.q (by omega) (by omega) (by omega)) ?_; rintro e w2z ⟨hb2, uz, rfl, hf⟩; refine hK _ w2z hb2 (Fact.cast (hf) ?_); with_reducible rfl
   refine F2.Steps.consO rfl ?_ ?_
   ·
    intro vz wz hBz hDz hTz K hK; have HW := ext_drew hBz.ext; simp only [zy, F2.Wp] at hK ⊢; go_simp; refine hK _ wz zB (Fact.eq_mk ?_); with_reducible rfl
   refine F2.Steps.consO rfl ?_ ?_
   ·
    intro vz wz hBz hDz hTz K hK; have HW := ext_drew hBz.ext; simp only [zy, F2.Wp] at hK ⊢; go_simp; refine hK _ wz zB (Fact.eq_mk ?_); with_reducible rfl
   refine F2.Steps.consO rfl ?_ ?_
   ·
    intro vz wz hBz hDz hTz K hK; have E21 : vz 21 = _ := hDz 0 (by kernel_rfl) rfl; obtain ⟨n24_, A24_, l24_, c24_, E24, q24⟩ : IntV 0 _ _ wz (vz 24) := hDz 3 (by kernel_rfl) rfl; have E25 : vz 25 = _ := hDz 4 (by kernel_rfl) rfl; have E26 : vz 26 = _ := hDz 5 (by kernel_rfl) rfl; have HW := ext_drew hBz.ext; simp only [zy, F2.Wp] at hK ⊢; simp only [E21, E24, E25, E26] at hK ⊢; go_simp; refine Calls.mono (waveCos_calls (N := N) (h0.ext HW) q24 (by omega) (by omega) (by omega) (by omega) (by omega) HA HB_ HS HT) ?_; rintro e w2z ⟨hb2, uz, rfl, hf⟩; refine hK _ w2z hb2 (Fact.cast (hf) ?_); with_reducible rfl
   refine F2.Steps.consO rfl ?_ ?_
   ·
    intro vz wz hBz hDz hTz K hK; obtain ⟨x27p_, x27q_, E27, h27p, h27q⟩ : TV2 _ _ wz (vz 27) := hDz 6 (by kernel_rfl) rfl; have HW := ext_drew hBz.ext; simp only [zy, F2.Wp] at hK ⊢; simp only [E27] at hK ⊢; go_simp; refine hK _ wz zB (Fact.cast (Fact.t2_mk h27p h27q) ?_); with_reducible rfl
   refine F2.Steps.consO rfl ?_ ?_
   ·
    intro vz wz hBz hDz hTz K hK; obtain ⟨x20p_, x20q_, E20, h20p, h20q⟩ : TV2 _ _ wz (vz 20) := hDz 7 (by kernel_rfl) rfl; have HW := ext_drew hBz.ext; simp only [zy, F2.Wp] at hK ⊢; simp only [E20] at hK ⊢; go_simp; refine hK _ wz zB (Fact.cast (h20p) ?_); with_reducible rfl
   refine F2.Steps.consO rfl ?_ ?_
   ·
    intro vz wz hBz hDz hTz K hK; obtain ⟨x20p_, x20q_, E20, h20p, h20q⟩ : TV2 _ _ wz (vz 20) := hDz 7 (by kernel_rfl) rfl; have HW := ext_drew hBz.ext; simp only [zy, F2.Wp] at hK ⊢; simp only [E20] at hK ⊢; go_simp; refine hK _ wz zB (Fact.cast (h20q) ?_); with_reducible rfl
   refine F2.Steps.consA rfl ⟨NoU.two nB nS, ?_⟩ ?_
   ·
    intro vz wz hBz K hK; simp only [zy, F2.Wp] at hK ⊢; go_simp; exact hK
   refine F2.Steps.consA rfl ⟨NoU.two nB nS, ?_⟩ ?_
   ·
    intro vz wz hBz K hK; simp only [zy, F2.Wp] at hK ⊢; go_simp; exact hK
   refine F2.Steps.consS rfl rfl ?_ ?_
   ·
    intro vz wz gz hBz hDz E10' hgz hbz K hK; obtain ⟨zc0, zc1, zc2, zc3⟩ := hbz.two; obtain ⟨n28_, A28_, l28_, c28_, E28, q28⟩ : IntV 0 _ _ wz (vz 28) := hDz 8 (by kernel_rfl) rfl; have E10 : vz 10 = .pointer (some ⟨gz, 0, none⟩) := E10'; have HW := ext_drew hBz.ext; simp only [zy, F2.Wp] at hK ⊢; simp only [E10, E28] at hK ⊢; go_simp; refine hK _ ((Far.set _ gz 0 _).trans (Far.set _ gz 1 _)) ⟨_, blk_two hbz, NoU.two nB nS, Fact.cast (Fact.z_mk q28) ?_⟩; with_reducible rfl
   refine F2.Steps.consS rfl rfl ?_ ?_
   ·
    intro vz wz gz hBz hDz E11' hgz hbz K hK; obtain ⟨zc0, zc1, zc2, zc3⟩ := hbz.two; obtain ⟨n29_, A29_, l29_, c29_, E29, q29⟩ : IntV 0 _ _ wz (vz 29) := hDz 9 (by kernel_rfl) rfl; have E11 : vz 11 = .pointer (some ⟨gz, 0, none⟩) := E11'; have HW := ext_drew hBz.ext; simp only [zy, F2.Wp] at hK ⊢; simp only [E11, E29] at hK ⊢; go_simp; refine hK _ ((Far.set _ gz 0 _).trans (Far.set _ gz 1 _)) ⟨_, blk_two hbz, NoU.two nB nS, Fact.cast (Fact.z_mk q29) ?_⟩; with_reducible rfl
   exact F2.Steps.nil
  intro ve w5 hBz ⟨hOz, hAz, hNz, hSz⟩; have E21 : ve 21 = _ := hOz 0 (by decide) rfl; obtain ⟨n22_, A22_, l22_, c22_, E22, q22⟩ : IntV 0 _ _ w5 (ve 22) := hOz 1 (by decide) rfl; have E23 : ve 23 = _ := hOz 2 (by decide) rfl; obtain ⟨n24_, A24_, l24_, c24_, E24, q24⟩ : IntV 0 _ _ w5 (ve 24) := hOz 3 (by decide) rfl; have E25 : ve 25 = _ := hOz 4 (by decide) rfl; have E26 : ve 26 = _ := hOz 5 (by decide) rfl; obtain ⟨x27p_, x27q_, E27, h27p, h27q⟩ : TV2 _ _ w5 (ve 27) := hOz 6 (by decide) rfl; obtain ⟨x20p_, x20q_, E20, h20p, h20q⟩ : TV2 _ _ w5 (ve 20) := hOz 7 (by decide) rfl; obtain ⟨n28_, A28_, l28_, c28_, E28, q28⟩ : IntV 0 _ _ w5 (ve 28) := hOz 8 (by decide) rfl; obtain ⟨n29_, A29_, l29_, c29_, E29, q29⟩ : IntV 0 _ _ w5 (ve 29) := hOz 9 (by decide) rfl; obtain ⟨g10, cs10, E10, hg10, bx10, hs10, hz10⟩ := hAz 10 _ _ (by decide) rfl; obtain ⟨g11, cs11, E11, hg11, bx11, hs11, hz11⟩ := hAz 11 _ _ (by decide) rfl; obtain ⟨n10se_, A10se_, l10se_, c10se_, E10se, q10se⟩ : IntV 0 _ _ w5 (.agg cs10) := hs10 12 (by decide) rfl; injection E10se with E10se
  subst E10se; obtain ⟨n11se_, A11se_, l11se_, c11se_, E11se, q11se⟩ : IntV 0 _ _ w5 (.agg cs11) := hs11 13 (by decide) rfl; injection E11se with E11se
  subst E11se; have hne10_11 : Hid (¬ g10 = g11) := hide (fun h => hNz 10 11 _ _ _ _ (by decide) (by decide) (by decide) rfl rfl (by rw [E10, E11, h])); simp only [Act.put, actv, fill, fC, fN, tA, cS, cZ]; simp only [E21, E22, E23, E24, E25, E26, E27, E20, E28, E29, (show ve 10 = _ from E10), (show ve 11 = _ from E11)]; clear E21 E22 E23 E24 E25 E26 E27 E20 E28 E29 E10 E11; have hge10 : w.heap.size ≤ g10 := Nat.le_trans HB.out.size hg10; have hne10_3 := hide (Nat.ne_of_gt (Nat.lt_of_lt_of_le bx3.lt (show w3.heap.size ≤ g10 from hg10))); have hne10_6 := hide (Nat.ne_of_gt (Nat.lt_of_lt_of_le bx6.lt (show w3.heap.size ≤ g10 from hg10))); have hne10_7 := hide (Nat.ne_of_gt (Nat.lt_of_lt_of_le bx7.lt (show w3.heap.size ≤ g10 from hg10))); have hge11 : w.heap.size ≤ g11 := Nat.le_trans HB.out.size hg11; have hne11_3 := hide (Nat.ne_of_gt (Nat.lt_of_lt_of_le bx3.lt (show w3.heap.size ≤ g11 from hg11))); have hne11_6 := hide (Nat.ne_of_gt (Nat.lt_of_lt_of_le bx6.lt (show w3.heap.size ≤ g11 from hg11))); have hne11_7 := hide (Nat.ne_of_gt (Nat.lt_of_lt_of_le bx7.lt (show w3.heap.size ≤ g11 from hg11))); replace h0 := h0.ext hBz.ext; replace bx3 := hBz.blk bx3 zN; replace bx6 := hBz.blk bx6 zN; replace bx7 := hBz.blk bx7 zN; replace HB := hide (HB.out.trans (hBz.below (B := w.heap.size) HB.out.size zE)); clear hOz hAz hNz hSz hs10 hz10 hs11 hz11 hBz
  go_upto_region 5 with (fail)
  refine F2.region [.o, .o, .so (g6) 24 #[.bool false, .slice none 0 0], .so (g7) 24 #[.bool false, .slice none 0 0], .o] [Fact.eq ?cf30_, Fact.eq ?cf31_, Fact.z ?kfs6_ ?zfs6_, Fact.z ?kfs7_ ?zfs7_, Fact.eq ?cf8_] [30, 31, 8] [30, 31, 0, 0, 8] (by kernel_rfl) ?sof ?sopf (by kernel_rfl) ?stf ?finf
  case sof => exact List.forall_mem_cons.2 ⟨⟨bx6, NoU.two nB nS⟩, List.forall_mem_cons.2 ⟨⟨bx7, NoU.two nB nS⟩, fun x hx => by cases hx⟩⟩
  case sopf => exact List.Pairwise.cons (by intro y hy; simp [F2.sos] at hy; have hne6_7 := hne6_7.out; first | (subst hy; simp; done) | (subst hy; simp; omega) | (rcases hy with rfl | rfl <;> simp <;> omega)) (List.Pairwise.cons (fun y hy => by cases hy) (List.Pairwise.nil))
  case stf =>
   refine F2.Steps.consO rfl ?_ ?_
   ·
    intro vz wz hBz hDz hTz K hK; have HW := ext_drew hBz.ext; have bx10z := hBz.blk bx10.drew (zM hne10_6.out (zM hne10_7.out zN)); obtain ⟨zl0, zl1, -⟩ := bx10z.two; simp only [zy, F2.Wp] at hK ⊢; go_simp; refine hK _ wz zB (Fact.eq_mk ?_); with_reducible rfl
   refine F2.Steps.consO rfl ?_ ?_
   ·
    intro vz wz hBz hDz hTz K hK; have HW := ext_drew hBz.ext; have bx11z := hBz.blk bx11.drew (zM hne11_6.out (zM hne11_7.out zN)); obtain ⟨zl0, zl1, -⟩ := bx11z.two; simp only [zy, F2.Wp] at hK ⊢; go_simp; refine hK _ wz zB (Fact.eq_mk ?_); with_reducible rfl
   refine F2.Steps.consT rfl ?_ ?_
   ·
    intro vz wz hBz hDz hbz K hK; obtain ⟨zc0, zc1, zc2, zc3⟩ := hbz.two; have E30 : vz 30 = _ := hDz 0 (by kernel_rfl) rfl; have HW := ext_drew hBz.ext; simp only [zy, F2.Wp] at hK ⊢; simp only [E30] at hK ⊢; go_simp; refine hK _ ((Far.set _ _ 0 _).trans (Far.set _ _ 1 _)) ⟨_, blk_two hbz, NoU.two nB nS, Fact.cast (Fact.z_mk (q10se.ext HW)) ?_⟩; with_reducible rfl
   refine F2.Steps.consT rfl ?_ ?_
   ·
    intro vz wz hBz hDz hbz K hK; obtain ⟨zc0, zc1, zc2, zc3⟩ := hbz.two; have E31 : vz 31 = _ := hDz 1 (by kernel_rfl) rfl; have HW := ext_drew hBz.ext; simp only [zy, F2.Wp] at hK ⊢; simp only [E31] at hK ⊢; go_simp; refine hK _ ((Far.set _ _ 0 _).trans (Far.set _ _ 1 _)) ⟨_, blk_two hbz, NoU.two nB nS, Fact.cast (Fact.z_mk (q11se.ext HW)) ?_⟩; with_reducible rfl
   refine F2.Steps.consO rfl ?_ ?_
   ·
    intro vz wz hBz hDz hTz K hK; have HW := ext_drew hBz.ext; simp only [zy, F2.Wp] at hK ⊢; go_simp; refine hK _ wz zB (Fact.eq_mk ?_); with_reducible rfl
   exact F2.Steps.nil
  intro vf w6 hBz ⟨hOz, hAz, hNz, hSz⟩; have E30 : vf 30 = _ := hOz 0 (by decide) rfl; have E31 : vf 31 = _ := hOz 1 (by decide) rfl; obtain ⟨cs6, bx6n, hs6⟩ := hSz 2 _ _ _ (by decide) rfl; obtain ⟨n6sf_, A6sf_, l6sf_, c6sf_, E6sf, q6sf⟩ : IntV 0 _ _ w6 (.agg cs6) := hs6; injection E6sf with E6sf
  subst E6sf; obtain ⟨cs7, bx7n, hs7⟩ := hSz 3 _ _ _ (by decide) rfl; obtain ⟨n7sf_, A7sf_, l7sf_, c7sf_, E7sf, q7sf⟩ : IntV 0 _ _ w6 (.agg cs7) := hs7; injection E7sf with E7sf
  subst E7sf; have E8 : vf 8 = _ := hOz 4 (by decide) rfl; simp only [Act.put, actv, fill, fC, fN, tA, cS, cZ]; simp only [E30, E31, E8]; clear E30 E31 E8; replace h0 := h0.ext hBz.ext; replace q10se := q10se.ext hBz.ext; replace q11se := q11se.ext hBz.ext; replace bx3 := hBz.blk bx3 (zM hne3_6.out (zM hne3_7.out zN)); replace bx10 := hBz.blk bx10 (zM hne10_6.out (zM hne10_7.out zN)); replace bx11 := hBz.blk bx11 (zM hne11_6.out (zM hne11_7.out zN)); replace HB := hide (HB.out.trans (hBz.below (B := w.heap.size) HB.out.size (zA hge6 (zA hge7 zE)))); clear bx6; clear bx7; have bx6 := bx6n; clear bx6n; have bx7 := bx7n; clear bx7n; clear hOz hAz hNz hSz hBz
  go_wp2_with fail
  refine bodyPost_ret (results_int_int_tmp rfl _ _ _ _ _ _ _ _ _ _ rfl bx6 rfl bx7) rfl ⟨HB.out, ?_⟩; exact VF.mk (Fact.t3_mk (Fact.z_mk (q6sf.up (by omega))) (Fact.z_mk ((q7sf.up (by omega)).cast_ (tu_even _ _ _))) (Fact.eq_self _ _))
end Go.Proofs.YtnephejalollfaaGreat
