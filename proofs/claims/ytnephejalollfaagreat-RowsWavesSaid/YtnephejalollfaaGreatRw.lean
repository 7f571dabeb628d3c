/- rows: the terms, the closures, the rising sums. -/
import Derived.Test.YtnephejalollfaaGreatRa
import Derived.Test.YtnephejalollfaaGreatWk
set_option linter.unusedVariables false
set_option linter.unusedSimpArgs false
namespace Go.Proofs.YtnephejalollfaaGreat
open Go.RowKit
open L (val dig nth)
set_option maxHeartbeats 4000000 in
set_option maxRecDepth 100000 in
theorem rone_calls {w : World}  {q : Int}  (hq0 : 0 ≤ q) (hq1 : q ≤ 8000) :
    Calls Tryz.prog 30 #[.int .i64 q] w fun e w' => Below w.heap.size w w' ∧ VF (Fact.s_yy (1 + (q.toNat / 64 + 1)) (1 * 2 ^ q.toNat) (1 + (q.toNat / 64 + 1)) (1 * 2 ^ q.toNat)) e w' := by
 go_enter Tryz.func30, Tryz.ntmps30
 have HB : Hid (Below w.heap.size w w) := hide (Below.refl _ _)
 go_upto_region 0 with (fail)
 refine F2.regionS [.al 39 #[.bool false, .slice none 0 0, .bool false, .slice none 0 0]] [Fact.any] [2] [2] (by kernel_rfl) ?soa ?sopa (by kernel_rfl) ?sta ?fina
 case soa => exact fun x hx => by cases hx
 case sopa => exact List.Pairwise.nil
 case sta =>
  refine F2.Steps.consA rfl ⟨NoU.four nB nS nB nS, ?_⟩ ?_
  ·
   intro vz wz hBz K hK; simp only [zy, F2.Wp] at hK ⊢; go_simp; exact hK
  exact F2.Steps.nil
 intro va w1 hBz ⟨hOz, hAz, hNz, hSz⟩; obtain ⟨g2, cs2, E2, hg2, bx2, hs2, hz2⟩ := hAz 0 _ _ (by decide) rfl; have hzz := hz2 (F2.nost (by kernel_rfl)); subst hzz; simp only [Act.put, actv, fill, fC, fN, tA, cS, cZ]; simp only [(show va 2 = _ from E2)]; clear E2; have hge2 : w.heap.size ≤ g2 := Nat.le_trans HB.out.size hg2; replace HB := hide (HB.out.trans (hBz.below (B := w.heap.size) HB.out.size zE)); clear hOz hAz hNz hSz hs2 hz2 hBz
 go_upto_region 1 with (fail)
 refine F2.regionS [.o, .o, .o, .o, .o, .o, .o, .so (g2) 39 #[.bool false, .slice none 0 0, .bool false, .slice none 0 0]] [Fact.z ?kb3_ ?zb3_, Fact.eq ?cb4_, Fact.z ?kb5_ ?zb5_, Fact.z ?kb6_ ?zb6_, Fact.eq ?cb7_, Fact.z ?kb8_ ?zb8_, Fact.s_yy ?kb9_a ?zb9_a ?kb9_b ?zb9_b, Fact.s_yy ?kbs2_a ?zbs2_a ?kbs2_b ?zbs2_b] [3, 4, 5, 6, 7, 8, 9] [3, 4, 5, 6, 7, 8, 9, 0] (by kernel_rfl) ?sob ?sopb (by kernel_rfl) ?stb ?finb
 case sob => exact List.forall_mem_cons.2 ⟨⟨bx2, NoU.four nB nS nB nS⟩, fun x hx => by cases hx⟩
 case sopb => exact List.Pairwise.cons (fun y hy => by cases hy) (List.Pairwise.nil)
 case stb =>
  refine F2.Steps.consO rfl ?_ ?_
  ·
   intro vz wz hBz hDz hTz K hK; have HW := hBz.ext; simp only [zy, F2.Wp] at hK ⊢; go_simp; refine Calls.mono (v_of  (by omega) (by omega)) ?_; rintro e w2z ⟨hb2, uz, rfl, hf⟩
   go_wp2_with fail
   refine hK _ w2z hb2 (Fact.cast (hf) ?_); with_reducible rfl
  refine F2.Steps.consO rfl ?_ ?_
  ·
   intro vz wz hBz hDz hTz K hK; have HW := hBz.ext; simp only [zy, F2.Wp] at hK ⊢; go_simp; refine hK _ wz zB (Fact.eq_mk ?_); with_reducible rfl
  refine F2.Steps.consO rfl ?_ ?_
  ·
   intro vz wz hBz hDz hTz K hK; obtain ⟨n3_, A3_, l3_, c3_, E3, q3⟩ : IntV 0 _ _ wz (vz 3) := hDz 0 (by kernel_rfl) rfl; have E4 : vz 4 = _ := hDz 1 (by kernel_rfl) rfl; have HW := hBz.ext; simp only [zy, F2.Wp] at hK ⊢; simp only [E3, E4] at hK ⊢; go_simp; refine Calls.mono (v_shl q3.q (by omega) (by omega) (by omega)) ?_; rintro e w2z ⟨hb2, uz, rfl, hf⟩
   go_wp2_with fail
   refine hK _ w2z hb2 (Fact.cast (hf) ?_); with_reducible rfl
  refine F2.Steps.consO rfl ?_ ?_
  ·
   intro vz wz hBz hDz hTz K hK; have HW := hBz.ext; simp only [zy, F2.Wp] at hK ⊢; go_simp; refine Calls.mono (v_of  (by omega) (by omega)) ?_; rintro e w2z ⟨hb2, uz, rfl, hf⟩
   go_wp2_with fail
   refine hK _ w2z hb2 (Fact.cast (hf) ?_); with_reducible rfl
  refine F2.Steps.consO rfl ?_ ?_
  ·
   intro vz wz hBz hDz hTz K hK; have HW := hBz.ext; simp only [zy, F2.Wp] at hK ⊢; go_simp; refine hK _ wz zB (Fact.eq_mk ?_); with_reducible rfl
  refine F2.Steps.consO rfl ?_ ?_
  ·
   intro vz wz hBz hDz hTz K hK; obtain ⟨n6_, A6_, l6_, c6_, E6, q6⟩ : IntV 0 _ _ wz (vz 6) := hDz 3 (by kernel_rfl) rfl; have E7 : vz 7 = _ := hDz 4 (by kernel_rfl) rfl; have HW := hBz.ext; simp only [zy, F2.Wp] at hK ⊢; simp only [E6, E7] at hK ⊢; go_simp; refine Calls.mono (v_shl q6.q (by omega) (by omega) (by omega)) ?_; rintro e w2z ⟨hb2, uz, rfl, hf⟩
   go_wp2_with fail
   refine hK _ w2z hb2 (Fact.cast (hf) ?_); with_reducible rfl
  refine F2.Steps.consO rfl ?_ ?_
  ·
   intro vz wz hBz hDz hTz K hK; obtain ⟨n5_, A5_, l5_, c5_, E5, q5⟩ : IntV 0 _ _ wz (vz 5) := hDz 2 (by kernel_rfl) rfl; obtain ⟨n8_, A8_, l8_, c8_, E8, q8⟩ : IntV 0 _ _ wz (vz 8) := hDz 5 (by kernel_rfl) rfl; have HW := hBz.ext; simp only [zy, F2.Wp] at hK ⊢; simp only [E5, E8] at hK ⊢; go_simp; refine hK _ wz zB (Fact.cast (Fact.s_yy_mk q5 q8) ?_); with_reducible rfl
  refine F2.Steps.consT rfl ?_ ?_
  ·
   intro vz wz hBz hDz hbz K hK; obtain ⟨zc0, zc1, zc2, zc3, zc4, zc5, zc6, zc7⟩ := hbz.four; obtain ⟨n9a_, A9a_, l9a_, c9a_, n9b_, A9b_, l9b_, c9b_, E9, q9a, q9b⟩ : SV_yy _ _ _ _ wz (vz 9) := hDz 6 (by kernel_rfl) rfl; have HW := hBz.ext; simp only [zy, F2.Wp] at hK ⊢; simp only [E9] at hK ⊢; go_simp; refine hK _ ((((Far.set _ _ 0 _).trans (Far.set _ _ 1 _)).trans (Far.set _ _ 2 _)).trans (Far.set _ _ 3 _)) ⟨_, blk_four hbz, NoU.four nB nS nB nS, Fact.cast (Fact.s_yy_mk q9a q9b) ?_⟩; with_reducible rfl
  exact F2.Steps.nil
 intro vb w2 hBz ⟨hOz, hAz, hNz, hSz⟩; obtain ⟨n3_, A3_, l3_, c3_, E3, q3⟩ : IntV 0 _ _ w2 (vb 3) := hOz 0 (by decide) rfl; have E4 : vb 4 = _ := hOz 1 (by decide) rfl; obtain ⟨n5_, A5_, l5_, c5_, E5, q5⟩ : IntV 0 _ _ w2 (vb 5) := hOz 2 (by decide) rfl; obtain ⟨n6_, A6_, l6_, c6_, E6, q6⟩ : IntV 0 _ _ w2 (vb 6) := hOz 3 (by decide) rfl; have E7 : vb 7 = _ := hOz 4 (by decide) rfl; obtain ⟨n8_, A8_, l8_, c8_, E8, q8⟩ : IntV 0 _ _ w2 (vb 8) := hOz 5 (by decide) rfl; obtain ⟨n9a_, A9a_, l9a_, c9a_, n9b_, A9b_, l9b_, c9b_, E9, q9a, q9b⟩ : SV_yy _ _ _ _ w2 (vb 9) := hOz 6 (by decide) rfl; obtain ⟨cs2, bx2n, hs2⟩ := hSz 7 _ _ _ (by decide) rfl; obtain ⟨n2sba_, A2sba_, l2sba_, c2sba_, n2sbb_, A2sbb_, l2sbb_, c2sbb_, E2sb, q2sba, q2sbb⟩ : SV_yy _ _ _ _ w2 (.agg cs2) := hs2; injection E2sb with E2sb
 subst E2sb; simp only [Act.put, actv, fill, fC, fN, tA, cS, cZ]; simp only [E3, E4, E5, E6, E7, E8, E9]; clear E3 E4 E5 E6 E7 E8 E9; replace HB := hide (HB.out.trans (hBz.below (B := w.heap.size) HB.out.size (zA hge2 zE))); clear bx2; have bx2 := bx2n; clear bx2n; clear hOz hAz hNz hSz hBz
 go_wp2_with fail
 refine bodyPost_ret (results_pair rfl _ _ _ _ _ _ _ _ rfl bx2) rfl ⟨HB.out, ?_⟩; exact VF.mk (Fact.s_yy_mk q2sba q2sbb)
set_option maxHeartbeats 4000000 in
set_option maxRecDepth 100000 in
theorem rwhole_calls {w : World}  {k0 k1 : Nat} {n0 n1 : Bool} {A0 A1 : Option Addr} {l0 l1 c0 c1 : Nat} {x0 x1 : Int} {y : Int} (h0 : Q w k0 n0 A0 l0 c0 x0) (h1 : Q w k1 n1 A1 l1 c1 x1)  :
    Calls Tryz.prog 25 #[.int .i64 y, .agg #[.bool n0, .slice A0 l0 c0, .bool n1, .slice A1 l1 c1]] w fun e w' => Below w.heap.size w w' ∧ VF (Fact.s_zz k0 x0 k1 x1) e w' := by
 go_enter Tryz.func25, Tryz.ntmps25
 have HB : Hid (Below w.heap.size w w) := hide (Below.refl _ _)
 go_upto_region 0 with (fail)
 refine F2.regionS [.al 39 #[.bool n0, .slice A0 l0 c0, .bool n1, .slice A1 l1 c1], .al 39 #[.bool false, .slice none 0 0, .bool false, .slice none 0 0]] [Fact.any, Fact.any] [3, 4] [3, 4] (by kernel_rfl) ?soa ?sopa (by kernel_rfl) ?sta ?fina
 case soa => exact fun x hx => by cases hx
 case sopa => exact List.Pairwise.nil
 case sta =>
  refine F2.Steps.consA rfl ⟨NoU.four nB nS nB nS, ?_⟩ ?_
  ·
   intro vz wz hBz K hK; simp only [zy, F2.Wp] at hK ⊢; go_simp; exact hK
  refine F2.Steps.consA rfl ⟨NoU.four nB nS nB nS, ?_⟩ ?_
  ·
   intro vz wz hBz K hK; simp only [zy, F2.Wp] at hK ⊢; go_simp; exact hK
  exact F2.Steps.nil
 intro va w1 hBz ⟨hOz, hAz, hNz, hSz⟩; obtain ⟨g3, cs3, E3, hg3, bx3, hs3, hz3⟩ := hAz 0 _ _ (by decide) rfl; have hzz := hz3 (F2.nost (by kernel_rfl)); subst hzz; obtain ⟨g4, cs4, E4, hg4, bx4, hs4, hz4⟩ := hAz 1 _ _ (by decide) rfl; have hzz := hz4 (F2.nost (by kernel_rfl)); subst hzz; have hne3_4 : Hid (¬ g3 = g4) := hide (fun h => hNz 0 1 _ _ _ _ (by decide) (by decide) (by decide) rfl rfl (by rw [E3, E4, h])); simp only [Act.put, actv, fill, fC, fN, tA, cS, cZ]; simp only [(show va 3 = _ from E3), (show va 4 = _ from E4)]; clear E3 E4; have hge3 : w.heap.size ≤ g3 := Nat.le_trans HB.out.size hg3; have hge4 : w.heap.size ≤ g4 := Nat.le_trans HB.out.size hg4; replace h0 := h0.ext hBz.ext; replace h1 := h1.ext hBz.ext; replace HB := hide (HB.out.trans (hBz.below (B := w.heap.size) HB.out.size zE)); clear hOz hAz hNz hSz hs3 hz3 hs4 hz4 hBz
 go_upto_region 1 with (fail)
 refine F2.regionS [.o, .so (g4) 39 #[.bool false, .slice none 0 0, .bool false, .slice none 0 0]] [Fact.eq ?cb5_, Fact.s_zz ?kbs4_a ?zbs4_a ?kbs4_b ?zbs4_b] [5] [5, 0] (by kernel_rfl) ?sob ?sopb (by kernel_rfl) ?stb ?finb
 case sob => exact List.forall_mem_cons.2 ⟨⟨bx4, NoU.four nB nS nB nS⟩, fun x hx => by cases hx⟩
 case sopb => exact List.Pairwise.cons (fun y hy => by cases hy) (List.Pairwise.nil)
 case stb =>
  refine F2.Steps.consO rfl ?_ ?_
  ·
   intro vz wz hBz hDz hTz K hK; have HW := hBz.ext; have bx3z := hBz.blk bx3 (zM hne3_4.out zN); obtain ⟨zl0, zl1, zl2, zl3, -⟩ := bx3z.four; simp only [zy, F2.Wp] at hK ⊢; go_simp; refine hK _ wz zB (Fact.eq_mk ?_); with_reducible rfl
  refine F2.Steps.consT rfl ?_ ?_
  ·
   intro vz wz hBz hDz hbz K hK; obtain ⟨zc0, zc1, zc2, zc3, zc4, zc5, zc6, zc7⟩ := hbz.four; have E5 : vz 5 = _ := hDz 0 (by kernel_rfl) rfl; have HW := hBz.ext; simp only [zy, F2.Wp] at hK ⊢; simp only [E5] at hK ⊢; go_simp; refine hK _ ((((Far.set _ _ 0 _).trans (Far.set _ _ 1 _)).trans (Far.set _ _ 2 _)).trans (Far.set _ _ 3 _)) ⟨_, blk_four hbz, NoU.four nB nS nB nS, Fact.cast (Fact.s_zz_mk (h0.ext HW) (h1.ext HW)) ?_⟩; with_reducible rfl
  exact F2.Steps.nil
 intro vb w2 hBz ⟨hOz, hAz, hNz, hSz⟩; have E5 : vb 5 = _ := hOz 0 (by decide) rfl; obtain ⟨cs4, bx4n, hs4⟩ := hSz 1 _ _ _ (by decide) rfl; obtain ⟨n4sba_, A4sba_, l4sba_, c4sba_, n4sbb_, A4sbb_, l4sbb_, c4sbb_, E4sb, q4sba, q4sbb⟩ : SV_zz _ _ _ _ w2 (.agg cs4) := hs4; injection E4sb with E4sb
 subst E4sb; simp only [Act.put, actv, fill, fC, fN, tA, cS, cZ]; simp only [E5]; clear E5; replace h0 := h0.ext hBz.ext; replace h1 := h1.ext hBz.ext; replace bx3 := hBz.blk bx3 (zM hne3_4.out zN); replace HB := hide (HB.out.trans (hBz.below (B := w.heap.size) HB.out.size (zA hge4 zE))); clear bx4; have bx4 := bx4n; clear bx4n; clear hOz hAz hNz hSz hBz
 go_wp2_with fail
 refine bodyPost_ret (results_pair rfl _ _ _ _ _ _ _ _ rfl bx4) rfl ⟨HB.out, ?_⟩; exact VF.mk (Fact.s_zz_mk q4sba q4sbb)
set_option maxHeartbeats 4000000 in
set_option maxRecDepth 100000 in
theorem rodd_calls {w : World}  {k0 k1 : Nat} {n0 n1 : Bool} {A0 A1 : Option Addr} {l0 l1 c0 c1 : Nat} {x0 x1 : Int} {y : Int} (h0 : Q w k0 n0 A0 l0 c0 x0) (h1 : Q w k1 n1 A1 l1 c1 x1) (hk0 : k0 ≤ 9000) (hk1 : k1 ≤ 9000) (hy0 : 0 ≤ y) (hy1 : y ≤ 100000) :
    Calls Tryz.prog 36 #[.int .i64 y, .agg #[.bool n0, .slice A0 l0 c0, .bool n1, .slice A1 l1 c1]] w fun e w' => Below w.heap.size w w' ∧ VF (Fact.s_yy (k0 + 1) (x0 * 1 / ((2 * y + 1) * 2 ^ (0 : Int).toNat)) (k1 + 1) (vUp (x1 * 1) ((2 * y + 1) * 2 ^ (0 : Int).toNat))) e w' := by
 go_enter Tryz.func36, Tryz.ntmps36
 have HB : Hid (Below w.heap.size w w) := hide (Below.refl _ _)
 go_upto_region 0 with (fail)
 refine F2.regionS [.al 39 #[.bool n0, .slice A0 l0 c0, .bool n1, .slice A1 l1 c1], .al 39 #[.bool false, .slice none 0 0, .bool false, .slice none 0 0]] [Fact.any, Fact.any] [3, 4] [3, 4] (by kernel_rfl) ?soa ?sopa (by kernel_rfl) ?sta ?fina
 case soa => exact fun x hx => by cases hx
 case sopa => exact List.Pairwise.nil
 case sta =>
  refine F2.Steps.consA rfl ⟨NoU.four nB nS nB nS, ?_⟩ ?_
  ·
   intro vz wz hBz K hK; simp only [zy, F2.Wp] at hK ⊢; go_simp; exact hK
  refine F2.Steps.consA rfl ⟨NoU.four nB nS nB nS, ?_⟩ ?_
  ·
   intro vz wz hBz K hK; simp only [zy, F2.Wp] at hK ⊢; go_simp; exact hK
  exact F2.Steps.nil
 intro va w1 hBz ⟨hOz, hAz, hNz, hSz⟩; obtain ⟨g3, cs3, E3, hg3, bx3, hs3, hz3⟩ := hAz 0 _ _ (by decide) rfl; have hzz := hz3 (F2.nost (by kernel_rfl)); subst hzz; obtain ⟨g4, cs4, E4, hg4, bx4, hs4, hz4⟩ := hAz 1 _ _ (by decide) rfl; have hzz := hz4 (F2.nost (by kernel_rfl)); subst hzz; have hne3_4 : Hid (¬ g3 = g4) := hide (fun h => hNz 0 1 _ _ _ _ (by decide) (by decide) (by decide) rfl rfl (by rw [E3, E4, h])); simp only [Act.put, actv, fill, fC, fN, tA, cS, cZ]; simp only [(show va 3 = _ from E3), (show va 4 = _ from E4)]; clear E3 E4; have hge3 : w.heap.size ≤ g3 := Nat.le_trans HB.out.size hg3; have hge4 : w.heap.size ≤ g4 := Nat.le_trans HB.out.size hg4; replace h0 := h0.ext hBz.ext; replace h1 := h1.ext hBz.ext; replace HB := hide (HB.out.trans (hBz.below (B := w.heap.size) HB.out.size zE)); clear hOz hAz hNz hSz hs3 hz3 hs4 hz4 hBz
 go_upto_region 1 with (fail)
 refine F2.regionS [.o, .o, .o, .o, .o, .so (g4) 39 #[.bool false, .slice none 0 0, .bool false, .slice none 0 0]] [Fact.eq ?cb5_, Fact.eq ?cb6_, Fact.eq ?cb7_, Fact.eq ?cb8_, Fact.s_yy ?kb9_a ?zb9_a ?kb9_b ?zb9_b, Fact.s_yy ?kbs4_a ?zbs4_a ?kbs4_b ?zbs4_b] [5, 6, 7, 8, 9] [5, 6, 7, 8, 9, 0] (by kernel_rfl) ?sob ?sopb (by kernel_rfl) ?stb ?finb
 case sob => exact List.forall_mem_cons.2 ⟨⟨bx4, NoU.four nB nS nB nS⟩, fun x hx => by cases hx⟩
 case sopb => exact List.Pairwise.cons (fun y hy => by cases hy) (List.Pairwise.nil)
 case stb =>
  refine F2.Steps.consO rfl ?_ ?_
  ·
   intro vz wz hBz hDz hTz K hK; have HW := hBz.ext; have bx3z := hBz.blk bx3 (zM hne3_4.out zN); obtain ⟨zl0, zl1, zl2, zl3, -⟩ := bx3z.four; simp only [zy, F2.Wp] at hK ⊢; go_simp; refine hK _ wz zB (Fact.eq_mk ?_); with_reducible rfl
  refine F2.Steps.consO rfl ?_ ?_
  ·
   intro vz wz hBz hDz hTz K hK; have HW := hBz.ext; simp only [zy, F2.Wp] at hK ⊢; go_simp; refine hK _ wz zB (Fact.eq_mk ?_); with_reducible rfl
  refine F2.Steps.consO rfl ?_ ?_
  ·
   intro vz wz hBz hDz hTz K hK; have E6 : vz 6 = _ := hDz 1 (by kernel_rfl) rfl; have HW := hBz.ext; simp only [zy, F2.Wp] at hK ⊢; simp only [E6] at hK ⊢; go_simp
   try simp (disch := omega) only [IntWalk.i64_in]
   refine hK _ wz zB (Fact.eq_mk ?_); with_reducible rfl
  refine F2.Steps.consO rfl ?_ ?_
  ·
   intro vz wz hBz hDz hTz K hK; have E7 : vz 7 = _ := hDz 2 (by kernel_rfl) rfl; have HW := hBz.ext; simp only [zy, F2.Wp] at hK ⊢; simp only [E7] at hK ⊢; go_simp
   try simp (disch := omega) only [IntWalk.i64_in]
   refine hK _ wz zB (Fact.eq_mk ?_); with_reducible rfl
  refine F2.Steps.consO rfl ?_ ?_
  ·
   intro vz wz hBz hDz hTz K hK; have E5 : vz 5 = _ := hDz 0 (by kernel_rfl) rfl; have E8 : vz 8 = _ := hDz 3 (by kernel_rfl) rfl; have HW := hBz.ext; simp only [zy, F2.Wp] at hK ⊢; simp only [E5, E8] at hK ⊢; go_simp; refine Calls.mono (rover_calls (h0.ext HW) (h1.ext HW) (by omega) (by omega) (by omega) (by omega)) ?_; rintro e w2z ⟨hb2, uz, rfl, hf⟩
   go_wp2_with fail
   refine hK _ w2z hb2 (Fact.cast (hf) ?_); with_reducible rfl
  refine F2.Steps.consT rfl ?_ ?_
  ·
   intro vz wz hBz hDz hbz K hK; obtain ⟨zc0, zc1, zc2, zc3, zc4, zc5, zc6, zc7⟩ := hbz.four; obtain ⟨n9a_, A9a_, l9a_, c9a_, n9b_, A9b_, l9b_, c9b_, E9, q9a, q9b⟩ : SV_yy _ _ _ _ wz (vz 9) := hDz 4 (by kernel_rfl) rfl; have HW := hBz.ext; simp only [zy, F2.Wp] at hK ⊢; simp only [E9] at hK ⊢; go_simp; refine hK _ ((((Far.set _ _ 0 _).trans (Far.set _ _ 1 _)).trans (Far.set _ _ 2 _)).trans (Far.set _ _ 3 _)) ⟨_, blk_four hbz, NoU.four nB nS nB nS, Fact.cast (Fact.s_yy_mk q9a q9b) ?_⟩; with_reducible rfl
  exact F2.Steps.nil
 intro vb w2 hBz ⟨hOz, hAz, hNz, hSz⟩; have E5 : vb 5 = _ := hOz 0 (by decide) rfl; have E6 : vb 6 = _ := hOz 1 (by decide) rfl; have E7 : vb 7 = _ := hOz 2 (by decide) rfl; have E8 : vb 8 = _ := hOz 3 (by decide) rfl; obtain ⟨n9a_, A9a_, l9a_, c9a_, n9b_, A9b_, l9b_, c9b_, E9, q9a, q9b⟩ : SV_yy _ _ _ _ w2 (vb 9) := hOz 4 (by decide) rfl; obtain ⟨cs4, bx4n, hs4⟩ := hSz 5 _ _ _ (by decide) rfl; obtain ⟨n4sba_, A4sba_, l4sba_, c4sba_, n4sbb_, A4sbb_, l4sbb_, c4sbb_, E4sb, q4sba, q4sbb⟩ : SV_yy _ _ _ _ w2 (.agg cs4) := hs4; injection E4sb with E4sb
 subst E4sb; simp only [Act.put, actv, fill, fC, fN, tA, cS, cZ]; simp only [E5, E6, E7, E8, E9]; clear E5 E6 E7 E8 E9; replace h0 := h0.ext hBz.ext; replace h1 := h1.ext hBz.ext; replace bx3 := hBz.blk bx3 (zM hne3_4.out zN); replace HB := hide (HB.out.trans (hBz.below (B := w.heap.size) HB.out.size (zA hge4 zE))); clear bx4; have bx4 := bx4n; clear bx4n; clear hOz hAz hNz hSz hBz
 go_wp2_with fail
 refine bodyPost_ret (results_pair rfl _ _ _ _ _ _ _ _ rfl bx4) rfl ⟨HB.out, ?_⟩; exact VF.mk (Fact.s_yy_mk q4sba q4sbb)
set_option maxHeartbeats 4000000 in
set_option maxRecDepth 100000 in
theorem exp1_calls {w : World} {kt : Nat} {m : Bool} {B : Option Addr} {j d : Nat} {t q : Int} {g p : Nat} {k0 k1 : Nat} {n0 n1 : Bool} {A0 A1 : Option Addr} {l0 l1 c0 c1 : Nat} {x0 x1 : Int} {y : Int} (h0 : Q w k0 n0 A0 l0 c0 x0) (h1 : Q w k1 n1 A1 l1 c1 x1) (ht : Q w kt m B j d t) (hb1 : Blk w g 24 #[.bool m, .slice B j d]) (hb2 : Blk w p 3 #[.int .i64 q]) (hkt : kt ≤ 5000) (hk0 : k0 ≤ 5000) (hk1 : k1 ≤ 5000) (hq0 : 0 ≤ q) (hq1 : q ≤ 2000) (hy0 : 1 ≤ y) (hy1 : y ≤ 100000) :
    Calls Tryz.prog 42 #[.int .i64 y, .agg #[.bool n0, .slice A0 l0 c0, .bool n1, .slice A1 l1 c1], .pointer (some ⟨g, 0, none⟩), .pointer (some ⟨p, 0, none⟩)] w fun e w' => Below w.heap.size w w' ∧ VF (Fact.s_yy (k0 + kt) (x0 * t / ((y) * 2 ^ (q).toNat)) (k1 + kt) (vUp (x1 * t) ((y) * 2 ^ (q).toNat))) e w' := by
 go_enter Tryz.func42, Tryz.ntmps42
 have HB : Hid (Below w.heap.size w w) := hide (Below.refl _ _)
 go_upto_region 0 with (fail)
 refine F2.regionS [.al 39 #[.bool n0, .slice A0 l0 c0, .bool n1, .slice A1 l1 c1], .al 39 #[.bool false, .slice none 0 0, .bool false, .slice none 0 0]] [Fact.any, Fact.any] [5, 6] [5, 6] (by kernel_rfl) ?soa ?sopa (by kernel_rfl) ?sta ?fina
 case soa => exact fun x hx => by cases hx
 case sopa => exact List.Pairwise.nil
 case sta =>
  refine F2.Steps.consA rfl ⟨NoU.four nB nS nB nS, ?_⟩ ?_
  ·
   intro vz wz hBz K hK; simp only [zy, F2.Wp] at hK ⊢; go_simp; exact hK
  refine F2.Steps.consA rfl ⟨NoU.four nB nS nB nS, ?_⟩ ?_
  ·
   intro vz wz hBz K hK; simp only [zy, F2.Wp] at hK ⊢; go_simp; exact hK
  exact F2.Steps.nil
 intro va w1 hBz ⟨hOz, hAz, hNz, hSz⟩; obtain ⟨g5, cs5, E5, hg5, bx5, hs5, hz5⟩ := hAz 0 _ _ (by decide) rfl; have hzz := hz5 (F2.nost (by kernel_rfl)); subst hzz; obtain ⟨g6, cs6, E6, hg6, bx6, hs6, hz6⟩ := hAz 1 _ _ (by decide) rfl; have hzz := hz6 (F2.nost (by kernel_rfl)); subst hzz; have hne5_6 : Hid (¬ g5 = g6) := hide (fun h => hNz 0 1 _ _ _ _ (by decide) (by decide) (by decide) rfl rfl (by rw [E5, E6, h])); simp only [Act.put, actv, fill, fC, fN, tA, cS, cZ]; simp only [(show va 5 = _ from E5), (show va 6 = _ from E6)]; clear E5 E6; have hge5 : w.heap.size ≤ g5 := Nat.le_trans HB.out.size hg5; have hne5_2 := hide (Nat.ne_of_gt (Nat.lt_of_lt_of_le hb1.lt (show w.heap.size ≤ g5 from hg5))); have hne5_3 := hide (Nat.ne_of_gt (Nat.lt_of_lt_of_le hb2.lt (show w.heap.size ≤ g5 from hg5))); have hge6 : w.heap.size ≤ g6 := Nat.le_trans HB.out.size hg6; have hne6_2 := hide (Nat.ne_of_gt (Nat.lt_of_lt_of_le hb1.lt (show w.heap.size ≤ g6 from hg6))); have hne6_3 := hide (Nat.ne_of_gt (Nat.lt_of_lt_of_le hb2.lt (show w.heap.size ≤ g6 from hg6))); replace ht := ht.ext hBz.ext; replace h0 := h0.ext hBz.ext; replace h1 := h1.ext hBz.ext; replace hb1 := hBz.blk hb1 zN; replace hb2 := hBz.blk hb2 zN; replace HB := hide (HB.out.trans (hBz.below (B := w.heap.size) HB.out.size zE)); clear hOz hAz hNz hSz hs5 hz5 hs6 hz6 hBz
 go_upto_region 1 with (fail)
 refine F2.regionS [.o, .o, .o, .o, .o, .so (g6) 39 #[.bool false, .slice none 0 0, .bool false, .slice none 0 0]] [Fact.eq ?cb7_, Fact.eq ?cb8_, Fact.eq ?cb9_, Fact.eq ?cb10_, Fact.s_yy ?kb11_a ?zb11_a ?kb11_b ?zb11_b, Fact.s_yy ?kbs6_a ?zbs6_a ?kbs6_b ?zbs6_b] [7, 8, 9, 10, 11] [7, 8, 9, 10, 11, 0] (by kernel_rfl) ?sob ?sopb (by kernel_rfl) ?stb ?finb
 case sob => exact List.forall_mem_cons.2 ⟨⟨bx6, NoU.four nB nS nB nS⟩, fun x hx => by cases hx⟩
 case sopb => exact List.Pairwise.cons (fun y hy => by cases hy) (List.Pairwise.nil)
 case stb =>
  refine F2.Steps.consO rfl ?_ ?_
  ·
   intro vz wz hBz hDz hTz K hK; have HW := hBz.ext; have bx5z := hBz.blk bx5 (zM hne5_6.out zN); obtain ⟨zl0, zl1, zl2, zl3, -⟩ := bx5z.four; simp only [zy, F2.Wp] at hK ⊢; go_simp; refine hK _ wz zB (Fact.eq_mk ?_); with_reducible rfl
  refine F2.Steps.consO rfl ?_ ?_
  ·
   intro vz wz hBz hDz hTz K hK; have HW := hBz.ext; have hb1z := hBz.blk hb1 (zM (Ne.symm hne6_2.out) zN); obtain ⟨zl0, zl1, -⟩ := hb1z.two; simp only [zy, F2.Wp] at hK ⊢; go_simp; refine hK _ wz zB (Fact.eq_mk ?_); with_reducible rfl
  refine F2.Steps.consO rfl ?_ ?_
  ·
   intro vz wz hBz hDz hTz K hK; have HW := hBz.ext; simp only [zy, F2.Wp] at hK ⊢; go_simp; refine hK _ wz zB (Fact.eq_mk ?_); with_reducible rfl
  refine F2.Steps.consO rfl ?_ ?_
  ·
   intro vz wz hBz hDz hTz K hK; have HW := hBz.ext; have hb2z := hBz.blk hb2 (zM (Ne.symm hne6_3.out) zN); obtain ⟨zl0, -⟩ := hb2z.one; simp only [zy, F2.Wp] at hK ⊢; go_simp; refine hK _ wz zB (Fact.eq_mk ?_); with_reducible rfl
  refine F2.Steps.consO rfl ?_ ?_
  ·
   intro vz wz hBz hDz hTz K hK; have E7 : vz 7 = _ := hDz 0 (by kernel_rfl) rfl; have E8 : vz 8 = _ := hDz 1 (by kernel_rfl) rfl; have E9 : vz 9 = _ := hDz 2 (by kernel_rfl) rfl; have E10 : vz 10 = _ := hDz 3 (by kernel_rfl) rfl; have HW := hBz.ext; simp only [zy, F2.Wp] at hK ⊢; simp only [E7, E8, E9, E10] at hK ⊢; go_simp; refine Calls.mono (rtimes_calls (h0.ext HW) (h1.ext HW) (ht.ext HW) (by omega) (by omega) (by omega) (by omega) (by omega) (by omega) (by omega)) ?_; rintro e w2z ⟨hb2, uz, rfl, hf⟩
   go_wp2_with fail
   refine hK _ w2z hb2 (Fact.cast (hf) ?_); with_reducible rfl
  refine F2.Steps.consT rfl ?_ ?_
  ·
   intro vz wz hBz hDz hbz K hK; obtain ⟨zc0, zc1, zc2, zc3, zc4, zc5, zc6, zc7⟩ := hbz.four; obtain ⟨n11a_, A11a_, l11a_, c11a_, n11b_, A11b_, l11b_, c11b_, E11, q11a, q11b⟩ : SV_yy _ _ _ _ wz (vz 11) := hDz 4 (by kernel_rfl) rfl; have HW := hBz.ext; simp only [zy, F2.Wp] at hK ⊢; simp only [E11] at hK ⊢; go_simp; refine hK _ ((((Far.set _ _ 0 _).trans (Far.set _ _ 1 _)).trans (Far.set _ _ 2 _)).trans (Far.set _ _ 3 _)) ⟨_, blk_four hbz, NoU.four nB nS nB nS, Fact.cast (Fact.s_yy_mk q11a q11b) ?_⟩; with_reducible rfl
  exact F2.Steps.nil
 intro vb w2 hBz ⟨hOz, hAz, hNz, hSz⟩; have E7 : vb 7 = _ := hOz 0 (by decide) rfl; have E8 : vb 8 = _ := hOz 1 (by decide) rfl; have E9 : vb 9 = _ := hOz 2 (by decide) rfl; have E10 : vb 10 = _ := hOz 3 (by decide) rfl; obtain ⟨n11a_, A11a_, l11a_, c11a_, n11b_, A11b_, l11b_, c11b_, E11, q11a, q11b⟩ : SV_yy _ _ _ _ w2 (vb 11) := hOz 4 (by decide) rfl; obtain ⟨cs6, bx6n, hs6⟩ := hSz 5 _ _ _ (by decide) rfl; obtain ⟨n6sba_, A6sba_, l6sba_, c6sba_, n6sbb_, A6sbb_, l6sbb_, c6sbb_, E6sb, q6sba, q6sbb⟩ : SV_yy _ _ _ _ w2 (.agg cs6) := hs6; injection E6sb with E6sb
 subst E6sb; simp only [Act.put, actv, fill, fC, fN, tA, cS, cZ]; simp only [E7, E8, E9, E10, E11]; clear E7 E8 E9 E10 E11; replace ht := ht.ext hBz.ext; replace h0 := h0.ext hBz.ext; replace h1 := h1.ext hBz.ext; replace hb1 := hBz.blk hb1 (zM (Ne.symm hne6_2.out) zN); replace hb2 := hBz.blk hb2 (zM (Ne.symm hne6_3.out) zN); replace bx5 := hBz.blk bx5 (zM hne5_6.out zN); replace HB := hide (HB.out.trans (hBz.below (B := w.heap.size) HB.out.size (zA hge6 zE))); clear bx6; have bx6 := bx6n; clear bx6n; clear hOz hAz hNz hSz hBz
 go_wp2_with fail
 refine bodyPost_ret (results_pair rfl _ _ _ _ _ _ _ _ rfl bx6) rfl ⟨HB.out, ?_⟩; exact VF.mk (Fact.s_yy_mk q6sba q6sbb)
set_option maxHeartbeats 4000000 in
set_option maxRecDepth 100000 in
theorem powers1_calls {w : World} {kt : Nat} {m : Bool} {B : Option Addr} {j d : Nat} {t q : Int} {g p : Nat} {k0 k1 : Nat} {n0 n1 : Bool} {A0 A1 : Option Addr} {l0 l1 c0 c1 : Nat} {x0 x1 : Int} {y : Int} (h0 : Q w k0 n0 A0 l0 c0 x0) (h1 : Q w k1 n1 A1 l1 c1 x1) (ht : Q w kt m B j d t) (hb1 : Blk w g 24 #[.bool m, .slice B j d]) (hb2 : Blk w p 3 #[.int .i64 q]) (hkt : kt ≤ 5000) (hk0 : k0 ≤ 5000) (hk1 : k1 ≤ 5000) (hq0 : 0 ≤ q) (hq1 : q ≤ 2000) (hy0 : 0 ≤ y) (hy1 : y ≤ 100000) :
    Calls Tryz.prog 62 #[.int .i64 y, .agg #[.bool n0, .slice A0 l0 c0, .bool n1, .slice A1 l1 c1], .pointer (some ⟨g, 0, none⟩), .pointer (some ⟨p, 0, none⟩)] w fun e w' => Below w.heap.size w w' ∧ VF (Fact.s_yy (k0 + kt) (x0 * t / ((1) * 2 ^ (2 * q).toNat)) (k1 + kt) (vUp (x1 * t) ((1) * 2 ^ (2 * q).toNat))) e w' := by
 go_enter Tryz.func62, Tryz.ntmps62
 have HB : Hid (Below w.heap.size w w) := hide (Below.refl _ _)
 go_upto_region 0 with (fail)
 refine F2.regionS [.al 39 #[.bool n0, .slice A0 l0 c0, .bool n1, .slice A1 l1 c1], .al 39 #[.bool false, .slice none 0 0, .bool false, .slice none 0 0]] [Fact.any, Fact.any] [5, 6] [5, 6] (by kernel_rfl) ?soa ?sopa (by kernel_rfl) ?sta ?fina
 case soa => exact fun x hx => by cases hx
 case sopa => exact List.Pairwise.nil
 case sta =>
  refine F2.Steps.consA rfl ⟨NoU.four nB nS nB nS, ?_⟩ ?_
  ·
   intro vz wz hBz K hK; simp only [zy, F2.Wp] at hK ⊢; go_simp; exact hK
  refine F2.Steps.consA rfl ⟨NoU.four nB nS nB nS, ?_⟩ ?_
  ·
   intro vz wz hBz K hK; simp only [zy, F2.Wp] at hK ⊢; go_simp; exact hK
  exact F2.Steps.nil
 intro va w1 hBz ⟨hOz, hAz, hNz, hSz⟩; obtain ⟨g5, cs5, E5, hg5, bx5, hs5, hz5⟩ := hAz 0 _ _ (by decide) rfl; have hzz := hz5 (F2.nost (by kernel_rfl)); subst hzz; obtain ⟨g6, cs6, E6, hg6, bx6, hs6, hz6⟩ := hAz 1 _ _ (by decide) rfl; have hzz := hz6 (F2.nost (by kernel_rfl)); subst hzz; have hne5_6 : Hid (¬ g5 = g6) := hide (fun h => hNz 0 1 _ _ _ _ (by decide) (by decide) (by decide) rfl rfl (by rw [E5, E6, h])); simp only [Act.put, actv, fill, fC, fN, tA, cS, cZ]; simp only [(show va 5 = _ from E5), (show va 6 = _ from E6)]; clear E5 E6; have hge5 : w.heap.size ≤ g5 := Nat.le_trans HB.out.size hg5; have hne5_2 := hide (Nat.ne_of_gt (Nat.lt_of_lt_of_le hb1.lt (show w.heap.size ≤ g5 from hg5))); have hne5_3 := hide (Nat.ne_of_gt (Nat.lt_of_lt_of_le hb2.lt (show w.heap.size ≤ g5 from hg5))); have hge6 : w.heap.size ≤ g6 := Nat.le_trans HB.out.size hg6; have hne6_2 := hide (Nat.ne_of_gt (Nat.lt_of_lt_of_le hb1.lt (show w.heap.size ≤ g6 from hg6))); have hne6_3 := hide (Nat.ne_of_gt (Nat.lt_of_lt_of_le hb2.lt (show w.heap.size ≤ g6 from hg6))); replace ht := ht.ext hBz.ext; replace h0 := h0.ext hBz.ext; replace h1 := h1.ext hBz.ext; replace hb1 := hBz.blk hb1 zN; replace hb2 := hBz.blk hb2 zN; replace HB := hide (HB.out.trans (hBz.below (B := w.heap.size) HB.out.size zE)); clear hOz hAz hNz hSz hs5 hz5 hs6 hz6 hBz
 go_upto_region 1 with (fail)
 refine F2.regionS [.o, .o, .o, .o, .o, .so (g6) 39 #[.bool false, .slice none 0 0, .bool false, .slice none 0 0]] [Fact.eq ?cb7_, Fact.eq ?cb8_, Fact.eq ?cb9_, Fact.eq ?cb10_, Fact.s_yy ?kb11_a ?zb11_a ?kb11_b ?zb11_b, Fact.s_yy ?kbs6_a ?zbs6_a ?kbs6_b ?zbs6_b] [7, 8, 9, 10, 11] [7, 8, 9, 10, 11, 0] (by kernel_rfl) ?sob ?sopb (by kernel_rfl) ?stb ?finb
 case sob => exact List.forall_mem_cons.2 ⟨⟨bx6, NoU.four nB nS nB nS⟩, fun x hx => by cases hx⟩
 case sopb => exact List.Pairwise.cons (fun y hy => by cases hy) (List.Pairwise.nil)
 case stb =>
  refine F2.Steps.consO rfl ?_ ?_
  ·
   intro vz wz hBz hDz hTz K hK; have HW := hBz.ext; have bx5z := hBz.blk bx5 (zM hne5_6.out zN); obtain ⟨zl0, zl1, zl2, zl3, -⟩ := bx5z.four; simp only [zy, F2.Wp] at hK ⊢; go_simp; refine hK _ wz zB (Fact.eq_mk ?_); with_reducible rfl
  refine F2.Steps.consO rfl ?_ ?_
  ·
   intro vz wz hBz hDz hTz K hK; have HW := hBz.ext; have hb1z := hBz.blk hb1 (zM (Ne.symm hne6_2.out) zN); obtain ⟨zl0, zl1, -⟩ := hb1z.two; simp only [zy, F2.Wp] at hK ⊢; go_simp; refine hK _ wz zB (Fact.eq_mk ?_); with_reducible rfl
  refine F2.Steps.consO rfl ?_ ?_
  ·
   intro vz wz hBz hDz hTz K hK; have HW := hBz.ext; have hb2z := hBz.blk hb2 (zM (Ne.symm hne6_3.out) zN); obtain ⟨zl0, -⟩ := hb2z.one; simp only [zy, F2.Wp] at hK ⊢; go_simp; refine hK _ wz zB (Fact.eq_mk ?_); with_reducible rfl
  refine F2.Steps.consO rfl ?_ ?_
  ·
   intro vz wz hBz hDz hTz K hK; have E9 : vz 9 = _ := hDz 2 (by kernel_rfl) rfl; have HW := hBz.ext; simp only [zy, F2.Wp] at hK ⊢; simp only [E9] at hK ⊢; go_simp
   try simp (disch := omega) only [IntWalk.i64_in]
   refine hK _ wz zB (Fact.eq_mk ?_); with_reducible rfl
  refine F2.Steps.consO rfl ?_ ?_
  ·
   intro vz wz hBz hDz hTz K hK; have E7 : vz 7 = _ := hDz 0 (by kernel_rfl) rfl; have E8 : vz 8 = _ := hDz 1 (by kernel_rfl) rfl; have E10 : vz 10 = _ := hDz 3 (by kernel_rfl) rfl; have HW := hBz.ext; simp only [zy, F2.Wp] at hK ⊢; simp only [E7, E8, E10] at hK ⊢; go_simp; refine Calls.mono (rtimes_calls (h0.ext HW) (h1.ext HW) (ht.ext HW) (by omega) (by omega) (by omega) (by omega) (by omega) (by omega) (by omega)) ?_; rintro e w2z ⟨hb2, uz, rfl, hf⟩
   go_wp2_with fail
   refine hK _ w2z hb2 (Fact.cast (hf) ?_); with_reducible rfl
  refine F2.Steps.consT rfl ?_ ?_
  ·
   intro vz wz hBz hDz hbz K hK; obtain ⟨zc0, zc1, zc2, zc3, zc4, zc5, zc6, zc7⟩ := hbz.four; obtain ⟨n11a_, A11a_, l11a_, c11a_, n11b_, A11b_, l11b_, c11b_, E11, q11a, q11b⟩ : SV_yy _ _ _ _ wz (vz 11) := hDz 4 (by kernel_rfl) rfl; have HW := hBz.ext; simp only [zy, F2.Wp] at hK ⊢; simp only [E11] at hK ⊢; go_simp; refine hK _ ((((Far.set _ _ 0 _).trans (Far.set _ _ 1 _)).trans (Far.set _ _ 2 _)).trans (Far.set _ _ 3 _)) ⟨_, blk_four hbz, NoU.four nB nS nB nS, Fact.cast (Fact.s_yy_mk q11a q11b) ?_⟩; with_reducible rfl
  exact F2.Steps.nil
 intro vb w2 hBz ⟨hOz, hAz, hNz, hSz⟩; have E7 : vb 7 = _ := hOz 0 (by decide) rfl; have E8 : vb 8 = _ := hOz 1 (by decide) rfl; have E9 : vb 9 = _ := hOz 2 (by decide) rfl; have E10 : vb 10 = _ := hOz 3 (by decide) rfl; obtain ⟨n11a_, A11a_, l11a_, c11a_, n11b_, A11b_, l11b_, c11b_, E11, q11a, q11b⟩ : SV_yy _ _ _ _ w2 (vb 11) := hOz 4 (by decide) rfl; obtain ⟨cs6, bx6n, hs6⟩ := hSz 5 _ _ _ (by decide) rfl; obtain ⟨n6sba_, A6sba_, l6sba_, c6sba_, n6sbb_, A6sbb_, l6sbb_, c6sbb_, E6sb, q6sba, q6sbb⟩ : SV_yy _ _ _ _ w2 (.agg cs6) := hs6; injection E6sb with E6sb
 subst E6sb; simp only [Act.put, actv, fill, fC, fN, tA, cS, cZ]; simp only [E7, E8, E9, E10, E11]; clear E7 E8 E9 E10 E11; replace ht := ht.ext hBz.ext; replace h0 := h0.ext hBz.ext; replace h1 := h1.ext hBz.ext; replace hb1 := hBz.blk hb1 (zM (Ne.symm hne6_2.out) zN); replace hb2 := hBz.blk hb2 (zM (Ne.symm hne6_3.out) zN); replace bx5 := hBz.blk bx5 (zM hne5_6.out zN); replace HB := hide (HB.out.trans (hBz.below (B := w.heap.size) HB.out.size (zA hge6 zE))); clear bx6; have bx6 := bx6n; clear bx6n; clear hOz hAz hNz hSz hBz
 go_wp2_with fail
 refine bodyPost_ret (results_pair rfl _ _ _ _ _ _ _ _ rfl bx6) rfl ⟨HB.out, ?_⟩; exact VF.mk (Fact.s_yy_mk q6sba q6sbb)
set_option maxHeartbeats 4000000 in
set_option maxRecDepth 100000 in
theorem sin1_calls {w : World} {kt : Nat} {m : Bool} {B : Option Addr} {j d : Nat} {t q : Int} {g p : Nat} {k0 k1 : Nat} {n0 n1 : Bool} {A0 A1 : Option Addr} {l0 l1 c0 c1 : Nat} {x0 x1 : Int} {y : Int} (h0 : Q w k0 n0 A0 l0 c0 x0) (h1 : Q w k1 n1 A1 l1 c1 x1) (ht : Q w kt m B j d t) (hb1 : Blk w g 24 #[.bool m, .slice B j d]) (hb2 : Blk w p 3 #[.int .i64 q]) (hkt : kt ≤ 5000) (hk0 : k0 ≤ 5000) (hk1 : k1 ≤ 5000) (hq0 : 0 ≤ q) (hq1 : q ≤ 2000) (hy0 : 1 ≤ y) (hy1 : y ≤ 10000) :
    Calls Tryz.prog 23 #[.int .i64 y, .agg #[.bool n0, .slice A0 l0 c0, .bool n1, .slice A1 l1 c1], .pointer (some ⟨g, 0, none⟩), .pointer (some ⟨p, 0, none⟩)] w fun e w' => Below w.heap.size w w' ∧ VF (Fact.s_yy (k0 + kt) (x0 * t / ((2 * y * (2 * y + 1)) * 2 ^ (2 * q).toNat)) (k1 + kt) (vUp (x1 * t) ((2 * y * (2 * y + 1)) * 2 ^ (2 * q).toNat))) e w' := by
 have hm1 : 1 ≤ (2 * y * (2 * y + 1)) ∧ (2 * y * (2 * y + 1)) ≤ 1000000000 := by
  have h1 : 1 * 1 ≤ 2 * y * (2 * y + 1) := Int.mul_le_mul (by omega) (by omega) (by omega) (by omega); have h2 : 2 * y * (2 * y + 1) ≤ 20000 * 20001 := Int.mul_le_mul (by omega) (by omega) (by omega) (by omega)
  omega
 obtain ⟨hm1, hm2⟩ := hm1
 go_enter Tryz.func23, Tryz.ntmps23
 have HB : Hid (Below w.heap.size w w) := hide (Below.refl _ _)
 go_upto_region 0 with (fail)
 refine F2.regionS [.al 39 #[.bool n0, .slice A0 l0 c0, .bool n1, .slice A1 l1 c1], .al 39 #[.bool false, .slice none 0 0, .bool false, .slice none 0 0]] [Fact.any, Fact.any] [5, 6] [5, 6] (by kernel_rfl) ?soa ?sopa (by kernel_rfl) ?sta ?fina
 case soa => exact fun x hx => by cases hx
 case sopa => exact List.Pairwise.nil
 case sta =>
  refine F2.Steps.consA rfl ⟨NoU.four nB nS nB nS, ?_⟩ ?_
  ·
   intro vz wz hBz K hK; simp only [zy, F2.Wp] at hK ⊢; go_simp; exact hK
  refine F2.Steps.consA rfl ⟨NoU.four nB nS nB nS, ?_⟩ ?_
  ·
   intro vz wz hBz K hK; simp only [zy, F2.Wp] at hK ⊢; go_simp; exact hK
  exact F2.Steps.nil
 intro va w1 hBz ⟨hOz, hAz, hNz, hSz⟩; obtain ⟨g5, cs5, E5, hg5, bx5, hs5, hz5⟩ := hAz 0 _ _ (by decide) rfl; have hzz := hz5 (F2.nost (by kernel_rfl)); subst hzz; obtain ⟨g6, cs6, E6, hg6, bx6, hs6, hz6⟩ := hAz 1 _ _ (by decide) rfl; have hzz := hz6 (F2.nost (by kernel_rfl)); subst hzz; have hne5_6 : Hid (¬ g5 = g6) := hide (fun h => hNz 0 1 _ _ _ _ (by decide) (by decide) (by decide) rfl rfl (by rw [E5, E6, h])); simp only [Act.put, actv, fill, fC, fN, tA, cS, cZ]; simp only [(show va 5 = _ from E5), (show va 6 = _ from E6)]; clear E5 E6; have hge5 : w.heap.size ≤ g5 := Nat.le_trans HB.out.size hg5; have hne5_2 := hide (Nat.ne_of_gt (Nat.lt_of_lt_of_le hb1.lt (show w.heap.size ≤ g5 from hg5))); have hne5_3 := hide (Nat.ne_of_gt (Nat.lt_of_lt_of_le hb2.lt (show w.heap.size ≤ g5 from hg5))); have hge6 : w.heap.size ≤ g6 := Nat.le_trans HB.out.size hg6; have hne6_2 := hide (Nat.ne_of_gt (Nat.lt_of_lt_of_le hb1.lt (show w.heap.size ≤ g6 from hg6))); have hne6_3 := hide (Nat.ne_of_gt (Nat.lt_of_lt_of_le hb2.lt (show w.heap.size ≤ g6 from hg6))); replace ht := ht.ext hBz.ext; replace h0 := h0.ext hBz.ext; replace h1 := h1.ext hBz.ext; replace hb1 := hBz.blk hb1 zN; replace hb2 := hBz.blk hb2 zN; replace HB := hide (HB.out.trans (hBz.below (B := w.heap.size) HB.out.size zE)); clear hOz hAz hNz hSz hs5 hz5 hs6 hz6 hBz
 go_upto_region 1 with (fail)
 refine F2.regionS [.o, .o, .o, .o, .o, .o, .o, .o, .o, .o, .o, .so (g6) 39 #[.bool false, .slice none 0 0, .bool false, .slice none 0 0]] [Fact.eq ?cb7_, Fact.eq ?cb8_, Fact.eq ?cb9_, Fact.eq ?cb10_, Fact.eq ?cb11_, Fact.eq ?cb12_, Fact.eq ?cb13_, Fact.eq ?cb14_, Fact.eq ?cb15_, Fact.eq ?cb16_, Fact.s_yy ?kb17_a ?zb17_a ?kb17_b ?zb17_b, Fact.s_yy ?kbs6_a ?zbs6_a ?kbs6_b ?zbs6_b] [7, 8, 9, 10, 11, 12, 13, 14, 15, 16, 17] [7, 8, 9, 10, 11, 12, 13, 14, 15, 16, 17, 0] (by kernel_rfl) ?sob ?sopb (by kernel_rfl) ?stb ?finb
 case sob => exact List.forall_mem_cons.2 ⟨⟨bx6, NoU.four nB nS nB nS⟩, fun x hx => by cases hx⟩
 case sopb => exact List.Pairwise.cons (fun y hy => by cases hy) (List.Pairwise.nil)
 case stb =>
  refine F2.Steps.consO rfl ?_ ?_
  ·
   intro vz wz hBz hDz hTz K hK; have HW := hBz.ext; have bx5z := hBz.blk bx5 (zM hne5_6.out zN); obtain ⟨zl0, zl1, zl2, zl3, -⟩ := bx5z.four; simp only [zy, F2.Wp] at hK ⊢; go_simp; refine hK _ wz zB (Fact.eq_mk ?_); with_reducible rfl
  refine F2.Steps.consO rfl ?_ ?_
  ·
   intro vz wz hBz hDz hTz K hK; have HW := hBz.ext; have hb1z := hBz.blk hb1 (zM (Ne.symm hne6_2.out) zN); obtain ⟨zl0, zl1, -⟩ := hb1z.two; simp only [zy, F2.Wp] at hK ⊢; go_simp; refine hK _ wz zB (Fact.eq_mk ?_); with_reducible rfl
  refine F2.Steps.consO rfl ?_ ?_
  ·
   intro vz wz hBz hDz hTz K hK; have HW := hBz.ext; simp only [zy, F2.Wp] at hK ⊢; go_simp; refine hK _ wz zB (Fact.eq_mk ?_); with_reducible rfl
  refine F2.Steps.consO rfl ?_ ?_
  ·
   intro vz wz hBz hDz hTz K hK; have E9 : vz 9 = _ := hDz 2 (by kernel_rfl) rfl; have HW := hBz.ext; simp only [zy, F2.Wp] at hK ⊢; simp only [E9] at hK ⊢; go_simp
   try simp (disch := omega) only [IntWalk.i64_in]
   refine hK _ wz zB (Fact.eq_mk ?_); with_reducible rfl
  refine F2.Steps.consO rfl ?_ ?_
  ·
   intro vz wz hBz hDz hTz K hK; have HW := hBz.ext; simp only [zy, F2.Wp] at hK ⊢; go_simp; refine hK _ wz zB (Fact.eq_mk ?_); with_reducible rfl
  refine F2.Steps.consO rfl ?_ ?_
  ·
   intro vz wz hBz hDz hTz K hK; have E11 : vz 11 = _ := hDz 4 (by kernel_rfl) rfl; have HW := hBz.ext; simp only [zy, F2.Wp] at hK ⊢; simp only [E11] at hK ⊢; go_simp
   try simp (disch := omega) only [IntWalk.i64_in]
   refine hK _ wz zB (Fact.eq_mk ?_); with_reducible rfl
  refine F2.Steps.consO rfl ?_ ?_
  ·
   intro vz wz hBz hDz hTz K hK; have E12 : vz 12 = _ := hDz 5 (by kernel_rfl) rfl; have HW := hBz.ext; simp only [zy, F2.Wp] at hK ⊢; simp only [E12] at hK ⊢; go_simp
   try simp (disch := omega) only [IntWalk.i64_in]
   refine hK _ wz zB (Fact.eq_mk ?_); with_reducible rfl
  refine F2.Steps.consO rfl ?_ ?_
  ·
   intro vz wz hBz hDz hTz K hK; have E10 : vz 10 = _ := hDz 3 (by kernel_rfl) rfl; have E13 : vz 13 = _ := hDz 6 (by kernel_rfl) rfl; have HW := hBz.ext; simp only [zy, F2.Wp] at hK ⊢; simp only [E10, E13] at hK ⊢; go_simp
   try simp (disch := omega) only [IntWalk.i64_in]
   refine hK _ wz zB (Fact.eq_mk ?_); with_reducible rfl
  refine F2.Steps.consO rfl ?_ ?_
  ·
   intro vz wz hBz hDz hTz K hK; have HW := hBz.ext; have hb2z := hBz.blk hb2 (zM (Ne.symm hne6_3.out) zN); obtain ⟨zl0, -⟩ := hb2z.one; simp only [zy, F2.Wp] at hK ⊢; go_simp; refine hK _ wz zB (Fact.eq_mk ?_); with_reducible rfl
  refine F2.Steps.consO rfl ?_ ?_
  ·
   intro vz wz hBz hDz hTz K hK; have E15 : vz 15 = _ := hDz 8 (by kernel_rfl) rfl; have HW := hBz.ext; simp only [zy, F2.Wp] at hK ⊢; simp only [E15] at hK ⊢; go_simp
   try simp (disch := omega) only [IntWalk.i64_in]
   refine hK _ wz zB (Fact.eq_mk ?_); with_reducible rfl
  refine F2.Steps.consO rfl ?_ ?_
  ·
   intro vz wz hBz hDz hTz K hK; have E7 : vz 7 = _ := hDz 0 (by kernel_rfl) rfl; have E8 : vz 8 = _ := hDz 1 (by kernel_rfl) rfl; have E14 : vz 14 = _ := hDz 7 (by kernel_rfl) rfl; have E16 : vz 16 = _ := hDz 9 (by kernel_rfl) rfl; have HW := hBz.ext; simp only [zy, F2.Wp] at hK ⊢; simp only [E7, E8, E14, E16] at hK ⊢; go_simp; refine Calls.mono (rtimes_calls (h0.ext HW) (h1.ext HW) (ht.ext HW) (by omega) (by omega) (by omega) (by omega) (by omega) (by omega) (by omega)) ?_; rintro e w2z ⟨hb2, uz, rfl, hf⟩
   go_wp2_with fail
   refine hK _ w2z hb2 (Fact.cast (hf) ?_); with_reducible rfl
  refine F2.Steps.consT rfl ?_ ?_
  ·
   intro vz wz hBz hDz hbz K hK; obtain ⟨zc0, zc1, zc2, zc3, zc4, zc5, zc6, zc7⟩ := hbz.four; obtain ⟨n17a_, A17a_, l17a_, c17a_, n17b_, A17b_, l17b_, c17b_, E17, q17a, q17b⟩ : SV_yy _ _ _ _ wz (vz 17) := hDz 10 (by kernel_rfl) rfl; have HW := hBz.ext; simp only [zy, F2.Wp] at hK ⊢; simp only [E17] at hK ⊢; go_simp; refine hK _ ((((Far.set _ _ 0 _).trans (Far.set _ _ 1 _)).trans (Far.set _ _ 2 _)).trans (Far.set _ _ 3 _)) ⟨_, blk_four hbz, NoU.four nB nS nB nS, Fact.cast (Fact.s_yy_mk q17a q17b) ?_⟩; with_reducible rfl
  exact F2.Steps.nil
 intro vb w2 hBz ⟨hOz, hAz, hNz, hSz⟩; have E7 : vb 7 = _ := hOz 0 (by decide) rfl; have E8 : vb 8 = _ := hOz 1 (by decide) rfl; have E9 : vb 9 = _ := hOz 2 (by decide) rfl; have E10 : vb 10 = _ := hOz 3 (by decide) rfl; have E11 : vb 11 = _ := hOz 4 (by decide) rfl; have E12 : vb 12 = _ := hOz 5 (by decide) rfl; have E13 : vb 13 = _ := hOz 6 (by decide) rfl; have E14 : vb 14 = _ := hOz 7 (by decide) rfl; have E15 : vb 15 = _ := hOz 8 (by decide) rfl; have E16 : vb 16 = _ := hOz 9 (by decide) rfl; obtain ⟨n17a_, A17a_, l17a_, c17a_, n17b_, A17b_, l17b_, c17b_, E17, q17a, q17b⟩ : SV_yy _ _ _ _ w2 (vb 17) := hOz 10 (by decide) rfl; obtain ⟨cs6, bx6n, hs6⟩ := hSz 11 _ _ _ (by decide) rfl; obtain ⟨n6sba_, A6sba_, l6sba_, c6sba_, n6sbb_, A6sbb_, l6sbb_, c6sbb_, E6sb, q6sba, q6sbb⟩ : SV_yy _ _ _ _ w2 (.agg cs6) := hs6; injection E6sb with E6sb
 subst E6sb; simp only [Act.put, actv, fill, fC, fN, tA, cS, cZ]; simp only [E7, E8, E9, E10, E11, E12, E13, E14, E15, E16, E17]; clear E7 E8 E9 E10 E11 E12 E13 E14 E15 E16 E17; replace ht := ht.ext hBz.ext; replace h0 := h0.ext hBz.ext; replace h1 := h1.ext hBz.ext; replace hb1 := hBz.blk hb1 (zM (Ne.symm hne6_2.out) zN); replace hb2 := hBz.blk hb2 (zM (Ne.symm hne6_3.out) zN); replace bx5 := hBz.blk bx5 (zM hne5_6.out zN); replace HB := hide (HB.out.trans (hBz.below (B := w.heap.size) HB.out.size (zA hge6 zE))); clear bx6; have bx6 := bx6n; clear bx6n; clear hOz hAz hNz hSz hBz
 go_wp2_with fail
 refine bodyPost_ret (results_pair rfl _ _ _ _ _ _ _ _ rfl bx6) rfl ⟨HB.out, ?_⟩; exact VF.mk (Fact.s_yy_mk q6sba q6sbb)
set_option maxHeartbeats 4000000 in
set_option maxRecDepth 100000 in
theorem cos1_calls {w : World} {kt : Nat} {m : Bool} {B : Option Addr} {j d : Nat} {t q : Int} {g p : Nat} {k0 k1 : Nat} {n0 n1 : Bool} {A0 A1 : Option Addr} {l0 l1 c0 c1 : Nat} {x0 x1 : Int} {y : Int} (h0 : Q w k0 n0 A0 l0 c0 x0) (h1 : Q w k1 n1 A1 l1 c1 x1) (ht : Q w kt m B j d t) (hb1 : Blk w g 24 #[.bool m, .slice B j d]) (hb2 : Blk w p 3 #[.int .i64 q]) (hkt : kt ≤ 5000) (hk0 : k0 ≤ 5000) (hk1 : k1 ≤ 5000) (hq0 : 0 ≤ q) (hq1 : q ≤ 2000) (hy0 : 1 ≤ y) (hy1 : y ≤ 10000) :
    Calls Tryz.prog 31 #[.int .i64 y, .agg #[.bool n0, .slice A0 l0 c0, .bool n1, .slice A1 l1 c1], .pointer (some ⟨g, 0, none⟩), .pointer (some ⟨p, 0, none⟩)] w fun e w' => Below w.heap.size w w' ∧ VF (Fact.s_yy (k0 + kt) (x0 * t / (((2 * y - 1) * 2 * y) * 2 ^ (2 * q).toNat)) (k1 + kt) (vUp (x1 * t) (((2 * y - 1) * 2 * y) * 2 ^ (2 * q).toNat))) e w' := by
 have hm1 : 1 ≤ ((2 * y - 1) * 2 * y) ∧ ((2 * y - 1) * 2 * y) ≤ 1000000000 := by
  have h1 : (1 * 2) * 1 ≤ (2 * y - 1) * 2 * y := Int.mul_le_mul (by omega) (by omega) (by omega) (by omega); have h2 : (2 * y - 1) * 2 * y ≤ 40000 * 10000 := Int.mul_le_mul (by omega) (by omega) (by omega) (by omega)
  omega
 obtain ⟨hm1, hm2⟩ := hm1
 go_enter Tryz.func31, Tryz.ntmps31
 have HB : Hid (Below w.heap.size w w) := hide (Below.refl _ _)
 go_upto_region 0 with (fail)
 refine F2.regionS [.al 39 #[.bool n0, .slice A0 l0 c0, .bool n1, .slice A1 l1 c1], .al 39 #[.bool false, .slice none 0 0, .bool false, .slice none 0 0]] [Fact.any, Fact.any] [5, 6] [5, 6] (by kernel_rfl) ?soa ?sopa (by kernel_rfl) ?sta ?fina
 case soa => exact fun x hx => by cases hx
 case sopa => exact List.Pairwise.nil
 case sta =>
  refine F2.Steps.consA rfl ⟨NoU.four nB nS nB nS, ?_⟩ ?_
  ·
   intro vz wz hBz K hK; simp only [zy, F2.Wp] at hK ⊢; go_simp; exact hK
  refine F2.Steps.consA rfl ⟨NoU.four nB nS nB nS, ?_⟩ ?_
  ·
   intro vz wz hBz K hK; simp only [zy, F2.Wp] at hK ⊢; go_simp; exact hK
  exact F2.Steps.nil
 intro va w1 hBz ⟨hOz, hAz, hNz, hSz⟩; obtain ⟨g5, cs5, E5, hg5, bx5, hs5, hz5⟩ := hAz 0 _ _ (by decide) rfl; have hzz := hz5 (F2.nost (by kernel_rfl)); subst hzz; obtain ⟨g6, cs6, E6, hg6, bx6, hs6, hz6⟩ := hAz 1 _ _ (by decide) rfl; have hzz := hz6 (F2.nost (by kernel_rfl)); subst hzz; have hne5_6 : Hid (¬ g5 = g6) := hide (fun h => hNz 0 1 _ _ _ _ (by decide) (by decide) (by decide) rfl rfl (by rw [E5, E6, h])); simp only [Act.put, actv, fill, fC, fN, tA, cS, cZ]; simp only [(show va 5 = _ from E5), (show va 6 = _ from E6)]; clear E5 E6; have hge5 : w.heap.size ≤ g5 := Nat.le_trans HB.out.size hg5; have hne5_2 := hide (Nat.ne_of_gt (Nat.lt_of_lt_of_le hb1.lt (show w.heap.size ≤ g5 from hg5))); have hne5_3 := hide (Nat.ne_of_gt (Nat.lt_of_lt_of_le hb2.lt (show w.heap.size ≤ g5 from hg5))); have hge6 : w.heap.size ≤ g6 := Nat.le_trans HB.out.size hg6; have hne6_2 := hide (Nat.ne_of_gt (Nat.lt_of_lt_of_le hb1.lt (show w.heap.size ≤ g6 from hg6))); have hne6_3 := hide (Nat.ne_of_gt (Nat.lt_of_lt_of_le hb2.lt (show w.heap.size ≤ g6 from hg6))); replace ht := ht.ext hBz.ext; replace h0 := h0.ext hBz.ext; replace h1 := h1.ext hBz.ext; replace hb1 := hBz.blk hb1 zN; replace hb2 := hBz.blk hb2 zN; replace HB := hide (HB.out.trans (hBz.below (B := w.heap.size) HB.out.size zE)); clear hOz hAz hNz hSz hs5 hz5 hs6 hz6 hBz
 go_upto_region 1 with (fail)
 refine F2.regionS [.o, .o, .o, .o, .o, .o, .o, .o, .o, .o, .o, .so (g6) 39 #[.bool false, .slice none 0 0, .bool false, .slice none 0 0]] [Fact.eq ?cb7_, Fact.eq ?cb8_, Fact.eq ?cb9_, Fact.eq ?cb10_, Fact.eq ?cb11_, Fact.eq ?cb12_, Fact.eq ?cb13_, Fact.eq ?cb14_, Fact.eq ?cb15_, Fact.eq ?cb16_, Fact.s_yy ?kb17_a ?zb17_a ?kb17_b ?zb17_b, Fact.s_yy ?kbs6_a ?zbs6_a ?kbs6_b ?zbs6_b] [7, 8, 9, 10, 11, 12, 13, 14, 15, 16, 17] [7, 8, 9, 10, 11, 12, 13, 14, 15, 16, 17, 0] (by kernel_rfl) ?sob ?sopb (by kernel_rfl) ?stb ?finb
 case sob => exact List.forall_mem_cons.2 ⟨⟨bx6, NoU.four nB nS nB nS⟩, fun x hx => by cases hx⟩
 case sopb => exact List.Pairwise.cons (fun y hy => by cases hy) (List.Pairwise.nil)
 case stb =>
  refine F2.Steps.consO rfl ?_ ?_
  ·
   intro vz wz hBz hDz hTz K hK; have HW := hBz.ext; have bx5z := hBz.blk bx5 (zM hne5_6.out zN); obtain ⟨zl0, zl1, zl2, zl3, -⟩ := bx5z.four; simp only [zy, F2.Wp] at hK ⊢; go_simp; refine hK _ wz zB (Fact.eq_mk ?_); with_reducible rfl
  refine F2.Steps.consO rfl ?_ ?_
  ·
   intro vz wz hBz hDz hTz K hK; have HW := hBz.ext; have hb1z := hBz.blk hb1 (zM (Ne.symm hne6_2.out) zN); obtain ⟨zl0, zl1, -⟩ := hb1z.two; simp only [zy, F2.Wp] at hK ⊢; go_simp; refine hK _ wz zB (Fact.eq_mk ?_); with_reducible rfl
  refine F2.Steps.consO rfl ?_ ?_
  ·
   intro vz wz hBz hDz hTz K hK; have HW := hBz.ext; simp only [zy, F2.Wp] at hK ⊢; go_simp; refine hK _ wz zB (Fact.eq_mk ?_); with_reducible rfl
  refine F2.Steps.consO rfl ?_ ?_
  ·
   intro vz wz hBz hDz hTz K hK; have E9 : vz 9 = _ := hDz 2 (by kernel_rfl) rfl; have HW := hBz.ext; simp only [zy, F2.Wp] at hK ⊢; simp only [E9] at hK ⊢; go_simp
   try simp (disch := omega) only [IntWalk.i64_in]
   refine hK _ wz zB (Fact.eq_mk ?_); with_reducible rfl
  refine F2.Steps.consO rfl ?_ ?_
  ·
   intro vz wz hBz hDz hTz K hK; have E10 : vz 10 = _ := hDz 3 (by kernel_rfl) rfl; have HW := hBz.ext; simp only [zy, F2.Wp] at hK ⊢; simp only [E10] at hK ⊢; go_simp
   try simp (disch := omega) only [IntWalk.i64_in]
   refine hK _ wz zB (Fact.eq_mk ?_); with_reducible rfl
  refine F2.Steps.consO rfl ?_ ?_
  ·
   intro vz wz hBz hDz hTz K hK; have E11 : vz 11 = _ := hDz 4 (by kernel_rfl) rfl; have HW := hBz.ext; simp only [zy, F2.Wp] at hK ⊢; simp only [E11] at hK ⊢; go_simp
   try simp (disch := omega) only [IntWalk.i64_in]
   refine hK _ wz zB (Fact.eq_mk ?_); with_reducible rfl
  refine F2.Steps.consO rfl ?_ ?_
  ·
   intro vz wz hBz hDz hTz K hK; have HW := hBz.ext; simp only [zy, F2.Wp] at hK ⊢; go_simp; refine hK _ wz zB (Fact.eq_mk ?_); with_reducible rfl
  refine F2.Steps.consO rfl ?_ ?_
  ·
   intro vz wz hBz hDz hTz K hK; have E12 : vz 12 = _ := hDz 5 (by kernel_rfl) rfl; have E13 : vz 13 = _ := hDz 6 (by kernel_rfl) rfl; have HW := hBz.ext; simp only [zy, F2.Wp] at hK ⊢; simp only [E12, E13] at hK ⊢; go_simp
   try simp (disch := omega) only [IntWalk.i64_in]
   refine hK _ wz zB (Fact.eq_mk ?_); with_reducible rfl
  refine F2.Steps.consO rfl ?_ ?_
  ·
   intro vz wz hBz hDz hTz K hK; have HW := hBz.ext; have hb2z := hBz.blk hb2 (zM (Ne.symm hne6_3.out) zN); obtain ⟨zl0, -⟩ := hb2z.one; simp only [zy, F2.Wp] at hK ⊢; go_simp; refine hK _ wz zB (Fact.eq_mk ?_); with_reducible rfl
  refine F2.Steps.consO rfl ?_ ?_
  ·
   intro vz wz hBz hDz hTz K hK; have E15 : vz 15 = _ := hDz 8 (by kernel_rfl) rfl; have HW := hBz.ext; simp only [zy, F2.Wp] at hK ⊢; simp only [E15] at hK ⊢; go_simp
   try simp (disch := omega) only [IntWalk.i64_in]
   refine hK _ wz zB (Fact.eq_mk ?_); with_reducible rfl
  refine F2.Steps.consO rfl ?_ ?_
  ·
   intro vz wz hBz hDz hTz K hK; have E7 : vz 7 = _ := hDz 0 (by kernel_rfl) rfl; have E8 : vz 8 = _ := hDz 1 (by kernel_rfl) rfl; have E14 : vz 14 = _ := hDz 7 (by kernel_rfl) rfl; have E16 : vz 16 = _ := hDz 9 (by kernel_rfl) rfl; have HW := hBz.ext; simp only [zy, F2.Wp] at hK ⊢; simp only [E7, E8, E14, E16] at hK ⊢; go_simp; refine Calls.mono (rtimes_calls (h0.ext HW) (h1.ext HW) (ht.ext HW) (by omega) (by omega) (by omega) (by omega) (by omega) (by omega) (by omega)) ?_; rintro e w2z ⟨hb2, uz, rfl, hf⟩
   go_wp2_with fail
   refine hK _ w2z hb2 (Fact.cast (hf) ?_); with_reducible rfl
  refine F2.Steps.consT rfl ?_ ?_
  ·
   intro vz wz hBz hDz hbz K hK; obtain ⟨zc0, zc1, zc2, zc3, zc4, zc5, zc6, zc7⟩ := hbz.four; obtain ⟨n17a_, A17a_, l17a_, c17a_, n17b_, A17b_, l17b_, c17b_, E17, q17a, q17b⟩ : SV_yy _ _ _ _ wz (vz 17) := hDz 10 (by kernel_rfl) rfl; have HW := hBz.ext; simp only [zy, F2.Wp] at hK ⊢; simp only [E17] at hK ⊢; go_simp; refine hK _ ((((Far.set _ _ 0 _).trans (Far.set _ _ 1 _)).trans (Far.set _ _ 2 _)).trans (Far.set _ _ 3 _)) ⟨_, blk_four hbz, NoU.four nB nS nB nS, Fact.cast (Fact.s_yy_mk q17a q17b) ?_⟩; with_reducible rfl
  exact F2.Steps.nil
 intro vb w2 hBz ⟨hOz, hAz, hNz, hSz⟩; have E7 : vb 7 = _ := hOz 0 (by decide) rfl; have E8 : vb 8 = _ := hOz 1 (by decide) rfl; have E9 : vb 9 = _ := hOz 2 (by decide) rfl; have E10 : vb 10 = _ := hOz 3 (by decide) rfl; have E11 : vb 11 = _ := hOz 4 (by decide) rfl; have E12 : vb 12 = _ := hOz 5 (by decide) rfl; have E13 : vb 13 = _ := hOz 6 (by decide) rfl; have E14 : vb 14 = _ := hOz 7 (by decide) rfl; have E15 : vb 15 = _ := hOz 8 (by decide) rfl; have E16 : vb 16 = _ := hOz 9 (by decide) rfl; obtain ⟨n17a_, A17a_, l17a_, c17a_, n17b_, A17b_, l17b_, c17b_, E17, q17a, q17b⟩ : SV_yy _ _ _ _ w2 (vb 17) := hOz 10 (by decide) rfl; obtain ⟨cs6, bx6n, hs6⟩ := hSz 11 _ _ _ (by decide) rfl; obtain ⟨n6sba_, A6sba_, l6sba_, c6sba_, n6sbb_, A6sbb_, l6sbb_, c6sbb_, E6sb, q6sba, q6sbb⟩ : SV_yy _ _ _ _ w2 (.agg cs6) := hs6; injection E6sb with E6sb
 subst E6sb; simp only [Act.put, actv, fill, fC, fN, tA, cS, cZ]; simp only [E7, E8, E9, E10, E11, E12, E13, E14, E15, E16, E17]; clear E7 E8 E9 E10 E11 E12 E13 E14 E15 E16 E17; replace ht := ht.ext hBz.ext; replace h0 := h0.ext hBz.ext; replace h1 := h1.ext hBz.ext; replace hb1 := hBz.blk hb1 (zM (Ne.symm hne6_2.out) zN); replace hb2 := hBz.blk hb2 (zM (Ne.symm hne6_3.out) zN); replace bx5 := hBz.blk bx5 (zM hne5_6.out zN); replace HB := hide (HB.out.trans (hBz.below (B := w.heap.size) HB.out.size (zA hge6 zE))); clear bx6; have bx6 := bx6n; clear bx6n; clear hOz hAz hNz hSz hBz
 go_wp2_with fail
 refine bodyPost_ret (results_pair rfl _ _ _ _ _ _ _ _ rfl bx6) rfl ⟨HB.out, ?_⟩; exact VF.mk (Fact.s_yy_mk q6sba q6sbb)
/-- The next term's parts: exp1. -/
def lo_exp1 (t q : Int) (y : Nat) (x : Int) : Int := x * t / (((y : Int)) * 2 ^ (q).toNat)
def hi_exp1 (t q : Int) (y : Nat) (x : Int) : Int := vUp (x * t) (((y : Int)) * 2 ^ (q).toNat)
/-- The next term's parts: powers1. -/
def lo_powers1 (t q : Int) (y : Nat) (x : Int) : Int := x * t / ((1) * 2 ^ (2 * q).toNat)
def hi_powers1 (t q : Int) (y : Nat) (x : Int) : Int := vUp (x * t) ((1) * 2 ^ (2 * q).toNat)
/-- The next term's parts: sin1. -/
def lo_sin1 (t q : Int) (y : Nat) (x : Int) : Int := x * t / ((2 * (y : Int) * (2 * (y : Int) + 1)) * 2 ^ (2 * q).toNat)
def hi_sin1 (t q : Int) (y : Nat) (x : Int) : Int := vUp (x * t) ((2 * (y : Int) * (2 * (y : Int) + 1)) * 2 ^ (2 * q).toNat)
/-- The next term's parts: cos1. -/
def lo_cos1 (t q : Int) (y : Nat) (x : Int) : Int := x * t / (((2 * (y : Int) - 1) * 2 * (y : Int)) * 2 ^ (2 * q).toNat)
def hi_cos1 (t q : Int) (y : Nat) (x : Int) : Int := vUp (x * t) (((2 * (y : Int) - 1) * 2 * (y : Int)) * 2 ^ (2 * q).toNat)
def oddLo (y : Nat) (x : Int) : Int := x * 1 / ((2 * (y : Int) + 1) * 2 ^ (0 : Int).toNat)
def oddHi (y : Nat) (x : Int) : Int := vUp (x * 1) ((2 * (y : Int) + 1) * 2 ^ (0 : Int).toNat)
def whole (y : Nat) (x : Int) : Int := x
set_option maxHeartbeats 4000000 in
set_option maxRecDepth 100000 in
theorem rising_exp1_calls {w : World} {kt : Nat} {m : Bool} {B : Option Addr} {j d : Nat} {t q : Int} {g p : Nat} {N M : Nat} {k0 k1 : Nat} {n0 n1 : Bool} {A0 A1 : Option Addr} {l0 l1 c0 c1 : Nat} {x0 x1 : Int} (h0 : Q w k0 n0 A0 l0 c0 x0) (h1 : Q w k1 n1 A1 l1 c1 x1) (ht : Q w kt m B j d t) (hb1 : Blk w g 24 #[.bool m, .slice B j d]) (hb2 : Blk w p 3 #[.int .i64 q]) (hkt : kt ≤ 5000) (hk0 : k0 ≤ 4000) (hk1 : k1 ≤ 4000) (hq0 : 0 ≤ q) (hq1 : q ≤ 2000) (hN : N ≤ 1000) (hK : M ≤ 4000) (hk0M : k0 ≤ M) (hk1M : k1 ≤ M) (HA : Hid (∀ i, i ≤ 2 * N → (sq (lo_exp1 t q) x0 i).natAbs < W ^ M)) (HB_ : Hid (∀ i, i ≤ 2 * N → (sq (hi_exp1 t q) x1 i).natAbs < W ^ M)) (HS : Hid (∀ i, i ≤ 2 * N → (su (fun y => whole y (sq (lo_exp1 t q) x0 y)) i).natAbs < W ^ M)) (HT : Hid (∀ i, i ≤ 2 * N → (su (fun y => whole y (sq (hi_exp1 t q) x1 y)) i).natAbs < W ^ M)) :
    Calls Tryz.prog 34 #[.int .i64 (N : Nat), .agg #[.bool n0, .slice A0 l0 c0, .bool n1, .slice A1 l1 c1], .func (.func 42) #[] #[.pointer (some ⟨g, 0, none⟩), .pointer (some ⟨p, 0, none⟩)], .func (.func 25) #[] #[]] w fun e w' => Below w.heap.size w w' ∧ VF (Fact.t3 (Fact.z M (su (fun y => whole y (sq (lo_exp1 t q) x0 y)) N)) (Fact.z (M + 300) ((su (fun y => whole y (sq (hi_exp1 t q) x1 y)) N) + whole N (sq (hi_exp1 t q) x1 N) * 2 ^ (1 : Int).toNat)) (Fact.eq (.int .i64 0))) e w' := by
 have hg := hb1.lt; have hp := hb2.lt
 go_enter Tryz.func34, Tryz.ntmps34
 have HB : Hid (Below w.heap.size w w) := hide (Below.refl _ _)
 go_upto_region 0 with (fail)
 refine F2.regionS [.al 39 #[.bool n0, .slice A0 l0 c0, .bool n1, .slice A1 l1 c1], .al 24 #[.bool false, .slice none 0 0], .al 24 #[.bool false, .slice none 0 0], .o] [Fact.any, Fact.any, Fact.any, Fact.eq ?ca10_] [5, 8, 9, 10] [5, 8, 9, 10] (by kernel_rfl) ?soa ?sopa (by kernel_rfl) ?sta ?fina
 case soa => exact fun x hx => by cases hx
 case sopa => exact List.Pairwise.nil
 case sta =>
  refine F2.Steps.consA rfl ⟨NoU.four nB nS nB nS, ?_⟩ ?_
  ·
   intro vz wz hBz K hK; simp only [zy, F2.Wp] at hK ⊢; go_simp; exact hK
  refine F2.Steps.consA rfl ⟨NoU.two nB nS, ?_⟩ ?_
  ·
   intro vz wz hBz K hK; simp only [zy, F2.Wp] at hK ⊢; go_simp; exact hK
  refine F2.Steps.consA rfl ⟨NoU.two nB nS, ?_⟩ ?_
  ·
   intro vz wz hBz K hK; simp only [zy, F2.Wp] at hK ⊢; go_simp; exact hK
  refine F2.Steps.consO rfl ?_ ?_
  ·
   intro vz wz hBz hDz hTz K hK; have HW := hBz.ext; simp only [zy, F2.Wp] at hK ⊢; go_simp; refine hK _ wz zB (Fact.eq_mk ?_); with_reducible rfl
  exact F2.Steps.nil
 intro va w1 hBz ⟨hOz, hAz, hNz, hSz⟩; obtain ⟨g5, cs5, E5, hg5, bx5, hs5, hz5⟩ := hAz 0 _ _ (by decide) rfl; have hzz := hz5 (F2.nost (by kernel_rfl)); subst hzz; obtain ⟨g8, cs8, E8, hg8, bx8, hs8, hz8⟩ := hAz 1 _ _ (by decide) rfl; have hzz := hz8 (F2.nost (by kernel_rfl)); subst hzz; obtain ⟨g9, cs9, E9, hg9, bx9, hs9, hz9⟩ := hAz 2 _ _ (by decide) rfl; have hzz := hz9 (F2.nost (by kernel_rfl)); subst hzz; have E10 : va 10 = _ := hOz 3 (by decide) rfl; have hne5_8 : Hid (¬ g5 = g8) := hide (fun h => hNz 0 1 _ _ _ _ (by decide) (by decide) (by decide) rfl rfl (by rw [E5, E8, h])); have hne5_9 : Hid (¬ g5 = g9) := hide (fun h => hNz 0 2 _ _ _ _ (by decide) (by decide) (by decide) rfl rfl (by rw [E5, E9, h])); have hne8_9 : Hid (¬ g8 = g9) := hide (fun h => hNz 1 2 _ _ _ _ (by decide) (by decide) (by decide) rfl rfl (by rw [E8, E9, h])); simp only [Act.put, actv, fill, fC, fN, tA, cS, cZ]; simp only [(show va 5 = _ from E5), (show va 8 = _ from E8), (show va 9 = _ from E9), E10]; clear E5 E8 E9 E10; have hge5 : w.heap.size ≤ g5 := Nat.le_trans HB.out.size hg5; have hne5_g := hide (Nat.ne_of_gt (Nat.lt_of_lt_of_le hb1.lt (show w.heap.size ≤ g5 from hg5))); have hne5_p := hide (Nat.ne_of_gt (Nat.lt_of_lt_of_le hb2.lt (show w.heap.size ≤ g5 from hg5))); have hge8 : w.heap.size ≤ g8 := Nat.le_trans HB.out.size hg8; have hne8_g := hide (Nat.ne_of_gt (Nat.lt_of_lt_of_le hb1.lt (show w.heap.size ≤ g8 from hg8))); have hne8_p := hide (Nat.ne_of_gt (Nat.lt_of_lt_of_le hb2.lt (show w.heap.size ≤ g8 from hg8))); have hge9 : w.heap.size ≤ g9 := Nat.le_trans HB.out.size hg9; have hne9_g := hide (Nat.ne_of_gt (Nat.lt_of_lt_of_le hb1.lt (show w.heap.size ≤ g9 from hg9))); have hne9_p := hide (Nat.ne_of_gt (Nat.lt_of_lt_of_le hb2.lt (show w.heap.size ≤ g9 from hg9))); replace ht := ht.ext hBz.ext; replace h0 := h0.ext hBz.ext; replace h1 := h1.ext hBz.ext; replace hb1 := hBz.blk hb1 zN; replace hb2 := hBz.blk hb2 zN; replace HB := hide (HB.out.trans (hBz.below (B := w.heap.size) HB.out.size zE)); clear hOz hAz hNz hSz hs5 hz5 hs8 hz8 hs9 hz9 hBz
 go_upto_region 1 with (fail)
 refine F2.regionS [.al 39 #[.bool false, .slice none 0 0, .bool false, .slice none 0 0]] [Fact.any] [11] [11] (by kernel_rfl) ?sob ?sopb (by kernel_rfl) ?stb ?finb
 case sob => exact fun x hx => by cases hx
 case sopb => exact List.Pairwise.nil
 case stb =>
  refine F2.Steps.consA rfl ⟨NoU.four nB nS nB nS, ?_⟩ ?_
  ·
   intro vz wz hBz K hK; simp only [zy, F2.Wp] at hK ⊢; go_simp; exact hK
  exact F2.Steps.nil
 intro vb w2 hBz ⟨hOz, hAz, hNz, hSz⟩; obtain ⟨g11, cs11, E11, hg11, bx11, hs11, hz11⟩ := hAz 0 _ _ (by decide) rfl; have hzz := hz11 (F2.nost (by kernel_rfl)); subst hzz; simp only [Act.put, actv, fill, fC, fN, tA, cS, cZ]; simp only [(show vb 11 = _ from E11)]; clear E11; have hge11 : w.heap.size ≤ g11 := Nat.le_trans HB.out.size hg11; have hne11_g := hide (Nat.ne_of_gt (Nat.lt_of_lt_of_le hb1.lt (show w1.heap.size ≤ g11 from hg11))); have hne11_p := hide (Nat.ne_of_gt (Nat.lt_of_lt_of_le hb2.lt (show w1.heap.size ≤ g11 from hg11))); have hne11_5 := hide (Nat.ne_of_gt (Nat.lt_of_lt_of_le bx5.lt (show w1.heap.size ≤ g11 from hg11))); have hne11_8 := hide (Nat.ne_of_gt (Nat.lt_of_lt_of_le bx8.lt (show w1.heap.size ≤ g11 from hg11))); have hne11_9 := hide (Nat.ne_of_gt (Nat.lt_of_lt_of_le bx9.lt (show w1.heap.size ≤ g11 from hg11))); replace ht := ht.ext hBz.ext; replace h0 := h0.ext hBz.ext; replace h1 := h1.ext hBz.ext; replace hb1 := hBz.blk hb1 zN; replace hb2 := hBz.blk hb2 zN; replace bx5 := hBz.blk bx5 zN; replace bx8 := hBz.blk bx8 zN; replace bx9 := hBz.blk bx9 zN; replace HB := hide (HB.out.trans (hBz.below (B := w.heap.size) HB.out.size zE)); clear hOz hAz hNz hSz hs11 hz11 hBz
 go_upto_region 2 with (fail)
 refine F2.regionS [.o, .o] [Fact.eq ?cc13_, Fact.eq ?cc14_] [13, 14] [13, 14] (by kernel_rfl) ?soc ?sopc (by kernel_rfl) ?stc ?finc
 case soc => exact fun x hx => by cases hx
 case sopc => exact List.Pairwise.nil
 case stc =>
  refine F2.Steps.consO rfl ?_ ?_
  ·
   intro vz wz hBz hDz hTz K hK; have HW := hBz.ext; simp only [zy, F2.Wp] at hK ⊢; go_simp; refine hK _ wz zB (Fact.eq_mk ?_); with_reducible rfl
  refine F2.Steps.consO rfl ?_ ?_
  ·
   intro vz wz hBz hDz hTz K hK; have HW := hBz.ext; simp only [zy, F2.Wp] at hK ⊢; go_simp; refine hK _ wz zB (Fact.eq_mk ?_); with_reducible rfl
  exact F2.Steps.nil
 intro vc w3 hBz ⟨hOz, hAz, hNz, hSz⟩; have E13 : vc 13 = _ := hOz 0 (by decide) rfl; have E14 : vc 14 = _ := hOz 1 (by decide) rfl; simp only [Act.put, actv, fill, fC, fN, tA, cS, cZ]; simp only [E13, E14]; clear E13 E14; replace ht := ht.ext hBz.ext; replace h0 := h0.ext hBz.ext; replace h1 := h1.ext hBz.ext; replace hb1 := hBz.blk hb1 zN; replace hb2 := hBz.blk hb2 zN; replace bx5 := hBz.blk bx5 zN; replace bx8 := hBz.blk bx8 zN; replace bx9 := hBz.blk bx9 zN; replace bx11 := hBz.blk bx11 zN; replace HB := hide (HB.out.trans (hBz.below (B := w.heap.size) HB.out.size zE)); clear hOz hAz hNz hSz hBz
 go_wp2_with fail
 go_loopw [14] (fun iv wr4 => ∃ i : Nat, i ≤ N ∧ iv = .int .i64 i ∧ Low [g5, g11] w3 wr4 ∧ True ∧ (∃ n5a A5a l5a c5a n5b A5b l5b c5b, Blk wr4 (g5) 39 #[.bool n5a, .slice A5a l5a c5a, .bool n5b, .slice A5b l5b c5b] ∧ Q wr4 (M) n5a A5a l5a c5a ((sq (lo_exp1 t q) x0 i)) ∧ Q wr4 (M) n5b A5b l5b c5b ((sq (hi_exp1 t q) x1 i))) ∧ (∃ n11a A11a l11a c11a n11b A11b l11b c11b, Blk wr4 (g11) 39 #[.bool n11a, .slice A11a l11a c11a, .bool n11b, .slice A11b l11b c11b] ∧ Q wr4 (M) n11a A11a l11a c11a ((su (fun y => whole y (sq (lo_exp1 t q) x0 y)) i)) ∧ Q wr4 (M) n11b A11b l11b c11b ((su (fun y => whole y (sq (hi_exp1 t q) x1 y)) i)))) (fun iv _ => N + 0 - (intOf iv).toNat)
 case atStart => exact ⟨0, by omega, rfl, Low.refl _ _, trivial, ⟨_, _, _, _, _, _, _, _, bx5, (h0.up (by omega)), (h1.up (by omega))⟩, ⟨_, _, _, _, _, _, _, _, bx11, (QB.zero _ 0 _).q, (QB.zero _ 0 _).q⟩⟩
 case round =>
  obtain ⟨i, hi, rfl, HL4, hmore, ⟨n5a, A5a, l5a, c5a, n5b, A5b, l5b, c5b, bx5, q5a, q5b⟩, ⟨n11a, A11a, l11a, c11a, n11b, A11b, l11b, c11b, bx11, q11a, q11b⟩⟩ := hrel; replace ht := ht.ext HL4.ext; replace h0 := h0.ext HL4.ext; replace h1 := h1.ext HL4.ext; replace hb1 := HL4.blk hb1 (zM (Ne.symm hne5_g.out) (zM (Ne.symm hne11_g.out) zN)); replace hb2 := HL4.blk hb2 (zM (Ne.symm hne5_p.out) (zM (Ne.symm hne11_p.out) zN)); replace bx8 := HL4.blk bx8 (zM (Ne.symm hne5_8.out) (zM (Ne.symm hne11_8.out) zN)); replace bx9 := HL4.blk bx9 (zM (Ne.symm hne5_9.out) (zM (Ne.symm hne11_9.out) zN)); replace HB := hide (HB.out.trans (HL4.below (B := w.heap.size) HB.out.size (zA hge5 (zA hge11 zE)))); have hszHL4 := HL4.size
  by_cases hlti : i < N
  ·
   have hlti' : (i : Int) < (N : Nat) := by omega
   go_upto_region 5 with (fail)
   refine F2.region [.o, .o, .o, .o, .o, .o, .so (g11) 39 #[.bool n11a, .slice A11a l11a c11a, .bool n11b, .slice A11b l11b c11b]] [Fact.eq ?ce17_, Fact.eq ?ce18_, Fact.eq ?ce19_, Fact.eq ?ce20_, Fact.s_zz ?ke21_a ?ze21_a ?ke21_b ?ze21_b, Fact.s_yy ?ke22_a ?ze22_a ?ke22_b ?ze22_b, Fact.s_yy ?kes11_a ?zes11_a ?kes11_b ?zes11_b] [17, 18, 19, 20, 21, 22] [17, 18, 19, 20, 21, 22, 0] (by kernel_rfl) ?soe ?sope (by kernel_rfl) ?ste ?fine
   case soe => exact List.forall_mem_cons.2 ⟨⟨bx11, NoU.four nB nS nB nS⟩, fun x hx => by cases hx⟩
   case sope => exact List.Pairwise.cons (fun y hy => by cases hy) (List.Pairwise.nil)
   case ste =>
    refine F2.Steps.consO rfl ?_ ?_
    ·
     intro vz wz hBz hDz hTz K hK; have HW := ext_drew hBz.ext; have bx11z := hTz 6 _ _ _ _ rfl rfl (by kernel_rfl); obtain ⟨zl0, zl1, zl2, zl3, -⟩ := bx11z.four; simp only [zy, F2.Wp] at hK ⊢; go_simp; refine hK _ wz zB (Fact.eq_mk ?_); with_reducible rfl
    refine F2.Steps.consO rfl ?_ ?_
    ·
     intro vz wz hBz hDz hTz K hK; have HW := ext_drew hBz.ext; simp only [zy, F2.Wp] at hK ⊢; go_simp; refine hK _ wz zB (Fact.eq_mk ?_); with_reducible rfl
    refine F2.Steps.consO rfl ?_ ?_
    ·
     intro vz wz hBz hDz hTz K hK; have HW := ext_drew hBz.ext; simp only [zy, F2.Wp] at hK ⊢; go_simp; refine hK _ wz zB (Fact.eq_mk ?_); with_reducible rfl
    refine F2.Steps.consO rfl ?_ ?_
    ·
     intro vz wz hBz hDz hTz K hK; have HW := ext_drew hBz.ext; have bx5z := hBz.blk bx5.drew (zM (Ne.symm hne11_5.out) zN); obtain ⟨zl0, zl1, zl2, zl3, -⟩ := bx5z.four; simp only [zy, F2.Wp] at hK ⊢; go_simp; refine hK _ wz zB (Fact.eq_mk ?_); with_reducible rfl
    refine F2.Steps.consO rfl ?_ ?_
    ·
     intro vz wz hBz hDz hTz K hK; have E18 : vz 18 = _ := hDz 1 (by kernel_rfl) rfl; have E19 : vz 19 = _ := hDz 2 (by kernel_rfl) rfl; have E20 : vz 20 = _ := hDz 3 (by kernel_rfl) rfl; have HW := ext_drew hBz.ext; simp only [zy, F2.Wp] at hK ⊢; simp only [E18, E19, E20] at hK ⊢; go_simp; refine Calls.mono (rwhole_calls (q5a.ext HW) (q5b.ext HW)) ?_; rintro e w2z ⟨hb2, uz, rfl, hf⟩
     go_wp2_with fail
     refine hK _ w2z hb2 (Fact.cast (hf) ?_); with_reducible rfl
    refine F2.Steps.consO rfl ?_ ?_
    ·
     intro vz wz hBz hDz hTz K hK; have E17 : vz 17 = _ := hDz 0 (by kernel_rfl) rfl; obtain ⟨n21a_, A21a_, l21a_, c21a_, n21b_, A21b_, l21b_, c21b_, E21, q21a, q21b⟩ : SV_zz _ _ _ _ wz (vz 21) := hDz 4 (by kernel_rfl) rfl; have HW := ext_drew hBz.ext; simp only [zy, F2.Wp] at hK ⊢; simp only [E17, E21] at hK ⊢; go_simp; refine Calls.mono (rplus_calls (q11a.ext HW) (q11b.ext HW) q21a q21b (by omega) (by omega) (by omega) (by omega)) ?_; rintro e w2z ⟨hb2, uz, rfl, hf⟩
     go_wp2_with fail
     refine hK _ w2z hb2 (Fact.cast (hf) ?_); with_reducible rfl
    refine F2.Steps.consT rfl ?_ ?_
    ·
     intro vz wz hBz hDz hbz K hK; obtain ⟨zc0, zc1, zc2, zc3, zc4, zc5, zc6, zc7⟩ := hbz.four; obtain ⟨n22a_, A22a_, l22a_, c22a_, n22b_, A22b_, l22b_, c22b_, E22, q22a, q22b⟩ : SV_yy _ _ _ _ wz (vz 22) := hDz 5 (by kernel_rfl) rfl; have HW := ext_drew hBz.ext; simp only [zy, F2.Wp] at hK ⊢; simp only [E22] at hK ⊢; go_simp; refine hK _ ((((Far.set _ _ 0 _).trans (Far.set _ _ 1 _)).trans (Far.set _ _ 2 _)).trans (Far.set _ _ 3 _)) ⟨_, blk_four hbz, NoU.four nB nS nB nS, Fact.cast (Fact.s_yy_mk q22a q22b) ?_⟩; with_reducible rfl
    exact F2.Steps.nil
   intro ve w5 hBz ⟨hOz, hAz, hNz, hSz⟩; have E17 : ve 17 = _ := hOz 0 (by decide) rfl; have E18 : ve 18 = _ := hOz 1 (by decide) rfl; have E19 : ve 19 = _ := hOz 2 (by decide) rfl; have E20 : ve 20 = _ := hOz 3 (by decide) rfl; obtain ⟨n21a_, A21a_, l21a_, c21a_, n21b_, A21b_, l21b_, c21b_, E21, q21a, q21b⟩ : SV_zz _ _ _ _ w5 (ve 21) := hOz 4 (by decide) rfl; obtain ⟨n22a_, A22a_, l22a_, c22a_, n22b_, A22b_, l22b_, c22b_, E22, q22a, q22b⟩ : SV_yy _ _ _ _ w5 (ve 22) := hOz 5 (by decide) rfl; obtain ⟨cs11, bx11n, hs11⟩ := hSz 6 _ _ _ (by decide) rfl; obtain ⟨n11sea_, A11sea_, l11sea_, c11sea_, n11seb_, A11seb_, l11seb_, c11seb_, E11se, q11sea, q11seb⟩ : SV_yy _ _ _ _ w5 (.agg cs11) := hs11; injection E11se with E11se
   subst E11se; simp only [Act.put, actv, fill, fC, fN, tA, cS, cZ]; simp only [E17, E18, E19, E20, E21, E22]; clear E17 E18 E19 E20 E21 E22; replace ht := ht.ext hBz.ext; replace q5a := q5a.ext hBz.ext; replace q5b := q5b.ext hBz.ext; replace q11a := q11a.ext hBz.ext; replace q11b := q11b.ext hBz.ext; replace h0 := h0.ext hBz.ext; replace h1 := h1.ext hBz.ext; replace hb1 := hBz.blk hb1 (zM (Ne.symm hne11_g.out) zN); replace hb2 := hBz.blk hb2 (zM (Ne.symm hne11_p.out) zN); replace bx5 := hBz.blk bx5 (zM (Ne.symm hne11_5.out) zN); replace bx8 := hBz.blk bx8 (zM (Ne.symm hne11_8.out) zN); replace bx9 := hBz.blk bx9 (zM (Ne.symm hne11_9.out) zN); replace HL4 := HL4.step hBz (zA (Or.inl (by simp)) zE); replace HB := hide (HB.out.trans (hBz.below (B := w.heap.size) HB.out.size (zA hge11 zE))); clear bx11; have bx11 := bx11n; clear bx11n; clear hOz hAz hNz hSz hBz
   go_upto_region 6 with (fail)
   refine F2.regionS [.o, .o, .o, .o, .o, .so (g5) 39 #[.bool n5a, .slice A5a l5a c5a, .bool n5b, .slice A5b l5b c5b]] [Fact.eq ?cf23_, Fact.eq ?cf24_, Fact.eq ?cf25_, Fact.eq ?cf26_, Fact.s_yy ?kf27_a ?zf27_a ?kf27_b ?zf27_b, Fact.s_yy ?kfs5_a ?zfs5_a ?kfs5_b ?zfs5_b] [23, 24, 25, 26, 27] [23, 24, 25, 26, 27, 0] (by kernel_rfl) ?sof ?sopf (by kernel_rfl) ?stf ?finf
   case sof => exact List.forall_mem_cons.2 ⟨⟨bx5, NoU.four nB nS nB nS⟩, fun x hx => by cases hx⟩
   case sopf => exact List.Pairwise.cons (fun y hy => by cases hy) (List.Pairwise.nil)
   case stf =>
    refine F2.Steps.consO rfl ?_ ?_
    ·
     intro vz wz hBz hDz hTz K hK; have HW := hBz.ext; simp only [zy, F2.Wp] at hK ⊢; go_simp; refine hK _ wz zB (Fact.eq_mk ?_); with_reducible rfl
    refine F2.Steps.consO rfl ?_ ?_
    ·
     intro vz wz hBz hDz hTz K hK; have HW := hBz.ext; simp only [zy, F2.Wp] at hK ⊢; go_simp; refine hK _ wz zB (Fact.eq_mk ?_); with_reducible rfl
    refine F2.Steps.consO rfl ?_ ?_
    ·
     intro vz wz hBz hDz hTz K hK; have E24 : vz 24 = _ := hDz 1 (by kernel_rfl) rfl; have HW := hBz.ext; simp only [zy, F2.Wp] at hK ⊢; simp only [E24] at hK ⊢; go_simp
     try simp (disch := omega) only [IntWalk.i64_in]
     refine hK _ wz zB (Fact.eq_mk ?_); with_reducible rfl
    refine F2.Steps.consO rfl ?_ ?_
    ·
     intro vz wz hBz hDz hTz K hK; have HW := hBz.ext; have bx5z := hTz 5 _ _ _ _ rfl rfl (by kernel_rfl); obtain ⟨zl0, zl1, zl2, zl3, -⟩ := bx5z.four; simp only [zy, F2.Wp] at hK ⊢; go_simp; refine hK _ wz zB (Fact.eq_mk ?_); with_reducible rfl
    refine F2.Steps.consO rfl ?_ ?_
    ·
     intro vz wz hBz hDz hTz K hK; have E23 : vz 23 = _ := hDz 0 (by kernel_rfl) rfl; have E25 : vz 25 = _ := hDz 2 (by kernel_rfl) rfl; have E26 : vz 26 = _ := hDz 3 (by kernel_rfl) rfl; have HW := hBz.ext; simp only [zy, F2.Wp] at hK ⊢; simp only [E23, E25, E26] at hK ⊢; go_simp; refine Calls.mono (exp1_calls (q5a.ext HW) (q5b.ext HW)  (ht.ext HW) (hBz.blk hb1 (zM (Ne.symm hne5_g.out) zN)) (hBz.blk hb2 (zM (Ne.symm hne5_p.out) zN)) (by omega) (by omega) (by omega) (by omega) (by omega) (by omega) (by omega)) ?_; rintro e w2z ⟨hb2, uz, rfl, hf⟩
     go_wp2_with fail
     refine hK _ w2z hb2 (Fact.cast (hf) ?_); with_reducible rfl
    refine F2.Steps.consT rfl ?_ ?_
    ·
     intro vz wz hBz hDz hbz K hK; obtain ⟨zc0, zc1, zc2, zc3, zc4, zc5, zc6, zc7⟩ := hbz.four; obtain ⟨n27a_, A27a_, l27a_, c27a_, n27b_, A27b_, l27b_, c27b_, E27, q27a, q27b⟩ : SV_yy _ _ _ _ wz (vz 27) := hDz 4 (by kernel_rfl) rfl; have HW := hBz.ext; simp only [zy, F2.Wp] at hK ⊢; simp only [E27] at hK ⊢; go_simp; refine hK _ ((((Far.set _ _ 0 _).trans (Far.set _ _ 1 _)).trans (Far.set _ _ 2 _)).trans (Far.set _ _ 3 _)) ⟨_, blk_four hbz, NoU.four nB nS nB nS, Fact.cast (Fact.s_yy_mk q27a q27b) ?_⟩; with_reducible rfl
    exact F2.Steps.nil
   intro vf w6 hBz ⟨hOz, hAz, hNz, hSz⟩; have E23 : vf 23 = _ := hOz 0 (by decide) rfl; have E24 : vf 24 = _ := hOz 1 (by decide) rfl; have E25 : vf 25 = _ := hOz 2 (by decide) rfl; have E26 : vf 26 = _ := hOz 3 (by decide) rfl; obtain ⟨n27a_, A27a_, l27a_, c27a_, n27b_, A27b_, l27b_, c27b_, E27, q27a, q27b⟩ : SV_yy _ _ _ _ w6 (vf 27) := hOz 4 (by decide) rfl; obtain ⟨cs5, bx5n, hs5⟩ := hSz 5 _ _ _ (by decide) rfl; obtain ⟨n5sfa_, A5sfa_, l5sfa_, c5sfa_, n5sfb_, A5sfb_, l5sfb_, c5sfb_, E5sf, q5sfa, q5sfb⟩ : SV_yy _ _ _ _ w6 (.agg cs5) := hs5; injection E5sf with E5sf
   subst E5sf; simp only [Act.put, actv, fill, fC, fN, tA, cS, cZ]; simp only [E23, E24, E25, E26, E27]; clear E23 E24 E25 E26 E27; replace ht := ht.ext hBz.ext; replace q5a := q5a.ext hBz.ext; replace q5b := q5b.ext hBz.ext; replace q11sea := q11sea.ext hBz.ext; replace q11seb := q11seb.ext hBz.ext; replace h0 := h0.ext hBz.ext; replace h1 := h1.ext hBz.ext; replace hb1 := hBz.blk hb1 (zM (Ne.symm hne5_g.out) zN); replace hb2 := hBz.blk hb2 (zM (Ne.symm hne5_p.out) zN); replace bx8 := hBz.blk bx8 (zM (Ne.symm hne5_8.out) zN); replace bx9 := hBz.blk bx9 (zM (Ne.symm hne5_9.out) zN); replace bx11 := hBz.blk bx11 (zM hne11_5.out zN); replace HL4 := HL4.step hBz (zA (Or.inl (by simp)) zE); replace HB := hide (HB.out.trans (hBz.below (B := w.heap.size) HB.out.size (zA hge5 zE))); clear bx5; have bx5 := bx5n; clear bx5n; clear hOz hAz hNz hSz hBz
   go_wp2_with fail
   go_roundw
   case rel => exact ⟨i + 1, by omega, by go_num, HL4, trivial, ⟨_, _, _, _, _, _, _, _, bx5, (q5sfa.fit (HA.out (i + 1) (by omega))).q, (q5sfb.fit (HB_.out (i + 1) (by omega))).q⟩, ⟨_, _, _, _, _, _, _, _, bx11, (q11sea.fit (HS.out (i + 1) (by omega))).q, (q11seb.fit (HT.out (i + 1) (by omega))).q⟩⟩
   case measure => simp [intOf]; omega
  ·
   skip
   obtain rfl : i = N := by omega
   clear hlti
   go_upto_region 8 with (fail)
   refine F2.region [.o, .o, .o, .o, .o, .o, .o, .o, .o, .o, .o, .o, .so (g8) 24 #[.bool false, .slice none 0 0], .so (g9) 24 #[.bool false, .slice none 0 0], .o] [Fact.eq ?cg29_, Fact.eq ?cg30_, Fact.z ?kg31_ ?zg31_, Fact.eq ?cg32_, Fact.eq ?cg33_, Fact.eq ?cg34_, Fact.eq ?cg35_, Fact.eq ?cg36_, Fact.s_zz ?kg37_a ?zg37_a ?kg37_b ?zg37_b, Fact.s_z ?kg38_a ?zg38_a, Fact.z ?kg39_ ?zg39_, Fact.z ?kg40_ ?zg40_, Fact.z ?kgs8_ ?zgs8_, Fact.z ?kgs9_ ?zgs9_, Fact.eq ?cg10_] [29, 30, 31, 32, 33, 34, 35, 36, 37, 38, 39, 40, 10] [29, 30, 31, 32, 33, 34, 35, 36, 37, 38, 39, 40, 0, 0, 10] (by kernel_rfl) ?sog ?sopg (by kernel_rfl) ?stg ?fing
   case sog => exact List.forall_mem_cons.2 ⟨⟨bx8, NoU.two nB nS⟩, List.forall_mem_cons.2 ⟨⟨bx9, NoU.two nB nS⟩, fun x hx => by cases hx⟩⟩
   case sopg => exact List.Pairwise.cons (by intro y hy; simp [F2.sos] at hy; have hne8_9 := hne8_9.out; first | (subst hy; simp; done) | (subst hy; simp; omega) | (rcases hy with rfl | rfl <;> simp <;> omega)) (List.Pairwise.cons (fun y hy => by cases hy) (List.Pairwise.nil))
   case stg =>
    refine F2.Steps.consO rfl ?_ ?_
    ·
     intro vz wz hBz hDz hTz K hK; have HW := ext_drew hBz.ext; simp only [zy, F2.Wp] at hK ⊢; go_simp; refine hK _ wz zB (Fact.eq_mk ?_); with_reducible rfl
    refine F2.Steps.consO rfl ?_ ?_
    ·
     intro vz wz hBz hDz hTz K hK; have E29 : vz 29 = _ := hDz 0 (by kernel_rfl) rfl; have HW := ext_drew hBz.ext; have bx11z := hBz.blk bx11.drew (zM hne11_8.out (zM hne11_9.out zN)); obtain ⟨zl0, zl1, zl2, zl3, -⟩ := bx11z.four; simp only [zy, F2.Wp] at hK ⊢; simp only [E29] at hK ⊢; go_simp; refine hK _ wz zB (Fact.eq_mk ?_); with_reducible rfl
    refine F2.Steps.consO rfl ?_ ?_
    ·
     intro vz wz hBz hDz hTz K hK; have E30 : vz 30 = _ := hDz 1 (by kernel_rfl) rfl; have HW := ext_drew hBz.ext; simp only [zy, F2.Wp] at hK ⊢; simp only [E30] at hK ⊢; go_simp; refine Calls.mono (v_norm (q11a.ext HW) (by omega)) ?_; rintro e w2z ⟨hb2, uz, rfl, hf⟩
     go_wp2_with fail
     refine hK _ w2z hb2 (Fact.cast (hf) ?_); with_reducible rfl
    refine F2.Steps.consO rfl ?_ ?_
    ·
     intro vz wz hBz hDz hTz K hK; have HW := ext_drew hBz.ext; simp only [zy, F2.Wp] at hK ⊢; go_simp; refine hK _ wz zB (Fact.eq_mk ?_); with_reducible rfl
    refine F2.Steps.consO rfl ?_ ?_
    ·
     intro vz wz hBz hDz hTz K hK; have E32 : vz 32 = _ := hDz 3 (by kernel_rfl) rfl; have HW := ext_drew hBz.ext; have bx11z := hBz.blk bx11.drew (zM hne11_8.out (zM hne11_9.out zN)); obtain ⟨zl0, zl1, zl2, zl3, -⟩ := bx11z.four; simp only [zy, F2.Wp] at hK ⊢; simp only [E32] at hK ⊢; go_simp; refine hK _ wz zB (Fact.eq_mk ?_); with_reducible rfl
    refine F2.Steps.consO rfl ?_ ?_
    ·
     intro vz wz hBz hDz hTz K hK; have HW := ext_drew hBz.ext; simp only [zy, F2.Wp] at hK ⊢; go_simp; refine hK _ wz zB (Fact.eq_mk ?_); with_reducible rfl
    refine F2.Steps.consO rfl ?_ ?_
    ·
     intro vz wz hBz hDz hTz K hK; have HW := ext_drew hBz.ext; simp only [zy, F2.Wp] at hK ⊢; go_simp; refine hK _ wz zB (Fact.eq_mk ?_); with_reducible rfl
    refine F2.Steps.consO rfl ?_ ?_
    ·
     intro vz wz hBz hDz hTz K hK; have HW := ext_drew hBz.ext; have bx5z := hBz.blk bx5.drew (zM hne5_8.out (zM hne5_9.out zN)); obtain ⟨zl0, zl1, zl2, zl3, -⟩ := bx5z.four; simp only [zy, F2.Wp] at hK ⊢; go_simp; refine hK _ wz zB (Fact.eq_mk ?_); with_reducible rfl
    refine F2.Steps.consO rfl ?_ ?_
    ·
     intro vz wz hBz hDz hTz K hK; have E34 : vz 34 = _ := hDz 5 (by kernel_rfl) rfl; have E35 : vz 35 = _ := hDz 6 (by kernel_rfl) rfl; have E36 : vz 36 = _ := hDz 7 (by kernel_rfl) rfl; have HW := ext_drew hBz.ext; simp only [zy, F2.Wp] at hK ⊢; simp only [E34, E35, E36] at hK ⊢; go_simp; refine Calls.mono (rwhole_calls (q5a.ext HW) (q5b.ext HW)) ?_; rintro e w2z ⟨hb2, uz, rfl, hf⟩
     go_wp2_with fail
     refine hK _ w2z hb2 (Fact.cast (hf) ?_); with_reducible rfl
    refine F2.Steps.consO rfl ?_ ?_
    ·
     intro vz wz hBz hDz hTz K hK; obtain ⟨n37a_, A37a_, l37a_, c37a_, n37b_, A37b_, l37b_, c37b_, E37, q37a, q37b⟩ : SV_zz _ _ _ _ wz (vz 37) := hDz 8 (by kernel_rfl) rfl; have HW := ext_drew hBz.ext; simp only [zy, F2.Wp] at hK ⊢; simp only [E37] at hK ⊢; go_simp; refine hK _ wz zB (Fact.cast (Fact.s_z_mk q37b) ?_); with_reducible rfl
    refine F2.Steps.consO rfl ?_ ?_
    ·
     intro vz wz hBz hDz hTz K hK; obtain ⟨n38a_, A38a_, l38a_, c38a_, E38, q38a⟩ : SV_z _ _ wz (vz 38) := hDz 9 (by kernel_rfl) rfl; have HW := ext_drew hBz.ext; simp only [zy, F2.Wp] at hK ⊢; simp only [E38] at hK ⊢; go_simp; refine Calls.mono (v_shl q38a (by omega) (by omega) (by omega)) ?_; rintro e w2z ⟨hb2, uz, rfl, hf⟩
     go_wp2_with fail
     refine hK _ w2z hb2 (Fact.cast (hf) ?_); with_reducible rfl
    refine F2.Steps.consO rfl ?_ ?_
    ·
     intro vz wz hBz hDz hTz K hK; have E33 : vz 33 = _ := hDz 4 (by kernel_rfl) rfl; obtain ⟨n39_, A39_, l39_, c39_, E39, q39⟩ : IntV 0 _ _ wz (vz 39) := hDz 10 (by kernel_rfl) rfl; have HW := ext_drew hBz.ext; simp only [zy, F2.Wp] at hK ⊢; simp only [E33, E39] at hK ⊢; go_simp; refine Calls.mono (v_add (q11b.ext HW) q39.q (by omega) (by omega)) ?_; rintro e w2z ⟨hb2, uz, rfl, hf⟩
     go_wp2_with fail
     refine hK _ w2z hb2 (Fact.cast (hf) ?_); with_reducible rfl
    refine F2.Steps.consT rfl ?_ ?_
    ·
     intro vz wz hBz hDz hbz K hK; obtain ⟨zc0, zc1, zc2, zc3⟩ := hbz.two; obtain ⟨n31_, A31_, l31_, c31_, E31, q31⟩ : IntV 0 _ _ wz (vz 31) := hDz 2 (by kernel_rfl) rfl; have HW := ext_drew hBz.ext; simp only [zy, F2.Wp] at hK ⊢; simp only [E31] at hK ⊢; go_simp; refine hK _ ((Far.set _ _ 0 _).trans (Far.set _ _ 1 _)) ⟨_, blk_two hbz, NoU.two nB nS, Fact.cast (Fact.z_mk q31) ?_⟩; with_reducible rfl
    refine F2.Steps.consT rfl ?_ ?_
    ·
     intro vz wz hBz hDz hbz K hK; obtain ⟨zc0, zc1, zc2, zc3⟩ := hbz.two; obtain ⟨n40_, A40_, l40_, c40_, E40, q40⟩ : IntV 0 _ _ wz (vz 40) := hDz 11 (by kernel_rfl) rfl; have HW := ext_drew hBz.ext; simp only [zy, F2.Wp] at hK ⊢; simp only [E40] at hK ⊢; go_simp; refine hK _ ((Far.set _ _ 0 _).trans (Far.set _ _ 1 _)) ⟨_, blk_two hbz, NoU.two nB nS, Fact.cast (Fact.z_mk q40) ?_⟩; with_reducible rfl
    refine F2.Steps.consO rfl ?_ ?_
    ·
     intro vz wz hBz hDz hTz K hK; have HW := ext_drew hBz.ext; simp only [zy, F2.Wp] at hK ⊢; go_simp; refine hK _ wz zB (Fact.eq_mk ?_); with_reducible rfl
    exact F2.Steps.nil
   intro vg w7 hBz ⟨hOz, hAz, hNz, hSz⟩; have E29 : vg 29 = _ := hOz 0 (by decide) rfl; have E30 : vg 30 = _ := hOz 1 (by decide) rfl; obtain ⟨n31_, A31_, l31_, c31_, E31, q31⟩ : IntV 0 _ _ w7 (vg 31) := hOz 2 (by decide) rfl; have E32 : vg 32 = _ := hOz 3 (by decide) rfl; have E33 : vg 33 = _ := hOz 4 (by decide) rfl; have E34 : vg 34 = _ := hOz 5 (by decide) rfl; have E35 : vg 35 = _ := hOz 6 (by decide) rfl; have E36 : vg 36 = _ := hOz 7 (by decide) rfl; obtain ⟨n37a_, A37a_, l37a_, c37a_, n37b_, A37b_, l37b_, c37b_, E37, q37a, q37b⟩ : SV_zz _ _ _ _ w7 (vg 37) := hOz 8 (by decide) rfl; obtain ⟨n38a_, A38a_, l38a_, c38a_, E38, q38a⟩ : SV_z _ _ w7 (vg 38) := hOz 9 (by decide) rfl; obtain ⟨n39_, A39_, l39_, c39_, E39, q39⟩ : IntV 0 _ _ w7 (vg 39) := hOz 10 (by decide) rfl; obtain ⟨n40_, A40_, l40_, c40_, E40, q40⟩ : IntV 0 _ _ w7 (vg 40) := hOz 11 (by decide) rfl; obtain ⟨cs8, bx8n, hs8⟩ := hSz 12 _ _ _ (by decide) rfl; obtain ⟨n8sg_, A8sg_, l8sg_, c8sg_, E8sg, q8sg⟩ : IntV 0 _ _ w7 (.agg cs8) := hs8; injection E8sg with E8sg
   subst E8sg; obtain ⟨cs9, bx9n, hs9⟩ := hSz 13 _ _ _ (by decide) rfl; obtain ⟨n9sg_, A9sg_, l9sg_, c9sg_, E9sg, q9sg⟩ : IntV 0 _ _ w7 (.agg cs9) := hs9; injection E9sg with E9sg
   subst E9sg; have E10 : vg 10 = _ := hOz 14 (by decide) rfl; simp only [Act.put, actv, fill, fC, fN, tA, cS, cZ]; simp only [E29, E30, E31, E32, E33, E34, E35, E36, E37, E38, E39, E40, E10]; clear E29 E30 E31 E32 E33 E34 E35 E36 E37 E38 E39 E40 E10; replace ht := ht.ext hBz.ext; replace q5a := q5a.ext hBz.ext; replace q5b := q5b.ext hBz.ext; replace q11a := q11a.ext hBz.ext; replace q11b := q11b.ext hBz.ext; replace h0 := h0.ext hBz.ext; replace h1 := h1.ext hBz.ext; replace hb1 := hBz.blk hb1 (zM (Ne.symm hne8_g.out) (zM (Ne.symm hne9_g.out) zN)); replace hb2 := hBz.blk hb2 (zM (Ne.symm hne8_p.out) (zM (Ne.symm hne9_p.out) zN)); replace bx5 := hBz.blk bx5 (zM hne5_8.out (zM hne5_9.out zN)); replace bx11 := hBz.blk bx11 (zM hne11_8.out (zM hne11_9.out zN)); replace HB := hide (HB.out.trans (hBz.below (B := w.heap.size) HB.out.size (zA hge8 (zA hge9 zE)))); clear bx8; clear bx9; have bx8 := bx8n; clear bx8n; have bx9 := bx9n; clear bx9n; clear hOz hAz hNz hSz hBz
   go_wp2_with fail
   refine bodyPost_ret (results_int_int_tmp rfl _ _ _ _ _ _ _ _ _ _ rfl bx8 rfl bx9) rfl ⟨HB.out, ?_⟩; exact VF.mk (Fact.t3_mk (Fact.z_mk (q8sg.up (by omega))) (Fact.z_mk (q9sg.up (by omega))) (Fact.eq_self _ _))
end Go.Proofs.YtnephejalollfaaGreat
