/- hairlinelaw06: part, sum. -/
import Derived.Test.YtnephejalollfaaRl
import Derived.Test.YtnephejalollfaaLaws
set_option linter.unusedVariables false
set_option linter.unusedSimpArgs false
namespace Go.Proofs.Ytnephejalollfaa
open Go.RowKit
open L (val dig nth)
def partZ (n : Bool) (L : List Nat) (q : Int) : Int := ival n (val W (L.take 8)) % (1 * 2 ^ (q - 1).toNat)
set_option maxHeartbeats 4000000 in
set_option maxRecDepth 100000 in
theorem part_calls {w : World} {L0 : List Nat} {k0 : Nat} {n0 : Bool} {A0 : Option Addr} {l0 c0 : Nat} {x0 : Int} {q : Int} (h0 : Q w k0 n0 A0 l0 c0 x0) (hL0 : Nums w 0 (.slice A0 l0 c0) L0) (hq0 : 1 ≤ q) (hq1 : q ≤ 300) :
    Calls Try.prog 14 #[.agg #[.bool n0, .slice A0 l0 c0], .int .i64 q] w fun e w' => Below w.heap.size w w' ∧ VF (Fact.z 10 (partZ n0 L0 q)) e w' := by
 have HL0 := hide hL0
 clear hL0
 have hy : Hid ((1 : Int) * 2 ^ (q - 1).toNat ≠ 0) := hide (Int.ne_of_gt (Int.mul_pos (by omega) (Int.pow_pos (by omega))))
 go_enter Try.func14, Try.ntmps14
 have HB : Hid (Below w.heap.size w w) := hide (Below.refl _ _)
 go_upto_region 0 with (fail)
 refine F2.regionS [.al 24 #[.bool n0, .slice A0 l0 c0], .al 24 #[.bool false, .slice none 0 0]] [Fact.any, Fact.any] [2, 4] [2, 4] (by kernel_rfl) ?soa ?sopa (by kernel_rfl) ?sta ?fina
 case soa => exact fun x hx => by cases hx
 case sopa => exact List.Pairwise.nil
 case sta =>
  refine F2.Steps.consA rfl ⟨NoU.two nB nS, ?_⟩ ?_
  ·
   intro vz wz hBz K hK
   replace hK := hK.out
   apply Kept.mk
   simp only [F2.Wp, F2.fc, actv, fill, Act.put, sZ, sS, fC, fN, tA, cS, cZ] at hK ⊢
   go_simp
   exact hK
  refine F2.Steps.consA rfl ⟨NoU.two nB nS, ?_⟩ ?_
  ·
   intro vz wz hBz K hK
   replace hK := hK.out
   apply Kept.mk
   simp only [F2.Wp, F2.fc, actv, fill, Act.put, sZ, sS, fC, fN, tA, cS, cZ] at hK ⊢
   go_simp
   exact hK
  exact F2.Steps.nil
 intro va w1 hBz ⟨hOz, hAz, hNz, hSz⟩
 obtain ⟨g2, cs2, E2, hg2, bx2, hs2, hz2⟩ := hAz 0 _ _ (by decide) rfl
 have hzz := hz2 (F2.nost (by kernel_rfl))
 subst hzz
 obtain ⟨g4, cs4, E4, hg4, bx4, hs4, hz4⟩ := hAz 1 _ _ (by decide) rfl
 have hzz := hz4 (F2.nost (by kernel_rfl))
 subst hzz
 have hne2_4 : Hid (¬ g2 = g4) := hide (fun h => hNz 0 1 _ _ _ _ (by decide) (by decide) (by decide) rfl rfl (by rw [E2, E4, h]))
 simp only [Act.put, actv, fill, fC, fN, tA, cS, cZ]
 simp only [(show va 2 = _ from E2), (show va 4 = _ from E4)]
 clear E2 E4
 have hge2 : w.heap.size ≤ g2 := Nat.le_trans HB.out.size hg2
 have hge4 : w.heap.size ≤ g4 := Nat.le_trans HB.out.size hg4
 replace h0 := h0.ext hBz.ext
 replace HL0 := hide (HL0.out.ext (hBz).ext)
 replace HB := hide (HB.out.trans (hBz.below (B := w.heap.size) HB.out.size zE))
 clear hOz hAz hNz hSz hs2 hz2 hs4 hz4 hBz
 go_upto_region 1 with (fail)
 refine F2.regionS [.o, .o, .o, .o, .o, .o, .o, .o, .o, .o, .o, .al 24 #[.bool false, .slice none 0 0], .al 24 #[.bool false, .slice none 0 0], .st 11, .st 12, .o] [Fact.eq ?cb9_, Fact.s_z ?kb10_a ?zb10_a, Fact.z ?kb11_ ?zb11_, Fact.eq ?cb12_, Fact.eq ?cb13_, Fact.z ?kb14_ ?zb14_, Fact.t3 (Fact.z ?kb15_p ?zb15_p) (Fact.z ?kb15_q ?zb15_q) (Fact.eq ?cb15_r), Fact.t3 (Fact.z ?kb8_p ?zb8_p) (Fact.z ?kb8_q ?zb8_q) (Fact.eq ?cb8_r), Fact.z ?kb16_ ?zb16_, Fact.z ?kb17_ ?zb17_, Fact.eq ?cb18_, Fact.any, Fact.any, Fact.z ?kbs5_ ?zbs5_, Fact.z ?kbs6_ ?zbs6_, Fact.eq ?cb7_] [9, 10, 11, 12, 13, 14, 15, 8, 16, 17, 18, 5, 6, 7] [9, 10, 11, 12, 13, 14, 15, 8, 16, 17, 18, 5, 6, 0, 0, 7] (by kernel_rfl) ?sob ?sopb (by kernel_rfl) ?stb ?finb
 case sob => exact fun x hx => by cases hx
 case sopb => exact List.Pairwise.nil
 case stb =>
  refine F2.Steps.consO rfl ?_ ?_
  ·
   intro vz wz hBz hDz hTz K hK
   have HW := hBz.ext
   have bx2z := hBz.blk bx2 zN
   obtain ⟨zl0, zl1, -⟩ := bx2z.two
   replace hK := hK.out
   apply Kept.mk
   simp only [F2.Wp, F2.fc, actv, fill, Act.put, sZ, sS, fC, fN, tA, cS, cZ] at hK ⊢
   go_simp
   refine hK _ wz (Below.refl _ _) (Fact.eq_mk ?_)
   with_reducible rfl
  refine F2.Steps.consO rfl ?_ ?_
  ·
   intro vz wz hBz hDz hTz K hK
   have E9 : vz 9 = _ := hDz 0 (by kernel_rfl) rfl
   have HW := hBz.ext
   replace hK := hK.out
   apply Kept.mk
   simp only [F2.Wp, F2.fc, actv, fill, Act.put, sZ, sS, fC, fN, tA, cS, cZ] at hK ⊢
   simp only [E9] at hK ⊢
   go_simp
   refine Calls.mono (cut6_calls   8 (HL0.out.ext HW) (by omega)) ?_
   rintro e w2z ⟨hb2, uz, rfl, hf⟩
   go_wp2_with fail
   refine hK _ w2z hb2 (Fact.cast (hf) ?_)
   with_reducible rfl
  refine F2.Steps.consO rfl ?_ ?_
  ·
   intro vz wz hBz hDz hTz K hK
   have HW := hBz.ext
   replace hK := hK.out
   apply Kept.mk
   simp only [F2.Wp, F2.fc, actv, fill, Act.put, sZ, sS, fC, fN, tA, cS, cZ] at hK ⊢
   go_simp
   refine Calls.mono (v_of  (by omega) (by omega)) ?_
   rintro e w2z ⟨hb2, uz, rfl, hf⟩
   go_wp2_with fail
   refine hK _ w2z hb2 (Fact.cast (hf) ?_)
   with_reducible rfl
  refine F2.Steps.consO rfl ?_ ?_
  ·
   intro vz wz hBz hDz hTz K hK
   have HW := hBz.ext
   replace hK := hK.out
   apply Kept.mk
   simp only [F2.Wp, F2.fc, actv, fill, Act.put, sZ, sS, fC, fN, tA, cS, cZ] at hK ⊢
   go_simp
   refine hK _ wz (Below.refl _ _) (Fact.eq_mk ?_)
   with_reducible rfl
  refine F2.Steps.consO rfl ?_ ?_
  ·
   intro vz wz hBz hDz hTz K hK
   have E12 : vz 12 = _ := hDz 3 (by kernel_rfl) rfl
   have HW := hBz.ext
   replace hK := hK.out
   apply Kept.mk
   simp only [F2.Wp, F2.fc, actv, fill, Act.put, sZ, sS, fC, fN, tA, cS, cZ] at hK ⊢
   simp only [E12] at hK ⊢
   go_simp
   try simp (disch := omega) only [IntWalk.i64_in]
   refine hK _ wz (Below.refl _ _) (Fact.eq_mk ?_)
   with_reducible rfl
  refine F2.Steps.consO rfl ?_ ?_
  ·
   intro vz wz hBz hDz hTz K hK
   obtain ⟨n11_, A11_, l11_, c11_, E11, q11⟩ : IntV 0 _ _ wz (vz 11) := hDz 2 (by kernel_rfl) rfl
   have E13 : vz 13 = _ := hDz 4 (by kernel_rfl) rfl
   have HW := hBz.ext
   replace hK := hK.out
   apply Kept.mk
   simp only [F2.Wp, F2.fc, actv, fill, Act.put, sZ, sS, fC, fN, tA, cS, cZ] at hK ⊢
   simp only [E11, E13] at hK ⊢
   go_simp
   refine Calls.mono (v_shl q11.q (by omega) (by omega) (by omega)) ?_
   rintro e w2z ⟨hb2, uz, rfl, hf⟩
   go_wp2_with fail
   refine hK _ w2z hb2 (Fact.cast (hf) ?_)
   with_reducible rfl
  refine F2.Steps.consO rfl ?_ ?_
  ·
   intro vz wz hBz hDz hTz K hK
   obtain ⟨n10a_, A10a_, l10a_, c10a_, E10, q10a⟩ : SV_z _ _ wz (vz 10) := hDz 1 (by kernel_rfl) rfl
   obtain ⟨n14_, A14_, l14_, c14_, E14, q14⟩ : IntV 0 _ _ wz (vz 14) := hDz 5 (by kernel_rfl) rfl
   have HW := hBz.ext
   replace hK := hK.out
   apply Kept.mk
   simp only [F2.Wp, F2.fc, actv, fill, Act.put, sZ, sS, fC, fN, tA, cS, cZ] at hK ⊢
   simp only [E10, E14] at hK ⊢
   go_simp
   refine Calls.mono (v_divmod q10a q14.q (by omega) (by omega) hy.out) ?_
   rintro e w2z ⟨hb2, uz, rfl, hf⟩
   go_wp2_with fail
   refine hK _ w2z hb2 (Fact.cast (hf) ?_)
   with_reducible rfl
  refine F2.Steps.consO rfl ?_ ?_
  ·
   intro vz wz hBz hDz hTz K hK
   obtain ⟨x15p_, x15q_, x15r_, E15, h15p, h15q, h15r⟩ : TV3 _ _ _ wz (vz 15) := hDz 6 (by kernel_rfl) rfl
   obtain rfl := Fact.eq_of h15r
   have HW := hBz.ext
   replace hK := hK.out
   apply Kept.mk
   simp only [F2.Wp, F2.fc, actv, fill, Act.put, sZ, sS, fC, fN, tA, cS, cZ] at hK ⊢
   simp only [E15] at hK ⊢
   go_simp
   refine hK _ wz (Below.refl _ _) (Fact.cast (Fact.t3_mk h15p h15q (Fact.eq_self _ _)) ?_)
   with_reducible rfl
  refine F2.Steps.consO rfl ?_ ?_
  ·
   intro vz wz hBz hDz hTz K hK
   obtain ⟨x8p_, x8q_, x8r_, E8, h8p, h8q, h8r⟩ : TV3 _ _ _ wz (vz 8) := hDz 7 (by kernel_rfl) rfl
   obtain rfl := Fact.eq_of h8r
   have HW := hBz.ext
   replace hK := hK.out
   apply Kept.mk
   simp only [F2.Wp, F2.fc, actv, fill, Act.put, sZ, sS, fC, fN, tA, cS, cZ] at hK ⊢
   simp only [E8] at hK ⊢
   go_simp
   refine hK _ wz (Below.refl _ _) (Fact.cast (h8p) ?_)
   with_reducible rfl
  refine F2.Steps.consO rfl ?_ ?_
  ·
   intro vz wz hBz hDz hTz K hK
   obtain ⟨x8p_, x8q_, x8r_, E8, h8p, h8q, h8r⟩ : TV3 _ _ _ wz (vz 8) := hDz 7 (by kernel_rfl) rfl
   obtain rfl := Fact.eq_of h8r
   have HW := hBz.ext
   replace hK := hK.out
   apply Kept.mk
   simp only [F2.Wp, F2.fc, actv, fill, Act.put, sZ, sS, fC, fN, tA, cS, cZ] at hK ⊢
   simp only [E8] at hK ⊢
   go_simp
   refine hK _ wz (Below.refl _ _) (Fact.cast (h8q) ?_)
   with_reducible rfl
  refine F2.Steps.consO rfl ?_ ?_
  ·
   intro vz wz hBz hDz hTz K hK
   obtain ⟨x8p_, x8q_, x8r_, E8, h8p, h8q, h8r⟩ : TV3 _ _ _ wz (vz 8) := hDz 7 (by kernel_rfl) rfl
   obtain rfl := Fact.eq_of h8r
   have HW := hBz.ext
   replace hK := hK.out
   apply Kept.mk
   simp only [F2.Wp, F2.fc, actv, fill, Act.put, sZ, sS, fC, fN, tA, cS, cZ] at hK ⊢
   simp only [E8] at hK ⊢
   go_simp
   refine hK _ wz (Below.refl _ _) (Fact.eq_mk ?_)
   with_reducible rfl
  refine F2.Steps.consA rfl ⟨NoU.two nB nS, ?_⟩ ?_
  ·
   intro vz wz hBz K hK
   replace hK := hK.out
   apply Kept.mk
   simp only [F2.Wp, F2.fc, actv, fill, Act.put, sZ, sS, fC, fN, tA, cS, cZ] at hK ⊢
   go_simp
   exact hK
  refine F2.Steps.consA rfl ⟨NoU.two nB nS, ?_⟩ ?_
  ·
   intro vz wz hBz K hK
   replace hK := hK.out
   apply Kept.mk
   simp only [F2.Wp, F2.fc, actv, fill, Act.put, sZ, sS, fC, fN, tA, cS, cZ] at hK ⊢
   go_simp
   exact hK
  refine F2.Steps.consS rfl rfl ?_ ?_
  ·
   intro vz wz gz hBz hDz E5' hgz hbz K hK
   obtain ⟨zc0, zc1, zc2, zc3⟩ := hbz.two
   obtain ⟨n16_, A16_, l16_, c16_, E16, q16⟩ : IntV 0 _ _ wz (vz 16) := hDz 8 (by kernel_rfl) rfl
   have E5 : vz 5 = .pointer (some ⟨gz, 0, none⟩) := E5'
   have HW := hBz.ext
   replace hK := hK.out
   apply Kept.mk
   simp only [F2.Wp, F2.fc, actv, fill, Act.put, sZ, sS, fC, fN, tA, cS, cZ] at hK ⊢
   simp only [E5, E16] at hK ⊢
   go_simp
   refine hK _ ((Far.set _ gz 0 _).trans (Far.set _ gz 1 _)) ⟨_, blk_two hbz, NoU.two nB nS, Fact.cast (Fact.z_mk q16) ?_⟩
   with_reducible rfl
  refine F2.Steps.consS rfl rfl ?_ ?_
  ·
   intro vz wz gz hBz hDz E6' hgz hbz K hK
   obtain ⟨zc0, zc1, zc2, zc3⟩ := hbz.two
   obtain ⟨n17_, A17_, l17_, c17_, E17, q17⟩ : IntV 0 _ _ wz (vz 17) := hDz 9 (by kernel_rfl) rfl
   have E6 : vz 6 = .pointer (some ⟨gz, 0, none⟩) := E6'
   have HW := hBz.ext
   replace hK := hK.out
   apply Kept.mk
   simp only [F2.Wp, F2.fc, actv, fill, Act.put, sZ, sS, fC, fN, tA, cS, cZ] at hK ⊢
   simp only [E6, E17] at hK ⊢
   go_simp
   refine hK _ ((Far.set _ gz 0 _).trans (Far.set _ gz 1 _)) ⟨_, blk_two hbz, NoU.two nB nS, Fact.cast (Fact.z_mk q17) ?_⟩
   with_reducible rfl
  refine F2.Steps.consO rfl ?_ ?_
  ·
   intro vz wz hBz hDz hTz K hK
   have E18 : vz 18 = _ := hDz 10 (by kernel_rfl) rfl
   have HW := hBz.ext
   replace hK := hK.out
   apply Kept.mk
   simp only [F2.Wp, F2.fc, actv, fill, Act.put, sZ, sS, fC, fN, tA, cS, cZ] at hK ⊢
   simp only [E18] at hK ⊢
   go_simp
   refine hK _ wz (Below.refl _ _) (Fact.eq_mk ?_)
   with_reducible rfl
  exact F2.Steps.nil
 intro vb w2 hBz ⟨hOz, hAz, hNz, hSz⟩
 have E9 : vb 9 = _ := hOz 0 (by decide) rfl
 obtain ⟨n10a_, A10a_, l10a_, c10a_, E10, q10a⟩ : SV_z _ _ w2 (vb 10) := hOz 1 (by decide) rfl
 obtain ⟨n11_, A11_, l11_, c11_, E11, q11⟩ : IntV 0 _ _ w2 (vb 11) := hOz 2 (by decide) rfl
 have E12 : vb 12 = _ := hOz 3 (by decide) rfl
 have E13 : vb 13 = _ := hOz 4 (by decide) rfl
 obtain ⟨n14_, A14_, l14_, c14_, E14, q14⟩ : IntV 0 _ _ w2 (vb 14) := hOz 5 (by decide) rfl
 obtain ⟨x15p_, x15q_, x15r_, E15, h15p, h15q, h15r⟩ : TV3 _ _ _ w2 (vb 15) := hOz 6 (by decide) rfl
 obtain rfl := Fact.eq_of h15r
 obtain ⟨x8p_, x8q_, x8r_, E8, h8p, h8q, h8r⟩ : TV3 _ _ _ w2 (vb 8) := hOz 7 (by decide) rfl
 obtain rfl := Fact.eq_of h8r
 obtain ⟨n16_, A16_, l16_, c16_, E16, q16⟩ : IntV 0 _ _ w2 (vb 16) := hOz 8 (by decide) rfl
 obtain ⟨n17_, A17_, l17_, c17_, E17, q17⟩ : IntV 0 _ _ w2 (vb 17) := hOz 9 (by decide) rfl
 have E18 : vb 18 = _ := hOz 10 (by decide) rfl
 obtain ⟨g5, cs5, E5, hg5, bx5, hs5, hz5⟩ := hAz 11 _ _ (by decide) rfl
 obtain ⟨g6, cs6, E6, hg6, bx6, hs6, hz6⟩ := hAz 12 _ _ (by decide) rfl
 obtain ⟨n5sb_, A5sb_, l5sb_, c5sb_, E5sb, q5sb⟩ : IntV 0 _ _ w2 (.agg cs5) := hs5 13 (by decide) rfl
 injection E5sb with E5sb
 subst E5sb
 obtain ⟨n6sb_, A6sb_, l6sb_, c6sb_, E6sb, q6sb⟩ : IntV 0 _ _ w2 (.agg cs6) := hs6 14 (by decide) rfl
 injection E6sb with E6sb
 subst E6sb
 have E7 : vb 7 = _ := hOz 15 (by decide) rfl
 have hne5_6 : Hid (¬ g5 = g6) := hide (fun h => hNz 11 12 _ _ _ _ (by decide) (by decide) (by decide) rfl rfl (by rw [E5, E6, h]))
 simp only [Act.put, actv, fill, fC, fN, tA, cS, cZ]
 simp only [E9, E10, E11, E12, E13, E14, E15, E8, E16, E17, E18, (show vb 5 = _ from E5), (show vb 6 = _ from E6), E7]
 clear E9 E10 E11 E12 E13 E14 E15 E8 E16 E17 E18 E5 E6 E7
 have hge5 : w.heap.size ≤ g5 := Nat.le_trans HB.out.size hg5
 have hne5_2 := hide (Nat.ne_of_gt (Nat.lt_of_lt_of_le bx2.lt (show w1.heap.size ≤ g5 from hg5)))
 have hne5_4 := hide (Nat.ne_of_gt (Nat.lt_of_lt_of_le bx4.lt (show w1.heap.size ≤ g5 from hg5)))
 have hge6 : w.heap.size ≤ g6 := Nat.le_trans HB.out.size hg6
 have hne6_2 := hide (Nat.ne_of_gt (Nat.lt_of_lt_of_le bx2.lt (show w1.heap.size ≤ g6 from hg6)))
 have hne6_4 := hide (Nat.ne_of_gt (Nat.lt_of_lt_of_le bx4.lt (show w1.heap.size ≤ g6 from hg6)))
 replace h0 := h0.ext hBz.ext
 replace bx2 := hBz.blk bx2 zN
 replace bx4 := hBz.blk bx4 zN
 replace HL0 := hide (HL0.out.ext (hBz).ext)
 replace HB := hide (HB.out.trans (hBz.below (B := w.heap.size) HB.out.size zE))
 clear hOz hAz hNz hSz hs5 hz5 hs6 hz6 hBz
 go_upto_region 2 with (fail)
 refine F2.regionS [.o, .so (g4) 24 #[.bool false, .slice none 0 0]] [Fact.eq ?cc19_, Fact.z ?kcs4_ ?zcs4_] [19] [19, 0] (by kernel_rfl) ?soc ?sopc (by kernel_rfl) ?stc ?finc
 case soc => exact List.forall_mem_cons.2 ⟨⟨bx4, NoU.two nB nS⟩, fun x hx => by cases hx⟩
 case sopc => exact List.Pairwise.cons (fun y hy => by cases hy) (List.Pairwise.nil)
 case stc =>
  refine F2.Steps.consO rfl ?_ ?_
  ·
   intro vz wz hBz hDz hTz K hK
   have HW := hBz.ext
   have bx6z := hBz.blk bx6 (zM hne6_4.out zN)
   obtain ⟨zl0, zl1, -⟩ := bx6z.two
   replace hK := hK.out
   apply Kept.mk
   simp only [F2.Wp, F2.fc, actv, fill, Act.put, sZ, sS, fC, fN, tA, cS, cZ] at hK ⊢
   go_simp
   refine hK _ wz (Below.refl _ _) (Fact.eq_mk ?_)
   with_reducible rfl
  refine F2.Steps.consT rfl ?_ ?_
  ·
   intro vz wz hBz hDz hbz K hK
   obtain ⟨zc0, zc1, zc2, zc3⟩ := hbz.two
   have E19 : vz 19 = _ := hDz 0 (by kernel_rfl) rfl
   have HW := hBz.ext
   replace hK := hK.out
   apply Kept.mk
   simp only [F2.Wp, F2.fc, actv, fill, Act.put, sZ, sS, fC, fN, tA, cS, cZ] at hK ⊢
   simp only [E19] at hK ⊢
   go_simp
   refine hK _ ((Far.set _ _ 0 _).trans (Far.set _ _ 1 _)) ⟨_, blk_two hbz, NoU.two nB nS, Fact.cast (Fact.z_mk (q6sb.ext HW)) ?_⟩
   with_reducible rfl
  exact F2.Steps.nil
 intro vc w3 hBz ⟨hOz, hAz, hNz, hSz⟩
 have E19 : vc 19 = _ := hOz 0 (by decide) rfl
 obtain ⟨cs4, bx4n, hs4⟩ := hSz 1 _ _ _ (by decide) rfl
 obtain ⟨n4sc_, A4sc_, l4sc_, c4sc_, E4sc, q4sc⟩ : IntV 0 _ _ w3 (.agg cs4) := hs4
 injection E4sc with E4sc
 subst E4sc
 simp only [Act.put, actv, fill, fC, fN, tA, cS, cZ]
 simp only [E19]
 clear E19
 replace h0 := h0.ext hBz.ext
 replace q5sb := q5sb.ext hBz.ext
 replace q6sb := q6sb.ext hBz.ext
 replace bx2 := hBz.blk bx2 (zM hne2_4.out zN)
 replace bx5 := hBz.blk bx5 (zM hne5_4.out zN)
 replace bx6 := hBz.blk bx6 (zM hne6_4.out zN)
 replace HL0 := hide (HL0.out.ext (hBz).ext)
 replace HB := hide (HB.out.trans (hBz.below (B := w.heap.size) HB.out.size (zA hge4 zE)))
 clear bx4
 have bx4 := bx4n
 clear bx4n
 clear hOz hAz hNz hSz hBz
 go_wp2_with fail
 refine bodyPost_ret (results_int rfl _ _ _ _ _ _ rfl bx4) rfl ⟨HB.out, ?_⟩
 exact VF.mk (Fact.z_mk (q4sc.up (by omega)))
/-- The five sums, by their numbers. -/
def mostK (kd : Nat) : Int := match kd with | 0 => 2 | 1 => 1 | 2 => 1 | _ => 4
def sumLo (kd : Nat) (t q : Int) (n : Nat) : Int := match kd with | 0 => expLo t q n | 1 => atanhLo t q n | 2 => atanLo t q n | 3 => sinLo t q n | _ => cosLo t q n
def sumHi (kd : Nat) (t q : Int) (n : Nat) : Int := match kd with | 0 => expHi t q n | 1 => atanhHi t q n | 2 => atanHi t q n | 3 => sinHi t q n | _ => cosHi t q n
set_option maxHeartbeats 4000000 in
set_option maxRecDepth 100000 in
theorem sum0_calls {w : World}  {k0 : Nat} {n0 : Bool} {A0 : Option Addr} {l0 c0 : Nat} {x0 : Int} {q n : Int} (h0 : Q w k0 n0 A0 l0 c0 x0) (hk0 : k0 ≤ 40) :
    Calls Try.prog 23 #[.int .i64 0, .agg #[.bool n0, .slice A0 l0 c0], .int .i64 q, .int .i64 n] w fun e w' => Below w.heap.size w w' ∧ VF (Fact.t3 (Fact.z 340 (if mayR x0 q n 2 = true then expLo x0 q n.toNat else 0)) (Fact.z 340 (if mayR x0 q n 2 = true then expHi x0 q n.toNat else 0)) (Fact.eq (.int .i64 (if mayR x0 q n 2 = true then 0 else 1)))) e w' := by
 obtain ⟨ra, HRA⟩ : ∃ r, Hid ((if mayR x0 q n 2 = true then expLo x0 q n.toNat else 0) = r) := ⟨_, hide rfl⟩
 obtain ⟨rb, HRB⟩ : ∃ r, Hid ((if mayR x0 q n 2 = true then expHi x0 q n.toNat else 0) = r) := ⟨_, hide rfl⟩
 obtain ⟨rc, HRC⟩ : ∃ r, Hid ((if mayR x0 q n 2 = true then (0 : Int) else 1) = r) := ⟨_, hide rfl⟩
 rw [HRA.out, HRB.out, HRC.out]
 go_enter Try.func23, Try.ntmps23
 have HB : Hid (Below w.heap.size w w) := hide (Below.refl _ _)
 go_upto_region 0 with (fail)
 refine F2.regionS [.al 24 #[.bool n0, .slice A0 l0 c0], .al 24 #[.bool false, .slice none 0 0], .al 24 #[.bool false, .slice none 0 0], .o] [Fact.any, Fact.any, Fact.any, Fact.eq ?ca10_] [5, 8, 9, 10] [5, 8, 9, 10] (by kernel_rfl) ?soa ?sopa (by kernel_rfl) ?sta ?fina
 case soa => exact fun x hx => by cases hx
 case sopa => exact List.Pairwise.nil
 case sta =>
  refine F2.Steps.consA rfl ⟨NoU.two nB nS, ?_⟩ ?_
  ·
   intro vz wz hBz K hK
   replace hK := hK.out
   apply Kept.mk
   simp only [F2.Wp, F2.fc, actv, fill, Act.put, sZ, sS, fC, fN, tA, cS, cZ] at hK ⊢
   go_simp
   exact hK
  refine F2.Steps.consA rfl ⟨NoU.two nB nS, ?_⟩ ?_
  ·
   intro vz wz hBz K hK
   replace hK := hK.out
   apply Kept.mk
   simp only [F2.Wp, F2.fc, actv, fill, Act.put, sZ, sS, fC, fN, tA, cS, cZ] at hK ⊢
   go_simp
   exact hK
  refine F2.Steps.consA rfl ⟨NoU.two nB nS, ?_⟩ ?_
  ·
   intro vz wz hBz K hK
   replace hK := hK.out
   apply Kept.mk
   simp only [F2.Wp, F2.fc, actv, fill, Act.put, sZ, sS, fC, fN, tA, cS, cZ] at hK ⊢
   go_simp
   exact hK
  refine F2.Steps.consO rfl ?_ ?_
  ·
   intro vz wz hBz hDz hTz K hK
   have HW := hBz.ext
   replace hK := hK.out
   apply Kept.mk
   simp only [F2.Wp, F2.fc, actv, fill, Act.put, sZ, sS, fC, fN, tA, cS, cZ] at hK ⊢
   go_simp
   refine hK _ wz (Below.refl _ _) (Fact.eq_mk ?_)
   with_reducible rfl
  exact F2.Steps.nil
 intro va w1 hBz ⟨hOz, hAz, hNz, hSz⟩
 obtain ⟨g5, cs5, E5, hg5, bx5, hs5, hz5⟩ := hAz 0 _ _ (by decide) rfl
 have hzz := hz5 (F2.nost (by kernel_rfl))
 subst hzz
 obtain ⟨g8, cs8, E8, hg8, bx8, hs8, hz8⟩ := hAz 1 _ _ (by decide) rfl
 have hzz := hz8 (F2.nost (by kernel_rfl))
 subst hzz
 obtain ⟨g9, cs9, E9, hg9, bx9, hs9, hz9⟩ := hAz 2 _ _ (by decide) rfl
 have hzz := hz9 (F2.nost (by kernel_rfl))
 subst hzz
 have E10 : va 10 = _ := hOz 3 (by decide) rfl
 have hne5_8 : Hid (¬ g5 = g8) := hide (fun h => hNz 0 1 _ _ _ _ (by decide) (by decide) (by decide) rfl rfl (by rw [E5, E8, h]))
 have hne5_9 : Hid (¬ g5 = g9) := hide (fun h => hNz 0 2 _ _ _ _ (by decide) (by decide) (by decide) rfl rfl (by rw [E5, E9, h]))
 have hne8_9 : Hid (¬ g8 = g9) := hide (fun h => hNz 1 2 _ _ _ _ (by decide) (by decide) (by decide) rfl rfl (by rw [E8, E9, h]))
 simp only [Act.put, actv, fill, fC, fN, tA, cS, cZ]
 simp only [(show va 5 = _ from E5), (show va 8 = _ from E8), (show va 9 = _ from E9), E10]
 clear E5 E8 E9 E10
 have hge5 : w.heap.size ≤ g5 := Nat.le_trans HB.out.size hg5
 have hge8 : w.heap.size ≤ g8 := Nat.le_trans HB.out.size hg8
 have hge9 : w.heap.size ≤ g9 := Nat.le_trans HB.out.size hg9
 replace h0 := h0.ext hBz.ext
 replace HB := hide (HB.out.trans (hBz.below (B := w.heap.size) HB.out.size zE))
 clear hOz hAz hNz hSz hs5 hz5 hs8 hz8 hs9 hz9 hBz
 go_upto_region 1 with (fail)
 refine F2.regionS [.o] [Fact.eq ?cb11_] [11] [11] (by kernel_rfl) ?sob ?sopb (by kernel_rfl) ?stb ?finb
 case sob => exact fun x hx => by cases hx
 case sopb => exact List.Pairwise.nil
 case stb =>
  refine F2.Steps.consO rfl ?_ ?_
  ·
   intro vz wz hBz hDz hTz K hK
   have HW := hBz.ext
   replace hK := hK.out
   apply Kept.mk
   simp only [F2.Wp, F2.fc, actv, fill, Act.put, sZ, sS, fC, fN, tA, cS, cZ] at hK ⊢
   go_simp
   refine hK _ wz (Below.refl _ _) (Fact.eq_mk ?_)
   with_reducible rfl
  exact F2.Steps.nil
 intro vb w2 hBz ⟨hOz, hAz, hNz, hSz⟩
 have E11 : vb 11 = _ := hOz 0 (by decide) rfl
 simp only [Act.put, actv, fill, fC, fN, tA, cS, cZ]
 simp only [E11]
 clear E11
 replace h0 := h0.ext hBz.ext
 replace bx5 := hBz.blk bx5 zN
 replace bx8 := hBz.blk bx8 zN
 replace bx9 := hBz.blk bx9 zN
 replace HB := hide (HB.out.trans (hBz.below (B := w.heap.size) HB.out.size zE))
 clear hOz hAz hNz hSz hBz
 go_upto_region 2 with (fail)
 refine F2.regionS [.o, .o] [Fact.eq ?cc13_, Fact.eq ?cc12_] [13, 12] [13, 12] (by kernel_rfl) ?soc ?sopc (by kernel_rfl) ?stc ?finc
 case soc => exact fun x hx => by cases hx
 case sopc => exact List.Pairwise.nil
 case stc =>
  refine F2.Steps.consO rfl ?_ ?_
  ·
   intro vz wz hBz hDz hTz K hK
   have HW := hBz.ext
   replace hK := hK.out
   apply Kept.mk
   simp only [F2.Wp, F2.fc, actv, fill, Act.put, sZ, sS, fC, fN, tA, cS, cZ] at hK ⊢
   go_simp
   refine hK _ wz (Below.refl _ _) (Fact.eq_mk ?_)
   with_reducible rfl
  refine F2.Steps.consO rfl ?_ ?_
  ·
   intro vz wz hBz hDz hTz K hK
   have E13 : vz 13 = _ := hDz 0 (by kernel_rfl) rfl
   have HW := hBz.ext
   replace hK := hK.out
   apply Kept.mk
   simp only [F2.Wp, F2.fc, actv, fill, Act.put, sZ, sS, fC, fN, tA, cS, cZ] at hK ⊢
   simp only [E13] at hK ⊢
   go_simp
   refine hK _ wz (Below.refl _ _) (Fact.eq_mk ?_)
   with_reducible rfl
  exact F2.Steps.nil
 intro vc w3 hBz ⟨hOz, hAz, hNz, hSz⟩
 have E13 : vc 13 = _ := hOz 0 (by decide) rfl
 have E12 : vc 12 = _ := hOz 1 (by decide) rfl
 simp only [Act.put, actv, fill, fC, fN, tA, cS, cZ]
 simp only [E13, E12]
 clear E13 E12
 replace h0 := h0.ext hBz.ext
 replace bx5 := hBz.blk bx5 zN
 replace bx8 := hBz.blk bx8 zN
 replace bx9 := hBz.blk bx9 zN
 replace HB := hide (HB.out.trans (hBz.below (B := w.heap.size) HB.out.size zE))
 clear hOz hAz hNz hSz hBz
 go_upto_region 3 with (fail)
 refine F2.regionS [.o, .o, .o, .o, .o, .o, .o, .so (g8) 24 #[.bool false, .slice none 0 0], .so (g9) 24 #[.bool false, .slice none 0 0], .o] [Fact.eq ?cd14_, Fact.eq ?cd15_, Fact.eq ?cd16_, Fact.t3 (Fact.z ?kd17_p ?zd17_p) (Fact.z ?kd17_q ?zd17_q) (Fact.eq ?cd17_r), Fact.z ?kd18_ ?zd18_, Fact.z ?kd19_ ?zd19_, Fact.eq ?cd20_, Fact.z ?kds8_ ?zds8_, Fact.z ?kds9_ ?zds9_, Fact.eq ?cd10_] [14, 15, 16, 17, 18, 19, 20, 10] [14, 15, 16, 17, 18, 19, 20, 0, 0, 10] (by kernel_rfl) ?sod ?sopd (by kernel_rfl) ?std ?find
 case sod => exact List.forall_mem_cons.2 ⟨⟨bx8, NoU.two nB nS⟩, List.forall_mem_cons.2 ⟨⟨bx9, NoU.two nB nS⟩, fun x hx => by cases hx⟩⟩
 case sopd => exact List.Pairwise.cons (by intro y hy; simp [F2.sos] at hy; have hne8_9 := hne8_9.out; first | (subst hy; simp; done) | (subst hy; simp; omega) | (rcases hy with rfl | rfl <;> simp <;> omega)) (List.Pairwise.cons (fun y hy => by cases hy) (List.Pairwise.nil))
 case std =>
  refine F2.Steps.consO rfl ?_ ?_
  ·
   intro vz wz hBz hDz hTz K hK
   have HW := hBz.ext
   have bx5z := hBz.blk bx5 (zM hne5_8.out (zM hne5_9.out zN))
   obtain ⟨zl0, zl1, -⟩ := bx5z.two
   replace hK := hK.out
   apply Kept.mk
   simp only [F2.Wp, F2.fc, actv, fill, Act.put, sZ, sS, fC, fN, tA, cS, cZ] at hK ⊢
   go_simp
   refine hK _ wz (Below.refl _ _) (Fact.eq_mk ?_)
   with_reducible rfl
  refine F2.Steps.consO rfl ?_ ?_
  ·
   intro vz wz hBz hDz hTz K hK
   have HW := hBz.ext
   replace hK := hK.out
   apply Kept.mk
   simp only [F2.Wp, F2.fc, actv, fill, Act.put, sZ, sS, fC, fN, tA, cS, cZ] at hK ⊢
   go_simp
   refine hK _ wz (Below.refl _ _) (Fact.eq_mk ?_)
   with_reducible rfl
  refine F2.Steps.consO rfl ?_ ?_
  ·
   intro vz wz hBz hDz hTz K hK
   have HW := hBz.ext
   replace hK := hK.out
   apply Kept.mk
   simp only [F2.Wp, F2.fc, actv, fill, Act.put, sZ, sS, fC, fN, tA, cS, cZ] at hK ⊢
   go_simp
   refine hK _ wz (Below.refl _ _) (Fact.eq_mk ?_)
   with_reducible rfl
  refine F2.Steps.consO rfl ?_ ?_
  ·
   intro vz wz hBz hDz hTz K hK
   have E14 : vz 14 = _ := hDz 0 (by kernel_rfl) rfl
   have E15 : vz 15 = _ := hDz 1 (by kernel_rfl) rfl
   have E16 : vz 16 = _ := hDz 2 (by kernel_rfl) rfl
   have HW := hBz.ext
   replace hK := hK.out
   apply Kept.mk
   simp only [F2.Wp, F2.fc, actv, fill, Act.put, sZ, sS, fC, fN, tA, cS, cZ] at hK ⊢
   simp only [E14, E15, E16] at hK ⊢
   go_simp
   refine Calls.mono (rexp_named (h0.ext HW) (by omega) HRA HRB HRC) ?_
   rintro e w2z ⟨hb2, uz, rfl, hf⟩
   go_wp2_with fail
   refine hK _ w2z hb2 (Fact.cast (hf) ?_)
   with_reducible rfl
  refine F2.Steps.consO rfl ?_ ?_
  ·
   intro vz wz hBz hDz hTz K hK
   obtain ⟨x17p_, x17q_, x17r_, E17, h17p, h17q, h17r⟩ : TV3 _ _ _ wz (vz 17) := hDz 3 (by kernel_rfl) rfl
   obtain rfl := Fact.eq_of h17r
   have HW := hBz.ext
   replace hK := hK.out
   apply Kept.mk
   simp only [F2.Wp, F2.fc, actv, fill, Act.put, sZ, sS, fC, fN, tA, cS, cZ] at hK ⊢
   simp only [E17] at hK ⊢
   go_simp
   refine hK _ wz (Below.refl _ _) (Fact.cast (h17p) ?_)
   with_reducible rfl
  refine F2.Steps.consO rfl ?_ ?_
  ·
   intro vz wz hBz hDz hTz K hK
   obtain ⟨x17p_, x17q_, x17r_, E17, h17p, h17q, h17r⟩ : TV3 _ _ _ wz (vz 17) := hDz 3 (by kernel_rfl) rfl
   obtain rfl := Fact.eq_of h17r
   have HW := hBz.ext
   replace hK := hK.out
   apply Kept.mk
   simp only [F2.Wp, F2.fc, actv, fill, Act.put, sZ, sS, fC, fN, tA, cS, cZ] at hK ⊢
   simp only [E17] at hK ⊢
   go_simp
   refine hK _ wz (Below.refl _ _) (Fact.cast (h17q) ?_)
   with_reducible rfl
  refine F2.Steps.consO rfl ?_ ?_
  ·
   intro vz wz hBz hDz hTz K hK
   obtain ⟨x17p_, x17q_, x17r_, E17, h17p, h17q, h17r⟩ : TV3 _ _ _ wz (vz 17) := hDz 3 (by kernel_rfl) rfl
   obtain rfl := Fact.eq_of h17r
   have HW := hBz.ext
   replace hK := hK.out
   apply Kept.mk
   simp only [F2.Wp, F2.fc, actv, fill, Act.put, sZ, sS, fC, fN, tA, cS, cZ] at hK ⊢
   simp only [E17] at hK ⊢
   go_simp
   refine hK _ wz (Below.refl _ _) (Fact.eq_mk ?_)
   with_reducible rfl
  refine F2.Steps.consT rfl ?_ ?_
  ·
   intro vz wz hBz hDz hbz K hK
   obtain ⟨zc0, zc1, zc2, zc3⟩ := hbz.two
   obtain ⟨n18_, A18_, l18_, c18_, E18, q18⟩ : IntV 0 _ _ wz (vz 18) := hDz 4 (by kernel_rfl) rfl
   have HW := hBz.ext
   replace hK := hK.out
   apply Kept.mk
   simp only [F2.Wp, F2.fc, actv, fill, Act.put, sZ, sS, fC, fN, tA, cS, cZ] at hK ⊢
   simp only [E18] at hK ⊢
   go_simp
   refine hK _ ((Far.set _ _ 0 _).trans (Far.set _ _ 1 _)) ⟨_, blk_two hbz, NoU.two nB nS, Fact.cast (Fact.z_mk q18) ?_⟩
   with_reducible rfl
  refine F2.Steps.consT rfl ?_ ?_
  ·
   intro vz wz hBz hDz hbz K hK
   obtain ⟨zc0, zc1, zc2, zc3⟩ := hbz.two
   obtain ⟨n19_, A19_, l19_, c19_, E19, q19⟩ : IntV 0 _ _ wz (vz 19) := hDz 5 (by kernel_rfl) rfl
   have HW := hBz.ext
   replace hK := hK.out
   apply Kept.mk
   simp only [F2.Wp, F2.fc, actv, fill, Act.put, sZ, sS, fC, fN, tA, cS, cZ] at hK ⊢
   simp only [E19] at hK ⊢
   go_simp
   refine hK _ ((Far.set _ _ 0 _).trans (Far.set _ _ 1 _)) ⟨_, blk_two hbz, NoU.two nB nS, Fact.cast (Fact.z_mk q19) ?_⟩
   with_reducible rfl
  refine F2.Steps.consO rfl ?_ ?_
  ·
   intro vz wz hBz hDz hTz K hK
   have E20 : vz 20 = _ := hDz 6 (by kernel_rfl) rfl
   have HW := hBz.ext
   replace hK := hK.out
   apply Kept.mk
   simp only [F2.Wp, F2.fc, actv, fill, Act.put, sZ, sS, fC, fN, tA, cS, cZ] at hK ⊢
   simp only [E20] at hK ⊢
   go_simp
   refine hK _ wz (Below.refl _ _) (Fact.eq_mk ?_)
   with_reducible rfl
  exact F2.Steps.nil
 intro vd w4 hBz ⟨hOz, hAz, hNz, hSz⟩
 have E14 : vd 14 = _ := hOz 0 (by decide) rfl
 have E15 : vd 15 = _ := hOz 1 (by decide) rfl
 have E16 : vd 16 = _ := hOz 2 (by decide) rfl
 obtain ⟨x17p_, x17q_, x17r_, E17, h17p, h17q, h17r⟩ : TV3 _ _ _ w4 (vd 17) := hOz 3 (by decide) rfl
 obtain rfl := Fact.eq_of h17r
 obtain ⟨n18_, A18_, l18_, c18_, E18, q18⟩ : IntV 0 _ _ w4 (vd 18) := hOz 4 (by decide) rfl
 obtain ⟨n19_, A19_, l19_, c19_, E19, q19⟩ : IntV 0 _ _ w4 (vd 19) := hOz 5 (by decide) rfl
 have E20 : vd 20 = _ := hOz 6 (by decide) rfl
 obtain ⟨cs8, bx8n, hs8⟩ := hSz 7 _ _ _ (by decide) rfl
 obtain ⟨n8sd_, A8sd_, l8sd_, c8sd_, E8sd, q8sd⟩ : IntV 0 _ _ w4 (.agg cs8) := hs8
 injection E8sd with E8sd
 subst E8sd
 obtain ⟨cs9, bx9n, hs9⟩ := hSz 8 _ _ _ (by decide) rfl
 obtain ⟨n9sd_, A9sd_, l9sd_, c9sd_, E9sd, q9sd⟩ : IntV 0 _ _ w4 (.agg cs9) := hs9
 injection E9sd with E9sd
 subst E9sd
 have E10 : vd 10 = _ := hOz 9 (by decide) rfl
 simp only [Act.put, actv, fill, fC, fN, tA, cS, cZ]
 simp only [E14, E15, E16, E17, E18, E19, E20, E10]
 clear E14 E15 E16 E17 E18 E19 E20 E10
 replace h0 := h0.ext hBz.ext
 replace bx5 := hBz.blk bx5 (zM hne5_8.out (zM hne5_9.out zN))
 replace HB := hide (HB.out.trans (hBz.below (B := w.heap.size) HB.out.size (zA hge8 (zA hge9 zE))))
 clear bx8
 clear bx9
 have bx8 := bx8n
 clear bx8n
 have bx9 := bx9n
 clear bx9n
 clear hOz hAz hNz hSz hBz
 go_wp2_with fail
 refine bodyPost_ret (results_int_int_tmp rfl _ _ _ _ _ _ _ _ _ _ rfl bx8 rfl bx9) rfl ⟨HB.out, ?_⟩
 exact VF.mk (Fact.t3_mk (Fact.z_mk q8sd) (Fact.z_mk q9sd) (Fact.eq_self _ _))
set_option maxHeartbeats 4000000 in
set_option maxRecDepth 100000 in
theorem sum1_calls {w : World}  {k0 : Nat} {n0 : Bool} {A0 : Option Addr} {l0 c0 : Nat} {x0 : Int} {q n : Int} (h0 : Q w k0 n0 A0 l0 c0 x0) (hk0 : k0 ≤ 40) :
    Calls Try.prog 23 #[.int .i64 1, .agg #[.bool n0, .slice A0 l0 c0], .int .i64 q, .int .i64 n] w fun e w' => Below w.heap.size w w' ∧ VF (Fact.t3 (Fact.z 340 (if mayR x0 q n 1 = true then atanhLo x0 q n.toNat else 0)) (Fact.z 340 (if mayR x0 q n 1 = true then atanhHi x0 q n.toNat else 0)) (Fact.eq (.int .i64 (if mayR x0 q n 1 = true then 0 else 1)))) e w' := by
 obtain ⟨ra, HRA⟩ : ∃ r, Hid ((if mayR x0 q n 1 = true then atanhLo x0 q n.toNat else 0) = r) := ⟨_, hide rfl⟩
 obtain ⟨rb, HRB⟩ : ∃ r, Hid ((if mayR x0 q n 1 = true then atanhHi x0 q n.toNat else 0) = r) := ⟨_, hide rfl⟩
 obtain ⟨rc, HRC⟩ : ∃ r, Hid ((if mayR x0 q n 1 = true then (0 : Int) else 1) = r) := ⟨_, hide rfl⟩
 rw [HRA.out, HRB.out, HRC.out]
 go_enter Try.func23, Try.ntmps23
 have HB : Hid (Below w.heap.size w w) := hide (Below.refl _ _)
 go_upto_region 0 with (fail)
 refine F2.regionS [.al 24 #[.bool n0, .slice A0 l0 c0], .al 24 #[.bool false, .slice none 0 0], .al 24 #[.bool false, .slice none 0 0], .o] [Fact.any, Fact.any, Fact.any, Fact.eq ?ca10_] [5, 8, 9, 10] [5, 8, 9, 10] (by kernel_rfl) ?soa ?sopa (by kernel_rfl) ?sta ?fina
 case soa => exact fun x hx => by cases hx
 case sopa => exact List.Pairwise.nil
 case sta =>
  refine F2.Steps.consA rfl ⟨NoU.two nB nS, ?_⟩ ?_
  ·
   intro vz wz hBz K hK
   replace hK := hK.out
   apply Kept.mk
   simp only [F2.Wp, F2.fc, actv, fill, Act.put, sZ, sS, fC, fN, tA, cS, cZ] at hK ⊢
   go_simp
   exact hK
  refine F2.Steps.consA rfl ⟨NoU.two nB nS, ?_⟩ ?_
  ·
   intro vz wz hBz K hK
   replace hK := hK.out
   apply Kept.mk
   simp only [F2.Wp, F2.fc, actv, fill, Act.put, sZ, sS, fC, fN, tA, cS, cZ] at hK ⊢
   go_simp
   exact hK
  refine F2.Steps.consA rfl ⟨NoU.two nB nS, ?_⟩ ?_
  ·
   intro vz wz hBz K hK
   replace hK := hK.out
   apply Kept.mk
   simp only [F2.Wp, F2.fc, actv, fill, Act.put, sZ, sS, fC, fN, tA, cS, cZ] at hK ⊢
   go_simp
   exact hK
  refine F2.Steps.consO rfl ?_ ?_
  ·
   intro vz wz hBz hDz hTz K hK
   have HW := hBz.ext
   replace hK := hK.out
   apply Kept.mk
   simp only [F2.Wp, F2.fc, actv, fill, Act.put, sZ, sS, fC, fN, tA, cS, cZ] at hK ⊢
   go_simp
   refine hK _ wz (Below.refl _ _) (Fact.eq_mk ?_)
   with_reducible rfl
  exact F2.Steps.nil
 intro va w1 hBz ⟨hOz, hAz, hNz, hSz⟩
 obtain ⟨g5, cs5, E5, hg5, bx5, hs5, hz5⟩ := hAz 0 _ _ (by decide) rfl
 have hzz := hz5 (F2.nost (by kernel_rfl))
 subst hzz
 obtain ⟨g8, cs8, E8, hg8, bx8, hs8, hz8⟩ := hAz 1 _ _ (by decide) rfl
 have hzz := hz8 (F2.nost (by kernel_rfl))
 subst hzz
 obtain ⟨g9, cs9, E9, hg9, bx9, hs9, hz9⟩ := hAz 2 _ _ (by decide) rfl
 have hzz := hz9 (F2.nost (by kernel_rfl))
 subst hzz
 have E10 : va 10 = _ := hOz 3 (by decide) rfl
 have hne5_8 : Hid (¬ g5 = g8) := hide (fun h => hNz 0 1 _ _ _ _ (by decide) (by decide) (by decide) rfl rfl (by rw [E5, E8, h]))
 have hne5_9 : Hid (¬ g5 = g9) := hide (fun h => hNz 0 2 _ _ _ _ (by decide) (by decide) (by decide) rfl rfl (by rw [E5, E9, h]))
 have hne8_9 : Hid (¬ g8 = g9) := hide (fun h => hNz 1 2 _ _ _ _ (by decide) (by decide) (by decide) rfl rfl (by rw [E8, E9, h]))
 simp only [Act.put, actv, fill, fC, fN, tA, cS, cZ]
 simp only [(show va 5 = _ from E5), (show va 8 = _ from E8), (show va 9 = _ from E9), E10]
 clear E5 E8 E9 E10
 have hge5 : w.heap.size ≤ g5 := Nat.le_trans HB.out.size hg5
 have hge8 : w.heap.size ≤ g8 := Nat.le_trans HB.out.size hg8
 have hge9 : w.heap.size ≤ g9 := Nat.le_trans HB.out.size hg9
 replace h0 := h0.ext hBz.ext
 replace HB := hide (HB.out.trans (hBz.below (B := w.heap.size) HB.out.size zE))
 clear hOz hAz hNz hSz hs5 hz5 hs8 hz8 hs9 hz9 hBz
 go_upto_region 1 with (fail)
 refine F2.regionS [.o] [Fact.eq ?cb11_] [11] [11] (by kernel_rfl) ?sob ?sopb (by kernel_rfl) ?stb ?finb
 case sob => exact fun x hx => by cases hx
 case sopb => exact List.Pairwise.nil
 case stb =>
  refine F2.Steps.consO rfl ?_ ?_
  ·
   intro vz wz hBz hDz hTz K hK
   have HW := hBz.ext
   replace hK := hK.out
   apply Kept.mk
   simp only [F2.Wp, F2.fc, actv, fill, Act.put, sZ, sS, fC, fN, tA, cS, cZ] at hK ⊢
   go_simp
   refine hK _ wz (Below.refl _ _) (Fact.eq_mk ?_)
   with_reducible rfl
  exact F2.Steps.nil
 intro vb w2 hBz ⟨hOz, hAz, hNz, hSz⟩
 have E11 : vb 11 = _ := hOz 0 (by decide) rfl
 simp only [Act.put, actv, fill, fC, fN, tA, cS, cZ]
 simp only [E11]
 clear E11
 replace h0 := h0.ext hBz.ext
 replace bx5 := hBz.blk bx5 zN
 replace bx8 := hBz.blk bx8 zN
 replace bx9 := hBz.blk bx9 zN
 replace HB := hide (HB.out.trans (hBz.below (B := w.heap.size) HB.out.size zE))
 clear hOz hAz hNz hSz hBz
 go_upto_region 2 with (fail)
 refine F2.regionS [.o, .o] [Fact.eq ?cc13_, Fact.eq ?cc12_] [13, 12] [13, 12] (by kernel_rfl) ?soc ?sopc (by kernel_rfl) ?stc ?finc
 case soc => exact fun x hx => by cases hx
 case sopc => exact List.Pairwise.nil
 case stc =>
  refine F2.Steps.consO rfl ?_ ?_
  ·
   intro vz wz hBz hDz hTz K hK
   have HW := hBz.ext
   replace hK := hK.out
   apply Kept.mk
   simp only [F2.Wp, F2.fc, actv, fill, Act.put, sZ, sS, fC, fN, tA, cS, cZ] at hK ⊢
   go_simp
   refine hK _ wz (Below.refl _ _) (Fact.eq_mk ?_)
   with_reducible rfl
  refine F2.Steps.consO rfl ?_ ?_
  ·
   intro vz wz hBz hDz hTz K hK
   have E13 : vz 13 = _ := hDz 0 (by kernel_rfl) rfl
   have HW := hBz.ext
   replace hK := hK.out
   apply Kept.mk
   simp only [F2.Wp, F2.fc, actv, fill, Act.put, sZ, sS, fC, fN, tA, cS, cZ] at hK ⊢
   simp only [E13] at hK ⊢
   go_simp
   refine hK _ wz (Below.refl _ _) (Fact.eq_mk ?_)
   with_reducible rfl
  exact F2.Steps.nil
 intro vc w3 hBz ⟨hOz, hAz, hNz, hSz⟩
 have E13 : vc 13 = _ := hOz 0 (by decide) rfl
 have E12 : vc 12 = _ := hOz 1 (by decide) rfl
 simp only [Act.put, actv, fill, fC, fN, tA, cS, cZ]
 simp only [E13, E12]
 clear E13 E12
 replace h0 := h0.ext hBz.ext
 replace bx5 := hBz.blk bx5 zN
 replace bx8 := hBz.blk bx8 zN
 replace bx9 := hBz.blk bx9 zN
 replace HB := hide (HB.out.trans (hBz.below (B := w.heap.size) HB.out.size zE))
 clear hOz hAz hNz hSz hBz
 go_upto_region 4 with (fail)
 refine F2.regionS [.o, .o] [Fact.eq ?cd22_, Fact.eq ?cd21_] [22, 21] [22, 21] (by kernel_rfl) ?sod ?sopd (by kernel_rfl) ?std ?find
 case sod => exact fun x hx => by cases hx
 case sopd => exact List.Pairwise.nil
 case std =>
  refine F2.Steps.consO rfl ?_ ?_
  ·
   intro vz wz hBz hDz hTz K hK
   have HW := hBz.ext
   replace hK := hK.out
   apply Kept.mk
   simp only [F2.Wp, F2.fc, actv, fill, Act.put, sZ, sS, fC, fN, tA, cS, cZ] at hK ⊢
   go_simp
   refine hK _ wz (Below.refl _ _) (Fact.eq_mk ?_)
   with_reducible rfl
  refine F2.Steps.consO rfl ?_ ?_
  ·
   intro vz wz hBz hDz hTz K hK
   have E22 : vz 22 = _ := hDz 0 (by kernel_rfl) rfl
   have HW := hBz.ext
   replace hK := hK.out
   apply Kept.mk
   simp only [F2.Wp, F2.fc, actv, fill, Act.put, sZ, sS, fC, fN, tA, cS, cZ] at hK ⊢
   simp only [E22] at hK ⊢
   go_simp
   refine hK _ wz (Below.refl _ _) (Fact.eq_mk ?_)
   with_reducible rfl
  exact F2.Steps.nil
 intro vd w4 hBz ⟨hOz, hAz, hNz, hSz⟩
 have E22 : vd 22 = _ := hOz 0 (by decide) rfl
 have E21 : vd 21 = _ := hOz 1 (by decide) rfl
 simp only [Act.put, actv, fill, fC, fN, tA, cS, cZ]
 simp only [E22, E21]
 clear E22 E21
 replace h0 := h0.ext hBz.ext
 replace bx5 := hBz.blk bx5 zN
 replace bx8 := hBz.blk bx8 zN
 replace bx9 := hBz.blk bx9 zN
 replace HB := hide (HB.out.trans (hBz.below (B := w.heap.size) HB.out.size zE))
 clear hOz hAz hNz hSz hBz
 go_upto_region 5 with (fail)
 refine F2.regionS [.o, .o, .o, .o, .o, .o, .o, .so (g8) 24 #[.bool false, .slice none 0 0], .so (g9) 24 #[.bool false, .slice none 0 0], .o] [Fact.eq ?ce23_, Fact.eq ?ce24_, Fact.eq ?ce25_, Fact.t3 (Fact.z ?ke26_p ?ze26_p) (Fact.z ?ke26_q ?ze26_q) (Fact.eq ?ce26_r), Fact.z ?ke27_ ?ze27_, Fact.z ?ke28_ ?ze28_, Fact.eq ?ce29_, Fact.z ?kes8_ ?zes8_, Fact.z ?kes9_ ?zes9_, Fact.eq ?ce10_] [23, 24, 25, 26, 27, 28, 29, 10] [23, 24, 25, 26, 27, 28, 29, 0, 0, 10] (by kernel_rfl) ?soe ?sope (by kernel_rfl) ?ste ?fine
 case soe => exact List.forall_mem_cons.2 ⟨⟨bx8, NoU.two nB nS⟩, List.forall_mem_cons.2 ⟨⟨bx9, NoU.two nB nS⟩, fun x hx => by cases hx⟩⟩
 case sope => exact List.Pairwise.cons (by intro y hy; simp [F2.sos] at hy; have hne8_9 := hne8_9.out; first | (subst hy; simp; done) | (subst hy; simp; omega) | (rcases hy with rfl | rfl <;> simp <;> omega)) (List.Pairwise.cons (fun y hy => by cases hy) (List.Pairwise.nil))
 case ste =>
  refine F2.Steps.consO rfl ?_ ?_
  ·
   intro vz wz hBz hDz hTz K hK
   have HW := hBz.ext
   have bx5z := hBz.blk bx5 (zM hne5_8.out (zM hne5_9.out zN))
   obtain ⟨zl0, zl1, -⟩ := bx5z.two
   replace hK := hK.out
   apply Kept.mk
   simp only [F2.Wp, F2.fc, actv, fill, Act.put, sZ, sS, fC, fN, tA, cS, cZ] at hK ⊢
   go_simp
   refine hK _ wz (Below.refl _ _) (Fact.eq_mk ?_)
   with_reducible rfl
  refine F2.Steps.consO rfl ?_ ?_
  ·
   intro vz wz hBz hDz hTz K hK
   have HW := hBz.ext
   replace hK := hK.out
   apply Kept.mk
   simp only [F2.Wp, F2.fc, actv, fill, Act.put, sZ, sS, fC, fN, tA, cS, cZ] at hK ⊢
   go_simp
   refine hK _ wz (Below.refl _ _) (Fact.eq_mk ?_)
   with_reducible rfl
  refine F2.Steps.consO rfl ?_ ?_
  ·
   intro vz wz hBz hDz hTz K hK
   have HW := hBz.ext
   replace hK := hK.out
   apply Kept.mk
   simp only [F2.Wp, F2.fc, actv, fill, Act.put, sZ, sS, fC, fN, tA, cS, cZ] at hK ⊢
   go_simp
   refine hK _ wz (Below.refl _ _) (Fact.eq_mk ?_)
   with_reducible rfl
  refine F2.Steps.consO rfl ?_ ?_
  ·
   intro vz wz hBz hDz hTz K hK
   have E23 : vz 23 = _ := hDz 0 (by kernel_rfl) rfl
   have E24 : vz 24 = _ := hDz 1 (by kernel_rfl) rfl
   have E25 : vz 25 = _ := hDz 2 (by kernel_rfl) rfl
   have HW := hBz.ext
   replace hK := hK.out
   apply Kept.mk
   simp only [F2.Wp, F2.fc, actv, fill, Act.put, sZ, sS, fC, fN, tA, cS, cZ] at hK ⊢
   simp only [E23, E24, E25] at hK ⊢
   go_simp
   refine Calls.mono (ratanh_named (h0.ext HW) (by omega) HRA HRB HRC) ?_
   rintro e w2z ⟨hb2, uz, rfl, hf⟩
   go_wp2_with fail
   refine hK _ w2z hb2 (Fact.cast (hf) ?_)
   with_reducible rfl
  refine F2.Steps.consO rfl ?_ ?_
  ·
   intro vz wz hBz hDz hTz K hK
   obtain ⟨x26p_, x26q_, x26r_, E26, h26p, h26q, h26r⟩ : TV3 _ _ _ wz (vz 26) := hDz 3 (by kernel_rfl) rfl
   obtain rfl := Fact.eq_of h26r
   have HW := hBz.ext
   replace hK := hK.out
   apply Kept.mk
   simp only [F2.Wp, F2.fc, actv, fill, Act.put, sZ, sS, fC, fN, tA, cS, cZ] at hK ⊢
   simp only [E26] at hK ⊢
   go_simp
   refine hK _ wz (Below.refl _ _) (Fact.cast (h26p) ?_)
   with_reducible rfl
  refine F2.Steps.consO rfl ?_ ?_
  ·
   intro vz wz hBz hDz hTz K hK
   obtain ⟨x26p_, x26q_, x26r_, E26, h26p, h26q, h26r⟩ : TV3 _ _ _ wz (vz 26) := hDz 3 (by kernel_rfl) rfl
   obtain rfl := Fact.eq_of h26r
   have HW := hBz.ext
   replace hK := hK.out
   apply Kept.mk
   simp only [F2.Wp, F2.fc, actv, fill, Act.put, sZ, sS, fC, fN, tA, cS, cZ] at hK ⊢
   simp only [E26] at hK ⊢
   go_simp
   refine hK _ wz (Below.refl _ _) (Fact.cast (h26q) ?_)
   with_reducible rfl
  refine F2.Steps.consO rfl ?_ ?_
  ·
   intro vz wz hBz hDz hTz K hK
   obtain ⟨x26p_, x26q_, x26r_, E26, h26p, h26q, h26r⟩ : TV3 _ _ _ wz (vz 26) := hDz 3 (by kernel_rfl) rfl
   obtain rfl := Fact.eq_of h26r
   have HW := hBz.ext
   replace hK := hK.out
   apply Kept.mk
   simp only [F2.Wp, F2.fc, actv, fill, Act.put, sZ, sS, fC, fN, tA, cS, cZ] at hK ⊢
   simp only [E26] at hK ⊢
   go_simp
   refine hK _ wz (Below.refl _ _) (Fact.eq_mk ?_)
   with_reducible rfl
  refine F2.Steps.consT rfl ?_ ?_
  ·
   intro vz wz hBz hDz hbz K hK
   obtain ⟨zc0, zc1, zc2, zc3⟩ := hbz.two
   obtain ⟨n27_, A27_, l27_, c27_, E27, q27⟩ : IntV 0 _ _ wz (vz 27) := hDz 4 (by kernel_rfl) rfl
   have HW := hBz.ext
   replace hK := hK.out
   apply Kept.mk
   simp only [F2.Wp, F2.fc, actv, fill, Act.put, sZ, sS, fC, fN, tA, cS, cZ] at hK ⊢
   simp only [E27] at hK ⊢
   go_simp
   refine hK _ ((Far.set _ _ 0 _).trans (Far.set _ _ 1 _)) ⟨_, blk_two hbz, NoU.two nB nS, Fact.cast (Fact.z_mk q27) ?_⟩
   with_reducible rfl
  refine F2.Steps.consT rfl ?_ ?_
  ·
   intro vz wz hBz hDz hbz K hK
   obtain ⟨zc0, zc1, zc2, zc3⟩ := hbz.two
   obtain ⟨n28_, A28_, l28_, c28_, E28, q28⟩ : IntV 0 _ _ wz (vz 28) := hDz 5 (by kernel_rfl) rfl
   have HW := hBz.ext
   replace hK := hK.out
   apply Kept.mk
   simp only [F2.Wp, F2.fc, actv, fill, Act.put, sZ, sS, fC, fN, tA, cS, cZ] at hK ⊢
   simp only [E28] at hK ⊢
   go_simp
   refine hK _ ((Far.set _ _ 0 _).trans (Far.set _ _ 1 _)) ⟨_, blk_two hbz, NoU.two nB nS, Fact.cast (Fact.z_mk q28) ?_⟩
   with_reducible rfl
  refine F2.Steps.consO rfl ?_ ?_
  ·
   intro vz wz hBz hDz hTz K hK
   have E29 : vz 29 = _ := hDz 6 (by kernel_rfl) rfl
   have HW := hBz.ext
   replace hK := hK.out
   apply Kept.mk
   simp only [F2.Wp, F2.fc, actv, fill, Act.put, sZ, sS, fC, fN, tA, cS, cZ] at hK ⊢
   simp only [E29] at hK ⊢
   go_simp
   refine hK _ wz (Below.refl _ _) (Fact.eq_mk ?_)
   with_reducible rfl
  exact F2.Steps.nil
 intro ve w5 hBz ⟨hOz, hAz, hNz, hSz⟩
 have E23 : ve 23 = _ := hOz 0 (by decide) rfl
 have E24 : ve 24 = _ := hOz 1 (by decide) rfl
 have E25 : ve 25 = _ := hOz 2 (by decide) rfl
 obtain ⟨x26p_, x26q_, x26r_, E26, h26p, h26q, h26r⟩ : TV3 _ _ _ w5 (ve 26) := hOz 3 (by decide) rfl
 obtain rfl := Fact.eq_of h26r
 obtain ⟨n27_, A27_, l27_, c27_, E27, q27⟩ : IntV 0 _ _ w5 (ve 27) := hOz 4 (by decide) rfl
 obtain ⟨n28_, A28_, l28_, c28_, E28, q28⟩ : IntV 0 _ _ w5 (ve 28) := hOz 5 (by decide) rfl
 have E29 : ve 29 = _ := hOz 6 (by decide) rfl
 obtain ⟨cs8, bx8n, hs8⟩ := hSz 7 _ _ _ (by decide) rfl
 obtain ⟨n8se_, A8se_, l8se_, c8se_, E8se, q8se⟩ : IntV 0 _ _ w5 (.agg cs8) := hs8
 injection E8se with E8se
 subst E8se
 obtain ⟨cs9, bx9n, hs9⟩ := hSz 8 _ _ _ (by decide) rfl
 obtain ⟨n9se_, A9se_, l9se_, c9se_, E9se, q9se⟩ : IntV 0 _ _ w5 (.agg cs9) := hs9
 injection E9se with E9se
 subst E9se
 have E10 : ve 10 = _ := hOz 9 (by decide) rfl
 simp only [Act.put, actv, fill, fC, fN, tA, cS, cZ]
 simp only [E23, E24, E25, E26, E27, E28, E29, E10]
 clear E23 E24 E25 E26 E27 E28 E29 E10
 replace h0 := h0.ext hBz.ext
 replace bx5 := hBz.blk bx5 (zM hne5_8.out (zM hne5_9.out zN))
 replace HB := hide (HB.out.trans (hBz.below (B := w.heap.size) HB.out.size (zA hge8 (zA hge9 zE))))
 clear bx8
 clear bx9
 have bx8 := bx8n
 clear bx8n
 have bx9 := bx9n
 clear bx9n
 clear hOz hAz hNz hSz hBz
 go_wp2_with fail
 refine bodyPost_ret (results_int_int_tmp rfl _ _ _ _ _ _ _ _ _ _ rfl bx8 rfl bx9) rfl ⟨HB.out, ?_⟩
 exact VF.mk (Fact.t3_mk (Fact.z_mk q8se) (Fact.z_mk q9se) (Fact.eq_self _ _))
set_option maxHeartbeats 4000000 in
set_option maxRecDepth 100000 in
theorem sum2_calls {w : World}  {k0 : Nat} {n0 : Bool} {A0 : Option Addr} {l0 c0 : Nat} {x0 : Int} {q n : Int} (h0 : Q w k0 n0 A0 l0 c0 x0) (hk0 : k0 ≤ 40) :
    Calls Try.prog 23 #[.int .i64 2, .agg #[.bool n0, .slice A0 l0 c0], .int .i64 q, .int .i64 n] w fun e w' => Below w.heap.size w w' ∧ VF (Fact.t3 (Fact.z 340 (if mayR x0 q n 1 = true then atanLo x0 q n.toNat else 0)) (Fact.z 340 (if mayR x0 q n 1 = true then atanHi x0 q n.toNat else 0)) (Fact.eq (.int .i64 (if mayR x0 q n 1 = true then 0 else 1)))) e w' := by
 obtain ⟨ra, HRA⟩ : ∃ r, Hid ((if mayR x0 q n 1 = true then atanLo x0 q n.toNat else 0) = r) := ⟨_, hide rfl⟩
 obtain ⟨rb, HRB⟩ : ∃ r, Hid ((if mayR x0 q n 1 = true then atanHi x0 q n.toNat else 0) = r) := ⟨_, hide rfl⟩
 obtain ⟨rc, HRC⟩ : ∃ r, Hid ((if mayR x0 q n 1 = true then (0 : Int) else 1) = r) := ⟨_, hide rfl⟩
 rw [HRA.out, HRB.out, HRC.out]
 go_enter Try.func23, Try.ntmps23
 have HB : Hid (Below w.heap.size w w) := hide (Below.refl _ _)
 go_upto_region 0 with (fail)
 refine F2.regionS [.al 24 #[.bool n0, .slice A0 l0 c0], .al 24 #[.bool false, .slice none 0 0], .al 24 #[.bool false, .slice none 0 0], .o] [Fact.any, Fact.any, Fact.any, Fact.eq ?ca10_] [5, 8, 9, 10] [5, 8, 9, 10] (by kernel_rfl) ?soa ?sopa (by kernel_rfl) ?sta ?fina
 case soa => exact fun x hx => by cases hx
 case sopa => exact List.Pairwise.nil
 case sta =>
  refine F2.Steps.consA rfl ⟨NoU.two nB nS, ?_⟩ ?_
  ·
   intro vz wz hBz K hK
   replace hK := hK.out
   apply Kept.mk
   simp only [F2.Wp, F2.fc, actv, fill, Act.put, sZ, sS, fC, fN, tA, cS, cZ] at hK ⊢
   go_simp
   exact hK
  refine F2.Steps.consA rfl ⟨NoU.two nB nS, ?_⟩ ?_
  ·
   intro vz wz hBz K hK
   replace hK := hK.out
   apply Kept.mk
   simp only [F2.Wp, F2.fc, actv, fill, Act.put, sZ, sS, fC, fN, tA, cS, cZ] at hK ⊢
   go_simp
   exact hK
  refine F2.Steps.consA rfl ⟨NoU.two nB nS, ?_⟩ ?_
  ·
   intro vz wz hBz K hK
   replace hK := hK.out
   apply Kept.mk
   simp only [F2.Wp, F2.fc, actv, fill, Act.put, sZ, sS, fC, fN, tA, cS, cZ] at hK ⊢
   go_simp
   exact hK
  refine F2.Steps.consO rfl ?_ ?_
  ·
   intro vz wz hBz hDz hTz K hK
   have HW := hBz.ext
   replace hK := hK.out
   apply Kept.mk
   simp only [F2.Wp, F2.fc, actv, fill, Act.put, sZ, sS, fC, fN, tA, cS, cZ] at hK ⊢
   go_simp
   refine hK _ wz (Below.refl _ _) (Fact.eq_mk ?_)
   with_reducible rfl
  exact F2.Steps.nil
 intro va w1 hBz ⟨hOz, hAz, hNz, hSz⟩
 obtain ⟨g5, cs5, E5, hg5, bx5, hs5, hz5⟩ := hAz 0 _ _ (by decide) rfl
 have hzz := hz5 (F2.nost (by kernel_rfl))
 subst hzz
 obtain ⟨g8, cs8, E8, hg8, bx8, hs8, hz8⟩ := hAz 1 _ _ (by decide) rfl
 have hzz := hz8 (F2.nost (by kernel_rfl))
 subst hzz
 obtain ⟨g9, cs9, E9, hg9, bx9, hs9, hz9⟩ := hAz 2 _ _ (by decide) rfl
 have hzz := hz9 (F2.nost (by kernel_rfl))
 subst hzz
 have E10 : va 10 = _ := hOz 3 (by decide) rfl
 have hne5_8 : Hid (¬ g5 = g8) := hide (fun h => hNz 0 1 _ _ _ _ (by decide) (by decide) (by decide) rfl rfl (by rw [E5, E8, h]))
 have hne5_9 : Hid (¬ g5 = g9) := hide (fun h => hNz 0 2 _ _ _ _ (by decide) (by decide) (by decide) rfl rfl (by rw [E5, E9, h]))
 have hne8_9 : Hid (¬ g8 = g9) := hide (fun h => hNz 1 2 _ _ _ _ (by decide) (by decide) (by decide) rfl rfl (by rw [E8, E9, h]))
 simp only [Act.put, actv, fill, fC, fN, tA, cS, cZ]
 simp only [(show va 5 = _ from E5), (show va 8 = _ from E8), (show va 9 = _ from E9), E10]
 clear E5 E8 E9 E10
 have hge5 : w.heap.size ≤ g5 := Nat.le_trans HB.out.size hg5
 have hge8 : w.heap.size ≤ g8 := Nat.le_trans HB.out.size hg8
 have hge9 : w.heap.size ≤ g9 := Nat.le_trans HB.out.size hg9
 replace h0 := h0.ext hBz.ext
 replace HB := hide (HB.out.trans (hBz.below (B := w.heap.size) HB.out.size zE))
 clear hOz hAz hNz hSz hs5 hz5 hs8 hz8 hs9 hz9 hBz
 go_upto_region 1 with (fail)
 refine F2.regionS [.o] [Fact.eq ?cb11_] [11] [11] (by kernel_rfl) ?sob ?sopb (by kernel_rfl) ?stb ?finb
 case sob => exact fun x hx => by cases hx
 case sopb => exact List.Pairwise.nil
 case stb =>
  refine F2.Steps.consO rfl ?_ ?_
  ·
   intro vz wz hBz hDz hTz K hK
   have HW := hBz.ext
   replace hK := hK.out
   apply Kept.mk
   simp only [F2.Wp, F2.fc, actv, fill, Act.put, sZ, sS, fC, fN, tA, cS, cZ] at hK ⊢
   go_simp
   refine hK _ wz (Below.refl _ _) (Fact.eq_mk ?_)
   with_reducible rfl
  exact F2.Steps.nil
 intro vb w2 hBz ⟨hOz, hAz, hNz, hSz⟩
 have E11 : vb 11 = _ := hOz 0 (by decide) rfl
 simp only [Act.put, actv, fill, fC, fN, tA, cS, cZ]
 simp only [E11]
 clear E11
 replace h0 := h0.ext hBz.ext
 replace bx5 := hBz.blk bx5 zN
 replace bx8 := hBz.blk bx8 zN
 replace bx9 := hBz.blk bx9 zN
 replace HB := hide (HB.out.trans (hBz.below (B := w.heap.size) HB.out.size zE))
 clear hOz hAz hNz hSz hBz
 go_upto_region 2 with (fail)
 refine F2.regionS [.o, .o] [Fact.eq ?cc13_, Fact.eq ?cc12_] [13, 12] [13, 12] (by kernel_rfl) ?soc ?sopc (by kernel_rfl) ?stc ?finc
 case soc => exact fun x hx => by cases hx
 case sopc => exact List.Pairwise.nil
 case stc =>
  refine F2.Steps.consO rfl ?_ ?_
  ·
   intro vz wz hBz hDz hTz K hK
   have HW := hBz.ext
   replace hK := hK.out
   apply Kept.mk
   simp only [F2.Wp, F2.fc, actv, fill, Act.put, sZ, sS, fC, fN, tA, cS, cZ] at hK ⊢
   go_simp
   refine hK _ wz (Below.refl _ _) (Fact.eq_mk ?_)
   with_reducible rfl
  refine F2.Steps.consO rfl ?_ ?_
  ·
   intro vz wz hBz hDz hTz K hK
   have E13 : vz 13 = _ := hDz 0 (by kernel_rfl) rfl
   have HW := hBz.ext
   replace hK := hK.out
   apply Kept.mk
   simp only [F2.Wp, F2.fc, actv, fill, Act.put, sZ, sS, fC, fN, tA, cS, cZ] at hK ⊢
   simp only [E13] at hK ⊢
   go_simp
   refine hK _ wz (Below.refl _ _) (Fact.eq_mk ?_)
   with_reducible rfl
  exact F2.Steps.nil
 intro vc w3 hBz ⟨hOz, hAz, hNz, hSz⟩
 have E13 : vc 13 = _ := hOz 0 (by decide) rfl
 have E12 : vc 12 = _ := hOz 1 (by decide) rfl
 simp only [Act.put, actv, fill, fC, fN, tA, cS, cZ]
 simp only [E13, E12]
 clear E13 E12
 replace h0 := h0.ext hBz.ext
 replace bx5 := hBz.blk bx5 zN
 replace bx8 := hBz.blk bx8 zN
 replace bx9 := hBz.blk bx9 zN
 replace HB := hide (HB.out.trans (hBz.below (B := w.heap.size) HB.out.size zE))
 clear hOz hAz hNz hSz hBz
 go_upto_region 4 with (fail)
 refine F2.regionS [.o, .o] [Fact.eq ?cd22_, Fact.eq ?cd21_] [22, 21] [22, 21] (by kernel_rfl) ?sod ?sopd (by kernel_rfl) ?std ?find
 case sod => exact fun x hx => by cases hx
 case sopd => exact List.Pairwise.nil
 case std =>
  refine F2.Steps.consO rfl ?_ ?_
  ·
   intro vz wz hBz hDz hTz K hK
   have HW := hBz.ext
   replace hK := hK.out
   apply Kept.mk
   simp only [F2.Wp, F2.fc, actv, fill, Act.put, sZ, sS, fC, fN, tA, cS, cZ] at hK ⊢
   go_simp
   refine hK _ wz (Below.refl _ _) (Fact.eq_mk ?_)
   with_reducible rfl
  refine F2.Steps.consO rfl ?_ ?_
  ·
   intro vz wz hBz hDz hTz K hK
   have E22 : vz 22 = _ := hDz 0 (by kernel_rfl) rfl
   have HW := hBz.ext
   replace hK := hK.out
   apply Kept.mk
   simp only [F2.Wp, F2.fc, actv, fill, Act.put, sZ, sS, fC, fN, tA, cS, cZ] at hK ⊢
   simp only [E22] at hK ⊢
   go_simp
   refine hK _ wz (Below.refl _ _) (Fact.eq_mk ?_)
   with_reducible rfl
  exact F2.Steps.nil
 intro vd w4 hBz ⟨hOz, hAz, hNz, hSz⟩
 have E22 : vd 22 = _ := hOz 0 (by decide) rfl
 have E21 : vd 21 = _ := hOz 1 (by decide) rfl
 simp only [Act.put, actv, fill, fC, fN, tA, cS, cZ]
 simp only [E22, E21]
 clear E22 E21
 replace h0 := h0.ext hBz.ext
 replace bx5 := hBz.blk bx5 zN
 replace bx8 := hBz.blk bx8 zN
 replace bx9 := hBz.blk bx9 zN
 replace HB := hide (HB.out.trans (hBz.below (B := w.heap.size) HB.out.size zE))
 clear hOz hAz hNz hSz hBz
 go_upto_region 6 with (fail)
 refine F2.regionS [.o, .o] [Fact.eq ?ce31_, Fact.eq ?ce30_] [31, 30] [31, 30] (by kernel_rfl) ?soe ?sope (by kernel_rfl) ?ste ?fine
 case soe => exact fun x hx => by cases hx
 case sope => exact List.Pairwise.nil
 case ste =>
  refine F2.Steps.consO rfl ?_ ?_
  ·
   intro vz wz hBz hDz hTz K hK
   have HW := hBz.ext
   replace hK := hK.out
   apply Kept.mk
   simp only [F2.Wp, F2.fc, actv, fill, Act.put, sZ, sS, fC, fN, tA, cS, cZ] at hK ⊢
   go_simp
   refine hK _ wz (Below.refl _ _) (Fact.eq_mk ?_)
   with_reducible rfl
  refine F2.Steps.consO rfl ?_ ?_
  ·
   intro vz wz hBz hDz hTz K hK
   have E31 : vz 31 = _ := hDz 0 (by kernel_rfl) rfl
   have HW := hBz.ext
   replace hK := hK.out
   apply Kept.mk
   simp only [F2.Wp, F2.fc, actv, fill, Act.put, sZ, sS, fC, fN, tA, cS, cZ] at hK ⊢
   simp only [E31] at hK ⊢
   go_simp
   refine hK _ wz (Below.refl _ _) (Fact.eq_mk ?_)
   with_reducible rfl
  exact F2.Steps.nil
 intro ve w5 hBz ⟨hOz, hAz, hNz, hSz⟩
 have E31 : ve 31 = _ := hOz 0 (by decide) rfl
 have E30 : ve 30 = _ := hOz 1 (by decide) rfl
 simp only [Act.put, actv, fill, fC, fN, tA, cS, cZ]
 simp only [E31, E30]
 clear E31 E30
 replace h0 := h0.ext hBz.ext
 replace bx5 := hBz.blk bx5 zN
 replace bx8 := hBz.blk bx8 zN
 replace bx9 := hBz.blk bx9 zN
 replace HB := hide (HB.out.trans (hBz.below (B := w.heap.size) HB.out.size zE))
 clear hOz hAz hNz hSz hBz
 go_upto_region 7 with (fail)
 refine F2.regionS [.o, .o, .o, .o, .o, .o, .o, .so (g8) 24 #[.bool false, .slice none 0 0], .so (g9) 24 #[.bool false, .slice none 0 0], .o] [Fact.eq ?cf32_, Fact.eq ?cf33_, Fact.eq ?cf34_, Fact.t3 (Fact.z ?kf35_p ?zf35_p) (Fact.z ?kf35_q ?zf35_q) (Fact.eq ?cf35_r), Fact.z ?kf36_ ?zf36_, Fact.z ?kf37_ ?zf37_, Fact.eq ?cf38_, Fact.z ?kfs8_ ?zfs8_, Fact.z ?kfs9_ ?zfs9_, Fact.eq ?cf10_] [32, 33, 34, 35, 36, 37, 38, 10] [32, 33, 34, 35, 36, 37, 38, 0, 0, 10] (by kernel_rfl) ?sof ?sopf (by kernel_rfl) ?stf ?finf
 case sof => exact List.forall_mem_cons.2 ⟨⟨bx8, NoU.two nB nS⟩, List.forall_mem_cons.2 ⟨⟨bx9, NoU.two nB nS⟩, fun x hx => by cases hx⟩⟩
 case sopf => exact List.Pairwise.cons (by intro y hy; simp [F2.sos] at hy; have hne8_9 := hne8_9.out; first | (subst hy; simp; done) | (subst hy; simp; omega) | (rcases hy with rfl | rfl <;> simp <;> omega)) (List.Pairwise.cons (fun y hy => by cases hy) (List.Pairwise.nil))
 case stf =>
  refine F2.Steps.consO rfl ?_ ?_
  ·
   intro vz wz hBz hDz hTz K hK
   have HW := hBz.ext
   have bx5z := hBz.blk bx5 (zM hne5_8.out (zM hne5_9.out zN))
   obtain ⟨zl0, zl1, -⟩ := bx5z.two
   replace hK := hK.out
   apply Kept.mk
   simp only [F2.Wp, F2.fc, actv, fill, Act.put, sZ, sS, fC, fN, tA, cS, cZ] at hK ⊢
   go_simp
   refine hK _ wz (Below.refl _ _) (Fact.eq_mk ?_)
   with_reducible rfl
  refine F2.Steps.consO rfl ?_ ?_
  ·
   intro vz wz hBz hDz hTz K hK
   have HW := hBz.ext
   replace hK := hK.out
   apply Kept.mk
   simp only [F2.Wp, F2.fc, actv, fill, Act.put, sZ, sS, fC, fN, tA, cS, cZ] at hK ⊢
   go_simp
   refine hK _ wz (Below.refl _ _) (Fact.eq_mk ?_)
   with_reducible rfl
  refine F2.Steps.consO rfl ?_ ?_
  ·
   intro vz wz hBz hDz hTz K hK
   have HW := hBz.ext
   replace hK := hK.out
   apply Kept.mk
   simp only [F2.Wp, F2.fc, actv, fill, Act.put, sZ, sS, fC, fN, tA, cS, cZ] at hK ⊢
   go_simp
   refine hK _ wz (Below.refl _ _) (Fact.eq_mk ?_)
   with_reducible rfl
  refine F2.Steps.consO rfl ?_ ?_
  ·
   intro vz wz hBz hDz hTz K hK
   have E32 : vz 32 = _ := hDz 0 (by kernel_rfl) rfl
   have E33 : vz 33 = _ := hDz 1 (by kernel_rfl) rfl
   have E34 : vz 34 = _ := hDz 2 (by kernel_rfl) rfl
   have HW := hBz.ext
   replace hK := hK.out
   apply Kept.mk
   simp only [F2.Wp, F2.fc, actv, fill, Act.put, sZ, sS, fC, fN, tA, cS, cZ] at hK ⊢
   simp only [E32, E33, E34] at hK ⊢
   go_simp
   refine Calls.mono (ratan_named (h0.ext HW) (by omega) HRA HRB HRC) ?_
   rintro e w2z ⟨hb2, uz, rfl, hf⟩
   go_wp2_with fail
   refine hK _ w2z hb2 (Fact.cast (hf) ?_)
   with_reducible rfl
  refine F2.Steps.consO rfl ?_ ?_
  ·
   intro vz wz hBz hDz hTz K hK
   obtain ⟨x35p_, x35q_, x35r_, E35, h35p, h35q, h35r⟩ : TV3 _ _ _ wz (vz 35) := hDz 3 (by kernel_rfl) rfl
   obtain rfl := Fact.eq_of h35r
   have HW := hBz.ext
   replace hK := hK.out
   apply Kept.mk
   simp only [F2.Wp, F2.fc, actv, fill, Act.put, sZ, sS, fC, fN, tA, cS, cZ] at hK ⊢
   simp only [E35] at hK ⊢
   go_simp
   refine hK _ wz (Below.refl _ _) (Fact.cast (h35p) ?_)
   with_reducible rfl
  refine F2.Steps.consO rfl ?_ ?_
  ·
   intro vz wz hBz hDz hTz K hK
   obtain ⟨x35p_, x35q_, x35r_, E35, h35p, h35q, h35r⟩ : TV3 _ _ _ wz (vz 35) := hDz 3 (by kernel_rfl) rfl
   obtain rfl := Fact.eq_of h35r
   have HW := hBz.ext
   replace hK := hK.out
   apply Kept.mk
   simp only [F2.Wp, F2.fc, actv, fill, Act.put, sZ, sS, fC, fN, tA, cS, cZ] at hK ⊢
   simp only [E35] at hK ⊢
   go_simp
   refine hK _ wz (Below.refl _ _) (Fact.cast (h35q) ?_)
   with_reducible rfl
  refine F2.Steps.consO rfl ?_ ?_
  ·
   intro vz wz hBz hDz hTz K hK
   obtain ⟨x35p_, x35q_, x35r_, E35, h35p, h35q, h35r⟩ : TV3 _ _ _ wz (vz 35) := hDz 3 (by kernel_rfl) rfl
   obtain rfl := Fact.eq_of h35r
   have HW := hBz.ext
   replace hK := hK.out
   apply Kept.mk
   simp only [F2.Wp, F2.fc, actv, fill, Act.put, sZ, sS, fC, fN, tA, cS, cZ] at hK ⊢
   simp only [E35] at hK ⊢
   go_simp
   refine hK _ wz (Below.refl _ _) (Fact.eq_mk ?_)
   with_reducible rfl
  refine F2.Steps.consT rfl ?_ ?_
  ·
   intro vz wz hBz hDz hbz K hK
   obtain ⟨zc0, zc1, zc2, zc3⟩ := hbz.two
   obtain ⟨n36_, A36_, l36_, c36_, E36, q36⟩ : IntV 0 _ _ wz (vz 36) := hDz 4 (by kernel_rfl) rfl
   have HW := hBz.ext
   replace hK := hK.out
   apply Kept.mk
   simp only [F2.Wp, F2.fc, actv, fill, Act.put, sZ, sS, fC, fN, tA, cS, cZ] at hK ⊢
   simp only [E36] at hK ⊢
   go_simp
   refine hK _ ((Far.set _ _ 0 _).trans (Far.set _ _ 1 _)) ⟨_, blk_two hbz, NoU.two nB nS, Fact.cast (Fact.z_mk q36) ?_⟩
   with_reducible rfl
  refine F2.Steps.consT rfl ?_ ?_
  ·
   intro vz wz hBz hDz hbz K hK
   obtain ⟨zc0, zc1, zc2, zc3⟩ := hbz.two
   obtain ⟨n37_, A37_, l37_, c37_, E37, q37⟩ : IntV 0 _ _ wz (vz 37) := hDz 5 (by kernel_rfl) rfl
   have HW := hBz.ext
   replace hK := hK.out
   apply Kept.mk
   simp only [F2.Wp, F2.fc, actv, fill, Act.put, sZ, sS, fC, fN, tA, cS, cZ] at hK ⊢
   simp only [E37] at hK ⊢
   go_simp
   refine hK _ ((Far.set _ _ 0 _).trans (Far.set _ _ 1 _)) ⟨_, blk_two hbz, NoU.two nB nS, Fact.cast (Fact.z_mk q37) ?_⟩
   with_reducible rfl
  refine F2.Steps.consO rfl ?_ ?_
  ·
   intro vz wz hBz hDz hTz K hK
   have E38 : vz 38 = _ := hDz 6 (by kernel_rfl) rfl
   have HW := hBz.ext
   replace hK := hK.out
   apply Kept.mk
   simp only [F2.Wp, F2.fc, actv, fill, Act.put, sZ, sS, fC, fN, tA, cS, cZ] at hK ⊢
   simp only [E38] at hK ⊢
   go_simp
   refine hK _ wz (Below.refl _ _) (Fact.eq_mk ?_)
   with_reducible rfl
  exact F2.Steps.nil
 intro vf w6 hBz ⟨hOz, hAz, hNz, hSz⟩
 have E32 : vf 32 = _ := hOz 0 (by decide) rfl
 have E33 : vf 33 = _ := hOz 1 (by decide) rfl
 have E34 : vf 34 = _ := hOz 2 (by decide) rfl
 obtain ⟨x35p_, x35q_, x35r_, E35, h35p, h35q, h35r⟩ : TV3 _ _ _ w6 (vf 35) := hOz 3 (by decide) rfl
 obtain rfl := Fact.eq_of h35r
 obtain ⟨n36_, A36_, l36_, c36_, E36, q36⟩ : IntV 0 _ _ w6 (vf 36) := hOz 4 (by decide) rfl
 obtain ⟨n37_, A37_, l37_, c37_, E37, q37⟩ : IntV 0 _ _ w6 (vf 37) := hOz 5 (by decide) rfl
 have E38 : vf 38 = _ := hOz 6 (by decide) rfl
 obtain ⟨cs8, bx8n, hs8⟩ := hSz 7 _ _ _ (by decide) rfl
 obtain ⟨n8sf_, A8sf_, l8sf_, c8sf_, E8sf, q8sf⟩ : IntV 0 _ _ w6 (.agg cs8) := hs8
 injection E8sf with E8sf
 subst E8sf
 obtain ⟨cs9, bx9n, hs9⟩ := hSz 8 _ _ _ (by decide) rfl
 obtain ⟨n9sf_, A9sf_, l9sf_, c9sf_, E9sf, q9sf⟩ : IntV 0 _ _ w6 (.agg cs9) := hs9
 injection E9sf with E9sf
 subst E9sf
 have E10 : vf 10 = _ := hOz 9 (by decide) rfl
 simp only [Act.put, actv, fill, fC, fN, tA, cS, cZ]
 simp only [E32, E33, E34, E35, E36, E37, E38, E10]
 clear E32 E33 E34 E35 E36 E37 E38 E10
 replace h0 := h0.ext hBz.ext
 replace bx5 := hBz.blk bx5 (zM hne5_8.out (zM hne5_9.out zN))
 replace HB := hide (HB.out.trans (hBz.below (B := w.heap.size) HB.out.size (zA hge8 (zA hge9 zE))))
 clear bx8
 clear bx9
 have bx8 := bx8n
 clear bx8n
 have bx9 := bx9n
 clear bx9n
 clear hOz hAz hNz hSz hBz
 go_wp2_with fail
 refine bodyPost_ret (results_int_int_tmp rfl _ _ _ _ _ _ _ _ _ _ rfl bx8 rfl bx9) rfl ⟨HB.out, ?_⟩
 exact VF.mk (Fact.t3_mk (Fact.z_mk q8sf) (Fact.z_mk q9sf) (Fact.eq_self _ _))
set_option maxHeartbeats 4000000 in
set_option maxRecDepth 100000 in
theorem sum3_calls {w : World}  {k0 : Nat} {n0 : Bool} {A0 : Option Addr} {l0 c0 : Nat} {x0 : Int} {q n : Int} (h0 : Q w k0 n0 A0 l0 c0 x0) (hk0 : k0 ≤ 40) :
    Calls Try.prog 23 #[.int .i64 3, .agg #[.bool n0, .slice A0 l0 c0], .int .i64 q, .int .i64 n] w fun e w' => Below w.heap.size w w' ∧ VF (Fact.t3 (Fact.z 340 (if mayR x0 q n 4 = true then sinLo x0 q n.toNat else 0)) (Fact.z 340 (if mayR x0 q n 4 = true then sinHi x0 q n.toNat else 0)) (Fact.eq (.int .i64 (if mayR x0 q n 4 = true then 0 else 1)))) e w' := by
 obtain ⟨ra, HRA⟩ : ∃ r, Hid ((if mayR x0 q n 4 = true then sinLo x0 q n.toNat else 0) = r) := ⟨_, hide rfl⟩
 obtain ⟨rb, HRB⟩ : ∃ r, Hid ((if mayR x0 q n 4 = true then sinHi x0 q n.toNat else 0) = r) := ⟨_, hide rfl⟩
 obtain ⟨rc, HRC⟩ : ∃ r, Hid ((if mayR x0 q n 4 = true then (0 : Int) else 1) = r) := ⟨_, hide rfl⟩
 rw [HRA.out, HRB.out, HRC.out]
 go_enter Try.func23, Try.ntmps23
 have HB : Hid (Below w.heap.size w w) := hide (Below.refl _ _)
 go_upto_region 0 with (fail)
 refine F2.regionS [.al 24 #[.bool n0, .slice A0 l0 c0], .al 24 #[.bool false, .slice none 0 0], .al 24 #[.bool false, .slice none 0 0], .o] [Fact.any, Fact.any, Fact.any, Fact.eq ?ca10_] [5, 8, 9, 10] [5, 8, 9, 10] (by kernel_rfl) ?soa ?sopa (by kernel_rfl) ?sta ?fina
 case soa => exact fun x hx => by cases hx
 case sopa => exact List.Pairwise.nil
 case sta =>
  refine F2.Steps.consA rfl ⟨NoU.two nB nS, ?_⟩ ?_
  ·
   intro vz wz hBz K hK
   replace hK := hK.out
   apply Kept.mk
   simp only [F2.Wp, F2.fc, actv, fill, Act.put, sZ, sS, fC, fN, tA, cS, cZ] at hK ⊢
   go_simp
   exact hK
  refine F2.Steps.consA rfl ⟨NoU.two nB nS, ?_⟩ ?_
  ·
   intro vz wz hBz K hK
   replace hK := hK.out
   apply Kept.mk
   simp only [F2.Wp, F2.fc, actv, fill, Act.put, sZ, sS, fC, fN, tA, cS, cZ] at hK ⊢
   go_simp
   exact hK
  refine F2.Steps.consA rfl ⟨NoU.two nB nS, ?_⟩ ?_
  ·
   intro vz wz hBz K hK
   replace hK := hK.out
   apply Kept.mk
   simp only [F2.Wp, F2.fc, actv, fill, Act.put, sZ, sS, fC, fN, tA, cS, cZ] at hK ⊢
   go_simp
   exact hK
  refine F2.Steps.consO rfl ?_ ?_
  ·
   intro vz wz hBz hDz hTz K hK
   have HW := hBz.ext
   replace hK := hK.out
   apply Kept.mk
   simp only [F2.Wp, F2.fc, actv, fill, Act.put, sZ, sS, fC, fN, tA, cS, cZ] at hK ⊢
   go_simp
   refine hK _ wz (Below.refl _ _) (Fact.eq_mk ?_)
   with_reducible rfl
  exact F2.Steps.nil
 intro va w1 hBz ⟨hOz, hAz, hNz, hSz⟩
 obtain ⟨g5, cs5, E5, hg5, bx5, hs5, hz5⟩ := hAz 0 _ _ (by decide) rfl
 have hzz := hz5 (F2.nost (by kernel_rfl))
 subst hzz
 obtain ⟨g8, cs8, E8, hg8, bx8, hs8, hz8⟩ := hAz 1 _ _ (by decide) rfl
 have hzz := hz8 (F2.nost (by kernel_rfl))
 subst hzz
 obtain ⟨g9, cs9, E9, hg9, bx9, hs9, hz9⟩ := hAz 2 _ _ (by decide) rfl
 have hzz := hz9 (F2.nost (by kernel_rfl))
 subst hzz
 have E10 : va 10 = _ := hOz 3 (by decide) rfl
 have hne5_8 : Hid (¬ g5 = g8) := hide (fun h => hNz 0 1 _ _ _ _ (by decide) (by decide) (by decide) rfl rfl (by rw [E5, E8, h]))
 have hne5_9 : Hid (¬ g5 = g9) := hide (fun h => hNz 0 2 _ _ _ _ (by decide) (by decide) (by decide) rfl rfl (by rw [E5, E9, h]))
 have hne8_9 : Hid (¬ g8 = g9) := hide (fun h => hNz 1 2 _ _ _ _ (by decide) (by decide) (by decide) rfl rfl (by rw [E8, E9, h]))
 simp only [Act.put, actv, fill, fC, fN, tA, cS, cZ]
 simp only [(show va 5 = _ from E5), (show va 8 = _ from E8), (show va 9 = _ from E9), E10]
 clear E5 E8 E9 E10
 have hge5 : w.heap.size ≤ g5 := Nat.le_trans HB.out.size hg5
 have hge8 : w.heap.size ≤ g8 := Nat.le_trans HB.out.size hg8
 have hge9 : w.heap.size ≤ g9 := Nat.le_trans HB.out.size hg9
 replace h0 := h0.ext hBz.ext
 replace HB := hide (HB.out.trans (hBz.below (B := w.heap.size) HB.out.size zE))
 clear hOz hAz hNz hSz hs5 hz5 hs8 hz8 hs9 hz9 hBz
 go_upto_region 1 with (fail)
 refine F2.regionS [.o] [Fact.eq ?cb11_] [11] [11] (by kernel_rfl) ?sob ?sopb (by kernel_rfl) ?stb ?finb
 case sob => exact fun x hx => by cases hx
 case sopb => exact List.Pairwise.nil
 case stb =>
  refine F2.Steps.consO rfl ?_ ?_
  ·
   intro vz wz hBz hDz hTz K hK
   have HW := hBz.ext
   replace hK := hK.out
   apply Kept.mk
   simp only [F2.Wp, F2.fc, actv, fill, Act.put, sZ, sS, fC, fN, tA, cS, cZ] at hK ⊢
   go_simp
   refine hK _ wz (Below.refl _ _) (Fact.eq_mk ?_)
   with_reducible rfl
  exact F2.Steps.nil
 intro vb w2 hBz ⟨hOz, hAz, hNz, hSz⟩
 have E11 : vb 11 = _ := hOz 0 (by decide) rfl
 simp only [Act.put, actv, fill, fC, fN, tA, cS, cZ]
 simp only [E11]
 clear E11
 replace h0 := h0.ext hBz.ext
 replace bx5 := hBz.blk bx5 zN
 replace bx8 := hBz.blk bx8 zN
 replace bx9 := hBz.blk bx9 zN
 replace HB := hide (HB.out.trans (hBz.below (B := w.heap.size) HB.out.size zE))
 clear hOz hAz hNz hSz hBz
 go_upto_region 2 with (fail)
 refine F2.regionS [.o, .o] [Fact.eq ?cc13_, Fact.eq ?cc12_] [13, 12] [13, 12] (by kernel_rfl) ?soc ?sopc (by kernel_rfl) ?stc ?finc
 case soc => exact fun x hx => by cases hx
 case sopc => exact List.Pairwise.nil
 case stc =>
  refine F2.Steps.consO rfl ?_ ?_
  ·
   intro vz wz hBz hDz hTz K hK
   have HW := hBz.ext
   replace hK := hK.out
   apply Kept.mk
   simp only [F2.Wp, F2.fc, actv, fill, Act.put, sZ, sS, fC, fN, tA, cS, cZ] at hK ⊢
   go_simp
   refine hK _ wz (Below.refl _ _) (Fact.eq_mk ?_)
   with_reducible rfl
  refine F2.Steps.consO rfl ?_ ?_
  ·
   intro vz wz hBz hDz hTz K hK
   have E13 : vz 13 = _ := hDz 0 (by kernel_rfl) rfl
   have HW := hBz.ext
   replace hK := hK.out
   apply Kept.mk
   simp only [F2.Wp, F2.fc, actv, fill, Act.put, sZ, sS, fC, fN, tA, cS, cZ] at hK ⊢
   simp only [E13] at hK ⊢
   go_simp
   refine hK _ wz (Below.refl _ _) (Fact.eq_mk ?_)
   with_reducible rfl
  exact F2.Steps.nil
 intro vc w3 hBz ⟨hOz, hAz, hNz, hSz⟩
 have E13 : vc 13 = _ := hOz 0 (by decide) rfl
 have E12 : vc 12 = _ := hOz 1 (by decide) rfl
 simp only [Act.put, actv, fill, fC, fN, tA, cS, cZ]
 simp only [E13, E12]
 clear E13 E12
 replace h0 := h0.ext hBz.ext
 replace bx5 := hBz.blk bx5 zN
 replace bx8 := hBz.blk bx8 zN
 replace bx9 := hBz.blk bx9 zN
 replace HB := hide (HB.out.trans (hBz.below (B := w.heap.size) HB.out.size zE))
 clear hOz hAz hNz hSz hBz
 go_upto_region 4 with (fail)
 refine F2.regionS [.o, .o] [Fact.eq ?cd22_, Fact.eq ?cd21_] [22, 21] [22, 21] (by kernel_rfl) ?sod ?sopd (by kernel_rfl) ?std ?find
 case sod => exact fun x hx => by cases hx
 case sopd => exact List.Pairwise.nil
 case std =>
  refine F2.Steps.consO rfl ?_ ?_
  ·
   intro vz wz hBz hDz hTz K hK
   have HW := hBz.ext
   replace hK := hK.out
   apply Kept.mk
   simp only [F2.Wp, F2.fc, actv, fill, Act.put, sZ, sS, fC, fN, tA, cS, cZ] at hK ⊢
   go_simp
   refine hK _ wz (Below.refl _ _) (Fact.eq_mk ?_)
   with_reducible rfl
  refine F2.Steps.consO rfl ?_ ?_
  ·
   intro vz wz hBz hDz hTz K hK
   have E22 : vz 22 = _ := hDz 0 (by kernel_rfl) rfl
   have HW := hBz.ext
   replace hK := hK.out
   apply Kept.mk
   simp only [F2.Wp, F2.fc, actv, fill, Act.put, sZ, sS, fC, fN, tA, cS, cZ] at hK ⊢
   simp only [E22] at hK ⊢
   go_simp
   refine hK _ wz (Below.refl _ _) (Fact.eq_mk ?_)
   with_reducible rfl
  exact F2.Steps.nil
 intro vd w4 hBz ⟨hOz, hAz, hNz, hSz⟩
 have E22 : vd 22 = _ := hOz 0 (by decide) rfl
 have E21 : vd 21 = _ := hOz 1 (by decide) rfl
 simp only [Act.put, actv, fill, fC, fN, tA, cS, cZ]
 simp only [E22, E21]
 clear E22 E21
 replace h0 := h0.ext hBz.ext
 replace bx5 := hBz.blk bx5 zN
 replace bx8 := hBz.blk bx8 zN
 replace bx9 := hBz.blk bx9 zN
 replace HB := hide (HB.out.trans (hBz.below (B := w.heap.size) HB.out.size zE))
 clear hOz hAz hNz hSz hBz
 go_upto_region 6 with (fail)
 refine F2.regionS [.o, .o] [Fact.eq ?ce31_, Fact.eq ?ce30_] [31, 30] [31, 30] (by kernel_rfl) ?soe ?sope (by kernel_rfl) ?ste ?fine
 case soe => exact fun x hx => by cases hx
 case sope => exact List.Pairwise.nil
 case ste =>
  refine F2.Steps.consO rfl ?_ ?_
  ·
   intro vz wz hBz hDz hTz K hK
   have HW := hBz.ext
   replace hK := hK.out
   apply Kept.mk
   simp only [F2.Wp, F2.fc, actv, fill, Act.put, sZ, sS, fC, fN, tA, cS, cZ] at hK ⊢
   go_simp
   refine hK _ wz (Below.refl _ _) (Fact.eq_mk ?_)
   with_reducible rfl
  refine F2.Steps.consO rfl ?_ ?_
  ·
   intro vz wz hBz hDz hTz K hK
   have E31 : vz 31 = _ := hDz 0 (by kernel_rfl) rfl
   have HW := hBz.ext
   replace hK := hK.out
   apply Kept.mk
   simp only [F2.Wp, F2.fc, actv, fill, Act.put, sZ, sS, fC, fN, tA, cS, cZ] at hK ⊢
   simp only [E31] at hK ⊢
   go_simp
   refine hK _ wz (Below.refl _ _) (Fact.eq_mk ?_)
   with_reducible rfl
  exact F2.Steps.nil
 intro ve w5 hBz ⟨hOz, hAz, hNz, hSz⟩
 have E31 : ve 31 = _ := hOz 0 (by decide) rfl
 have E30 : ve 30 = _ := hOz 1 (by decide) rfl
 simp only [Act.put, actv, fill, fC, fN, tA, cS, cZ]
 simp only [E31, E30]
 clear E31 E30
 replace h0 := h0.ext hBz.ext
 replace bx5 := hBz.blk bx5 zN
 replace bx8 := hBz.blk bx8 zN
 replace bx9 := hBz.blk bx9 zN
 replace HB := hide (HB.out.trans (hBz.below (B := w.heap.size) HB.out.size zE))
 clear hOz hAz hNz hSz hBz
 go_upto_region 8 with (fail)
 refine F2.regionS [.o, .o] [Fact.eq ?cf40_, Fact.eq ?cf39_] [40, 39] [40, 39] (by kernel_rfl) ?sof ?sopf (by kernel_rfl) ?stf ?finf
 case sof => exact fun x hx => by cases hx
 case sopf => exact List.Pairwise.nil
 case stf =>
  refine F2.Steps.consO rfl ?_ ?_
  ·
   intro vz wz hBz hDz hTz K hK
   have HW := hBz.ext
   replace hK := hK.out
   apply Kept.mk
   simp only [F2.Wp, F2.fc, actv, fill, Act.put, sZ, sS, fC, fN, tA, cS, cZ] at hK ⊢
   go_simp
   refine hK _ wz (Below.refl _ _) (Fact.eq_mk ?_)
   with_reducible rfl
  refine F2.Steps.consO rfl ?_ ?_
  ·
   intro vz wz hBz hDz hTz K hK
   have E40 : vz 40 = _ := hDz 0 (by kernel_rfl) rfl
   have HW := hBz.ext
   replace hK := hK.out
   apply Kept.mk
   simp only [F2.Wp, F2.fc, actv, fill, Act.put, sZ, sS, fC, fN, tA, cS, cZ] at hK ⊢
   simp only [E40] at hK ⊢
   go_simp
   refine hK _ wz (Below.refl _ _) (Fact.eq_mk ?_)
   with_reducible rfl
  exact F2.Steps.nil
 intro vf w6 hBz ⟨hOz, hAz, hNz, hSz⟩
 have E40 : vf 40 = _ := hOz 0 (by decide) rfl
 have E39 : vf 39 = _ := hOz 1 (by decide) rfl
 simp only [Act.put, actv, fill, fC, fN, tA, cS, cZ]
 simp only [E40, E39]
 clear E40 E39
 replace h0 := h0.ext hBz.ext
 replace bx5 := hBz.blk bx5 zN
 replace bx8 := hBz.blk bx8 zN
 replace bx9 := hBz.blk bx9 zN
 replace HB := hide (HB.out.trans (hBz.below (B := w.heap.size) HB.out.size zE))
 clear hOz hAz hNz hSz hBz
 go_upto_region 9 with (fail)
 refine F2.regionS [.o, .o, .o, .o, .o, .o, .o, .so (g8) 24 #[.bool false, .slice none 0 0], .so (g9) 24 #[.bool false, .slice none 0 0], .o] [Fact.eq ?cg41_, Fact.eq ?cg42_, Fact.eq ?cg43_, Fact.t3 (Fact.z ?kg44_p ?zg44_p) (Fact.z ?kg44_q ?zg44_q) (Fact.eq ?cg44_r), Fact.z ?kg45_ ?zg45_, Fact.z ?kg46_ ?zg46_, Fact.eq ?cg47_, Fact.z ?kgs8_ ?zgs8_, Fact.z ?kgs9_ ?zgs9_, Fact.eq ?cg10_] [41, 42, 43, 44, 45, 46, 47, 10] [41, 42, 43, 44, 45, 46, 47, 0, 0, 10] (by kernel_rfl) ?sog ?sopg (by kernel_rfl) ?stg ?fing
 case sog => exact List.forall_mem_cons.2 ⟨⟨bx8, NoU.two nB nS⟩, List.forall_mem_cons.2 ⟨⟨bx9, NoU.two nB nS⟩, fun x hx => by cases hx⟩⟩
 case sopg => exact List.Pairwise.cons (by intro y hy; simp [F2.sos] at hy; have hne8_9 := hne8_9.out; first | (subst hy; simp; done) | (subst hy; simp; omega) | (rcases hy with rfl | rfl <;> simp <;> omega)) (List.Pairwise.cons (fun y hy => by cases hy) (List.Pairwise.nil))
 case stg =>
  refine F2.Steps.consO rfl ?_ ?_
  ·
   intro vz wz hBz hDz hTz K hK
   have HW := hBz.ext
   have bx5z := hBz.blk bx5 (zM hne5_8.out (zM hne5_9.out zN))
   obtain ⟨zl0, zl1, -⟩ := bx5z.two
   replace hK := hK.out
   apply Kept.mk
   simp only [F2.Wp, F2.fc, actv, fill, Act.put, sZ, sS, fC, fN, tA, cS, cZ] at hK ⊢
   go_simp
   refine hK _ wz (Below.refl _ _) (Fact.eq_mk ?_)
   with_reducible rfl
  refine F2.Steps.consO rfl ?_ ?_
  ·
   intro vz wz hBz hDz hTz K hK
   have HW := hBz.ext
   replace hK := hK.out
   apply Kept.mk
   simp only [F2.Wp, F2.fc, actv, fill, Act.put, sZ, sS, fC, fN, tA, cS, cZ] at hK ⊢
   go_simp
   refine hK _ wz (Below.refl _ _) (Fact.eq_mk ?_)
   with_reducible rfl
  refine F2.Steps.consO rfl ?_ ?_
  ·
   intro vz wz hBz hDz hTz K hK
   have HW := hBz.ext
   replace hK := hK.out
   apply Kept.mk
   simp only [F2.Wp, F2.fc, actv, fill, Act.put, sZ, sS, fC, fN, tA, cS, cZ] at hK ⊢
   go_simp
   refine hK _ wz (Below.refl _ _) (Fact.eq_mk ?_)
   with_reducible rfl
  refine F2.Steps.consO rfl ?_ ?_
  ·
   intro vz wz hBz hDz hTz K hK
   have E41 : vz 41 = _ := hDz 0 (by kernel_rfl) rfl
   have E42 : vz 42 = _ := hDz 1 (by kernel_rfl) rfl
   have E43 : vz 43 = _ := hDz 2 (by kernel_rfl) rfl
   have HW := hBz.ext
   replace hK := hK.out
   apply Kept.mk
   simp only [F2.Wp, F2.fc, actv, fill, Act.put, sZ, sS, fC, fN, tA, cS, cZ] at hK ⊢
   simp only [E41, E42, E43] at hK ⊢
   go_simp
   refine Calls.mono (rsin_named (h0.ext HW) (by omega) HRA HRB HRC) ?_
   rintro e w2z ⟨hb2, uz, rfl, hf⟩
   go_wp2_with fail
   refine hK _ w2z hb2 (Fact.cast (hf) ?_)
   with_reducible rfl
  refine F2.Steps.consO rfl ?_ ?_
  ·
   intro vz wz hBz hDz hTz K hK
   obtain ⟨x44p_, x44q_, x44r_, E44, h44p, h44q, h44r⟩ : TV3 _ _ _ wz (vz 44) := hDz 3 (by kernel_rfl) rfl
   obtain rfl := Fact.eq_of h44r
   have HW := hBz.ext
   replace hK := hK.out
   apply Kept.mk
   simp only [F2.Wp, F2.fc, actv, fill, Act.put, sZ, sS, fC, fN, tA, cS, cZ] at hK ⊢
   simp only [E44] at hK ⊢
   go_simp
   refine hK _ wz (Below.refl _ _) (Fact.cast (h44p) ?_)
   with_reducible rfl
  refine F2.Steps.consO rfl ?_ ?_
  ·
   intro vz wz hBz hDz hTz K hK
   obtain ⟨x44p_, x44q_, x44r_, E44, h44p, h44q, h44r⟩ : TV3 _ _ _ wz (vz 44) := hDz 3 (by kernel_rfl) rfl
   obtain rfl := Fact.eq_of h44r
   have HW := hBz.ext
   replace hK := hK.out
   apply Kept.mk
   simp only [F2.Wp, F2.fc, actv, fill, Act.put, sZ, sS, fC, fN, tA, cS, cZ] at hK ⊢
   simp only [E44] at hK ⊢
   go_simp
   refine hK _ wz (Below.refl _ _) (Fact.cast (h44q) ?_)
   with_reducible rfl
  refine F2.Steps.consO rfl ?_ ?_
  ·
   intro vz wz hBz hDz hTz K hK
   obtain ⟨x44p_, x44q_, x44r_, E44, h44p, h44q, h44r⟩ : TV3 _ _ _ wz (vz 44) := hDz 3 (by kernel_rfl) rfl
   obtain rfl := Fact.eq_of h44r
   have HW := hBz.ext
   replace hK := hK.out
   apply Kept.mk
   simp only [F2.Wp, F2.fc, actv, fill, Act.put, sZ, sS, fC, fN, tA, cS, cZ] at hK ⊢
   simp only [E44] at hK ⊢
   go_simp
   refine hK _ wz (Below.refl _ _) (Fact.eq_mk ?_)
   with_reducible rfl
  refine F2.Steps.consT rfl ?_ ?_
  ·
   intro vz wz hBz hDz hbz K hK
   obtain ⟨zc0, zc1, zc2, zc3⟩ := hbz.two
   obtain ⟨n45_, A45_, l45_, c45_, E45, q45⟩ : IntV 0 _ _ wz (vz 45) := hDz 4 (by kernel_rfl) rfl
   have HW := hBz.ext
   replace hK := hK.out
   apply Kept.mk
   simp only [F2.Wp, F2.fc, actv, fill, Act.put, sZ, sS, fC, fN, tA, cS, cZ] at hK ⊢
   simp only [E45] at hK ⊢
   go_simp
   refine hK _ ((Far.set _ _ 0 _).trans (Far.set _ _ 1 _)) ⟨_, blk_two hbz, NoU.two nB nS, Fact.cast (Fact.z_mk q45) ?_⟩
   with_reducible rfl
  refine F2.Steps.consT rfl ?_ ?_
  ·
   intro vz wz hBz hDz hbz K hK
   obtain ⟨zc0, zc1, zc2, zc3⟩ := hbz.two
   obtain ⟨n46_, A46_, l46_, c46_, E46, q46⟩ : IntV 0 _ _ wz (vz 46) := hDz 5 (by kernel_rfl) rfl
   have HW := hBz.ext
   replace hK := hK.out
   apply Kept.mk
   simp only [F2.Wp, F2.fc, actv, fill, Act.put, sZ, sS, fC, fN, tA, cS, cZ] at hK ⊢
   simp only [E46] at hK ⊢
   go_simp
   refine hK _ ((Far.set _ _ 0 _).trans (Far.set _ _ 1 _)) ⟨_, blk_two hbz, NoU.two nB nS, Fact.cast (Fact.z_mk q46) ?_⟩
   with_reducible rfl
  refine F2.Steps.consO rfl ?_ ?_
  ·
   intro vz wz hBz hDz hTz K hK
   have E47 : vz 47 = _ := hDz 6 (by kernel_rfl) rfl
   have HW := hBz.ext
   replace hK := hK.out
   apply Kept.mk
   simp only [F2.Wp, F2.fc, actv, fill, Act.put, sZ, sS, fC, fN, tA, cS, cZ] at hK ⊢
   simp only [E47] at hK ⊢
   go_simp
   refine hK _ wz (Below.refl _ _) (Fact.eq_mk ?_)
   with_reducible rfl
  exact F2.Steps.nil
 intro vg w7 hBz ⟨hOz, hAz, hNz, hSz⟩
 have E41 : vg 41 = _ := hOz 0 (by decide) rfl
 have E42 : vg 42 = _ := hOz 1 (by decide) rfl
 have E43 : vg 43 = _ := hOz 2 (by decide) rfl
 obtain ⟨x44p_, x44q_, x44r_, E44, h44p, h44q, h44r⟩ : TV3 _ _ _ w7 (vg 44) := hOz 3 (by decide) rfl
 obtain rfl := Fact.eq_of h44r
 obtain ⟨n45_, A45_, l45_, c45_, E45, q45⟩ : IntV 0 _ _ w7 (vg 45) := hOz 4 (by decide) rfl
 obtain ⟨n46_, A46_, l46_, c46_, E46, q46⟩ : IntV 0 _ _ w7 (vg 46) := hOz 5 (by decide) rfl
 have E47 : vg 47 = _ := hOz 6 (by decide) rfl
 obtain ⟨cs8, bx8n, hs8⟩ := hSz 7 _ _ _ (by decide) rfl
 obtain ⟨n8sg_, A8sg_, l8sg_, c8sg_, E8sg, q8sg⟩ : IntV 0 _ _ w7 (.agg cs8) := hs8
 injection E8sg with E8sg
 subst E8sg
 obtain ⟨cs9, bx9n, hs9⟩ := hSz 8 _ _ _ (by decide) rfl
 obtain ⟨n9sg_, A9sg_, l9sg_, c9sg_, E9sg, q9sg⟩ : IntV 0 _ _ w7 (.agg cs9) := hs9
 injection E9sg with E9sg
 subst E9sg
 have E10 : vg 10 = _ := hOz 9 (by decide) rfl
 simp only [Act.put, actv, fill, fC, fN, tA, cS, cZ]
 simp only [E41, E42, E43, E44, E45, E46, E47, E10]
 clear E41 E42 E43 E44 E45 E46 E47 E10
 replace h0 := h0.ext hBz.ext
 replace bx5 := hBz.blk bx5 (zM hne5_8.out (zM hne5_9.out zN))
 replace HB := hide (HB.out.trans (hBz.below (B := w.heap.size) HB.out.size (zA hge8 (zA hge9 zE))))
 clear bx8
 clear bx9
 have bx8 := bx8n
 clear bx8n
 have bx9 := bx9n
 clear bx9n
 clear hOz hAz hNz hSz hBz
 go_wp2_with fail
 refine bodyPost_ret (results_int_int_tmp rfl _ _ _ _ _ _ _ _ _ _ rfl bx8 rfl bx9) rfl ⟨HB.out, ?_⟩
 exact VF.mk (Fact.t3_mk (Fact.z_mk q8sg) (Fact.z_mk q9sg) (Fact.eq_self _ _))
set_option maxHeartbeats 4000000 in
set_option maxRecDepth 100000 in
theorem sum4_calls {w : World}  {k0 : Nat} {n0 : Bool} {A0 : Option Addr} {l0 c0 : Nat} {x0 : Int} {q n : Int} (h0 : Q w k0 n0 A0 l0 c0 x0) (hk0 : k0 ≤ 40) :
    Calls Try.prog 23 #[.int .i64 4, .agg #[.bool n0, .slice A0 l0 c0], .int .i64 q, .int .i64 n] w fun e w' => Below w.heap.size w w' ∧ VF (Fact.t3 (Fact.z 340 (if mayR x0 q n 4 = true then cosLo x0 q n.toNat else 0)) (Fact.z 340 (if mayR x0 q n 4 = true then cosHi x0 q n.toNat else 0)) (Fact.eq (.int .i64 (if mayR x0 q n 4 = true then 0 else 1)))) e w' := by
 obtain ⟨ra, HRA⟩ : ∃ r, Hid ((if mayR x0 q n 4 = true then cosLo x0 q n.toNat else 0) = r) := ⟨_, hide rfl⟩
 obtain ⟨rb, HRB⟩ : ∃ r, Hid ((if mayR x0 q n 4 = true then cosHi x0 q n.toNat else 0) = r) := ⟨_, hide rfl⟩
 obtain ⟨rc, HRC⟩ : ∃ r, Hid ((if mayR x0 q n 4 = true then (0 : Int) else 1) = r) := ⟨_, hide rfl⟩
 rw [HRA.out, HRB.out, HRC.out]
 go_enter Try.func23, Try.ntmps23
 have HB : Hid (Below w.heap.size w w) := hide (Below.refl _ _)
 go_upto_region 0 with (fail)
 refine F2.regionS [.al 24 #[.bool n0, .slice A0 l0 c0], .al 24 #[.bool false, .slice none 0 0], .al 24 #[.bool false, .slice none 0 0], .o] [Fact.any, Fact.any, Fact.any, Fact.eq ?ca10_] [5, 8, 9, 10] [5, 8, 9, 10] (by kernel_rfl) ?soa ?sopa (by kernel_rfl) ?sta ?fina
 case soa => exact fun x hx => by cases hx
 case sopa => exact List.Pairwise.nil
 case sta =>
  refine F2.Steps.consA rfl ⟨NoU.two nB nS, ?_⟩ ?_
  ·
   intro vz wz hBz K hK
   replace hK := hK.out
   apply Kept.mk
   simp only [F2.Wp, F2.fc, actv, fill, Act.put, sZ, sS, fC, fN, tA, cS, cZ] at hK ⊢
   go_simp
   exact hK
  refine F2.Steps.consA rfl ⟨NoU.two nB nS, ?_⟩ ?_
  ·
   intro vz wz hBz K hK
   replace hK := hK.out
   apply Kept.mk
   simp only [F2.Wp, F2.fc, actv, fill, Act.put, sZ, sS, fC, fN, tA, cS, cZ] at hK ⊢
   go_simp
   exact hK
  refine F2.Steps.consA rfl ⟨NoU.two nB nS, ?_⟩ ?_
  ·
   intro vz wz hBz K hK
   replace hK := hK.out
   apply Kept.mk
   simp only [F2.Wp, F2.fc, actv, fill, Act.put, sZ, sS, fC, fN, tA, cS, cZ] at hK ⊢
   go_simp
   exact hK
  refine F2.Steps.consO rfl ?_ ?_
  ·
   intro vz wz hBz hDz hTz K hK
   have HW := hBz.ext
   replace hK := hK.out
   apply Kept.mk
   simp only [F2.Wp, F2.fc, actv, fill, Act.put, sZ, sS, fC, fN, tA, cS, cZ] at hK ⊢
   go_simp
   refine hK _ wz (Below.refl _ _) (Fact.eq_mk ?_)
   with_reducible rfl
  exact F2.Steps.nil
 intro va w1 hBz ⟨hOz, hAz, hNz, hSz⟩
 obtain ⟨g5, cs5, E5, hg5, bx5, hs5, hz5⟩ := hAz 0 _ _ (by decide) rfl
 have hzz := hz5 (F2.nost (by kernel_rfl))
 subst hzz
 obtain ⟨g8, cs8, E8, hg8, bx8, hs8, hz8⟩ := hAz 1 _ _ (by decide) rfl
 have hzz := hz8 (F2.nost (by kernel_rfl))
 subst hzz
 obtain ⟨g9, cs9, E9, hg9, bx9, hs9, hz9⟩ := hAz 2 _ _ (by decide) rfl
 have hzz := hz9 (F2.nost (by kernel_rfl))
 subst hzz
 have E10 : va 10 = _ := hOz 3 (by decide) rfl
 have hne5_8 : Hid (¬ g5 = g8) := hide (fun h => hNz 0 1 _ _ _ _ (by decide) (by decide) (by decide) rfl rfl (by rw [E5, E8, h]))
 have hne5_9 : Hid (¬ g5 = g9) := hide (fun h => hNz 0 2 _ _ _ _ (by decide) (by decide) (by decide) rfl rfl (by rw [E5, E9, h]))
 have hne8_9 : Hid (¬ g8 = g9) := hide (fun h => hNz 1 2 _ _ _ _ (by decide) (by decide) (by decide) rfl rfl (by rw [E8, E9, h]))
 simp only [Act.put, actv, fill, fC, fN, tA, cS, cZ]
 simp only [(show va 5 = _ from E5), (show va 8 = _ from E8), (show va 9 = _ from E9), E10]
 clear E5 E8 E9 E10
 have hge5 : w.heap.size ≤ g5 := Nat.le_trans HB.out.size hg5
 have hge8 : w.heap.size ≤ g8 := Nat.le_trans HB.out.size hg8
 have hge9 : w.heap.size ≤ g9 := Nat.le_trans HB.out.size hg9
 replace h0 := h0.ext hBz.ext
 replace HB := hide (HB.out.trans (hBz.below (B := w.heap.size) HB.out.size zE))
 clear hOz hAz hNz hSz hs5 hz5 hs8 hz8 hs9 hz9 hBz
 go_upto_region 1 with (fail)
 refine F2.regionS [.o] [Fact.eq ?cb11_] [11] [11] (by kernel_rfl) ?sob ?sopb (by kernel_rfl) ?stb ?finb
 case sob => exact fun x hx => by cases hx
 case sopb => exact List.Pairwise.nil
 case stb =>
  refine F2.Steps.consO rfl ?_ ?_
  ·
   intro vz wz hBz hDz hTz K hK
   have HW := hBz.ext
   replace hK := hK.out
   apply Kept.mk
   simp only [F2.Wp, F2.fc, actv, fill, Act.put, sZ, sS, fC, fN, tA, cS, cZ] at hK ⊢
   go_simp
   refine hK _ wz (Below.refl _ _) (Fact.eq_mk ?_)
   with_reducible rfl
  exact F2.Steps.nil
 intro vb w2 hBz ⟨hOz, hAz, hNz, hSz⟩
 have E11 : vb 11 = _ := hOz 0 (by decide) rfl
 simp only [Act.put, actv, fill, fC, fN, tA, cS, cZ]
 simp only [E11]
 clear E11
 replace h0 := h0.ext hBz.ext
 replace bx5 := hBz.blk bx5 zN
 replace bx8 := hBz.blk bx8 zN
 replace bx9 := hBz.blk bx9 zN
 replace HB := hide (HB.out.trans (hBz.below (B := w.heap.size) HB.out.size zE))
 clear hOz hAz hNz hSz hBz
 go_upto_region 2 with (fail)
 refine F2.regionS [.o, .o] [Fact.eq ?cc13_, Fact.eq ?cc12_] [13, 12] [13, 12] (by kernel_rfl) ?soc ?sopc (by kernel_rfl) ?stc ?finc
 case soc => exact fun x hx => by cases hx
 case sopc => exact List.Pairwise.nil
 case stc =>
  refine F2.Steps.consO rfl ?_ ?_
  ·
   intro vz wz hBz hDz hTz K hK
   have HW := hBz.ext
   replace hK := hK.out
   apply Kept.mk
   simp only [F2.Wp, F2.fc, actv, fill, Act.put, sZ, sS, fC, fN, tA, cS, cZ] at hK ⊢
   go_simp
   refine hK _ wz (Below.refl _ _) (Fact.eq_mk ?_)
   with_reducible rfl
  refine F2.Steps.consO rfl ?_ ?_
  ·
   intro vz wz hBz hDz hTz K hK
   have E13 : vz 13 = _ := hDz 0 (by kernel_rfl) rfl
   have HW := hBz.ext
   replace hK := hK.out
   apply Kept.mk
   simp only [F2.Wp, F2.fc, actv, fill, Act.put, sZ, sS, fC, fN, tA, cS, cZ] at hK ⊢
   simp only [E13] at hK ⊢
   go_simp
   refine hK _ wz (Below.refl _ _) (Fact.eq_mk ?_)
   with_reducible rfl
  exact F2.Steps.nil
 intro vc w3 hBz ⟨hOz, hAz, hNz, hSz⟩
 have E13 : vc 13 = _ := hOz 0 (by decide) rfl
 have E12 : vc 12 = _ := hOz 1 (by decide) rfl
 simp only [Act.put, actv, fill, fC, fN, tA, cS, cZ]
 simp only [E13, E12]
 clear E13 E12
 replace h0 := h0.ext hBz.ext
 replace bx5 := hBz.blk bx5 zN
 replace bx8 := hBz.blk bx8 zN
 replace bx9 := hBz.blk bx9 zN
 replace HB := hide (HB.out.trans (hBz.below (B := w.heap.size) HB.out.size zE))
 clear hOz hAz hNz hSz hBz
 go_upto_region 4 with (fail)
 refine F2.regionS [.o, .o] [Fact.eq ?cd22_, Fact.eq ?cd21_] [22, 21] [22, 21] (by kernel_rfl) ?sod ?sopd (by kernel_rfl) ?std ?find
 case sod => exact fun x hx => by cases hx
 case sopd => exact List.Pairwise.nil
 case std =>
  refine F2.Steps.consO rfl ?_ ?_
  ·
   intro vz wz hBz hDz hTz K hK
   have HW := hBz.ext
   replace hK := hK.out
   apply Kept.mk
   simp only [F2.Wp, F2.fc, actv, fill, Act.put, sZ, sS, fC, fN, tA, cS, cZ] at hK ⊢
   go_simp
   refine hK _ wz (Below.refl _ _) (Fact.eq_mk ?_)
   with_reducible rfl
  refine F2.Steps.consO rfl ?_ ?_
  ·
   intro vz wz hBz hDz hTz K hK
   have E22 : vz 22 = _ := hDz 0 (by kernel_rfl) rfl
   have HW := hBz.ext
   replace hK := hK.out
   apply Kept.mk
   simp only [F2.Wp, F2.fc, actv, fill, Act.put, sZ, sS, fC, fN, tA, cS, cZ] at hK ⊢
   simp only [E22] at hK ⊢
   go_simp
   refine hK _ wz (Below.refl _ _) (Fact.eq_mk ?_)
   with_reducible rfl
  exact F2.Steps.nil
 intro vd w4 hBz ⟨hOz, hAz, hNz, hSz⟩
 have E22 : vd 22 = _ := hOz 0 (by decide) rfl
 have E21 : vd 21 = _ := hOz 1 (by decide) rfl
 simp only [Act.put, actv, fill, fC, fN, tA, cS, cZ]
 simp only [E22, E21]
 clear E22 E21
 replace h0 := h0.ext hBz.ext
 replace bx5 := hBz.blk bx5 zN
 replace bx8 := hBz.blk bx8 zN
 replace bx9 := hBz.blk bx9 zN
 replace HB := hide (HB.out.trans (hBz.below (B := w.heap.size) HB.out.size zE))
 clear hOz hAz hNz hSz hBz
 go_upto_region 6 with (fail)
 refine F2.regionS [.o, .o] [Fact.eq ?ce31_, Fact.eq ?ce30_] [31, 30] [31, 30] (by kernel_rfl) ?soe ?sope (by kernel_rfl) ?ste ?fine
 case soe => exact fun x hx => by cases hx
 case sope => exact List.Pairwise.nil
 case ste =>
  refine F2.Steps.consO rfl ?_ ?_
  ·
   intro vz wz hBz hDz hTz K hK
   have HW := hBz.ext
   replace hK := hK.out
   apply Kept.mk
   simp only [F2.Wp, F2.fc, actv, fill, Act.put, sZ, sS, fC, fN, tA, cS, cZ] at hK ⊢
   go_simp
   refine hK _ wz (Below.refl _ _) (Fact.eq_mk ?_)
   with_reducible rfl
  refine F2.Steps.consO rfl ?_ ?_
  ·
   intro vz wz hBz hDz hTz K hK
   have E31 : vz 31 = _ := hDz 0 (by kernel_rfl) rfl
   have HW := hBz.ext
   replace hK := hK.out
   apply Kept.mk
   simp only [F2.Wp, F2.fc, actv, fill, Act.put, sZ, sS, fC, fN, tA, cS, cZ] at hK ⊢
   simp only [E31] at hK ⊢
   go_simp
   refine hK _ wz (Below.refl _ _) (Fact.eq_mk ?_)
   with_reducible rfl
  exact F2.Steps.nil
 intro ve w5 hBz ⟨hOz, hAz, hNz, hSz⟩
 have E31 : ve 31 = _ := hOz 0 (by decide) rfl
 have E30 : ve 30 = _ := hOz 1 (by decide) rfl
 simp only [Act.put, actv, fill, fC, fN, tA, cS, cZ]
 simp only [E31, E30]
 clear E31 E30
 replace h0 := h0.ext hBz.ext
 replace bx5 := hBz.blk bx5 zN
 replace bx8 := hBz.blk bx8 zN
 replace bx9 := hBz.blk bx9 zN
 replace HB := hide (HB.out.trans (hBz.below (B := w.heap.size) HB.out.size zE))
 clear hOz hAz hNz hSz hBz
 go_upto_region 8 with (fail)
 refine F2.regionS [.o, .o] [Fact.eq ?cf40_, Fact.eq ?cf39_] [40, 39] [40, 39] (by kernel_rfl) ?sof ?sopf (by kernel_rfl) ?stf ?finf
 case sof => exact fun x hx => by cases hx
 case sopf => exact List.Pairwise.nil
 case stf =>
  refine F2.Steps.consO rfl ?_ ?_
  ·
   intro vz wz hBz hDz hTz K hK
   have HW := hBz.ext
   replace hK := hK.out
   apply Kept.mk
   simp only [F2.Wp, F2.fc, actv, fill, Act.put, sZ, sS, fC, fN, tA, cS, cZ] at hK ⊢
   go_simp
   refine hK _ wz (Below.refl _ _) (Fact.eq_mk ?_)
   with_reducible rfl
  refine F2.Steps.consO rfl ?_ ?_
  ·
   intro vz wz hBz hDz hTz K hK
   have E40 : vz 40 = _ := hDz 0 (by kernel_rfl) rfl
   have HW := hBz.ext
   replace hK := hK.out
   apply Kept.mk
   simp only [F2.Wp, F2.fc, actv, fill, Act.put, sZ, sS, fC, fN, tA, cS, cZ] at hK ⊢
   simp only [E40] at hK ⊢
   go_simp
   refine hK _ wz (Below.refl _ _) (Fact.eq_mk ?_)
   with_reducible rfl
  exact F2.Steps.nil
 intro vf w6 hBz ⟨hOz, hAz, hNz, hSz⟩
 have E40 : vf 40 = _ := hOz 0 (by decide) rfl
 have E39 : vf 39 = _ := hOz 1 (by decide) rfl
 simp only [Act.put, actv, fill, fC, fN, tA, cS, cZ]
 simp only [E40, E39]
 clear E40 E39
 replace h0 := h0.ext hBz.ext
 replace bx5 := hBz.blk bx5 zN
 replace bx8 := hBz.blk bx8 zN
 replace bx9 := hBz.blk bx9 zN
 replace HB := hide (HB.out.trans (hBz.below (B := w.heap.size) HB.out.size zE))
 clear hOz hAz hNz hSz hBz
 go_upto_region 10 with (fail)
 refine F2.regionS [.o, .o, .o, .o, .o, .o, .o, .so (g8) 24 #[.bool false, .slice none 0 0], .so (g9) 24 #[.bool false, .slice none 0 0], .o] [Fact.eq ?cg48_, Fact.eq ?cg49_, Fact.eq ?cg50_, Fact.t3 (Fact.z ?kg51_p ?zg51_p) (Fact.z ?kg51_q ?zg51_q) (Fact.eq ?cg51_r), Fact.z ?kg52_ ?zg52_, Fact.z ?kg53_ ?zg53_, Fact.eq ?cg54_, Fact.z ?kgs8_ ?zgs8_, Fact.z ?kgs9_ ?zgs9_, Fact.eq ?cg10_] [48, 49, 50, 51, 52, 53, 54, 10] [48, 49, 50, 51, 52, 53, 54, 0, 0, 10] (by kernel_rfl) ?sog ?sopg (by kernel_rfl) ?stg ?fing
 case sog => exact List.forall_mem_cons.2 ⟨⟨bx8, NoU.two nB nS⟩, List.forall_mem_cons.2 ⟨⟨bx9, NoU.two nB nS⟩, fun x hx => by cases hx⟩⟩
 case sopg => exact List.Pairwise.cons (by intro y hy; simp [F2.sos] at hy; have hne8_9 := hne8_9.out; first | (subst hy; simp; done) | (subst hy; simp; omega) | (rcases hy with rfl | rfl <;> simp <;> omega)) (List.Pairwise.cons (fun y hy => by cases hy) (List.Pairwise.nil))
 case stg =>
  refine F2.Steps.consO rfl ?_ ?_
  ·
   intro vz wz hBz hDz hTz K hK
   have HW := hBz.ext
   have bx5z := hBz.blk bx5 (zM hne5_8.out (zM hne5_9.out zN))
   obtain ⟨zl0, zl1, -⟩ := bx5z.two
   replace hK := hK.out
   apply Kept.mk
   simp only [F2.Wp, F2.fc, actv, fill, Act.put, sZ, sS, fC, fN, tA, cS, cZ] at hK ⊢
   go_simp
   refine hK _ wz (Below.refl _ _) (Fact.eq_mk ?_)
   with_reducible rfl
  refine F2.Steps.consO rfl ?_ ?_
  ·
   intro vz wz hBz hDz hTz K hK
   have HW := hBz.ext
   replace hK := hK.out
   apply Kept.mk
   simp only [F2.Wp, F2.fc, actv, fill, Act.put, sZ, sS, fC, fN, tA, cS, cZ] at hK ⊢
   go_simp
   refine hK _ wz (Below.refl _ _) (Fact.eq_mk ?_)
   with_reducible rfl
  refine F2.Steps.consO rfl ?_ ?_
  ·
   intro vz wz hBz hDz hTz K hK
   have HW := hBz.ext
   replace hK := hK.out
   apply Kept.mk
   simp only [F2.Wp, F2.fc, actv, fill, Act.put, sZ, sS, fC, fN, tA, cS, cZ] at hK ⊢
   go_simp
   refine hK _ wz (Below.refl _ _) (Fact.eq_mk ?_)
   with_reducible rfl
  refine F2.Steps.consO rfl ?_ ?_
  ·
   intro vz wz hBz hDz hTz K hK
   have E48 : vz 48 = _ := hDz 0 (by kernel_rfl) rfl
   have E49 : vz 49 = _ := hDz 1 (by kernel_rfl) rfl
   have E50 : vz 50 = _ := hDz 2 (by kernel_rfl) rfl
   have HW := hBz.ext
   replace hK := hK.out
   apply Kept.mk
   simp only [F2.Wp, F2.fc, actv, fill, Act.put, sZ, sS, fC, fN, tA, cS, cZ] at hK ⊢
   simp only [E48, E49, E50] at hK ⊢
   go_simp
   refine Calls.mono (rcos_named (h0.ext HW) (by omega) HRA HRB HRC) ?_
   rintro e w2z ⟨hb2, uz, rfl, hf⟩
   go_wp2_with fail
   refine hK _ w2z hb2 (Fact.cast (hf) ?_)
   with_reducible rfl
  refine F2.Steps.consO rfl ?_ ?_
  ·
   intro vz wz hBz hDz hTz K hK
   obtain ⟨x51p_, x51q_, x51r_, E51, h51p, h51q, h51r⟩ : TV3 _ _ _ wz (vz 51) := hDz 3 (by kernel_rfl) rfl
   obtain rfl := Fact.eq_of h51r
   have HW := hBz.ext
   replace hK := hK.out
   apply Kept.mk
   simp only [F2.Wp, F2.fc, actv, fill, Act.put, sZ, sS, fC, fN, tA, cS, cZ] at hK ⊢
   simp only [E51] at hK ⊢
   go_simp
   refine hK _ wz (Below.refl _ _) (Fact.cast (h51p) ?_)
   with_reducible rfl
  refine F2.Steps.consO rfl ?_ ?_
  ·
   intro vz wz hBz hDz hTz K hK
   obtain ⟨x51p_, x51q_, x51r_, E51, h51p, h51q, h51r⟩ : TV3 _ _ _ wz (vz 51) := hDz 3 (by kernel_rfl) rfl
   obtain rfl := Fact.eq_of h51r
   have HW := hBz.ext
   replace hK := hK.out
   apply Kept.mk
   simp only [F2.Wp, F2.fc, actv, fill, Act.put, sZ, sS, fC, fN, tA, cS, cZ] at hK ⊢
   simp only [E51] at hK ⊢
   go_simp
   refine hK _ wz (Below.refl _ _) (Fact.cast (h51q) ?_)
   with_reducible rfl
  refine F2.Steps.consO rfl ?_ ?_
  ·
   intro vz wz hBz hDz hTz K hK
   obtain ⟨x51p_, x51q_, x51r_, E51, h51p, h51q, h51r⟩ : TV3 _ _ _ wz (vz 51) := hDz 3 (by kernel_rfl) rfl
   obtain rfl := Fact.eq_of h51r
   have HW := hBz.ext
   replace hK := hK.out
   apply Kept.mk
   simp only [F2.Wp, F2.fc, actv, fill, Act.put, sZ, sS, fC, fN, tA, cS, cZ] at hK ⊢
   simp only [E51] at hK ⊢
   go_simp
   refine hK _ wz (Below.refl _ _) (Fact.eq_mk ?_)
   with_reducible rfl
  refine F2.Steps.consT rfl ?_ ?_
  ·
   intro vz wz hBz hDz hbz K hK
   obtain ⟨zc0, zc1, zc2, zc3⟩ := hbz.two
   obtain ⟨n52_, A52_, l52_, c52_, E52, q52⟩ : IntV 0 _ _ wz (vz 52) := hDz 4 (by kernel_rfl) rfl
   have HW := hBz.ext
   replace hK := hK.out
   apply Kept.mk
   simp only [F2.Wp, F2.fc, actv, fill, Act.put, sZ, sS, fC, fN, tA, cS, cZ] at hK ⊢
   simp only [E52] at hK ⊢
   go_simp
   refine hK _ ((Far.set _ _ 0 _).trans (Far.set _ _ 1 _)) ⟨_, blk_two hbz, NoU.two nB nS, Fact.cast (Fact.z_mk q52) ?_⟩
   with_reducible rfl
  refine F2.Steps.consT rfl ?_ ?_
  ·
   intro vz wz hBz hDz hbz K hK
   obtain ⟨zc0, zc1, zc2, zc3⟩ := hbz.two
   obtain ⟨n53_, A53_, l53_, c53_, E53, q53⟩ : IntV 0 _ _ wz (vz 53) := hDz 5 (by kernel_rfl) rfl
   have HW := hBz.ext
   replace hK := hK.out
   apply Kept.mk
   simp only [F2.Wp, F2.fc, actv, fill, Act.put, sZ, sS, fC, fN, tA, cS, cZ] at hK ⊢
   simp only [E53] at hK ⊢
   go_simp
   refine hK _ ((Far.set _ _ 0 _).trans (Far.set _ _ 1 _)) ⟨_, blk_two hbz, NoU.two nB nS, Fact.cast (Fact.z_mk q53) ?_⟩
   with_reducible rfl
  refine F2.Steps.consO rfl ?_ ?_
  ·
   intro vz wz hBz hDz hTz K hK
   have E54 : vz 54 = _ := hDz 6 (by kernel_rfl) rfl
   have HW := hBz.ext
   replace hK := hK.out
   apply Kept.mk
   simp only [F2.Wp, F2.fc, actv, fill, Act.put, sZ, sS, fC, fN, tA, cS, cZ] at hK ⊢
   simp only [E54] at hK ⊢
   go_simp
   refine hK _ wz (Below.refl _ _) (Fact.eq_mk ?_)
   with_reducible rfl
  exact F2.Steps.nil
 intro vg w7 hBz ⟨hOz, hAz, hNz, hSz⟩
 have E48 : vg 48 = _ := hOz 0 (by decide) rfl
 have E49 : vg 49 = _ := hOz 1 (by decide) rfl
 have E50 : vg 50 = _ := hOz 2 (by decide) rfl
 obtain ⟨x51p_, x51q_, x51r_, E51, h51p, h51q, h51r⟩ : TV3 _ _ _ w7 (vg 51) := hOz 3 (by decide) rfl
 obtain rfl := Fact.eq_of h51r
 obtain ⟨n52_, A52_, l52_, c52_, E52, q52⟩ : IntV 0 _ _ w7 (vg 52) := hOz 4 (by decide) rfl
 obtain ⟨n53_, A53_, l53_, c53_, E53, q53⟩ : IntV 0 _ _ w7 (vg 53) := hOz 5 (by decide) rfl
 have E54 : vg 54 = _ := hOz 6 (by decide) rfl
 obtain ⟨cs8, bx8n, hs8⟩ := hSz 7 _ _ _ (by decide) rfl
 obtain ⟨n8sg_, A8sg_, l8sg_, c8sg_, E8sg, q8sg⟩ : IntV 0 _ _ w7 (.agg cs8) := hs8
 injection E8sg with E8sg
 subst E8sg
 obtain ⟨cs9, bx9n, hs9⟩ := hSz 8 _ _ _ (by decide) rfl
 obtain ⟨n9sg_, A9sg_, l9sg_, c9sg_, E9sg, q9sg⟩ : IntV 0 _ _ w7 (.agg cs9) := hs9
 injection E9sg with E9sg
 subst E9sg
 have E10 : vg 10 = _ := hOz 9 (by decide) rfl
 simp only [Act.put, actv, fill, fC, fN, tA, cS, cZ]
 simp only [E48, E49, E50, E51, E52, E53, E54, E10]
 clear E48 E49 E50 E51 E52 E53 E54 E10
 replace h0 := h0.ext hBz.ext
 replace bx5 := hBz.blk bx5 (zM hne5_8.out (zM hne5_9.out zN))
 replace HB := hide (HB.out.trans (hBz.below (B := w.heap.size) HB.out.size (zA hge8 (zA hge9 zE))))
 clear bx8
 clear bx9
 have bx8 := bx8n
 clear bx8n
 have bx9 := bx9n
 clear bx9n
 clear hOz hAz hNz hSz hBz
 go_wp2_with fail
 refine bodyPost_ret (results_int_int_tmp rfl _ _ _ _ _ _ _ _ _ _ rfl bx8 rfl bx9) rfl ⟨HB.out, ?_⟩
 exact VF.mk (Fact.t3_mk (Fact.z_mk q8sg) (Fact.z_mk q9sg) (Fact.eq_self _ _))
theorem sum_calls {w : World} {k0 : Nat} {n0 : Bool} {A0 : Option Addr} {l0 c0 : Nat} {x0 : Int} {q n : Int} (kd : Nat) (hkd : kd < 5) (h0 : Q w k0 n0 A0 l0 c0 x0) (hk0 : k0 ≤ 40) :
    Calls Try.prog 23 #[.int .i64 (kd : Nat), .agg #[.bool n0, .slice A0 l0 c0], .int .i64 q, .int .i64 n] w fun e w' => Below w.heap.size w w' ∧ VF (Fact.t3 (Fact.z 340 (if mayR x0 q n (mostK kd) = true then sumLo kd x0 q n.toNat else 0)) (Fact.z 340 (if mayR x0 q n (mostK kd) = true then sumHi kd x0 q n.toNat else 0)) (Fact.eq (.int .i64 (if mayR x0 q n (mostK kd) = true then 0 else 1)))) e w' := by
  match kd, hkd with
  | 0, _ => exact sum0_calls h0 hk0
  | 1, _ => exact sum1_calls h0 hk0
  | 2, _ => exact sum2_calls h0 hk0
  | 3, _ => exact sum3_calls h0 hk0
  | 4, _ => exact sum4_calls h0 hk0
theorem sum_named {w : World} {k0 : Nat} {n0 : Bool} {A0 : Option Addr} {l0 c0 : Nat} {x0 q n ra rb rc : Int} (kd : Nat) (hkd : kd < 5) (h0 : Q w k0 n0 A0 l0 c0 x0) (hk0 : k0 ≤ 40) (ha : Hid ((if mayR x0 q n (mostK kd) = true then sumLo kd x0 q n.toNat else 0) = ra)) (hb : Hid ((if mayR x0 q n (mostK kd) = true then sumHi kd x0 q n.toNat else 0) = rb)) (hc : Hid ((if mayR x0 q n (mostK kd) = true then (0 : Int) else 1) = rc)) :
    Calls Try.prog 23 #[.int .i64 (kd : Nat), .agg #[.bool n0, .slice A0 l0 c0], .int .i64 q, .int .i64 n] w fun e w' => Below w.heap.size w w' ∧ VF (Fact.t3 (Fact.z 340 ra) (Fact.z 340 rb) (Fact.eq (.int .i64 rc))) e w' := by
  have h := sum_calls (q := q) (n := n) kd hkd h0 hk0
  rw [ha.out, hb.out, hc.out] at h
  exact h
end Go.Proofs.Ytnephejalollfaa
