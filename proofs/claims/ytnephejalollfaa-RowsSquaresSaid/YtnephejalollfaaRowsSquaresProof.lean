/-
  hairlinelaw06.RowsSquares returns true for any integer, any places and any terms. Conditions: none.
-/
import Derived.Test.YtnephejalollfaaRows
import Derived.Test.YtnephejalollfaaRs
import Derived.Test.YtnephejalollfaaRq
import Derived.Test.YtnephejalollfaaOp5
namespace Go.Proofs.Ytnephejalollfaa.rowsSquares
open Go.ChangeShapes Go.WideShapes Go.ChangeAt Go.RowKit
open L (val)
set_option linter.unusedVariables false
set_option linter.unusedSimpArgs false

theorem own : ownKnob Try.prog.godebug = none := by kernel_rfl
theorem laidOut : laidOutB Try.prog = true := by kernel_rfl
set_option maxHeartbeats 4000000 in
set_option maxRecDepth 100000 in
theorem walkN {w : World} {L0 : List Nat} {k0 : Nat} {n0 : Bool} {A0 : Option Addr} {l0 c0 : Nat} {x0 : Int} {q n : Int} (h0 : Q w k0 n0 A0 l0 c0 x0) (hL0 : Nums w 0 (.slice A0 l0 c0) L0) :
    Calls Try.prog 4 #[.agg #[.bool n0, .slice A0 l0 c0], .int .i64 q, .int .i64 n] w fun e w' => Below w.heap.size w w' ∧ VF (Fact.eq (.bool true)) e w' := by
 have HL0 := hide hL0
 clear hL0
 obtain ⟨qa, Hqa⟩ : ∃ z, bits .and .i64 q 127 = z := ⟨_, rfl⟩
 have hqa : 0 ≤ qa ∧ qa ≤ 127 := by have := bits_range6 q 127 (by omega); rw [← Hqa]; exact this
 have Hqa := hide Hqa
 obtain ⟨na, Hna⟩ : ∃ z, bits .and .i64 n 31 = z := ⟨_, rfl⟩
 have hna : 0 ≤ na ∧ na ≤ 31 := by have := bits_range6 n 31 (by omega); rw [← Hna]; exact this
 have Hna := hide Hna
 obtain ⟨t, Ht⟩ : ∃ t, Hid (partZ n0 L0 (20 + qa) = t) := ⟨_, hide rfl⟩
 have Hlim := hide (part_lim (n := n0) (L := L0) (q := 20 + qa) (by omega))
 rw [Ht.out] at Hlim
 have Hmay : Hid (mayR t (20 + qa) (8 + na) 4 = true) := hide (may_part (kd := 3) (by omega) (by omega) Hlim.out.1 Hlim.out.2)
 obtain ⟨sa, Hsa⟩ : ∃ r, Hid (sinLo t (20 + qa) (8 + na).toNat = r) := ⟨_, hide rfl⟩
 have HRsa : Hid ((if mayR t (20 + qa) (8 + na) 4 = true then sinLo t (20 + qa) (8 + na).toNat else 0) = sa) := hide (by rw [if_pos Hmay.out]; exact Hsa.out)
 obtain ⟨sb, Hsb⟩ : ∃ r, Hid (sinHi t (20 + qa) (8 + na).toNat = r) := ⟨_, hide rfl⟩
 have HRsb : Hid ((if mayR t (20 + qa) (8 + na) 4 = true then sinHi t (20 + qa) (8 + na).toNat else 0) = sb) := hide (by rw [if_pos Hmay.out]; exact Hsb.out)
 obtain ⟨ca, Hca⟩ : ∃ r, Hid (cosLo t (20 + qa) (8 + na).toNat = r) := ⟨_, hide rfl⟩
 have HRca : Hid ((if mayR t (20 + qa) (8 + na) 4 = true then cosLo t (20 + qa) (8 + na).toNat else 0) = ca) := hide (by rw [if_pos Hmay.out]; exact Hca.out)
 obtain ⟨cb, Hcb⟩ : ∃ r, Hid (cosHi t (20 + qa) (8 + na).toNat = r) := ⟨_, hide rfl⟩
 have HRcb : Hid ((if mayR t (20 + qa) (8 + na) 4 = true then cosHi t (20 + qa) (8 + na).toNat else 0) = cb) := hide (by rw [if_pos Hmay.out]; exact Hcb.out)
 have HRc : Hid ((if mayR t (20 + qa) (8 + na) 4 = true then (0 : Int) else 1) = 0) := hide (if_pos Hmay.out)
 have Hlow : Hid (0 ≤ sa → sa * sa + ca * ca ≤ 1 * 2 ^ (2 * (20 + qa)).toNat) := hide (fun h => by
  rw [← Hsa.out] at h ⊢
  rw [← Hca.out]
  exact Sq.squares_low (by omega) Hlim.out.1 Hlim.out.2 (by omega) h (Sq.cos_nonneg (by omega) Hlim.out.1 Hlim.out.2 (by omega) (by omega) (by omega)))
 have Hhigh : Hid (1 * 2 ^ (2 * (20 + qa)).toNat ≤ sb * sb + cb * cb) := hide (by
  rw [← Hsb.out, ← Hcb.out]
  exact Sq.squares_high (by omega) Hlim.out.1 Hlim.out.2 _)
 go_enter Try.func4, Try.ntmps4
 have HB : Hid (Below w.heap.size w w) := hide (Below.refl _ _)
 go_upto_region 0 with (fail)
 refine F2.regionS [.al 24 #[.bool n0, .slice A0 l0 c0], .o] [Fact.any, Fact.eq ?ca6_] [3, 6] [3, 6] (by kernel_rfl) ?soa ?sopa (by kernel_rfl) ?sta ?fina
 case soa => exact fun x hx => by cases hx
 case sopa => exact List.Pairwise.nil
 case sta =>
  refine F2.Steps.consA rfl ⟨NoU.two nB nS, ?_⟩ ?_
  ·
   intro vz wz hBz K hK
   replace hK := hK.out
   apply Kept.mk
   simp only [F2.Wp, F2.fc, actv, fill, Act.put, sZ, sS, fC, fN, tA, cS, cZ] at hK ⊢
   go_simp
   exact hK
  refine F2.Steps.consO rfl ?_ ?_
  ·
   intro vz wz hBz hDz hTz K hK
   have HW := hBz.ext
   replace hK := hK.out
   apply Kept.mk
   simp only [F2.Wp, F2.fc, actv, fill, Act.put, sZ, sS, fC, fN, tA, cS, cZ] at hK ⊢
   go_simp
   refine hK _ wz (Below.refl _ _) (Fact.eq_mk ?_)
   with_reducible rfl
  exact F2.Steps.nil
 intro va w1 hBz ⟨hOz, hAz, hNz, hSz⟩
 obtain ⟨g3, cs3, E3, hg3, bx3, hs3, hz3⟩ := hAz 0 _ _ (by decide) rfl
 have hzz := hz3 (F2.nost (by kernel_rfl))
 subst hzz
 have E6 : va 6 = _ := hOz 1 (by decide) rfl
 simp only [Act.put, actv, fill, fC, fN, tA, cS, cZ]
 simp only [(show va 3 = _ from E3), E6]
 clear E3 E6
 have hge3 : w.heap.size ≤ g3 := Nat.le_trans HB.out.size hg3
 replace h0 := h0.ext hBz.ext
 replace HL0 := hide (HL0.out.ext (hBz).ext)
 replace HB := hide (HB.out.trans (hBz.below (B := w.heap.size) HB.out.size zE))
 clear hOz hAz hNz hSz hs3 hz3 hBz
 go_upto_region 1 with (fail)
 refine F2.regionS [.o, .o] [Fact.eq ?cb17_, Fact.eq ?cb7_] [17, 7] [17, 7] (by kernel_rfl) ?sob ?sopb (by kernel_rfl) ?stb ?finb
 case sob => exact fun x hx => by cases hx
 case sopb => exact List.Pairwise.nil
 case stb =>
  refine F2.Steps.consO rfl ?_ ?_
  ·
   intro vz wz hBz hDz hTz K hK
   have HW := hBz.ext
   replace hK := hK.out
   apply Kept.mk
   simp only [F2.Wp, F2.fc, actv, fill, Act.put, sZ, sS, fC, fN, tA, cS, cZ] at hK ⊢
   go_simp
   refine Calls.mono (shown6_calls) ?_
   rintro e w2z ⟨hb2, uz, rfl, hf⟩
   refine hK _ w2z hb2 (Fact.cast (hf) ?_)
   with_reducible rfl
  refine F2.Steps.consO rfl ?_ ?_
  ·
   intro vz wz hBz hDz hTz K hK
   have E17 : vz 17 = _ := hDz 0 (by kernel_rfl) rfl
   have HW := hBz.ext
   replace hK := hK.out
   apply Kept.mk
   simp only [F2.Wp, F2.fc, actv, fill, Act.put, sZ, sS, fC, fN, tA, cS, cZ] at hK ⊢
   simp only [E17] at hK ⊢
   go_simp
   refine hK _ wz (Below.refl _ _) (Fact.eq_mk ?_)
   with_reducible rfl
  exact F2.Steps.nil
 intro vb w2 hBz ⟨hOz, hAz, hNz, hSz⟩
 have E17 : vb 17 = _ := hOz 0 (by decide) rfl
 have E7 : vb 7 = _ := hOz 1 (by decide) rfl
 simp only [Act.put, actv, fill, fC, fN, tA, cS, cZ]
 simp only [E17, E7]
 clear E17 E7
 replace h0 := h0.ext hBz.ext
 replace bx3 := hBz.blk bx3 zN
 replace HL0 := hide (HL0.out.ext (hBz).ext)
 replace HB := hide (HB.out.trans (hBz.below (B := w.heap.size) HB.out.size zE))
 clear hOz hAz hNz hSz hBz
 go_upto_region 2 with (fail)
 replace Hqa := Hqa.out
 go_upto_region 3 with (fail)
 replace Hqa := hide Hqa
 refine F2.regionS [.o, .o, .o, .so (g3) 24 #[.bool n0, .slice A0 l0 c0]] [Fact.eq ?cc21_, Fact.eq ?cc22_, Fact.z ?kc23_ ?zc23_, Fact.z ?kcs3_ ?zcs3_] [21, 22, 23] [21, 22, 23, 0] (by kernel_rfl) ?soc ?sopc (by kernel_rfl) ?stc ?finc
 case soc => exact List.forall_mem_cons.2 ⟨⟨bx3, NoU.two nB nS⟩, fun x hx => by cases hx⟩
 case sopc => exact List.Pairwise.cons (fun y hy => by cases hy) (List.Pairwise.nil)
 case stc =>
  refine F2.Steps.consO rfl ?_ ?_
  ·
   intro vz wz hBz hDz hTz K hK
   have HW := hBz.ext
   have bx3z := hTz 3 _ _ _ _ rfl rfl (by kernel_rfl)
   obtain ⟨zl0, zl1, -⟩ := bx3z.two
   replace hK := hK.out
   apply Kept.mk
   simp only [F2.Wp, F2.fc, actv, fill, Act.put, sZ, sS, fC, fN, tA, cS, cZ] at hK ⊢
   go_simp
   refine hK _ wz (Below.refl _ _) (Fact.eq_mk ?_)
   with_reducible rfl
  refine F2.Steps.consO rfl ?_ ?_
  ·
   intro vz wz hBz hDz hTz K hK
   have HW := hBz.ext
   replace hK := hK.out
   apply Kept.mk
   simp only [F2.Wp, F2.fc, actv, fill, Act.put, sZ, sS, fC, fN, tA, cS, cZ] at hK ⊢
   go_simp
   refine hK _ wz (Below.refl _ _) (Fact.eq_mk ?_)
   with_reducible rfl
  refine F2.Steps.consO rfl ?_ ?_
  ·
   intro vz wz hBz hDz hTz K hK
   have E21 : vz 21 = _ := hDz 0 (by kernel_rfl) rfl
   have E22 : vz 22 = _ := hDz 1 (by kernel_rfl) rfl
   have HW := hBz.ext
   replace hK := hK.out
   apply Kept.mk
   simp only [F2.Wp, F2.fc, actv, fill, Act.put, sZ, sS, fC, fN, tA, cS, cZ] at hK ⊢
   simp only [E21, E22] at hK ⊢
   go_simp
   refine Calls.mono (Ht.out ▸ part_calls (h0.ext HW)  (HL0.out.ext HW) (by omega) (by omega)) ?_
   rintro e w2z ⟨hb2, uz, rfl, hf⟩
   refine hK _ w2z hb2 (Fact.cast (hf) ?_)
   with_reducible rfl
  refine F2.Steps.consT rfl ?_ ?_
  ·
   intro vz wz hBz hDz hbz K hK
   obtain ⟨zc0, zc1, zc2, zc3⟩ := hbz.two
   obtain ⟨n23_, A23_, l23_, c23_, E23, q23⟩ : IntV 0 _ _ wz (vz 23) := hDz 2 (by kernel_rfl) rfl
   have HW := hBz.ext
   replace hK := hK.out
   apply Kept.mk
   simp only [F2.Wp, F2.fc, actv, fill, Act.put, sZ, sS, fC, fN, tA, cS, cZ] at hK ⊢
   simp only [E23] at hK ⊢
   go_simp
   refine hK _ ((Far.set _ _ 0 _).trans (Far.set _ _ 1 _)) ⟨_, blk_two hbz, NoU.two nB nS, Fact.cast (Fact.z_mk q23) ?_⟩
   with_reducible rfl
  exact F2.Steps.nil
 intro vc w3 hBz ⟨hOz, hAz, hNz, hSz⟩
 have E21 : vc 21 = _ := hOz 0 (by decide) rfl
 have E22 : vc 22 = _ := hOz 1 (by decide) rfl
 obtain ⟨n23_, A23_, l23_, c23_, E23, q23⟩ : IntV 0 _ _ w3 (vc 23) := hOz 2 (by decide) rfl
 obtain ⟨cs3, bx3n, hs3⟩ := hSz 3 _ _ _ (by decide) rfl
 obtain ⟨n3sc_, A3sc_, l3sc_, c3sc_, E3sc, q3sc⟩ : IntV 0 _ _ w3 (.agg cs3) := hs3
 injection E3sc with E3sc
 subst E3sc
 simp only [Act.put, actv, fill, fC, fN, tA, cS, cZ]
 simp only [E21, E22, E23]
 clear E21 E22 E23
 replace h0 := h0.ext hBz.ext
 replace HL0 := hide (HL0.out.ext (hBz).ext)
 replace HB := hide (HB.out.trans (hBz.below (B := w.heap.size) HB.out.size (zA hge3 zE)))
 clear bx3
 have bx3 := bx3n
 clear bx3n
 clear hOz hAz hNz hSz hBz
 go_upto_region 4 with (fail)
 replace Hna := Hna.out
 go_upto_region 5 with (fail)
 replace Hna := hide Hna
 clear HL0 Ht
 refine F2.regionS [.o, .o, .o, .o, .o, .o, .o, .o, .al 24 #[.bool false, .slice none 0 0], .al 24 #[.bool false, .slice none 0 0], .st 8, .st 9, .o] [Fact.eq ?cd28_, Fact.eq ?cd29_, Fact.eq ?cd30_, Fact.t3 (Fact.z ?kd31_p ?zd31_p) (Fact.z ?kd31_q ?zd31_q) (Fact.eq ?cd31_r), Fact.t3 (Fact.z ?kd27_p ?zd27_p) (Fact.z ?kd27_q ?zd27_q) (Fact.eq ?cd27_r), Fact.z ?kd32_ ?zd32_, Fact.z ?kd33_ ?zd33_, Fact.eq ?cd34_, Fact.any, Fact.any, Fact.z ?kds8_ ?zds8_, Fact.z ?kds9_ ?zds9_, Fact.eq ?cd10_] [28, 29, 30, 31, 27, 32, 33, 34, 8, 9, 10] [28, 29, 30, 31, 27, 32, 33, 34, 8, 9, 0, 0, 10] (by kernel_rfl) ?sod ?sopd (by kernel_rfl) ?std ?find
 case sod => exact fun x hx => by cases hx
 case sopd => exact List.Pairwise.nil
 case std =>
  refine F2.Steps.consO rfl ?_ ?_
  ·
   intro vz wz hBz hDz hTz K hK
   have HW := hBz.ext
   have bx3z := hBz.blk bx3 zN
   obtain ⟨zl0, zl1, -⟩ := bx3z.two
   replace hK := hK.out
   apply Kept.mk
   simp only [F2.Wp, F2.fc, actv, fill, Act.put, sZ, sS, fC, fN, tA, cS, cZ] at hK ⊢
   go_simp
   refine hK _ wz (Below.refl _ _) (Fact.eq_mk ?_)
   with_reducible rfl
  refine F2.Steps.consO rfl ?_ ?_
  ·
   intro vz wz hBz hDz hTz K hK
   have HW := hBz.ext
   replace hK := hK.out
   apply Kept.mk
   simp only [F2.Wp, F2.fc, actv, fill, Act.put, sZ, sS, fC, fN, tA, cS, cZ] at hK ⊢
   go_simp
   refine hK _ wz (Below.refl _ _) (Fact.eq_mk ?_)
   with_reducible rfl
  refine F2.Steps.consO rfl ?_ ?_
  ·
   intro vz wz hBz hDz hTz K hK
   have HW := hBz.ext
   replace hK := hK.out
   apply Kept.mk
   simp only [F2.Wp, F2.fc, actv, fill, Act.put, sZ, sS, fC, fN, tA, cS, cZ] at hK ⊢
   go_simp
   refine hK _ wz (Below.refl _ _) (Fact.eq_mk ?_)
   with_reducible rfl
  refine F2.Steps.consO rfl ?_ ?_
  ·
   intro vz wz hBz hDz hTz K hK
   have E28 : vz 28 = _ := hDz 0 (by kernel_rfl) rfl
   have E29 : vz 29 = _ := hDz 1 (by kernel_rfl) rfl
   have E30 : vz 30 = _ := hDz 2 (by kernel_rfl) rfl
   have HW := hBz.ext
   replace hK := hK.out
   apply Kept.mk
   simp only [F2.Wp, F2.fc, actv, fill, Act.put, sZ, sS, fC, fN, tA, cS, cZ] at hK ⊢
   simp only [E28, E29, E30] at hK ⊢
   go_simp
   refine Calls.mono (rsin_named (q3sc.ext HW).q (by omega) HRsa HRsb HRc) ?_
   rintro e w2z ⟨hb2, uz, rfl, hf⟩
   refine hK _ w2z hb2 (Fact.cast (hf) ?_)
   with_reducible rfl
  refine F2.Steps.consO rfl ?_ ?_
  ·
   intro vz wz hBz hDz hTz K hK
   obtain ⟨x31p_, x31q_, x31r_, E31, h31p, h31q, h31r⟩ : TV3 _ _ _ wz (vz 31) := hDz 3 (by kernel_rfl) rfl
   obtain rfl := Fact.eq_of h31r
   have HW := hBz.ext
   replace hK := hK.out
   apply Kept.mk
   simp only [F2.Wp, F2.fc, actv, fill, Act.put, sZ, sS, fC, fN, tA, cS, cZ] at hK ⊢
   simp only [E31] at hK ⊢
   go_simp
   refine hK _ wz (Below.refl _ _) (Fact.cast (Fact.t3_mk h31p h31q (Fact.eq_self _ _)) ?_)
   with_reducible rfl
  refine F2.Steps.consO rfl ?_ ?_
  ·
   intro vz wz hBz hDz hTz K hK
   obtain ⟨x27p_, x27q_, x27r_, E27, h27p, h27q, h27r⟩ : TV3 _ _ _ wz (vz 27) := hDz 4 (by kernel_rfl) rfl
   obtain rfl := Fact.eq_of h27r
   have HW := hBz.ext
   replace hK := hK.out
   apply Kept.mk
   simp only [F2.Wp, F2.fc, actv, fill, Act.put, sZ, sS, fC, fN, tA, cS, cZ] at hK ⊢
   simp only [E27] at hK ⊢
   go_simp
   refine hK _ wz (Below.refl _ _) (Fact.cast (h27p) ?_)
   with_reducible rfl
  refine F2.Steps.consO rfl ?_ ?_
  ·
   intro vz wz hBz hDz hTz K hK
   obtain ⟨x27p_, x27q_, x27r_, E27, h27p, h27q, h27r⟩ : TV3 _ _ _ wz (vz 27) := hDz 4 (by kernel_rfl) rfl
   obtain rfl := Fact.eq_of h27r
   have HW := hBz.ext
   replace hK := hK.out
   apply Kept.mk
   simp only [F2.Wp, F2.fc, actv, fill, Act.put, sZ, sS, fC, fN, tA, cS, cZ] at hK ⊢
   simp only [E27] at hK ⊢
   go_simp
   refine hK _ wz (Below.refl _ _) (Fact.cast (h27q) ?_)
   with_reducible rfl
  refine F2.Steps.consO rfl ?_ ?_
  ·
   intro vz wz hBz hDz hTz K hK
   obtain ⟨x27p_, x27q_, x27r_, E27, h27p, h27q, h27r⟩ : TV3 _ _ _ wz (vz 27) := hDz 4 (by kernel_rfl) rfl
   obtain rfl := Fact.eq_of h27r
   have HW := hBz.ext
   replace hK := hK.out
   apply Kept.mk
   simp only [F2.Wp, F2.fc, actv, fill, Act.put, sZ, sS, fC, fN, tA, cS, cZ] at hK ⊢
   simp only [E27] at hK ⊢
   go_simp
   refine hK _ wz (Below.refl _ _) (Fact.eq_mk ?_)
   with_reducible rfl
  refine F2.Steps.consA rfl ⟨NoU.two nB nS, ?_⟩ ?_
  ·
   intro vz wz hBz K hK
   replace hK := hK.out
   apply Kept.mk
   simp only [F2.Wp, F2.fc, actv, fill, Act.put, sZ, sS, fC, fN, tA, cS, cZ] at hK ⊢
   go_simp
   exact hK
  refine F2.Steps.consA rfl ⟨NoU.two nB nS, ?_⟩ ?_
  ·
   intro vz wz hBz K hK
   replace hK := hK.out
   apply Kept.mk
   simp only [F2.Wp, F2.fc, actv, fill, Act.put, sZ, sS, fC, fN, tA, cS, cZ] at hK ⊢
   go_simp
   exact hK
  refine F2.Steps.consS rfl rfl ?_ ?_
  ·
   intro vz wz gz hBz hDz E8' hgz hbz K hK
   obtain ⟨zc0, zc1, zc2, zc3⟩ := hbz.two
   obtain ⟨n32_, A32_, l32_, c32_, E32, q32⟩ : IntV 0 _ _ wz (vz 32) := hDz 5 (by kernel_rfl) rfl
   have E8 : vz 8 = .pointer (some ⟨gz, 0, none⟩) := E8'
   have HW := hBz.ext
   replace hK := hK.out
   apply Kept.mk
   simp only [F2.Wp, F2.fc, actv, fill, Act.put, sZ, sS, fC, fN, tA, cS, cZ] at hK ⊢
   simp only [E8, E32] at hK ⊢
   go_simp
   refine hK _ ((Far.set _ gz 0 _).trans (Far.set _ gz 1 _)) ⟨_, blk_two hbz, NoU.two nB nS, Fact.cast (Fact.z_mk q32) ?_⟩
   with_reducible rfl
  refine F2.Steps.consS rfl rfl ?_ ?_
  ·
   intro vz wz gz hBz hDz E9' hgz hbz K hK
   obtain ⟨zc0, zc1, zc2, zc3⟩ := hbz.two
   obtain ⟨n33_, A33_, l33_, c33_, E33, q33⟩ : IntV 0 _ _ wz (vz 33) := hDz 6 (by kernel_rfl) rfl
   have E9 : vz 9 = .pointer (some ⟨gz, 0, none⟩) := E9'
   have HW := hBz.ext
   replace hK := hK.out
   apply Kept.mk
   simp only [F2.Wp, F2.fc, actv, fill, Act.put, sZ, sS, fC, fN, tA, cS, cZ] at hK ⊢
   simp only [E9, E33] at hK ⊢
   go_simp
   refine hK _ ((Far.set _ gz 0 _).trans (Far.set _ gz 1 _)) ⟨_, blk_two hbz, NoU.two nB nS, Fact.cast (Fact.z_mk q33) ?_⟩
   with_reducible rfl
  refine F2.Steps.consO rfl ?_ ?_
  ·
   intro vz wz hBz hDz hTz K hK
   have E34 : vz 34 = _ := hDz 7 (by kernel_rfl) rfl
   have HW := hBz.ext
   replace hK := hK.out
   apply Kept.mk
   simp only [F2.Wp, F2.fc, actv, fill, Act.put, sZ, sS, fC, fN, tA, cS, cZ] at hK ⊢
   simp only [E34] at hK ⊢
   go_simp
   refine hK _ wz (Below.refl _ _) (Fact.eq_mk ?_)
   with_reducible rfl
  exact F2.Steps.nil
 intro vd w4 hBz ⟨hOz, hAz, hNz, hSz⟩
 have E28 : vd 28 = _ := hOz 0 (by decide) rfl
 have E29 : vd 29 = _ := hOz 1 (by decide) rfl
 have E30 : vd 30 = _ := hOz 2 (by decide) rfl
 obtain ⟨x31p_, x31q_, x31r_, E31, h31p, h31q, h31r⟩ : TV3 _ _ _ w4 (vd 31) := hOz 3 (by decide) rfl
 obtain rfl := Fact.eq_of h31r
 obtain ⟨x27p_, x27q_, x27r_, E27, h27p, h27q, h27r⟩ : TV3 _ _ _ w4 (vd 27) := hOz 4 (by decide) rfl
 obtain rfl := Fact.eq_of h27r
 obtain ⟨n32_, A32_, l32_, c32_, E32, q32⟩ : IntV 0 _ _ w4 (vd 32) := hOz 5 (by decide) rfl
 obtain ⟨n33_, A33_, l33_, c33_, E33, q33⟩ : IntV 0 _ _ w4 (vd 33) := hOz 6 (by decide) rfl
 have E34 : vd 34 = _ := hOz 7 (by decide) rfl
 obtain ⟨g8, cs8, E8, hg8, bx8, hs8, hz8⟩ := hAz 8 _ _ (by decide) rfl
 obtain ⟨g9, cs9, E9, hg9, bx9, hs9, hz9⟩ := hAz 9 _ _ (by decide) rfl
 obtain ⟨n8sd_, A8sd_, l8sd_, c8sd_, E8sd, q8sd⟩ : IntV 0 _ _ w4 (.agg cs8) := hs8 10 (by decide) rfl
 injection E8sd with E8sd
 subst E8sd
 obtain ⟨n9sd_, A9sd_, l9sd_, c9sd_, E9sd, q9sd⟩ : IntV 0 _ _ w4 (.agg cs9) := hs9 11 (by decide) rfl
 injection E9sd with E9sd
 subst E9sd
 have E10 : vd 10 = _ := hOz 12 (by decide) rfl
 have hne8_9 : Hid (¬ g8 = g9) := hide (fun h => hNz 8 9 _ _ _ _ (by decide) (by decide) (by decide) rfl rfl (by rw [E8, E9, h]))
 simp only [Act.put, actv, fill, fC, fN, tA, cS, cZ]
 simp only [E28, E29, E30, E31, E27, E32, E33, E34, (show vd 8 = _ from E8), (show vd 9 = _ from E9), E10]
 clear E28 E29 E30 E31 E27 E32 E33 E34 E8 E9 E10
 have hge8 : w.heap.size ≤ g8 := Nat.le_trans HB.out.size hg8
 have hne8_3 := hide (Nat.ne_of_gt (Nat.lt_of_lt_of_le bx3.lt (show w3.heap.size ≤ g8 from hg8)))
 have hge9 : w.heap.size ≤ g9 := Nat.le_trans HB.out.size hg9
 have hne9_3 := hide (Nat.ne_of_gt (Nat.lt_of_lt_of_le bx3.lt (show w3.heap.size ≤ g9 from hg9)))
 replace q3sc := q3sc.ext hBz.ext
 replace h0 := h0.ext hBz.ext
 replace bx3 := hBz.blk bx3 zN
 replace HB := hide (HB.out.trans (hBz.below (B := w.heap.size) HB.out.size zE))
 clear hOz hAz hNz hSz hs8 hz8 hs9 hz9 hBz
 go_upto_region 6 with (fail)
 refine F2.regionS [.o, .o, .o, .o, .o, .o, .o, .o, .al 24 #[.bool false, .slice none 0 0], .al 24 #[.bool false, .slice none 0 0], .st 8, .st 9, .o] [Fact.eq ?ce36_, Fact.eq ?ce37_, Fact.eq ?ce38_, Fact.t3 (Fact.z ?ke39_p ?ze39_p) (Fact.z ?ke39_q ?ze39_q) (Fact.eq ?ce39_r), Fact.t3 (Fact.z ?ke35_p ?ze35_p) (Fact.z ?ke35_q ?ze35_q) (Fact.eq ?ce35_r), Fact.z ?ke40_ ?ze40_, Fact.z ?ke41_ ?ze41_, Fact.eq ?ce42_, Fact.any, Fact.any, Fact.z ?kes11_ ?zes11_, Fact.z ?kes12_ ?zes12_, Fact.eq ?ce13_] [36, 37, 38, 39, 35, 40, 41, 42, 11, 12, 13] [36, 37, 38, 39, 35, 40, 41, 42, 11, 12, 0, 0, 13] (by kernel_rfl) ?soe ?sope (by kernel_rfl) ?ste ?fine
 case soe => exact fun x hx => by cases hx
 case sope => exact List.Pairwise.nil
 case ste =>
  refine F2.Steps.consO rfl ?_ ?_
  ·
   intro vz wz hBz hDz hTz K hK
   have HW := hBz.ext
   have bx3z := hBz.blk bx3 zN
   obtain ⟨zl0, zl1, -⟩ := bx3z.two
   replace hK := hK.out
   apply Kept.mk
   simp only [F2.Wp, F2.fc, actv, fill, Act.put, sZ, sS, fC, fN, tA, cS, cZ] at hK ⊢
   go_simp
   refine hK _ wz (Below.refl _ _) (Fact.eq_mk ?_)
   with_reducible rfl
  refine F2.Steps.consO rfl ?_ ?_
  ·
   intro vz wz hBz hDz hTz K hK
   have HW := hBz.ext
   replace hK := hK.out
   apply Kept.mk
   simp only [F2.Wp, F2.fc, actv, fill, Act.put, sZ, sS, fC, fN, tA, cS, cZ] at hK ⊢
   go_simp
   refine hK _ wz (Below.refl _ _) (Fact.eq_mk ?_)
   with_reducible rfl
  refine F2.Steps.consO rfl ?_ ?_
  ·
   intro vz wz hBz hDz hTz K hK
   have HW := hBz.ext
   replace hK := hK.out
   apply Kept.mk
   simp only [F2.Wp, F2.fc, actv, fill, Act.put, sZ, sS, fC, fN, tA, cS, cZ] at hK ⊢
   go_simp
   refine hK _ wz (Below.refl _ _) (Fact.eq_mk ?_)
   with_reducible rfl
  refine F2.Steps.consO rfl ?_ ?_
  ·
   intro vz wz hBz hDz hTz K hK
   have E36 : vz 36 = _ := hDz 0 (by kernel_rfl) rfl
   have E37 : vz 37 = _ := hDz 1 (by kernel_rfl) rfl
   have E38 : vz 38 = _ := hDz 2 (by kernel_rfl) rfl
   have HW := hBz.ext
   replace hK := hK.out
   apply Kept.mk
   simp only [F2.Wp, F2.fc, actv, fill, Act.put, sZ, sS, fC, fN, tA, cS, cZ] at hK ⊢
   simp only [E36, E37, E38] at hK ⊢
   go_simp
   refine Calls.mono (rcos_named (q3sc.ext HW).q (by omega) HRca HRcb HRc) ?_
   rintro e w2z ⟨hb2, uz, rfl, hf⟩
   refine hK _ w2z hb2 (Fact.cast (hf) ?_)
   with_reducible rfl
  refine F2.Steps.consO rfl ?_ ?_
  ·
   intro vz wz hBz hDz hTz K hK
   obtain ⟨x39p_, x39q_, x39r_, E39, h39p, h39q, h39r⟩ : TV3 _ _ _ wz (vz 39) := hDz 3 (by kernel_rfl) rfl
   obtain rfl := Fact.eq_of h39r
   have HW := hBz.ext
   replace hK := hK.out
   apply Kept.mk
   simp only [F2.Wp, F2.fc, actv, fill, Act.put, sZ, sS, fC, fN, tA, cS, cZ] at hK ⊢
   simp only [E39] at hK ⊢
   go_simp
   refine hK _ wz (Below.refl _ _) (Fact.cast (Fact.t3_mk h39p h39q (Fact.eq_self _ _)) ?_)
   with_reducible rfl
  refine F2.Steps.consO rfl ?_ ?_
  ·
   intro vz wz hBz hDz hTz K hK
   obtain ⟨x35p_, x35q_, x35r_, E35, h35p, h35q, h35r⟩ : TV3 _ _ _ wz (vz 35) := hDz 4 (by kernel_rfl) rfl
   obtain rfl := Fact.eq_of h35r
   have HW := hBz.ext
   replace hK := hK.out
   apply Kept.mk
   simp only [F2.Wp, F2.fc, actv, fill, Act.put, sZ, sS, fC, fN, tA, cS, cZ] at hK ⊢
   simp only [E35] at hK ⊢
   go_simp
   refine hK _ wz (Below.refl _ _) (Fact.cast (h35p) ?_)
   with_reducible rfl
  refine F2.Steps.consO rfl ?_ ?_
  ·
   intro vz wz hBz hDz hTz K hK
   obtain ⟨x35p_, x35q_, x35r_, E35, h35p, h35q, h35r⟩ : TV3 _ _ _ wz (vz 35) := hDz 4 (by kernel_rfl) rfl
   obtain rfl := Fact.eq_of h35r
   have HW := hBz.ext
   replace hK := hK.out
   apply Kept.mk
   simp only [F2.Wp, F2.fc, actv, fill, Act.put, sZ, sS, fC, fN, tA, cS, cZ] at hK ⊢
   simp only [E35] at hK ⊢
   go_simp
   refine hK _ wz (Below.refl _ _) (Fact.cast (h35q) ?_)
   with_reducible rfl
  refine F2.Steps.consO rfl ?_ ?_
  ·
   intro vz wz hBz hDz hTz K hK
   obtain ⟨x35p_, x35q_, x35r_, E35, h35p, h35q, h35r⟩ : TV3 _ _ _ wz (vz 35) := hDz 4 (by kernel_rfl) rfl
   obtain rfl := Fact.eq_of h35r
   have HW := hBz.ext
   replace hK := hK.out
   apply Kept.mk
   simp only [F2.Wp, F2.fc, actv, fill, Act.put, sZ, sS, fC, fN, tA, cS, cZ] at hK ⊢
   simp only [E35] at hK ⊢
   go_simp
   refine hK _ wz (Below.refl _ _) (Fact.eq_mk ?_)
   with_reducible rfl
  refine F2.Steps.consA rfl ⟨NoU.two nB nS, ?_⟩ ?_
  ·
   intro vz wz hBz K hK
   replace hK := hK.out
   apply Kept.mk
   simp only [F2.Wp, F2.fc, actv, fill, Act.put, sZ, sS, fC, fN, tA, cS, cZ] at hK ⊢
   go_simp
   exact hK
  refine F2.Steps.consA rfl ⟨NoU.two nB nS, ?_⟩ ?_
  ·
   intro vz wz hBz K hK
   replace hK := hK.out
   apply Kept.mk
   simp only [F2.Wp, F2.fc, actv, fill, Act.put, sZ, sS, fC, fN, tA, cS, cZ] at hK ⊢
   go_simp
   exact hK
  refine F2.Steps.consS rfl rfl ?_ ?_
  ·
   intro vz wz gz hBz hDz E11' hgz hbz K hK
   obtain ⟨zc0, zc1, zc2, zc3⟩ := hbz.two
   obtain ⟨n40_, A40_, l40_, c40_, E40, q40⟩ : IntV 0 _ _ wz (vz 40) := hDz 5 (by kernel_rfl) rfl
   have E11 : vz 11 = .pointer (some ⟨gz, 0, none⟩) := E11'
   have HW := hBz.ext
   replace hK := hK.out
   apply Kept.mk
   simp only [F2.Wp, F2.fc, actv, fill, Act.put, sZ, sS, fC, fN, tA, cS, cZ] at hK ⊢
   simp only [E11, E40] at hK ⊢
   go_simp
   refine hK _ ((Far.set _ gz 0 _).trans (Far.set _ gz 1 _)) ⟨_, blk_two hbz, NoU.two nB nS, Fact.cast (Fact.z_mk q40) ?_⟩
   with_reducible rfl
  refine F2.Steps.consS rfl rfl ?_ ?_
  ·
   intro vz wz gz hBz hDz E12' hgz hbz K hK
   obtain ⟨zc0, zc1, zc2, zc3⟩ := hbz.two
   obtain ⟨n41_, A41_, l41_, c41_, E41, q41⟩ : IntV 0 _ _ wz (vz 41) := hDz 6 (by kernel_rfl) rfl
   have E12 : vz 12 = .pointer (some ⟨gz, 0, none⟩) := E12'
   have HW := hBz.ext
   replace hK := hK.out
   apply Kept.mk
   simp only [F2.Wp, F2.fc, actv, fill, Act.put, sZ, sS, fC, fN, tA, cS, cZ] at hK ⊢
   simp only [E12, E41] at hK ⊢
   go_simp
   refine hK _ ((Far.set _ gz 0 _).trans (Far.set _ gz 1 _)) ⟨_, blk_two hbz, NoU.two nB nS, Fact.cast (Fact.z_mk q41) ?_⟩
   with_reducible rfl
  refine F2.Steps.consO rfl ?_ ?_
  ·
   intro vz wz hBz hDz hTz K hK
   have E42 : vz 42 = _ := hDz 7 (by kernel_rfl) rfl
   have HW := hBz.ext
   replace hK := hK.out
   apply Kept.mk
   simp only [F2.Wp, F2.fc, actv, fill, Act.put, sZ, sS, fC, fN, tA, cS, cZ] at hK ⊢
   simp only [E42] at hK ⊢
   go_simp
   refine hK _ wz (Below.refl _ _) (Fact.eq_mk ?_)
   with_reducible rfl
  exact F2.Steps.nil
 intro ve w5 hBz ⟨hOz, hAz, hNz, hSz⟩
 have E36 : ve 36 = _ := hOz 0 (by decide) rfl
 have E37 : ve 37 = _ := hOz 1 (by decide) rfl
 have E38 : ve 38 = _ := hOz 2 (by decide) rfl
 obtain ⟨x39p_, x39q_, x39r_, E39, h39p, h39q, h39r⟩ : TV3 _ _ _ w5 (ve 39) := hOz 3 (by decide) rfl
 obtain rfl := Fact.eq_of h39r
 obtain ⟨x35p_, x35q_, x35r_, E35, h35p, h35q, h35r⟩ : TV3 _ _ _ w5 (ve 35) := hOz 4 (by decide) rfl
 obtain rfl := Fact.eq_of h35r
 obtain ⟨n40_, A40_, l40_, c40_, E40, q40⟩ : IntV 0 _ _ w5 (ve 40) := hOz 5 (by decide) rfl
 obtain ⟨n41_, A41_, l41_, c41_, E41, q41⟩ : IntV 0 _ _ w5 (ve 41) := hOz 6 (by decide) rfl
 have E42 : ve 42 = _ := hOz 7 (by decide) rfl
 obtain ⟨g11, cs11, E11, hg11, bx11, hs11, hz11⟩ := hAz 8 _ _ (by decide) rfl
 obtain ⟨g12, cs12, E12, hg12, bx12, hs12, hz12⟩ := hAz 9 _ _ (by decide) rfl
 obtain ⟨n11se_, A11se_, l11se_, c11se_, E11se, q11se⟩ : IntV 0 _ _ w5 (.agg cs11) := hs11 10 (by decide) rfl
 injection E11se with E11se
 subst E11se
 obtain ⟨n12se_, A12se_, l12se_, c12se_, E12se, q12se⟩ : IntV 0 _ _ w5 (.agg cs12) := hs12 11 (by decide) rfl
 injection E12se with E12se
 subst E12se
 have E13 : ve 13 = _ := hOz 12 (by decide) rfl
 have hne11_12 : Hid (¬ g11 = g12) := hide (fun h => hNz 8 9 _ _ _ _ (by decide) (by decide) (by decide) rfl rfl (by rw [E11, E12, h]))
 simp only [Act.put, actv, fill, fC, fN, tA, cS, cZ]
 simp only [E36, E37, E38, E39, E35, E40, E41, E42, (show ve 11 = _ from E11), (show ve 12 = _ from E12), E13]
 clear E36 E37 E38 E39 E35 E40 E41 E42 E11 E12 E13
 have hge11 : w.heap.size ≤ g11 := Nat.le_trans HB.out.size hg11
 have hne11_3 := hide (Nat.ne_of_gt (Nat.lt_of_lt_of_le bx3.lt (show w4.heap.size ≤ g11 from hg11)))
 have hne11_8 := hide (Nat.ne_of_gt (Nat.lt_of_lt_of_le bx8.lt (show w4.heap.size ≤ g11 from hg11)))
 have hne11_9 := hide (Nat.ne_of_gt (Nat.lt_of_lt_of_le bx9.lt (show w4.heap.size ≤ g11 from hg11)))
 have hge12 : w.heap.size ≤ g12 := Nat.le_trans HB.out.size hg12
 have hne12_3 := hide (Nat.ne_of_gt (Nat.lt_of_lt_of_le bx3.lt (show w4.heap.size ≤ g12 from hg12)))
 have hne12_8 := hide (Nat.ne_of_gt (Nat.lt_of_lt_of_le bx8.lt (show w4.heap.size ≤ g12 from hg12)))
 have hne12_9 := hide (Nat.ne_of_gt (Nat.lt_of_lt_of_le bx9.lt (show w4.heap.size ≤ g12 from hg12)))
 replace q3sc := q3sc.ext hBz.ext
 replace q8sd := q8sd.ext hBz.ext
 replace q9sd := q9sd.ext hBz.ext
 replace h0 := h0.ext hBz.ext
 replace bx3 := hBz.blk bx3 zN
 replace bx8 := hBz.blk bx8 zN
 replace bx9 := hBz.blk bx9 zN
 replace HB := hide (HB.out.trans (hBz.below (B := w.heap.size) HB.out.size zE))
 clear hOz hAz hNz hSz hs11 hz11 hs12 hz12 hBz
 go_upto_region 7 with (fail)
 refine F2.regionS [.o, .o, .o, .o, .al 24 #[.bool false, .slice none 0 0], .st 4] [Fact.z ?kf43_ ?zf43_, Fact.eq ?cf44_, Fact.eq ?cf45_, Fact.z ?kf46_ ?zf46_, Fact.any, Fact.z ?kfs14_ ?zfs14_] [43, 44, 45, 46, 14] [43, 44, 45, 46, 14, 0] (by kernel_rfl) ?sof ?sopf (by kernel_rfl) ?stf ?finf
 case sof => exact fun x hx => by cases hx
 case sopf => exact List.Pairwise.nil
 case stf =>
  refine F2.Steps.consO rfl ?_ ?_
  ·
   intro vz wz hBz hDz hTz K hK
   have HW := hBz.ext
   replace hK := hK.out
   apply Kept.mk
   simp only [F2.Wp, F2.fc, actv, fill, Act.put, sZ, sS, fC, fN, tA, cS, cZ] at hK ⊢
   go_simp
   refine Calls.mono (v_of  (by omega) (by omega)) ?_
   rintro e w2z ⟨hb2, uz, rfl, hf⟩
   refine hK _ w2z hb2 (Fact.cast (hf) ?_)
   with_reducible rfl
  refine F2.Steps.consO rfl ?_ ?_
  ·
   intro vz wz hBz hDz hTz K hK
   have HW := hBz.ext
   replace hK := hK.out
   apply Kept.mk
   simp only [F2.Wp, F2.fc, actv, fill, Act.put, sZ, sS, fC, fN, tA, cS, cZ] at hK ⊢
   go_simp
   refine hK _ wz (Below.refl _ _) (Fact.eq_mk ?_)
   with_reducible rfl
  refine F2.Steps.consO rfl ?_ ?_
  ·
   intro vz wz hBz hDz hTz K hK
   have E44 : vz 44 = _ := hDz 1 (by kernel_rfl) rfl
   have HW := hBz.ext
   replace hK := hK.out
   apply Kept.mk
   simp only [F2.Wp, F2.fc, actv, fill, Act.put, sZ, sS, fC, fN, tA, cS, cZ] at hK ⊢
   simp only [E44] at hK ⊢
   go_simp
   try simp (disch := omega) only [IntWalk.i64_in]
   refine hK _ wz (Below.refl _ _) (Fact.eq_mk ?_)
   with_reducible rfl
  refine F2.Steps.consO rfl ?_ ?_
  ·
   intro vz wz hBz hDz hTz K hK
   obtain ⟨n43_, A43_, l43_, c43_, E43, q43⟩ : IntV 0 _ _ wz (vz 43) := hDz 0 (by kernel_rfl) rfl
   have E45 : vz 45 = _ := hDz 2 (by kernel_rfl) rfl
   have HW := hBz.ext
   replace hK := hK.out
   apply Kept.mk
   simp only [F2.Wp, F2.fc, actv, fill, Act.put, sZ, sS, fC, fN, tA, cS, cZ] at hK ⊢
   simp only [E43, E45] at hK ⊢
   go_simp
   refine Calls.mono (v_shl q43.q (by omega) (by omega) (by omega)) ?_
   rintro e w2z ⟨hb2, uz, rfl, hf⟩
   refine hK _ w2z hb2 (Fact.cast (hf) ?_)
   with_reducible rfl
  refine F2.Steps.consA rfl ⟨NoU.two nB nS, ?_⟩ ?_
  ·
   intro vz wz hBz K hK
   replace hK := hK.out
   apply Kept.mk
   simp only [F2.Wp, F2.fc, actv, fill, Act.put, sZ, sS, fC, fN, tA, cS, cZ] at hK ⊢
   go_simp
   exact hK
  refine F2.Steps.consS rfl rfl ?_ ?_
  ·
   intro vz wz gz hBz hDz E14' hgz hbz K hK
   obtain ⟨zc0, zc1, zc2, zc3⟩ := hbz.two
   obtain ⟨n46_, A46_, l46_, c46_, E46, q46⟩ : IntV 0 _ _ wz (vz 46) := hDz 3 (by kernel_rfl) rfl
   have E14 : vz 14 = .pointer (some ⟨gz, 0, none⟩) := E14'
   have HW := hBz.ext
   replace hK := hK.out
   apply Kept.mk
   simp only [F2.Wp, F2.fc, actv, fill, Act.put, sZ, sS, fC, fN, tA, cS, cZ] at hK ⊢
   simp only [E14, E46] at hK ⊢
   go_simp
   refine hK _ ((Far.set _ gz 0 _).trans (Far.set _ gz 1 _)) ⟨_, blk_two hbz, NoU.two nB nS, Fact.cast (Fact.z_mk q46) ?_⟩
   with_reducible rfl
  exact F2.Steps.nil
 intro vf w6 hBz ⟨hOz, hAz, hNz, hSz⟩
 obtain ⟨n43_, A43_, l43_, c43_, E43, q43⟩ : IntV 0 _ _ w6 (vf 43) := hOz 0 (by decide) rfl
 have E44 : vf 44 = _ := hOz 1 (by decide) rfl
 have E45 : vf 45 = _ := hOz 2 (by decide) rfl
 obtain ⟨n46_, A46_, l46_, c46_, E46, q46⟩ : IntV 0 _ _ w6 (vf 46) := hOz 3 (by decide) rfl
 obtain ⟨g14, cs14, E14, hg14, bx14, hs14, hz14⟩ := hAz 4 _ _ (by decide) rfl
 obtain ⟨n14sf_, A14sf_, l14sf_, c14sf_, E14sf, q14sf⟩ : IntV 0 _ _ w6 (.agg cs14) := hs14 5 (by decide) rfl
 injection E14sf with E14sf
 subst E14sf
 simp only [Act.put, actv, fill, fC, fN, tA, cS, cZ]
 simp only [E43, E44, E45, E46, (show vf 14 = _ from E14)]
 clear E43 E44 E45 E46 E14
 have hge14 : w.heap.size ≤ g14 := Nat.le_trans HB.out.size hg14
 have hne14_3 := hide (Nat.ne_of_gt (Nat.lt_of_lt_of_le bx3.lt (show w5.heap.size ≤ g14 from hg14)))
 have hne14_8 := hide (Nat.ne_of_gt (Nat.lt_of_lt_of_le bx8.lt (show w5.heap.size ≤ g14 from hg14)))
 have hne14_9 := hide (Nat.ne_of_gt (Nat.lt_of_lt_of_le bx9.lt (show w5.heap.size ≤ g14 from hg14)))
 have hne14_11 := hide (Nat.ne_of_gt (Nat.lt_of_lt_of_le bx11.lt (show w5.heap.size ≤ g14 from hg14)))
 have hne14_12 := hide (Nat.ne_of_gt (Nat.lt_of_lt_of_le bx12.lt (show w5.heap.size ≤ g14 from hg14)))
 replace q3sc := q3sc.ext hBz.ext
 replace q8sd := q8sd.ext hBz.ext
 replace q9sd := q9sd.ext hBz.ext
 replace q11se := q11se.ext hBz.ext
 replace q12se := q12se.ext hBz.ext
 replace h0 := h0.ext hBz.ext
 replace bx3 := hBz.blk bx3 zN
 replace bx8 := hBz.blk bx8 zN
 replace bx9 := hBz.blk bx9 zN
 replace bx11 := hBz.blk bx11 zN
 replace bx12 := hBz.blk bx12 zN
 replace HB := hide (HB.out.trans (hBz.below (B := w.heap.size) HB.out.size zE))
 clear hOz hAz hNz hSz hs14 hz14 hBz
 go_upto_region 8 with (fail)
 refine F2.region [.o, .o, .o, .o, .o, .o, .o, .al 24 #[.bool false, .slice none 0 0], .st 7] [Fact.eq ?cg47_, Fact.eq ?cg48_, Fact.z ?kg49_ ?zg49_, Fact.eq ?cg50_, Fact.eq ?cg51_, Fact.z ?kg52_ ?zg52_, Fact.z ?kg53_ ?zg53_, Fact.any, Fact.z ?kgs15_ ?zgs15_] [47, 48, 49, 50, 51, 52, 53, 15] [47, 48, 49, 50, 51, 52, 53, 15, 0] (by kernel_rfl) ?sog ?sopg (by kernel_rfl) ?stg ?fing
 case sog => exact fun x hx => by cases hx
 case sopg => exact List.Pairwise.nil
 case stg =>
  refine F2.Steps.consO rfl ?_ ?_
  ·
   intro vz wz hBz hDz hTz K hK
   have HW := ext_drew hBz.ext
   have bx8z := hBz.blk bx8.drew zN
   obtain ⟨zl0, zl1, -⟩ := bx8z.two
   replace hK := hK.out
   apply Kept.mk
   simp only [F2.Wp, F2.fc, actv, fill, Act.put, sZ, sS, fC, fN, tA, cS, cZ] at hK ⊢
   go_simp
   refine hK _ wz (Below.refl _ _) (Fact.eq_mk ?_)
   with_reducible rfl
  refine F2.Steps.consO rfl ?_ ?_
  ·
   intro vz wz hBz hDz hTz K hK
   have HW := ext_drew hBz.ext
   have bx8z := hBz.blk bx8.drew zN
   obtain ⟨zl0, zl1, -⟩ := bx8z.two
   replace hK := hK.out
   apply Kept.mk
   simp only [F2.Wp, F2.fc, actv, fill, Act.put, sZ, sS, fC, fN, tA, cS, cZ] at hK ⊢
   go_simp
   refine hK _ wz (Below.refl _ _) (Fact.eq_mk ?_)
   with_reducible rfl
  refine F2.Steps.consO rfl ?_ ?_
  ·
   intro vz wz hBz hDz hTz K hK
   have E47 : vz 47 = _ := hDz 0 (by kernel_rfl) rfl
   have E48 : vz 48 = _ := hDz 1 (by kernel_rfl) rfl
   have HW := ext_drew hBz.ext
   replace hK := hK.out
   apply Kept.mk
   simp only [F2.Wp, F2.fc, actv, fill, Act.put, sZ, sS, fC, fN, tA, cS, cZ] at hK ⊢
   simp only [E47, E48] at hK ⊢
   go_simp
   refine Calls.mono (v_mul (q8sd.ext HW).q (q8sd.ext HW).q (by omega) (by omega)) ?_
   rintro e w2z ⟨hb2, uz, rfl, hf⟩
   refine hK _ w2z hb2 (Fact.cast (hf) ?_)
   with_reducible rfl
  refine F2.Steps.consO rfl ?_ ?_
  ·
   intro vz wz hBz hDz hTz K hK
   have HW := ext_drew hBz.ext
   have bx11z := hBz.blk bx11.drew zN
   obtain ⟨zl0, zl1, -⟩ := bx11z.two
   replace hK := hK.out
   apply Kept.mk
   simp only [F2.Wp, F2.fc, actv, fill, Act.put, sZ, sS, fC, fN, tA, cS, cZ] at hK ⊢
   go_simp
   refine hK _ wz (Below.refl _ _) (Fact.eq_mk ?_)
   with_reducible rfl
  refine F2.Steps.consO rfl ?_ ?_
  ·
   intro vz wz hBz hDz hTz K hK
   have HW := ext_drew hBz.ext
   have bx11z := hBz.blk bx11.drew zN
   obtain ⟨zl0, zl1, -⟩ := bx11z.two
   replace hK := hK.out
   apply Kept.mk
   simp only [F2.Wp, F2.fc, actv, fill, Act.put, sZ, sS, fC, fN, tA, cS, cZ] at hK ⊢
   go_simp
   refine hK _ wz (Below.refl _ _) (Fact.eq_mk ?_)
   with_reducible rfl
  refine F2.Steps.consO rfl ?_ ?_
  ·
   intro vz wz hBz hDz hTz K hK
   have E50 : vz 50 = _ := hDz 3 (by kernel_rfl) rfl
   have E51 : vz 51 = _ := hDz 4 (by kernel_rfl) rfl
   have HW := ext_drew hBz.ext
   replace hK := hK.out
   apply Kept.mk
   simp only [F2.Wp, F2.fc, actv, fill, Act.put, sZ, sS, fC, fN, tA, cS, cZ] at hK ⊢
   simp only [E50, E51] at hK ⊢
   go_simp
   refine Calls.mono (v_mul (q11se.ext HW).q (q11se.ext HW).q (by omega) (by omega)) ?_
   rintro e w2z ⟨hb2, uz, rfl, hf⟩
   refine hK _ w2z hb2 (Fact.cast (hf) ?_)
   with_reducible rfl
  refine F2.Steps.consO rfl ?_ ?_
  ·
   intro vz wz hBz hDz hTz K hK
   obtain ⟨n49_, A49_, l49_, c49_, E49, q49⟩ : IntV 0 _ _ wz (vz 49) := hDz 2 (by kernel_rfl) rfl
   obtain ⟨n52_, A52_, l52_, c52_, E52, q52⟩ : IntV 0 _ _ wz (vz 52) := hDz 5 (by kernel_rfl) rfl
   have HW := ext_drew hBz.ext
   replace hK := hK.out
   apply Kept.mk
   simp only [F2.Wp, F2.fc, actv, fill, Act.put, sZ, sS, fC, fN, tA, cS, cZ] at hK ⊢
   simp only [E49, E52] at hK ⊢
   go_simp
   refine Calls.mono (v_add q49.q q52.q (by omega) (by omega)) ?_
   rintro e w2z ⟨hb2, uz, rfl, hf⟩
   refine hK _ w2z hb2 (Fact.cast (hf) ?_)
   with_reducible rfl
  refine F2.Steps.consA rfl ⟨NoU.two nB nS, ?_⟩ ?_
  ·
   intro vz wz hBz K hK
   replace hK := hK.out
   apply Kept.mk
   simp only [F2.Wp, F2.fc, actv, fill, Act.put, sZ, sS, fC, fN, tA, cS, cZ] at hK ⊢
   go_simp
   exact hK
  refine F2.Steps.consS rfl rfl ?_ ?_
  ·
   intro vz wz gz hBz hDz E15' hgz hbz K hK
   obtain ⟨zc0, zc1, zc2, zc3⟩ := hbz.two
   obtain ⟨n53_, A53_, l53_, c53_, E53, q53⟩ : IntV 0 _ _ wz (vz 53) := hDz 6 (by kernel_rfl) rfl
   have E15 : vz 15 = .pointer (some ⟨gz, 0, none⟩) := E15'
   have HW := ext_drew hBz.ext
   replace hK := hK.out
   apply Kept.mk
   simp only [F2.Wp, F2.fc, actv, fill, Act.put, sZ, sS, fC, fN, tA, cS, cZ] at hK ⊢
   simp only [E15, E53] at hK ⊢
   go_simp
   refine hK _ ((Far.set _ gz 0 _).trans (Far.set _ gz 1 _)) ⟨_, blk_two hbz, NoU.two nB nS, Fact.cast (Fact.z_mk q53) ?_⟩
   with_reducible rfl
  exact F2.Steps.nil
 intro vg w7 hBz ⟨hOz, hAz, hNz, hSz⟩
 have E47 : vg 47 = _ := hOz 0 (by decide) rfl
 have E48 : vg 48 = _ := hOz 1 (by decide) rfl
 obtain ⟨n49_, A49_, l49_, c49_, E49, q49⟩ : IntV 0 _ _ w7 (vg 49) := hOz 2 (by decide) rfl
 have E50 : vg 50 = _ := hOz 3 (by decide) rfl
 have E51 : vg 51 = _ := hOz 4 (by decide) rfl
 obtain ⟨n52_, A52_, l52_, c52_, E52, q52⟩ : IntV 0 _ _ w7 (vg 52) := hOz 5 (by decide) rfl
 obtain ⟨n53_, A53_, l53_, c53_, E53, q53⟩ : IntV 0 _ _ w7 (vg 53) := hOz 6 (by decide) rfl
 obtain ⟨g15, cs15, E15, hg15, bx15, hs15, hz15⟩ := hAz 7 _ _ (by decide) rfl
 obtain ⟨n15sg_, A15sg_, l15sg_, c15sg_, E15sg, q15sg⟩ : IntV 0 _ _ w7 (.agg cs15) := hs15 8 (by decide) rfl
 injection E15sg with E15sg
 subst E15sg
 simp only [Act.put, actv, fill, fC, fN, tA, cS, cZ]
 simp only [E47, E48, E49, E50, E51, E52, E53, (show vg 15 = _ from E15)]
 clear E47 E48 E49 E50 E51 E52 E53 E15
 have hge15 : w.heap.size ≤ g15 := Nat.le_trans HB.out.size hg15
 have hne15_3 := hide (Nat.ne_of_gt (Nat.lt_of_lt_of_le bx3.lt (show w6.heap.size ≤ g15 from hg15)))
 have hne15_8 := hide (Nat.ne_of_gt (Nat.lt_of_lt_of_le bx8.lt (show w6.heap.size ≤ g15 from hg15)))
 have hne15_9 := hide (Nat.ne_of_gt (Nat.lt_of_lt_of_le bx9.lt (show w6.heap.size ≤ g15 from hg15)))
 have hne15_11 := hide (Nat.ne_of_gt (Nat.lt_of_lt_of_le bx11.lt (show w6.heap.size ≤ g15 from hg15)))
 have hne15_12 := hide (Nat.ne_of_gt (Nat.lt_of_lt_of_le bx12.lt (show w6.heap.size ≤ g15 from hg15)))
 have hne15_14 := hide (Nat.ne_of_gt (Nat.lt_of_lt_of_le bx14.lt (show w6.heap.size ≤ g15 from hg15)))
 replace q3sc := q3sc.ext hBz.ext
 replace q8sd := q8sd.ext hBz.ext
 replace q9sd := q9sd.ext hBz.ext
 replace q11se := q11se.ext hBz.ext
 replace q12se := q12se.ext hBz.ext
 replace q14sf := q14sf.ext hBz.ext
 replace h0 := h0.ext hBz.ext
 replace bx3 := hBz.blk bx3 zN
 replace bx8 := hBz.blk bx8 zN
 replace bx9 := hBz.blk bx9 zN
 replace bx11 := hBz.blk bx11 zN
 replace bx12 := hBz.blk bx12 zN
 replace bx14 := hBz.blk bx14 zN
 replace HB := hide (HB.out.trans (hBz.below (B := w.heap.size) HB.out.size zE))
 clear hOz hAz hNz hSz hs15 hz15 hBz
 go_upto_region 9 with (fail)
 refine F2.region [.o, .o, .o, .o, .o, .o, .o, .al 24 #[.bool false, .slice none 0 0], .st 7] [Fact.eq ?ch54_, Fact.eq ?ch55_, Fact.z ?kh56_ ?zh56_, Fact.eq ?ch57_, Fact.eq ?ch58_, Fact.z ?kh59_ ?zh59_, Fact.z ?kh60_ ?zh60_, Fact.any, Fact.z ?khs16_ ?zhs16_] [54, 55, 56, 57, 58, 59, 60, 16] [54, 55, 56, 57, 58, 59, 60, 16, 0] (by kernel_rfl) ?soh ?soph (by kernel_rfl) ?sth ?finh
 case soh => exact fun x hx => by cases hx
 case soph => exact List.Pairwise.nil
 case sth =>
  refine F2.Steps.consO rfl ?_ ?_
  ·
   intro vz wz hBz hDz hTz K hK
   have HW := ext_drew hBz.ext
   have bx9z := hBz.blk bx9.drew zN
   obtain ⟨zl0, zl1, -⟩ := bx9z.two
   replace hK := hK.out
   apply Kept.mk
   simp only [F2.Wp, F2.fc, actv, fill, Act.put, sZ, sS, fC, fN, tA, cS, cZ] at hK ⊢
   go_simp
   refine hK _ wz (Below.refl _ _) (Fact.eq_mk ?_)
   with_reducible rfl
  refine F2.Steps.consO rfl ?_ ?_
  ·
   intro vz wz hBz hDz hTz K hK
   have HW := ext_drew hBz.ext
   have bx9z := hBz.blk bx9.drew zN
   obtain ⟨zl0, zl1, -⟩ := bx9z.two
   replace hK := hK.out
   apply Kept.mk
   simp only [F2.Wp, F2.fc, actv, fill, Act.put, sZ, sS, fC, fN, tA, cS, cZ] at hK ⊢
   go_simp
   refine hK _ wz (Below.refl _ _) (Fact.eq_mk ?_)
   with_reducible rfl
  refine F2.Steps.consO rfl ?_ ?_
  ·
   intro vz wz hBz hDz hTz K hK
   have E54 : vz 54 = _ := hDz 0 (by kernel_rfl) rfl
   have E55 : vz 55 = _ := hDz 1 (by kernel_rfl) rfl
   have HW := ext_drew hBz.ext
   replace hK := hK.out
   apply Kept.mk
   simp only [F2.Wp, F2.fc, actv, fill, Act.put, sZ, sS, fC, fN, tA, cS, cZ] at hK ⊢
   simp only [E54, E55] at hK ⊢
   go_simp
   refine Calls.mono (v_mul (q9sd.ext HW).q (q9sd.ext HW).q (by omega) (by omega)) ?_
   rintro e w2z ⟨hb2, uz, rfl, hf⟩
   refine hK _ w2z hb2 (Fact.cast (hf) ?_)
   with_reducible rfl
  refine F2.Steps.consO rfl ?_ ?_
  ·
   intro vz wz hBz hDz hTz K hK
   have HW := ext_drew hBz.ext
   have bx12z := hBz.blk bx12.drew zN
   obtain ⟨zl0, zl1, -⟩ := bx12z.two
   replace hK := hK.out
   apply Kept.mk
   simp only [F2.Wp, F2.fc, actv, fill, Act.put, sZ, sS, fC, fN, tA, cS, cZ] at hK ⊢
   go_simp
   refine hK _ wz (Below.refl _ _) (Fact.eq_mk ?_)
   with_reducible rfl
  refine F2.Steps.consO rfl ?_ ?_
  ·
   intro vz wz hBz hDz hTz K hK
   have HW := ext_drew hBz.ext
   have bx12z := hBz.blk bx12.drew zN
   obtain ⟨zl0, zl1, -⟩ := bx12z.two
   replace hK := hK.out
   apply Kept.mk
   simp only [F2.Wp, F2.fc, actv, fill, Act.put, sZ, sS, fC, fN, tA, cS, cZ] at hK ⊢
   go_simp
   refine hK _ wz (Below.refl _ _) (Fact.eq_mk ?_)
   with_reducible rfl
  refine F2.Steps.consO rfl ?_ ?_
  ·
   intro vz wz hBz hDz hTz K hK
   have E57 : vz 57 = _ := hDz 3 (by kernel_rfl) rfl
   have E58 : vz 58 = _ := hDz 4 (by kernel_rfl) rfl
   have HW := ext_drew hBz.ext
   replace hK := hK.out
   apply Kept.mk
   simp only [F2.Wp, F2.fc, actv, fill, Act.put, sZ, sS, fC, fN, tA, cS, cZ] at hK ⊢
   simp only [E57, E58] at hK ⊢
   go_simp
   refine Calls.mono (v_mul (q12se.ext HW).q (q12se.ext HW).q (by omega) (by omega)) ?_
   rintro e w2z ⟨hb2, uz, rfl, hf⟩
   refine hK _ w2z hb2 (Fact.cast (hf) ?_)
   with_reducible rfl
  refine F2.Steps.consO rfl ?_ ?_
  ·
   intro vz wz hBz hDz hTz K hK
   obtain ⟨n56_, A56_, l56_, c56_, E56, q56⟩ : IntV 0 _ _ wz (vz 56) := hDz 2 (by kernel_rfl) rfl
   obtain ⟨n59_, A59_, l59_, c59_, E59, q59⟩ : IntV 0 _ _ wz (vz 59) := hDz 5 (by kernel_rfl) rfl
   have HW := ext_drew hBz.ext
   replace hK := hK.out
   apply Kept.mk
   simp only [F2.Wp, F2.fc, actv, fill, Act.put, sZ, sS, fC, fN, tA, cS, cZ] at hK ⊢
   simp only [E56, E59] at hK ⊢
   go_simp
   refine Calls.mono (v_add q56.q q59.q (by omega) (by omega)) ?_
   rintro e w2z ⟨hb2, uz, rfl, hf⟩
   refine hK _ w2z hb2 (Fact.cast (hf) ?_)
   with_reducible rfl
  refine F2.Steps.consA rfl ⟨NoU.two nB nS, ?_⟩ ?_
  ·
   intro vz wz hBz K hK
   replace hK := hK.out
   apply Kept.mk
   simp only [F2.Wp, F2.fc, actv, fill, Act.put, sZ, sS, fC, fN, tA, cS, cZ] at hK ⊢
   go_simp
   exact hK
  refine F2.Steps.consS rfl rfl ?_ ?_
  ·
   intro vz wz gz hBz hDz E16' hgz hbz K hK
   obtain ⟨zc0, zc1, zc2, zc3⟩ := hbz.two
   obtain ⟨n60_, A60_, l60_, c60_, E60, q60⟩ : IntV 0 _ _ wz (vz 60) := hDz 6 (by kernel_rfl) rfl
   have E16 : vz 16 = .pointer (some ⟨gz, 0, none⟩) := E16'
   have HW := ext_drew hBz.ext
   replace hK := hK.out
   apply Kept.mk
   simp only [F2.Wp, F2.fc, actv, fill, Act.put, sZ, sS, fC, fN, tA, cS, cZ] at hK ⊢
   simp only [E16, E60] at hK ⊢
   go_simp
   refine hK _ ((Far.set _ gz 0 _).trans (Far.set _ gz 1 _)) ⟨_, blk_two hbz, NoU.two nB nS, Fact.cast (Fact.z_mk q60) ?_⟩
   with_reducible rfl
  exact F2.Steps.nil
 intro vh w8 hBz ⟨hOz, hAz, hNz, hSz⟩
 have E54 : vh 54 = _ := hOz 0 (by decide) rfl
 have E55 : vh 55 = _ := hOz 1 (by decide) rfl
 obtain ⟨n56_, A56_, l56_, c56_, E56, q56⟩ : IntV 0 _ _ w8 (vh 56) := hOz 2 (by decide) rfl
 have E57 : vh 57 = _ := hOz 3 (by decide) rfl
 have E58 : vh 58 = _ := hOz 4 (by decide) rfl
 obtain ⟨n59_, A59_, l59_, c59_, E59, q59⟩ : IntV 0 _ _ w8 (vh 59) := hOz 5 (by decide) rfl
 obtain ⟨n60_, A60_, l60_, c60_, E60, q60⟩ : IntV 0 _ _ w8 (vh 60) := hOz 6 (by decide) rfl
 obtain ⟨g16, cs16, E16, hg16, bx16, hs16, hz16⟩ := hAz 7 _ _ (by decide) rfl
 obtain ⟨n16sh_, A16sh_, l16sh_, c16sh_, E16sh, q16sh⟩ : IntV 0 _ _ w8 (.agg cs16) := hs16 8 (by decide) rfl
 injection E16sh with E16sh
 subst E16sh
 simp only [Act.put, actv, fill, fC, fN, tA, cS, cZ]
 simp only [E54, E55, E56, E57, E58, E59, E60, (show vh 16 = _ from E16)]
 clear E54 E55 E56 E57 E58 E59 E60 E16
 have hge16 : w.heap.size ≤ g16 := Nat.le_trans HB.out.size hg16
 have hne16_3 := hide (Nat.ne_of_gt (Nat.lt_of_lt_of_le bx3.lt (show w7.heap.size ≤ g16 from hg16)))
 have hne16_8 := hide (Nat.ne_of_gt (Nat.lt_of_lt_of_le bx8.lt (show w7.heap.size ≤ g16 from hg16)))
 have hne16_9 := hide (Nat.ne_of_gt (Nat.lt_of_lt_of_le bx9.lt (show w7.heap.size ≤ g16 from hg16)))
 have hne16_11 := hide (Nat.ne_of_gt (Nat.lt_of_lt_of_le bx11.lt (show w7.heap.size ≤ g16 from hg16)))
 have hne16_12 := hide (Nat.ne_of_gt (Nat.lt_of_lt_of_le bx12.lt (show w7.heap.size ≤ g16 from hg16)))
 have hne16_14 := hide (Nat.ne_of_gt (Nat.lt_of_lt_of_le bx14.lt (show w7.heap.size ≤ g16 from hg16)))
 have hne16_15 := hide (Nat.ne_of_gt (Nat.lt_of_lt_of_le bx15.lt (show w7.heap.size ≤ g16 from hg16)))
 replace q3sc := q3sc.ext hBz.ext
 replace q8sd := q8sd.ext hBz.ext
 replace q9sd := q9sd.ext hBz.ext
 replace q11se := q11se.ext hBz.ext
 replace q12se := q12se.ext hBz.ext
 replace q14sf := q14sf.ext hBz.ext
 replace q15sg := q15sg.ext hBz.ext
 replace h0 := h0.ext hBz.ext
 replace bx3 := hBz.blk bx3 zN
 replace bx8 := hBz.blk bx8 zN
 replace bx9 := hBz.blk bx9 zN
 replace bx11 := hBz.blk bx11 zN
 replace bx12 := hBz.blk bx12 zN
 replace bx14 := hBz.blk bx14 zN
 replace bx15 := hBz.blk bx15 zN
 replace HB := hide (HB.out.trans (hBz.below (B := w.heap.size) HB.out.size zE))
 clear hOz hAz hNz hSz hs16 hz16 hBz
 obtain ⟨d0, HD0⟩ : ∃ c, Hid (cmpZ (sa * sa + ca * ca) (1 * 2 ^ (2 * (20 + qa)).toNat) = c) := ⟨_, hide rfl⟩
 obtain ⟨d1, HD1⟩ : ∃ c, Hid (cmpZ (1 * 2 ^ (2 * (20 + qa)).toNat) (sb * sb + cb * cb) = c) := ⟨_, hide rfl⟩
 obtain ⟨s0, HS0⟩ : ∃ c, Hid (sa.sign = c) := ⟨_, hide rfl⟩
 have hd1 : d1 ≤ 0 := by rw [← HD1.out]; exact cmp_order Hhigh.out
 by_cases hsa : sa < 0
 ·
  have hs0 : s0 < 0 := by rw [← HS0.out, Int.sign_eq_neg_one_of_neg hsa]; omega
  replace hsa := hide hsa
  obtain ⟨bx3c0, bx3c1, -⟩ := bx3.two
  obtain ⟨bx8c0, bx8c1, -⟩ := bx8.two
  obtain ⟨bx9c0, bx9c1, -⟩ := bx9.two
  obtain ⟨bx11c0, bx11c1, -⟩ := bx11.two
  obtain ⟨bx12c0, bx12c1, -⟩ := bx12.two
  obtain ⟨bx14c0, bx14c1, -⟩ := bx14.two
  obtain ⟨bx15c0, bx15c1, -⟩ := bx15.two
  obtain ⟨bx16c0, bx16c1, -⟩ := bx16.two
  go_wp2_with fail
  refine Calls.mono (HS0.out ▸ v_sign q8sd.q (by omega)) ?_
  rintro e w9 ⟨hb2, uz9, rfl, hf⟩
  clear bx3c0 bx3c1 bx8c0 bx8c1 bx9c0 bx9c1 bx11c0 bx11c1 bx12c0 bx12c1 bx14c0 bx14c1 bx15c0 bx15c1 bx16c0 bx16c1
  obtain rfl := Fact.eq_of hf
  have HW := ext_of hb2
  replace h0 := h0.ext HW
  replace q11se := q11se.ext HW
  replace q12se := q12se.ext HW
  replace q14sf := q14sf.ext HW
  replace q15sg := q15sg.ext HW
  replace q16sh := q16sh.ext HW
  replace q3sc := q3sc.ext HW
  replace q8sd := q8sd.ext HW
  replace q9sd := q9sd.ext HW
  replace bx3 := bx3.below hb2 bx3.lt
  replace bx8 := bx8.below hb2 bx8.lt
  replace bx9 := bx9.below hb2 bx9.lt
  replace bx11 := bx11.below hb2 bx11.lt
  replace bx12 := bx12.below hb2 bx12.lt
  replace bx14 := bx14.below hb2 bx14.lt
  replace bx15 := bx15.below hb2 bx15.lt
  replace bx16 := bx16.below hb2 bx16.lt
  replace HB := hide (HB.out.trans (hb2.mono HB.out.size))
  clear HW hb2
  obtain ⟨bx3c0, bx3c1, -⟩ := bx3.two
  obtain ⟨bx8c0, bx8c1, -⟩ := bx8.two
  obtain ⟨bx9c0, bx9c1, -⟩ := bx9.two
  obtain ⟨bx11c0, bx11c1, -⟩ := bx11.two
  obtain ⟨bx12c0, bx12c1, -⟩ := bx12.two
  obtain ⟨bx14c0, bx14c1, -⟩ := bx14.two
  obtain ⟨bx15c0, bx15c1, -⟩ := bx15.two
  obtain ⟨bx16c0, bx16c1, -⟩ := bx16.two
  go_wp2_with fail
  refine Calls.mono (HD1.out ▸ v_cmp q14sf.q q16sh.q (by omega) (by omega)) ?_
  rintro e w10 ⟨hb2, uz10, rfl, hf⟩
  clear bx3c0 bx3c1 bx8c0 bx8c1 bx9c0 bx9c1 bx11c0 bx11c1 bx12c0 bx12c1 bx14c0 bx14c1 bx15c0 bx15c1 bx16c0 bx16c1
  obtain rfl := Fact.eq_of hf
  have HW := ext_of hb2
  replace h0 := h0.ext HW
  replace q11se := q11se.ext HW
  replace q12se := q12se.ext HW
  replace q14sf := q14sf.ext HW
  replace q15sg := q15sg.ext HW
  replace q16sh := q16sh.ext HW
  replace q3sc := q3sc.ext HW
  replace q8sd := q8sd.ext HW
  replace q9sd := q9sd.ext HW
  replace bx3 := bx3.below hb2 bx3.lt
  replace bx8 := bx8.below hb2 bx8.lt
  replace bx9 := bx9.below hb2 bx9.lt
  replace bx11 := bx11.below hb2 bx11.lt
  replace bx12 := bx12.below hb2 bx12.lt
  replace bx14 := bx14.below hb2 bx14.lt
  replace bx15 := bx15.below hb2 bx15.lt
  replace bx16 := bx16.below hb2 bx16.lt
  replace HB := hide (HB.out.trans (hb2.mono HB.out.size))
  clear HW hb2
  go_wp2_with fail
  go_ret
  exact ⟨HB.out, VF.mk (Fact.eq_self _ _)⟩
 ·
  have hs0 : ¬ s0 < 0 := by rw [← HS0.out]; have := Int.sign_nonneg_iff.2 (Int.not_lt.1 hsa); omega
  have hd0 : d0 ≤ 0 := by rw [← HD0.out]; exact cmp_order (Hlow.out (Int.not_lt.1 hsa))
  replace hsa := hide hsa
  obtain ⟨bx3c0, bx3c1, -⟩ := bx3.two
  obtain ⟨bx8c0, bx8c1, -⟩ := bx8.two
  obtain ⟨bx9c0, bx9c1, -⟩ := bx9.two
  obtain ⟨bx11c0, bx11c1, -⟩ := bx11.two
  obtain ⟨bx12c0, bx12c1, -⟩ := bx12.two
  obtain ⟨bx14c0, bx14c1, -⟩ := bx14.two
  obtain ⟨bx15c0, bx15c1, -⟩ := bx15.two
  obtain ⟨bx16c0, bx16c1, -⟩ := bx16.two
  go_wp2_with fail
  refine Calls.mono (HS0.out ▸ v_sign q8sd.q (by omega)) ?_
  rintro e w11 ⟨hb2, uz11, rfl, hf⟩
  clear bx3c0 bx3c1 bx8c0 bx8c1 bx9c0 bx9c1 bx11c0 bx11c1 bx12c0 bx12c1 bx14c0 bx14c1 bx15c0 bx15c1 bx16c0 bx16c1
  obtain rfl := Fact.eq_of hf
  have HW := ext_of hb2
  replace h0 := h0.ext HW
  replace q11se := q11se.ext HW
  replace q12se := q12se.ext HW
  replace q14sf := q14sf.ext HW
  replace q15sg := q15sg.ext HW
  replace q16sh := q16sh.ext HW
  replace q3sc := q3sc.ext HW
  replace q8sd := q8sd.ext HW
  replace q9sd := q9sd.ext HW
  replace bx3 := bx3.below hb2 bx3.lt
  replace bx8 := bx8.below hb2 bx8.lt
  replace bx9 := bx9.below hb2 bx9.lt
  replace bx11 := bx11.below hb2 bx11.lt
  replace bx12 := bx12.below hb2 bx12.lt
  replace bx14 := bx14.below hb2 bx14.lt
  replace bx15 := bx15.below hb2 bx15.lt
  replace bx16 := bx16.below hb2 bx16.lt
  replace HB := hide (HB.out.trans (hb2.mono HB.out.size))
  clear HW hb2
  obtain ⟨bx3c0, bx3c1, -⟩ := bx3.two
  obtain ⟨bx8c0, bx8c1, -⟩ := bx8.two
  obtain ⟨bx9c0, bx9c1, -⟩ := bx9.two
  obtain ⟨bx11c0, bx11c1, -⟩ := bx11.two
  obtain ⟨bx12c0, bx12c1, -⟩ := bx12.two
  obtain ⟨bx14c0, bx14c1, -⟩ := bx14.two
  obtain ⟨bx15c0, bx15c1, -⟩ := bx15.two
  obtain ⟨bx16c0, bx16c1, -⟩ := bx16.two
  go_wp2_with fail
  refine Calls.mono (HD0.out ▸ v_cmp q15sg.q q14sf.q (by omega) (by omega)) ?_
  rintro e w12 ⟨hb2, uz12, rfl, hf⟩
  clear bx3c0 bx3c1 bx8c0 bx8c1 bx9c0 bx9c1 bx11c0 bx11c1 bx12c0 bx12c1 bx14c0 bx14c1 bx15c0 bx15c1 bx16c0 bx16c1
  obtain rfl := Fact.eq_of hf
  have HW := ext_of hb2
  replace h0 := h0.ext HW
  replace q11se := q11se.ext HW
  replace q12se := q12se.ext HW
  replace q14sf := q14sf.ext HW
  replace q15sg := q15sg.ext HW
  replace q16sh := q16sh.ext HW
  replace q3sc := q3sc.ext HW
  replace q8sd := q8sd.ext HW
  replace q9sd := q9sd.ext HW
  replace bx3 := bx3.below hb2 bx3.lt
  replace bx8 := bx8.below hb2 bx8.lt
  replace bx9 := bx9.below hb2 bx9.lt
  replace bx11 := bx11.below hb2 bx11.lt
  replace bx12 := bx12.below hb2 bx12.lt
  replace bx14 := bx14.below hb2 bx14.lt
  replace bx15 := bx15.below hb2 bx15.lt
  replace bx16 := bx16.below hb2 bx16.lt
  replace HB := hide (HB.out.trans (hb2.mono HB.out.size))
  clear HW hb2
  obtain ⟨bx3c0, bx3c1, -⟩ := bx3.two
  obtain ⟨bx8c0, bx8c1, -⟩ := bx8.two
  obtain ⟨bx9c0, bx9c1, -⟩ := bx9.two
  obtain ⟨bx11c0, bx11c1, -⟩ := bx11.two
  obtain ⟨bx12c0, bx12c1, -⟩ := bx12.two
  obtain ⟨bx14c0, bx14c1, -⟩ := bx14.two
  obtain ⟨bx15c0, bx15c1, -⟩ := bx15.two
  obtain ⟨bx16c0, bx16c1, -⟩ := bx16.two
  go_wp2_with fail
  refine Calls.mono (HD1.out ▸ v_cmp q14sf.q q16sh.q (by omega) (by omega)) ?_
  rintro e w13 ⟨hb2, uz13, rfl, hf⟩
  clear bx3c0 bx3c1 bx8c0 bx8c1 bx9c0 bx9c1 bx11c0 bx11c1 bx12c0 bx12c1 bx14c0 bx14c1 bx15c0 bx15c1 bx16c0 bx16c1
  obtain rfl := Fact.eq_of hf
  have HW := ext_of hb2
  replace h0 := h0.ext HW
  replace q11se := q11se.ext HW
  replace q12se := q12se.ext HW
  replace q14sf := q14sf.ext HW
  replace q15sg := q15sg.ext HW
  replace q16sh := q16sh.ext HW
  replace q3sc := q3sc.ext HW
  replace q8sd := q8sd.ext HW
  replace q9sd := q9sd.ext HW
  replace bx3 := bx3.below hb2 bx3.lt
  replace bx8 := bx8.below hb2 bx8.lt
  replace bx9 := bx9.below hb2 bx9.lt
  replace bx11 := bx11.below hb2 bx11.lt
  replace bx12 := bx12.below hb2 bx12.lt
  replace bx14 := bx14.below hb2 bx14.lt
  replace bx15 := bx15.below hb2 bx15.lt
  replace bx16 := bx16.below hb2 bx16.lt
  replace HB := hide (HB.out.trans (hb2.mono HB.out.size))
  clear HW hb2
  go_wp2_with fail
  go_ret
  exact ⟨HB.out, VF.mk (Fact.eq_self _ _)⟩

theorem walk (w : World) (n0 : Bool) (A0 : Option Addr) (l0 c0 : Nat) (s0 : ∃ L, Nums w 0 (.slice A0 l0 c0) L) (a1 : Int) (w1 : (Lit.int .i64 a1).wf = true) (a2 : Int) (w2 : (Lit.int .i64 a2).wf = true) :
    Calls Try.prog 4 #[.agg #[.bool n0, .slice A0 l0 c0], .int .i64 a1, .int .i64 a2] w fun e w' => e = .returned (.bool true) ∧ Below w.heap.size w w' := by
  obtain ⟨L, h⟩ := s0
  refine (walkN (k0 := L.length) (L0 := L) (x0 := ival n0 (val W L)) ⟨L, h, Nat.le_refl _, rfl⟩ h ).mono ?_
  rintro e w' ⟨hb, u, rfl, hu⟩
  exact ⟨by rw [Fact.eq_of hu], hb⟩

/-! ### the row -/
set_option maxRecDepth 100000 in
theorem lifted (os : Os) (started : os.Started) (H : Type) (enc : TypeId × Value → H) :
    ReturnsInHanded {} Try.checked os 4 .any (Rows.rowsSquaresSpec.pre6 enc Try.prog Try.f4 Rows.rowsSquaresRow.domain false) (Rows.rowsSquaresSpec.post enc Try.prog Try.f4 false true false false) := by
  refine returnsInHanded_of_change (C := Try.checked) own started (by kernel_rfl) Try.func4
    (ChangeSpec.witness6 (enc := enc) (C := Try.checked) false ⟨#[], #[.agg #[.bool false, .slice none 0 0], .int .i64 0, .int .i64 0], []⟩ 8 (by kernel_rfl) (by kernel_rfl) (by kernel_rfl) (by kernel_rfl)) ?_
  intro W base args ds gs before hval0 hW hcnd _
  have hval : ∀ (j : Nat) t v, Try.f4.params[j]? = some t → args[j]? = some v → Value.okWide Try.prog W .any base t v := hval0
  have hW' := hW
  obtain ⟨p, q, hA0, hV, rfl, hfz, hnd⟩ := hW
  have hA : DataW.TrodAll enc Try.prog W 0 (fun _ => true) true Try.f4.params.toList args.toList ds p := hA0
  rw [Try.params4] at hA hval
  obtain ⟨v0, vs0, d0, ds0, p0, q0, hargs, rfl, rfl, h0, r0⟩ := trodAll_cons hA
  obtain ⟨v1, vs1, d1, ds1, p1, q1, rfl, rfl, rfl, h1, r1⟩ := trodAll_cons r0
  obtain ⟨v2, vs2, d2, ds2, p2, q2, rfl, rfl, rfl, h2, r2⟩ := trodAll_cons r1
  obtain ⟨rfl, rfl, rfl⟩ := trodAll_nil r2
  obtain rfl : args = #[v0, v1, v2] := by cases args; simp_all
  obtain ⟨rfl, rfl⟩ := trodVars_none hV
  have k0 := h0
  have lt0 : ∀ x ∈ p0, x.block < W.heap.size := by obtain ⟨m, hm⟩ := k0; exact DataW.trod_lt m _ _ _ hm
  obtain ⟨n0, A0, l0, c0, rfl, s0⟩ := open_int_s (hval 0 24 v0 rfl rfl) h0
  obtain ⟨a1, rfl, rfl, rfl, w1⟩ := open_int Try.underlying3 (hval 1 3 v1 rfl rfl) h1
  obtain ⟨a2, rfl, rfl, rfl, w2⟩ := open_int Try.underlying3 (hval 2 3 v2 rfl rfl) h2
  clear hA0 hval0
  refine (walk W n0 A0 l0 c0 s0 a1 w1 a2 w2).mono fun e W' ⟨he, bel⟩ => ?_
  subst he
  exact ⟨_, rfl, _, _, _, [], _, [], hW', trodAll_mk1 (shut_bool Try.underlying4 _), (trodAll_cons_mk (Below.trod laidOut (by kernel_rfl) (of_decide_eq_true (by kernel_rfl)) k0 bel lt0) (trodAll_cons_mk (shut_int Try.underlying3 w1) (trodAll_cons_mk (shut_int Try.underlying3 w2) trodAll_mk0))), rfl, bel.frame _, fun h => by cases h⟩

theorem over : Rows.rowsSquaresRow.holds Try.pinned (OpenSpec.ofChange Rows.rowsSquaresSpec) :=
  OpenClaim.holds_of_wide 4 Try.f4 rfl rfl rfl rfl rfl rfl rfl ⟨rfl, rfl, rfl, rfl, rfl⟩ rfl rfl rfl rfl rfl (by kernel_rfl) Try.func4 (by kernel_rfl)
    (of_decide_eq_true (by kernel_rfl)) (by unfold Func.isWrapper; first | (rw [if_pos (by decide +kernel)]; kernel_rfl) | (rw [if_neg (by decide +kernel)]; exact ⟨rfl, rfl⟩))
    (fun os started H enc _ => lifted os started H enc)

theorem proved : Rows.RowsSquaresSaid := over
#print axioms proved
end Go.Proofs.Ytnephejalollfaa.rowsSquares
