/-
  hairlinelaw06.RowsExp returns true for any integer, any places and any terms. Conditions: none.
-/
import Derived.Test.YtnephejalollfaaRows
import Derived.Test.YtnephejalollfaaRs
import Derived.Test.YtnephejalollfaaRe
import Derived.Test.YtnephejalollfaaOp5
namespace Go.Proofs.Ytnephejalollfaa.rowsExp
open Go.ChangeShapes Go.WideShapes Go.ChangeAt Go.RowKit
open L (val)
set_option linter.unusedVariables false
set_option linter.unusedSimpArgs false

theorem own : ownKnob Try.prog.godebug = none := by kernel_rfl
theorem laidOut : laidOutB Try.prog = true := by kernel_rfl
theorem dexp_named {w : World} {k0 : Nat} {n0 : Bool} {A0 : Option Addr} {l0 c0 : Nat} {x0 q n ra rb rc : Int} (h0 : Q w k0 n0 A0 l0 c0 x0) (hk0 : k0 ≤ 40) (ha : Hid ((if mayR x0 q n 2 = true then expLo x0 q n.toNat else 0) = ra)) (hb : Hid ((if mayR x0 q n 2 = true then expHi x0 q n.toNat else 0) = rb)) (hc : Hid ((if mayR x0 q n 2 = true then (0 : Int) else 1) = rc)) :
    Calls Try.prog 12 #[.agg #[.bool n0, .slice A0 l0 c0], .int .i64 q, .int .i64 n] w fun e w' => Below w.heap.size w w' ∧ VF (Fact.t3 (Fact.z 340 ra) (Fact.z 340 rb) (Fact.eq (.int .i64 rc))) e w' := by
  have h := dexp_calls (q := q) (n := n) h0 hk0
  rw [ha.out, hb.out, hc.out] at h
  exact h
set_option maxHeartbeats 4000000 in
set_option maxRecDepth 100000 in
theorem walkN {w : World} {L0 : List Nat} {k0 : Nat} {n0 : Bool} {A0 : Option Addr} {l0 c0 : Nat} {x0 : Int} {q n : Int} (h0 : Q w k0 n0 A0 l0 c0 x0) (hL0 : Nums w 0 (.slice A0 l0 c0) L0) :
    Calls Try.prog 3 #[.agg #[.bool n0, .slice A0 l0 c0], .int .i64 q, .int .i64 n] w fun e w' => Below w.heap.size w w' ∧ VF (Fact.eq (.bool true)) e w' := by
 have HL0 := hide hL0
 clear hL0
 obtain ⟨t, Ht⟩ : ∃ t, Hid (ival n0 (val W (L0.take 20)) = t) := ⟨_, hide rfl⟩
 obtain ⟨nn, Hn⟩ : ∃ m, Hid (fewZ q n = m) := ⟨_, hide rfl⟩
 obtain ⟨ra0, HRA0⟩ : ∃ r, Hid ((if mayR t q nn 2 = true then expLo t q nn.toNat else 0) = r) := ⟨_, hide rfl⟩
 obtain ⟨rb0, HRB0⟩ : ∃ r, Hid ((if mayR t q nn 2 = true then expHi t q nn.toNat else 0) = r) := ⟨_, hide rfl⟩
 obtain ⟨rc0, HRC0⟩ : ∃ r, Hid ((if mayR t q nn 2 = true then (0 : Int) else 1) = r) := ⟨_, hide rfl⟩
 go_enter Try.func3, Try.ntmps3
 have HB : Hid (Below w.heap.size w w) := hide (Below.refl _ _)
 go_upto_region 0 with (fail)
 refine F2.regionS [.al 24 #[.bool n0, .slice A0 l0 c0], .o] [Fact.any, Fact.eq ?ca6_] [3, 6] [3, 6] (by kernel_rfl) ?soa ?sopa (by kernel_rfl) ?sta ?fina
 case soa => exact fun x hx => by cases hx
 case sopa => exact List.Pairwise.nil
 case sta =>
  refine F2.Steps.consA rfl ⟨NoU.two nB nS, ?_⟩ ?_
  ·
   intro vz wz hBz K hK
   replace hK := hK.out
   apply Kept.mk
   simp only [F2.Wp, F2.fc, actv, fill, Act.put, sZ, sS, fC, fN, tA, cS, cZ] at hK ⊢
   go_simp
   exact hK
  refine F2.Steps.consO rfl ?_ ?_
  ·
   intro vz wz hBz hDz hTz K hK
   have HW := hBz.ext
   replace hK := hK.out
   apply Kept.mk
   simp only [F2.Wp, F2.fc, actv, fill, Act.put, sZ, sS, fC, fN, tA, cS, cZ] at hK ⊢
   go_simp
   refine hK _ wz (Below.refl _ _) (Fact.eq_mk ?_)
   with_reducible rfl
  exact F2.Steps.nil
 intro va w1 hBz ⟨hOz, hAz, hNz, hSz⟩
 obtain ⟨g3, cs3, E3, hg3, bx3, hs3, hz3⟩ := hAz 0 _ _ (by decide) rfl
 have hzz := hz3 (F2.nost (by kernel_rfl))
 subst hzz
 have E6 : va 6 = _ := hOz 1 (by decide) rfl
 simp only [Act.put, actv, fill, fC, fN, tA, cS, cZ]
 simp only [(show va 3 = _ from E3), E6]
 clear E3 E6
 have hge3 : w.heap.size ≤ g3 := Nat.le_trans HB.out.size hg3
 replace h0 := h0.ext hBz.ext
 replace HL0 := hide (HL0.out.ext (hBz).ext)
 replace HB := hide (HB.out.trans (hBz.below (B := w.heap.size) HB.out.size zE))
 clear hOz hAz hNz hSz hs3 hz3 hBz
 go_upto_region 1 with (fail)
 refine F2.regionS [.o, .o] [Fact.eq ?cb14_, Fact.eq ?cb7_] [14, 7] [14, 7] (by kernel_rfl) ?sob ?sopb (by kernel_rfl) ?stb ?finb
 case sob => exact fun x hx => by cases hx
 case sopb => exact List.Pairwise.nil
 case stb =>
  refine F2.Steps.consO rfl ?_ ?_
  ·
   intro vz wz hBz hDz hTz K hK
   have HW := hBz.ext
   replace hK := hK.out
   apply Kept.mk
   simp only [F2.Wp, F2.fc, actv, fill, Act.put, sZ, sS, fC, fN, tA, cS, cZ] at hK ⊢
   go_simp
   refine Calls.mono (shown6_calls) ?_
   rintro e w2z ⟨hb2, uz, rfl, hf⟩
   go_wp2_with fail
   refine hK _ w2z hb2 (Fact.cast (hf) ?_)
   with_reducible rfl
  refine F2.Steps.consO rfl ?_ ?_
  ·
   intro vz wz hBz hDz hTz K hK
   have E14 : vz 14 = _ := hDz 0 (by kernel_rfl) rfl
   have HW := hBz.ext
   replace hK := hK.out
   apply Kept.mk
   simp only [F2.Wp, F2.fc, actv, fill, Act.put, sZ, sS, fC, fN, tA, cS, cZ] at hK ⊢
   simp only [E14] at hK ⊢
   go_simp
   refine hK _ wz (Below.refl _ _) (Fact.eq_mk ?_)
   with_reducible rfl
  exact F2.Steps.nil
 intro vb w2 hBz ⟨hOz, hAz, hNz, hSz⟩
 have E14 : vb 14 = _ := hOz 0 (by decide) rfl
 have E7 : vb 7 = _ := hOz 1 (by decide) rfl
 simp only [Act.put, actv, fill, fC, fN, tA, cS, cZ]
 simp only [E14, E7]
 clear E14 E7
 replace h0 := h0.ext hBz.ext
 replace bx3 := hBz.blk bx3 zN
 replace HL0 := hide (HL0.out.ext (hBz).ext)
 replace HB := hide (HB.out.trans (hBz.below (B := w.heap.size) HB.out.size zE))
 clear hOz hAz hNz hSz hBz
 go_upto_region 2 with (fail)
 refine F2.regionS [.o, .o, .so (g3) 24 #[.bool n0, .slice A0 l0 c0]] [Fact.eq ?cc15_, Fact.s_z ?kc16_a ?zc16_a, Fact.s_z ?kcs3_a ?zcs3_a] [15, 16] [15, 16, 0] (by kernel_rfl) ?soc ?sopc (by kernel_rfl) ?stc ?finc
 case soc => exact List.forall_mem_cons.2 ⟨⟨bx3, NoU.two nB nS⟩, fun x hx => by cases hx⟩
 case sopc => exact List.Pairwise.cons (fun y hy => by cases hy) (List.Pairwise.nil)
 case stc =>
  refine F2.Steps.consO rfl ?_ ?_
  ·
   intro vz wz hBz hDz hTz K hK
   have HW := hBz.ext
   have bx3z := hTz 2 _ _ _ _ rfl rfl (by kernel_rfl)
   obtain ⟨zl0, zl1, -⟩ := bx3z.two
   replace hK := hK.out
   apply Kept.mk
   simp only [F2.Wp, F2.fc, actv, fill, Act.put, sZ, sS, fC, fN, tA, cS, cZ] at hK ⊢
   go_simp
   refine hK _ wz (Below.refl _ _) (Fact.eq_mk ?_)
   with_reducible rfl
  refine F2.Steps.consO rfl ?_ ?_
  ·
   intro vz wz hBz hDz hTz K hK
   have E15 : vz 15 = _ := hDz 0 (by kernel_rfl) rfl
   have HW := hBz.ext
   replace hK := hK.out
   apply Kept.mk
   simp only [F2.Wp, F2.fc, actv, fill, Act.put, sZ, sS, fC, fN, tA, cS, cZ] at hK ⊢
   simp only [E15] at hK ⊢
   go_simp
   refine Calls.mono (Ht.out ▸ cut6_calls   20 (HL0.out.ext HW) (by omega)) ?_
   rintro e w2z ⟨hb2, uz, rfl, hf⟩
   go_wp2_with fail
   refine hK _ w2z hb2 (Fact.cast (hf) ?_)
   with_reducible rfl
  refine F2.Steps.consT rfl ?_ ?_
  ·
   intro vz wz hBz hDz hbz K hK
   obtain ⟨zc0, zc1, zc2, zc3⟩ := hbz.two
   obtain ⟨n16a_, A16a_, l16a_, c16a_, E16, q16a⟩ : SV_z _ _ wz (vz 16) := hDz 1 (by kernel_rfl) rfl
   have HW := hBz.ext
   replace hK := hK.out
   apply Kept.mk
   simp only [F2.Wp, F2.fc, actv, fill, Act.put, sZ, sS, fC, fN, tA, cS, cZ] at hK ⊢
   simp only [E16] at hK ⊢
   go_simp
   refine hK _ ((Far.set _ _ 0 _).trans (Far.set _ _ 1 _)) ⟨_, blk_two hbz, NoU.two nB nS, Fact.cast (Fact.s_z_mk q16a) ?_⟩
   with_reducible rfl
  exact F2.Steps.nil
 intro vc w3 hBz ⟨hOz, hAz, hNz, hSz⟩
 have E15 : vc 15 = _ := hOz 0 (by decide) rfl
 obtain ⟨n16a_, A16a_, l16a_, c16a_, E16, q16a⟩ : SV_z _ _ w3 (vc 16) := hOz 1 (by decide) rfl
 obtain ⟨cs3, bx3n, hs3⟩ := hSz 2 _ _ _ (by decide) rfl
 obtain ⟨n3sca_, A3sca_, l3sca_, c3sca_, E3sc, q3sca⟩ : SV_z _ _ w3 (.agg cs3) := hs3
 injection E3sc with E3sc
 subst E3sc
 simp only [Act.put, actv, fill, fC, fN, tA, cS, cZ]
 simp only [E15, E16]
 clear E15 E16
 replace h0 := h0.ext hBz.ext
 replace HL0 := hide (HL0.out.ext (hBz).ext)
 replace HB := hide (HB.out.trans (hBz.below (B := w.heap.size) HB.out.size (zA hge3 zE)))
 clear bx3
 have bx3 := bx3n
 clear bx3n
 clear hOz hAz hNz hSz hBz
 go_upto_region 3 with (fail)
 obtain ⟨bx3c0, bx3c1, -⟩ := bx3.two
 go_wp2_with fail
 refine Calls.mono (Hn.out ▸ few_calls) ?_
 rintro e w4 ⟨hb2, uz4, rfl, hf⟩
 clear bx3c0 bx3c1
 obtain rfl := Fact.eq_of hf
 have HW := ext_of hb2
 replace h0 := h0.ext HW
 replace q3sca := q3sca.ext HW
 replace bx3 := bx3.below hb2 bx3.lt
 replace HL0 := hide (HL0.out.ext ((low_of hb2)).ext)
 replace HB := hide (HB.out.trans (hb2.mono HB.out.size))
 clear HW hb2
 go_upto_region 4 with (fail)
 refine F2.regionS [.o, .o, .o, .o, .o, .o, .o, .o, .al 24 #[.bool false, .slice none 0 0], .al 24 #[.bool false, .slice none 0 0], .st 8, .st 9, .o] [Fact.eq ?ce21_, Fact.eq ?ce22_, Fact.eq ?ce23_, Fact.t3 (Fact.z ?ke24_p ?ze24_p) (Fact.z ?ke24_q ?ze24_q) (Fact.eq ?ce24_r), Fact.t3 (Fact.z ?ke20_p ?ze20_p) (Fact.z ?ke20_q ?ze20_q) (Fact.eq ?ce20_r), Fact.z ?ke25_ ?ze25_, Fact.z ?ke26_ ?ze26_, Fact.eq ?ce27_, Fact.any, Fact.any, Fact.z ?kes8_ ?zes8_, Fact.z ?kes9_ ?zes9_, Fact.eq ?ce10_] [21, 22, 23, 24, 20, 25, 26, 27, 8, 9, 10] [21, 22, 23, 24, 20, 25, 26, 27, 8, 9, 0, 0, 10] (by kernel_rfl) ?soe ?sope (by kernel_rfl) ?ste ?fine
 case soe => exact fun x hx => by cases hx
 case sope => exact List.Pairwise.nil
 case ste =>
  refine F2.Steps.consO rfl ?_ ?_
  ·
   intro vz wz hBz hDz hTz K hK
   have HW := hBz.ext
   have bx3z := hBz.blk bx3 zN
   obtain ⟨zl0, zl1, -⟩ := bx3z.two
   replace hK := hK.out
   apply Kept.mk
   simp only [F2.Wp, F2.fc, actv, fill, Act.put, sZ, sS, fC, fN, tA, cS, cZ] at hK ⊢
   go_simp
   refine hK _ wz (Below.refl _ _) (Fact.eq_mk ?_)
   with_reducible rfl
  refine F2.Steps.consO rfl ?_ ?_
  ·
   intro vz wz hBz hDz hTz K hK
   have HW := hBz.ext
   replace hK := hK.out
   apply Kept.mk
   simp only [F2.Wp, F2.fc, actv, fill, Act.put, sZ, sS, fC, fN, tA, cS, cZ] at hK ⊢
   go_simp
   refine hK _ wz (Below.refl _ _) (Fact.eq_mk ?_)
   with_reducible rfl
  refine F2.Steps.consO rfl ?_ ?_
  ·
   intro vz wz hBz hDz hTz K hK
   have HW := hBz.ext
   replace hK := hK.out
   apply Kept.mk
   simp only [F2.Wp, F2.fc, actv, fill, Act.put, sZ, sS, fC, fN, tA, cS, cZ] at hK ⊢
   go_simp
   refine hK _ wz (Below.refl _ _) (Fact.eq_mk ?_)
   with_reducible rfl
  refine F2.Steps.consO rfl ?_ ?_
  ·
   intro vz wz hBz hDz hTz K hK
   have E21 : vz 21 = _ := hDz 0 (by kernel_rfl) rfl
   have E22 : vz 22 = _ := hDz 1 (by kernel_rfl) rfl
   have E23 : vz 23 = _ := hDz 2 (by kernel_rfl) rfl
   have HW := hBz.ext
   replace hK := hK.out
   apply Kept.mk
   simp only [F2.Wp, F2.fc, actv, fill, Act.put, sZ, sS, fC, fN, tA, cS, cZ] at hK ⊢
   simp only [E21, E22, E23] at hK ⊢
   go_simp
   refine Calls.mono (rexp_named (q3sca.ext HW) (by omega) HRA0 HRB0 HRC0) ?_
   rintro e w2z ⟨hb2, uz, rfl, hf⟩
   go_wp2_with fail
   refine hK _ w2z hb2 (Fact.cast (hf) ?_)
   with_reducible rfl
  refine F2.Steps.consO rfl ?_ ?_
  ·
   intro vz wz hBz hDz hTz K hK
   obtain ⟨x24p_, x24q_, x24r_, E24, h24p, h24q, h24r⟩ : TV3 _ _ _ wz (vz 24) := hDz 3 (by kernel_rfl) rfl
   obtain rfl := Fact.eq_of h24r
   have HW := hBz.ext
   replace hK := hK.out
   apply Kept.mk
   simp only [F2.Wp, F2.fc, actv, fill, Act.put, sZ, sS, fC, fN, tA, cS, cZ] at hK ⊢
   simp only [E24] at hK ⊢
   go_simp
   refine hK _ wz (Below.refl _ _) (Fact.cast (Fact.t3_mk h24p h24q (Fact.eq_self _ _)) ?_)
   with_reducible rfl
  refine F2.Steps.consO rfl ?_ ?_
  ·
   intro vz wz hBz hDz hTz K hK
   obtain ⟨x20p_, x20q_, x20r_, E20, h20p, h20q, h20r⟩ : TV3 _ _ _ wz (vz 20) := hDz 4 (by kernel_rfl) rfl
   obtain rfl := Fact.eq_of h20r
   have HW := hBz.ext
   replace hK := hK.out
   apply Kept.mk
   simp only [F2.Wp, F2.fc, actv, fill, Act.put, sZ, sS, fC, fN, tA, cS, cZ] at hK ⊢
   simp only [E20] at hK ⊢
   go_simp
   refine hK _ wz (Below.refl _ _) (Fact.cast (h20p) ?_)
   with_reducible rfl
  refine F2.Steps.consO rfl ?_ ?_
  ·
   intro vz wz hBz hDz hTz K hK
   obtain ⟨x20p_, x20q_, x20r_, E20, h20p, h20q, h20r⟩ : TV3 _ _ _ wz (vz 20) := hDz 4 (by kernel_rfl) rfl
   obtain rfl := Fact.eq_of h20r
   have HW := hBz.ext
   replace hK := hK.out
   apply Kept.mk
   simp only [F2.Wp, F2.fc, actv, fill, Act.put, sZ, sS, fC, fN, tA, cS, cZ] at hK ⊢
   simp only [E20] at hK ⊢
   go_simp
   refine hK _ wz (Below.refl _ _) (Fact.cast (h20q) ?_)
   with_reducible rfl
  refine F2.Steps.consO rfl ?_ ?_
  ·
   intro vz wz hBz hDz hTz K hK
   obtain ⟨x20p_, x20q_, x20r_, E20, h20p, h20q, h20r⟩ : TV3 _ _ _ wz (vz 20) := hDz 4 (by kernel_rfl) rfl
   obtain rfl := Fact.eq_of h20r
   have HW := hBz.ext
   replace hK := hK.out
   apply Kept.mk
   simp only [F2.Wp, F2.fc, actv, fill, Act.put, sZ, sS, fC, fN, tA, cS, cZ] at hK ⊢
   simp only [E20] at hK ⊢
   go_simp
   refine hK _ wz (Below.refl _ _) (Fact.eq_mk ?_)
   with_reducible rfl
  refine F2.Steps.consA rfl ⟨NoU.two nB nS, ?_⟩ ?_
  ·
   intro vz wz hBz K hK
   replace hK := hK.out
   apply Kept.mk
   simp only [F2.Wp, F2.fc, actv, fill, Act.put, sZ, sS, fC, fN, tA, cS, cZ] at hK ⊢
   go_simp
   exact hK
  refine F2.Steps.consA rfl ⟨NoU.two nB nS, ?_⟩ ?_
  ·
   intro vz wz hBz K hK
   replace hK := hK.out
   apply Kept.mk
   simp only [F2.Wp, F2.fc, actv, fill, Act.put, sZ, sS, fC, fN, tA, cS, cZ] at hK ⊢
   go_simp
   exact hK
  refine F2.Steps.consS rfl rfl ?_ ?_
  ·
   intro vz wz gz hBz hDz E8' hgz hbz K hK
   obtain ⟨zc0, zc1, zc2, zc3⟩ := hbz.two
   obtain ⟨n25_, A25_, l25_, c25_, E25, q25⟩ : IntV 0 _ _ wz (vz 25) := hDz 5 (by kernel_rfl) rfl
   have E8 : vz 8 = .pointer (some ⟨gz, 0, none⟩) := E8'
   have HW := hBz.ext
   replace hK := hK.out
   apply Kept.mk
   simp only [F2.Wp, F2.fc, actv, fill, Act.put, sZ, sS, fC, fN, tA, cS, cZ] at hK ⊢
   simp only [E8, E25] at hK ⊢
   go_simp
   refine hK _ ((Far.set _ gz 0 _).trans (Far.set _ gz 1 _)) ⟨_, blk_two hbz, NoU.two nB nS, Fact.cast (Fact.z_mk q25) ?_⟩
   with_reducible rfl
  refine F2.Steps.consS rfl rfl ?_ ?_
  ·
   intro vz wz gz hBz hDz E9' hgz hbz K hK
   obtain ⟨zc0, zc1, zc2, zc3⟩ := hbz.two
   obtain ⟨n26_, A26_, l26_, c26_, E26, q26⟩ : IntV 0 _ _ wz (vz 26) := hDz 6 (by kernel_rfl) rfl
   have E9 : vz 9 = .pointer (some ⟨gz, 0, none⟩) := E9'
   have HW := hBz.ext
   replace hK := hK.out
   apply Kept.mk
   simp only [F2.Wp, F2.fc, actv, fill, Act.put, sZ, sS, fC, fN, tA, cS, cZ] at hK ⊢
   simp only [E9, E26] at hK ⊢
   go_simp
   refine hK _ ((Far.set _ gz 0 _).trans (Far.set _ gz 1 _)) ⟨_, blk_two hbz, NoU.two nB nS, Fact.cast (Fact.z_mk q26) ?_⟩
   with_reducible rfl
  refine F2.Steps.consO rfl ?_ ?_
  ·
   intro vz wz hBz hDz hTz K hK
   have E27 : vz 27 = _ := hDz 7 (by kernel_rfl) rfl
   have HW := hBz.ext
   replace hK := hK.out
   apply Kept.mk
   simp only [F2.Wp, F2.fc, actv, fill, Act.put, sZ, sS, fC, fN, tA, cS, cZ] at hK ⊢
   simp only [E27] at hK ⊢
   go_simp
   refine hK _ wz (Below.refl _ _) (Fact.eq_mk ?_)
   with_reducible rfl
  exact F2.Steps.nil
 intro ve w5 hBz ⟨hOz, hAz, hNz, hSz⟩
 have E21 : ve 21 = _ := hOz 0 (by decide) rfl
 have E22 : ve 22 = _ := hOz 1 (by decide) rfl
 have E23 : ve 23 = _ := hOz 2 (by decide) rfl
 obtain ⟨x24p_, x24q_, x24r_, E24, h24p, h24q, h24r⟩ : TV3 _ _ _ w5 (ve 24) := hOz 3 (by decide) rfl
 obtain rfl := Fact.eq_of h24r
 obtain ⟨x20p_, x20q_, x20r_, E20, h20p, h20q, h20r⟩ : TV3 _ _ _ w5 (ve 20) := hOz 4 (by decide) rfl
 obtain rfl := Fact.eq_of h20r
 obtain ⟨n25_, A25_, l25_, c25_, E25, q25⟩ : IntV 0 _ _ w5 (ve 25) := hOz 5 (by decide) rfl
 obtain ⟨n26_, A26_, l26_, c26_, E26, q26⟩ : IntV 0 _ _ w5 (ve 26) := hOz 6 (by decide) rfl
 have E27 : ve 27 = _ := hOz 7 (by decide) rfl
 obtain ⟨g8, cs8, E8, hg8, bx8, hs8, hz8⟩ := hAz 8 _ _ (by decide) rfl
 obtain ⟨g9, cs9, E9, hg9, bx9, hs9, hz9⟩ := hAz 9 _ _ (by decide) rfl
 obtain ⟨n8se_, A8se_, l8se_, c8se_, E8se, q8se⟩ : IntV 0 _ _ w5 (.agg cs8) := hs8 10 (by decide) rfl
 injection E8se with E8se
 subst E8se
 obtain ⟨n9se_, A9se_, l9se_, c9se_, E9se, q9se⟩ : IntV 0 _ _ w5 (.agg cs9) := hs9 11 (by decide) rfl
 injection E9se with E9se
 subst E9se
 have E10 : ve 10 = _ := hOz 12 (by decide) rfl
 have hne8_9 : Hid (¬ g8 = g9) := hide (fun h => hNz 8 9 _ _ _ _ (by decide) (by decide) (by decide) rfl rfl (by rw [E8, E9, h]))
 simp only [Act.put, actv, fill, fC, fN, tA, cS, cZ]
 simp only [E21, E22, E23, E24, E20, E25, E26, E27, (show ve 8 = _ from E8), (show ve 9 = _ from E9), E10]
 clear E21 E22 E23 E24 E20 E25 E26 E27 E8 E9 E10
 have hge8 : w.heap.size ≤ g8 := Nat.le_trans HB.out.size hg8
 have hne8_3 := hide (Nat.ne_of_gt (Nat.lt_of_lt_of_le bx3.lt (show w4.heap.size ≤ g8 from hg8)))
 have hge9 : w.heap.size ≤ g9 := Nat.le_trans HB.out.size hg9
 have hne9_3 := hide (Nat.ne_of_gt (Nat.lt_of_lt_of_le bx3.lt (show w4.heap.size ≤ g9 from hg9)))
 replace q3sca := q3sca.ext hBz.ext
 replace h0 := h0.ext hBz.ext
 replace bx3 := hBz.blk bx3 zN
 replace HL0 := hide (HL0.out.ext (hBz).ext)
 replace HB := hide (HB.out.trans (hBz.below (B := w.heap.size) HB.out.size zE))
 clear hOz hAz hNz hSz hs8 hz8 hs9 hz9 hBz
 go_upto_region 5 with (fail)
 refine F2.regionS [.o, .o, .o, .o, .o, .o, .o, .o, .al 24 #[.bool false, .slice none 0 0], .al 24 #[.bool false, .slice none 0 0], .st 8, .st 9, .o] [Fact.eq ?cf29_, Fact.eq ?cf30_, Fact.eq ?cf31_, Fact.t3 (Fact.z ?kf32_p ?zf32_p) (Fact.z ?kf32_q ?zf32_q) (Fact.eq ?cf32_r), Fact.t3 (Fact.z ?kf28_p ?zf28_p) (Fact.z ?kf28_q ?zf28_q) (Fact.eq ?cf28_r), Fact.z ?kf33_ ?zf33_, Fact.z ?kf34_ ?zf34_, Fact.eq ?cf35_, Fact.any, Fact.any, Fact.z ?kfs11_ ?zfs11_, Fact.z ?kfs12_ ?zfs12_, Fact.eq ?cf13_] [29, 30, 31, 32, 28, 33, 34, 35, 11, 12, 13] [29, 30, 31, 32, 28, 33, 34, 35, 11, 12, 0, 0, 13] (by kernel_rfl) ?sof ?sopf (by kernel_rfl) ?stf ?finf
 case sof => exact fun x hx => by cases hx
 case sopf => exact List.Pairwise.nil
 case stf =>
  refine F2.Steps.consO rfl ?_ ?_
  ·
   intro vz wz hBz hDz hTz K hK
   have HW := hBz.ext
   have bx3z := hBz.blk bx3 zN
   obtain ⟨zl0, zl1, -⟩ := bx3z.two
   replace hK := hK.out
   apply Kept.mk
   simp only [F2.Wp, F2.fc, actv, fill, Act.put, sZ, sS, fC, fN, tA, cS, cZ] at hK ⊢
   go_simp
   refine hK _ wz (Below.refl _ _) (Fact.eq_mk ?_)
   with_reducible rfl
  refine F2.Steps.consO rfl ?_ ?_
  ·
   intro vz wz hBz hDz hTz K hK
   have HW := hBz.ext
   replace hK := hK.out
   apply Kept.mk
   simp only [F2.Wp, F2.fc, actv, fill, Act.put, sZ, sS, fC, fN, tA, cS, cZ] at hK ⊢
   go_simp
   refine hK _ wz (Below.refl _ _) (Fact.eq_mk ?_)
   with_reducible rfl
  refine F2.Steps.consO rfl ?_ ?_
  ·
   intro vz wz hBz hDz hTz K hK
   have HW := hBz.ext
   replace hK := hK.out
   apply Kept.mk
   simp only [F2.Wp, F2.fc, actv, fill, Act.put, sZ, sS, fC, fN, tA, cS, cZ] at hK ⊢
   go_simp
   refine hK _ wz (Below.refl _ _) (Fact.eq_mk ?_)
   with_reducible rfl
  refine F2.Steps.consO rfl ?_ ?_
  ·
   intro vz wz hBz hDz hTz K hK
   have E29 : vz 29 = _ := hDz 0 (by kernel_rfl) rfl
   have E30 : vz 30 = _ := hDz 1 (by kernel_rfl) rfl
   have E31 : vz 31 = _ := hDz 2 (by kernel_rfl) rfl
   have HW := hBz.ext
   replace hK := hK.out
   apply Kept.mk
   simp only [F2.Wp, F2.fc, actv, fill, Act.put, sZ, sS, fC, fN, tA, cS, cZ] at hK ⊢
   simp only [E29, E30, E31] at hK ⊢
   go_simp
   refine Calls.mono (dexp_named (q3sca.ext HW) (by omega) HRA0 HRB0 HRC0) ?_
   rintro e w2z ⟨hb2, uz, rfl, hf⟩
   go_wp2_with fail
   refine hK _ w2z hb2 (Fact.cast (hf) ?_)
   with_reducible rfl
  refine F2.Steps.consO rfl ?_ ?_
  ·
   intro vz wz hBz hDz hTz K hK
   obtain ⟨x32p_, x32q_, x32r_, E32, h32p, h32q, h32r⟩ : TV3 _ _ _ wz (vz 32) := hDz 3 (by kernel_rfl) rfl
   obtain rfl := Fact.eq_of h32r
   have HW := hBz.ext
   replace hK := hK.out
   apply Kept.mk
   simp only [F2.Wp, F2.fc, actv, fill, Act.put, sZ, sS, fC, fN, tA, cS, cZ] at hK ⊢
   simp only [E32] at hK ⊢
   go_simp
   refine hK _ wz (Below.refl _ _) (Fact.cast (Fact.t3_mk h32p h32q (Fact.eq_self _ _)) ?_)
   with_reducible rfl
  refine F2.Steps.consO rfl ?_ ?_
  ·
   intro vz wz hBz hDz hTz K hK
   obtain ⟨x28p_, x28q_, x28r_, E28, h28p, h28q, h28r⟩ : TV3 _ _ _ wz (vz 28) := hDz 4 (by kernel_rfl) rfl
   obtain rfl := Fact.eq_of h28r
   have HW := hBz.ext
   replace hK := hK.out
   apply Kept.mk
   simp only [F2.Wp, F2.fc, actv, fill, Act.put, sZ, sS, fC, fN, tA, cS, cZ] at hK ⊢
   simp only [E28] at hK ⊢
   go_simp
   refine hK _ wz (Below.refl _ _) (Fact.cast (h28p) ?_)
   with_reducible rfl
  refine F2.Steps.consO rfl ?_ ?_
  ·
   intro vz wz hBz hDz hTz K hK
   obtain ⟨x28p_, x28q_, x28r_, E28, h28p, h28q, h28r⟩ : TV3 _ _ _ wz (vz 28) := hDz 4 (by kernel_rfl) rfl
   obtain rfl := Fact.eq_of h28r
   have HW := hBz.ext
   replace hK := hK.out
   apply Kept.mk
   simp only [F2.Wp, F2.fc, actv, fill, Act.put, sZ, sS, fC, fN, tA, cS, cZ] at hK ⊢
   simp only [E28] at hK ⊢
   go_simp
   refine hK _ wz (Below.refl _ _) (Fact.cast (h28q) ?_)
   with_reducible rfl
  refine F2.Steps.consO rfl ?_ ?_
  ·
   intro vz wz hBz hDz hTz K hK
   obtain ⟨x28p_, x28q_, x28r_, E28, h28p, h28q, h28r⟩ : TV3 _ _ _ wz (vz 28) := hDz 4 (by kernel_rfl) rfl
   obtain rfl := Fact.eq_of h28r
   have HW := hBz.ext
   replace hK := hK.out
   apply Kept.mk
   simp only [F2.Wp, F2.fc, actv, fill, Act.put, sZ, sS, fC, fN, tA, cS, cZ] at hK ⊢
   simp only [E28] at hK ⊢
   go_simp
   refine hK _ wz (Below.refl _ _) (Fact.eq_mk ?_)
   with_reducible rfl
  refine F2.Steps.consA rfl ⟨NoU.two nB nS, ?_⟩ ?_
  ·
   intro vz wz hBz K hK
   replace hK := hK.out
   apply Kept.mk
   simp only [F2.Wp, F2.fc, actv, fill, Act.put, sZ, sS, fC, fN, tA, cS, cZ] at hK ⊢
   go_simp
   exact hK
  refine F2.Steps.consA rfl ⟨NoU.two nB nS, ?_⟩ ?_
  ·
   intro vz wz hBz K hK
   replace hK := hK.out
   apply Kept.mk
   simp only [F2.Wp, F2.fc, actv, fill, Act.put, sZ, sS, fC, fN, tA, cS, cZ] at hK ⊢
   go_simp
   exact hK
  refine F2.Steps.consS rfl rfl ?_ ?_
  ·
   intro vz wz gz hBz hDz E11' hgz hbz K hK
   obtain ⟨zc0, zc1, zc2, zc3⟩ := hbz.two
   obtain ⟨n33_, A33_, l33_, c33_, E33, q33⟩ : IntV 0 _ _ wz (vz 33) := hDz 5 (by kernel_rfl) rfl
   have E11 : vz 11 = .pointer (some ⟨gz, 0, none⟩) := E11'
   have HW := hBz.ext
   replace hK := hK.out
   apply Kept.mk
   simp only [F2.Wp, F2.fc, actv, fill, Act.put, sZ, sS, fC, fN, tA, cS, cZ] at hK ⊢
   simp only [E11, E33] at hK ⊢
   go_simp
   refine hK _ ((Far.set _ gz 0 _).trans (Far.set _ gz 1 _)) ⟨_, blk_two hbz, NoU.two nB nS, Fact.cast (Fact.z_mk q33) ?_⟩
   with_reducible rfl
  refine F2.Steps.consS rfl rfl ?_ ?_
  ·
   intro vz wz gz hBz hDz E12' hgz hbz K hK
   obtain ⟨zc0, zc1, zc2, zc3⟩ := hbz.two
   obtain ⟨n34_, A34_, l34_, c34_, E34, q34⟩ : IntV 0 _ _ wz (vz 34) := hDz 6 (by kernel_rfl) rfl
   have E12 : vz 12 = .pointer (some ⟨gz, 0, none⟩) := E12'
   have HW := hBz.ext
   replace hK := hK.out
   apply Kept.mk
   simp only [F2.Wp, F2.fc, actv, fill, Act.put, sZ, sS, fC, fN, tA, cS, cZ] at hK ⊢
   simp only [E12, E34] at hK ⊢
   go_simp
   refine hK _ ((Far.set _ gz 0 _).trans (Far.set _ gz 1 _)) ⟨_, blk_two hbz, NoU.two nB nS, Fact.cast (Fact.z_mk q34) ?_⟩
   with_reducible rfl
  refine F2.Steps.consO rfl ?_ ?_
  ·
   intro vz wz hBz hDz hTz K hK
   have E35 : vz 35 = _ := hDz 7 (by kernel_rfl) rfl
   have HW := hBz.ext
   replace hK := hK.out
   apply Kept.mk
   simp only [F2.Wp, F2.fc, actv, fill, Act.put, sZ, sS, fC, fN, tA, cS, cZ] at hK ⊢
   simp only [E35] at hK ⊢
   go_simp
   refine hK _ wz (Below.refl _ _) (Fact.eq_mk ?_)
   with_reducible rfl
  exact F2.Steps.nil
 intro vf w6 hBz ⟨hOz, hAz, hNz, hSz⟩
 have E29 : vf 29 = _ := hOz 0 (by decide) rfl
 have E30 : vf 30 = _ := hOz 1 (by decide) rfl
 have E31 : vf 31 = _ := hOz 2 (by decide) rfl
 obtain ⟨x32p_, x32q_, x32r_, E32, h32p, h32q, h32r⟩ : TV3 _ _ _ w6 (vf 32) := hOz 3 (by decide) rfl
 obtain rfl := Fact.eq_of h32r
 obtain ⟨x28p_, x28q_, x28r_, E28, h28p, h28q, h28r⟩ : TV3 _ _ _ w6 (vf 28) := hOz 4 (by decide) rfl
 obtain rfl := Fact.eq_of h28r
 obtain ⟨n33_, A33_, l33_, c33_, E33, q33⟩ : IntV 0 _ _ w6 (vf 33) := hOz 5 (by decide) rfl
 obtain ⟨n34_, A34_, l34_, c34_, E34, q34⟩ : IntV 0 _ _ w6 (vf 34) := hOz 6 (by decide) rfl
 have E35 : vf 35 = _ := hOz 7 (by decide) rfl
 obtain ⟨g11, cs11, E11, hg11, bx11, hs11, hz11⟩ := hAz 8 _ _ (by decide) rfl
 obtain ⟨g12, cs12, E12, hg12, bx12, hs12, hz12⟩ := hAz 9 _ _ (by decide) rfl
 obtain ⟨n11sf_, A11sf_, l11sf_, c11sf_, E11sf, q11sf⟩ : IntV 0 _ _ w6 (.agg cs11) := hs11 10 (by decide) rfl
 injection E11sf with E11sf
 subst E11sf
 obtain ⟨n12sf_, A12sf_, l12sf_, c12sf_, E12sf, q12sf⟩ : IntV 0 _ _ w6 (.agg cs12) := hs12 11 (by decide) rfl
 injection E12sf with E12sf
 subst E12sf
 have E13 : vf 13 = _ := hOz 12 (by decide) rfl
 have hne11_12 : Hid (¬ g11 = g12) := hide (fun h => hNz 8 9 _ _ _ _ (by decide) (by decide) (by decide) rfl rfl (by rw [E11, E12, h]))
 simp only [Act.put, actv, fill, fC, fN, tA, cS, cZ]
 simp only [E29, E30, E31, E32, E28, E33, E34, E35, (show vf 11 = _ from E11), (show vf 12 = _ from E12), E13]
 clear E29 E30 E31 E32 E28 E33 E34 E35 E11 E12 E13
 have hge11 : w.heap.size ≤ g11 := Nat.le_trans HB.out.size hg11
 have hne11_3 := hide (Nat.ne_of_gt (Nat.lt_of_lt_of_le bx3.lt (show w5.heap.size ≤ g11 from hg11)))
 have hne11_8 := hide (Nat.ne_of_gt (Nat.lt_of_lt_of_le bx8.lt (show w5.heap.size ≤ g11 from hg11)))
 have hne11_9 := hide (Nat.ne_of_gt (Nat.lt_of_lt_of_le bx9.lt (show w5.heap.size ≤ g11 from hg11)))
 have hge12 : w.heap.size ≤ g12 := Nat.le_trans HB.out.size hg12
 have hne12_3 := hide (Nat.ne_of_gt (Nat.lt_of_lt_of_le bx3.lt (show w5.heap.size ≤ g12 from hg12)))
 have hne12_8 := hide (Nat.ne_of_gt (Nat.lt_of_lt_of_le bx8.lt (show w5.heap.size ≤ g12 from hg12)))
 have hne12_9 := hide (Nat.ne_of_gt (Nat.lt_of_lt_of_le bx9.lt (show w5.heap.size ≤ g12 from hg12)))
 replace q3sca := q3sca.ext hBz.ext
 replace q8se := q8se.ext hBz.ext
 replace q9se := q9se.ext hBz.ext
 replace h0 := h0.ext hBz.ext
 replace bx3 := hBz.blk bx3 zN
 replace bx8 := hBz.blk bx8 zN
 replace bx9 := hBz.blk bx9 zN
 replace HL0 := hide (HL0.out.ext (hBz).ext)
 replace HB := hide (HB.out.trans (hBz.below (B := w.heap.size) HB.out.size zE))
 clear hOz hAz hNz hSz hs11 hz11 hs12 hz12 hBz
 obtain ⟨bx3c0, bx3c1, -⟩ := bx3.two
 obtain ⟨bx8c0, bx8c1, -⟩ := bx8.two
 obtain ⟨bx9c0, bx9c1, -⟩ := bx9.two
 obtain ⟨bx11c0, bx11c1, -⟩ := bx11.two
 obtain ⟨bx12c0, bx12c1, -⟩ := bx12.two
 go_wp2_with fail
 refine Calls.mono (equal6_calls q8se q9se q11sf q12sf  rfl rfl) ?_
 rintro e w7 ⟨hb2, uz7, rfl, hf⟩
 clear bx3c0 bx3c1 bx8c0 bx8c1 bx9c0 bx9c1 bx11c0 bx11c1 bx12c0 bx12c1
 obtain rfl := Fact.eq_of hf
 have HW := ext_of hb2
 replace h0 := h0.ext HW
 replace q11sf := q11sf.ext HW
 replace q12sf := q12sf.ext HW
 replace q3sca := q3sca.ext HW
 replace q8se := q8se.ext HW
 replace q9se := q9se.ext HW
 replace bx3 := bx3.below hb2 bx3.lt
 replace bx8 := bx8.below hb2 bx8.lt
 replace bx9 := bx9.below hb2 bx9.lt
 replace bx11 := bx11.below hb2 bx11.lt
 replace bx12 := bx12.below hb2 bx12.lt
 replace HL0 := hide (HL0.out.ext ((low_of hb2)).ext)
 replace HB := hide (HB.out.trans (hb2.mono HB.out.size))
 clear HW hb2
 go_wp2_with fail
 go_ret
 exact ⟨HB.out, VF.mk (Fact.eq_self _ _)⟩

theorem walk (w : World) (n0 : Bool) (A0 : Option Addr) (l0 c0 : Nat) (s0 : ∃ L, Nums w 0 (.slice A0 l0 c0) L) (a1 : Int) (w1 : (Lit.int .i64 a1).wf = true) (a2 : Int) (w2 : (Lit.int .i64 a2).wf = true) :
    Calls Try.prog 3 #[.agg #[.bool n0, .slice A0 l0 c0], .int .i64 a1, .int .i64 a2] w fun e w' => e = .returned (.bool true) ∧ Below w.heap.size w w' := by
  obtain ⟨L, h⟩ := s0
  refine (walkN (k0 := L.length) (L0 := L) (x0 := ival n0 (val W L)) ⟨L, h, Nat.le_refl _, rfl⟩ h ).mono ?_
  rintro e w' ⟨hb, u, rfl, hu⟩
  exact ⟨by rw [Fact.eq_of hu], hb⟩

/-! ### the row -/
set_option maxRecDepth 100000 in
theorem lifted (os : Os) (started : os.Started) (H : Type) (enc : TypeId × Value → H) :
    ReturnsInHanded {} Try.checked os 3 .any (Rows.rowsExpSpec.pre6 enc Try.prog Try.f3 Rows.rowsExpRow.domain false) (Rows.rowsExpSpec.post enc Try.prog Try.f3 false true false false) := by
  refine returnsInHanded_of_change (C := Try.checked) own started (by kernel_rfl) Try.func3
    (ChangeSpec.witness6 (enc := enc) (C := Try.checked) false ⟨#[], #[.agg #[.bool false, .slice none 0 0], .int .i64 0, .int .i64 0], []⟩ 8 (by kernel_rfl) (by kernel_rfl) (by kernel_rfl) (by kernel_rfl)) ?_
  intro W base args ds gs before hval0 hW hcnd _
  have hval : ∀ (j : Nat) t v, Try.f3.params[j]? = some t → args[j]? = some v → Value.okWide Try.prog W .any base t v := hval0
  have hW' := hW
  obtain ⟨p, q, hA0, hV, rfl, hfz, hnd⟩ := hW
  have hA : DataW.TrodAll enc Try.prog W 0 (fun _ => true) true Try.f3.params.toList args.toList ds p := hA0
  rw [Try.params3] at hA hval
  obtain ⟨v0, vs0, d0, ds0, p0, q0, hargs, rfl, rfl, h0, r0⟩ := trodAll_cons hA
  obtain ⟨v1, vs1, d1, ds1, p1, q1, rfl, rfl, rfl, h1, r1⟩ := trodAll_cons r0
  obtain ⟨v2, vs2, d2, ds2, p2, q2, rfl, rfl, rfl, h2, r2⟩ := trodAll_cons r1
  obtain ⟨rfl, rfl, rfl⟩ := trodAll_nil r2
  obtain rfl : args = #[v0, v1, v2] := by cases args; simp_all
  obtain ⟨rfl, rfl⟩ := trodVars_none hV
  have k0 := h0
  have lt0 : ∀ x ∈ p0, x.block < W.heap.size := by obtain ⟨m, hm⟩ := k0; exact DataW.trod_lt m _ _ _ hm
  obtain ⟨n0, A0, l0, c0, rfl, s0⟩ := open_int_s (hval 0 24 v0 rfl rfl) h0
  obtain ⟨a1, rfl, rfl, rfl, w1⟩ := open_int Try.underlying3 (hval 1 3 v1 rfl rfl) h1
  obtain ⟨a2, rfl, rfl, rfl, w2⟩ := open_int Try.underlying3 (hval 2 3 v2 rfl rfl) h2
  clear hA0 hval0
  refine (walk W n0 A0 l0 c0 s0 a1 w1 a2 w2).mono fun e W' ⟨he, bel⟩ => ?_
  subst he
  exact ⟨_, rfl, _, _, _, [], _, [], hW', trodAll_mk1 (shut_bool Try.underlying4 _), (trodAll_cons_mk (Below.trod laidOut (by kernel_rfl) (of_decide_eq_true (by kernel_rfl)) k0 bel lt0) (trodAll_cons_mk (shut_int Try.underlying3 w1) (trodAll_cons_mk (shut_int Try.underlying3 w2) trodAll_mk0))), rfl, bel.frame _, fun h => by cases h⟩

theorem over : Rows.rowsExpRow.holds Try.pinned (OpenSpec.ofChange Rows.rowsExpSpec) :=
  OpenClaim.holds_of_wide 3 Try.f3 rfl rfl rfl rfl rfl rfl rfl ⟨rfl, rfl, rfl, rfl, rfl⟩ rfl rfl rfl rfl rfl (by kernel_rfl) Try.func3 (by kernel_rfl)
    (of_decide_eq_true (by kernel_rfl)) (by unfold Func.isWrapper; first | (rw [if_pos (by decide +kernel)]; kernel_rfl) | (rw [if_neg (by decide +kernel)]; exact ⟨rfl, rfl⟩))
    (fun os started H enc _ => lifted os started H enc)

theorem proved : Rows.RowsExpSaid := over
#print axioms proved
end Go.Proofs.Ytnephejalollfaa.rowsExp
