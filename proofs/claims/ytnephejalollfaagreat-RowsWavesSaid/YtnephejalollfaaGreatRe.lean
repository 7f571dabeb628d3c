/- hairlineref06: may, down, up, Exp. hairlineref06: Exp. -/
import Derived.Test.YtnephejalollfaaGreatRx
section
set_option linter.unusedVariables false
set_option linter.unusedSimpArgs false
namespace Go.Proofs.YtnephejalollfaaGreat
open Go.RowKit
open L (val dig nth)
def mayD (x q n b h : Int) : Bool := decide (0 ≤ q) && (decide (q ≤ 1200) && (decide (1 ≤ n) && (decide (n ≤ 400) && (decide (0 ≤ x) && decide (x * 2 ^ h.toNat ≤ b * 2 ^ q.toNat)))))
theorem mayD_wave (x q n : Int) : mayD x q n 2 0 = mayR x q n 4 := by
  unfold mayD mayR
  have e : decide (x * 2 ^ (0 : Int).toNat ≤ 2 * 2 ^ q.toNat) = decide (x * 2 ≤ 4 * 2 ^ q.toNat) := decide_eq_decide.2 (by
    rw [show (0 : Int).toNat = 0 from rfl, Int.pow_zero]
    generalize (2 : Int) ^ q.toNat = Y
    omega)
  rw [e]
theorem down_one (x y q : Int) : x / 2 ^ q.toNat / y = x / (y * 2 ^ q.toNat) := by
  rw [Int.ediv_ediv_of_nonneg (Int.le_of_lt (two_pow_pos q)), Int.mul_comm]
theorem up_two {x y q : Int} (hy : 0 < y) : vUp (-(-x / 2 ^ q.toNat)) y = vUp x (y * 2 ^ q.toNat) := by
  rw [vUp_pos hy, vUp_pos (Int.mul_pos hy (two_pow_pos q)), Int.neg_neg, down_one]
theorem up_one {x q : Int} : -(-x / 2 ^ q.toNat) = vUp x (1 * 2 ^ q.toNat) := by
  have hp := two_pow_pos q; rw [vUp_pos (by omega), Int.one_mul]
set_option maxHeartbeats 4000000 in
set_option maxRecDepth 100000 in
theorem dmay_calls {w : World}  {k0 : Nat} {n0 : Bool} {A0 : Option Addr} {l0 c0 : Nat} {x0 : Int} {q n y m : Int} (h0 : Q w k0 n0 A0 l0 c0 x0) (hk0 : k0 ≤ 900) (hy0 : 1 ≤ y) (hy1 : y ≤ 4) (hm0 : 0 ≤ m) (hm1 : m ≤ 1) :
    Calls Tryz.prog 26 #[.agg #[.bool n0, .slice A0 l0 c0], .int .i64 q, .int .i64 n, .int .i64 y, .int .i64 m] w fun e w' => Below w.heap.size w w' ∧ VF (Fact.eq (.bool (mayD x0 q n y m))) e w' := by
 obtain ⟨s, HS⟩ : ∃ s, Hid (x0.sign = s) := ⟨_, hide rfl⟩; obtain ⟨c, HC⟩ : ∃ c, Hid (cmpZ (x0 * 2 ^ m.toNat) (y * 2 ^ q.toNat) = c) := ⟨_, hide rfl⟩
 have HM : Hid (mayD x0 q n y m = (decide (0 ≤ q) && (decide (q ≤ 1200) && (decide (1 ≤ n) && (decide (n ≤ 400) && (decide (0 ≤ s) && decide (c ≤ 0))))))) := hide (by
  unfold mayD; rw [← HS.out, ← HC.out, decide_eq_decide.2 (sign_nn x0), decide_eq_decide.2 (cmpZ_le _ _)])
 obtain ⟨r, HR⟩ : ∃ r, Hid (mayD x0 q n y m = r) := ⟨_, hide rfl⟩; rw [HR.out]; rw [HR.out] at HM
 go_enter Tryz.func26, Tryz.ntmps26
 have HB : Hid (Below w.heap.size w w) := hide (Below.refl _ _)
 go_upto_region 0 with (fail)
 refine F2.regionS [.al 24 #[.bool n0, .slice A0 l0 c0], .o] [Fact.any, Fact.eq ?ca10_] [5, 10] [5, 10] (by kernel_rfl) ?soa ?sopa (by kernel_rfl) ?sta ?fina
 case soa => exact fun x hx => by cases hx
 case sopa => exact List.Pairwise.nil
 case sta =>
  refine F2.Steps.consA rfl ⟨NoU.two nB nS, ?_⟩ ?_
  ·
   intro vz wz hBz K hK; simp only [zy, F2.Wp] at hK ⊢; go_simp; exact hK
  refine F2.Steps.consO rfl ?_ ?_
  ·
   intro vz wz hBz hDz hTz K hK; have HW := hBz.ext; simp only [zy, F2.Wp] at hK ⊢; go_simp; refine hK _ wz zB (Fact.eq_mk ?_); with_reducible rfl
  exact F2.Steps.nil
 intro va w1 hBz ⟨hOz, hAz, hNz, hSz⟩; obtain ⟨g5, cs5, E5, hg5, bx5, hs5, hz5⟩ := hAz 0 _ _ (by decide) rfl; have hzz := hz5 (F2.nost (by kernel_rfl)); subst hzz; have E10 : va 10 = _ := hOz 1 (by decide) rfl; simp only [Act.put, actv, fill, fC, fN, tA, cS, cZ]; simp only [(show va 5 = _ from E5), E10]; clear E5 E10; have hge5 : w.heap.size ≤ g5 := Nat.le_trans HB.out.size hg5; replace h0 := h0.ext hBz.ext; replace HB := hide (HB.out.trans (hBz.below (B := w.heap.size) HB.out.size zE)); clear hOz hAz hNz hSz hs5 hz5 hBz
 by_cases g0 : q < 0
 ·
  go_upto_region 2 with (fail)
  refine F2.regionS [.o] [Fact.eq ?cb10_] [10] [10] (by kernel_rfl) ?sob ?sopb (by kernel_rfl) ?stb ?finb
  case sob => exact fun x hx => by cases hx
  case sopb => exact List.Pairwise.nil
  case stb =>
   refine F2.Steps.consO rfl ?_ ?_
   ·
    intro vz wz hBz hDz hTz K hK; have HW := hBz.ext; simp only [zy, F2.Wp] at hK ⊢; go_simp; refine hK _ wz zB (Fact.eq_mk ?_); with_reducible rfl
   exact F2.Steps.nil
  intro vb w2 hBz ⟨hOz, hAz, hNz, hSz⟩; have E10 : vb 10 = _ := hOz 0 (by decide) rfl; simp only [Act.put, actv, fill, fC, fN, tA, cS, cZ]; simp only [E10]; clear E10; replace h0 := h0.ext hBz.ext; replace bx5 := hBz.blk bx5 zN; replace HB := hide (HB.out.trans (hBz.below (B := w.heap.size) HB.out.size zE)); clear hOz hAz hNz hSz hBz
  go_wp2_with fail
  go_ret
  exact ⟨HB.out, VF.mk (Fact.cast (Fact.eq_self _ _) (by rw [HM.out]; simp only [decide_eq_false (show ¬ (0 ≤ q) by omega), Bool.true_and, Bool.false_and] <;> rfl))⟩
 ·
  by_cases g1 : 1200 < q
  ·
   go_upto_region 2 with (fail)
   refine F2.regionS [.o] [Fact.eq ?cc10_] [10] [10] (by kernel_rfl) ?soc ?sopc (by kernel_rfl) ?stc ?finc
   case soc => exact fun x hx => by cases hx
   case sopc => exact List.Pairwise.nil
   case stc =>
    refine F2.Steps.consO rfl ?_ ?_
    ·
     intro vz wz hBz hDz hTz K hK; have HW := hBz.ext; simp only [zy, F2.Wp] at hK ⊢; go_simp; refine hK _ wz zB (Fact.eq_mk ?_); with_reducible rfl
    exact F2.Steps.nil
   intro vc w3 hBz ⟨hOz, hAz, hNz, hSz⟩; have E10 : vc 10 = _ := hOz 0 (by decide) rfl; simp only [Act.put, actv, fill, fC, fN, tA, cS, cZ]; simp only [E10]; clear E10; replace h0 := h0.ext hBz.ext; replace bx5 := hBz.blk bx5 zN; replace HB := hide (HB.out.trans (hBz.below (B := w.heap.size) HB.out.size zE)); clear hOz hAz hNz hSz hBz
   go_wp2_with fail
   go_ret
   exact ⟨HB.out, VF.mk (Fact.cast (Fact.eq_self _ _) (by rw [HM.out]; simp only [decide_eq_true (show 0 ≤ q by omega), decide_eq_false (show ¬ (q ≤ 1200) by omega), Bool.true_and, Bool.false_and] <;> rfl))⟩
  ·
   by_cases g2 : n < 1
   ·
    go_upto_region 2 with (fail)
    refine F2.regionS [.o] [Fact.eq ?cd10_] [10] [10] (by kernel_rfl) ?sod ?sopd (by kernel_rfl) ?std ?find
    case sod => exact fun x hx => by cases hx
    case sopd => exact List.Pairwise.nil
    case std =>
     refine F2.Steps.consO rfl ?_ ?_
     ·
      intro vz wz hBz hDz hTz K hK; have HW := hBz.ext; simp only [zy, F2.Wp] at hK ⊢; go_simp; refine hK _ wz zB (Fact.eq_mk ?_); with_reducible rfl
     exact F2.Steps.nil
    intro vd w4 hBz ⟨hOz, hAz, hNz, hSz⟩; have E10 : vd 10 = _ := hOz 0 (by decide) rfl; simp only [Act.put, actv, fill, fC, fN, tA, cS, cZ]; simp only [E10]; clear E10; replace h0 := h0.ext hBz.ext; replace bx5 := hBz.blk bx5 zN; replace HB := hide (HB.out.trans (hBz.below (B := w.heap.size) HB.out.size zE)); clear hOz hAz hNz hSz hBz
    go_wp2_with fail
    go_ret
    exact ⟨HB.out, VF.mk (Fact.cast (Fact.eq_self _ _) (by rw [HM.out]; simp only [decide_eq_true (show 0 ≤ q by omega), decide_eq_true (show q ≤ 1200 by omega), decide_eq_false (show ¬ (1 ≤ n) by omega), Bool.true_and, Bool.false_and] <;> rfl))⟩
   ·
    by_cases g3 : 400 < n
    ·
     go_upto_region 2 with (fail)
     refine F2.regionS [.o] [Fact.eq ?ce10_] [10] [10] (by kernel_rfl) ?soe ?sope (by kernel_rfl) ?ste ?fine
     case soe => exact fun x hx => by cases hx
     case sope => exact List.Pairwise.nil
     case ste =>
      refine F2.Steps.consO rfl ?_ ?_
      ·
       intro vz wz hBz hDz hTz K hK; have HW := hBz.ext; simp only [zy, F2.Wp] at hK ⊢; go_simp; refine hK _ wz zB (Fact.eq_mk ?_); with_reducible rfl
      exact F2.Steps.nil
     intro ve w5 hBz ⟨hOz, hAz, hNz, hSz⟩; have E10 : ve 10 = _ := hOz 0 (by decide) rfl; simp only [Act.put, actv, fill, fC, fN, tA, cS, cZ]; simp only [E10]; clear E10; replace h0 := h0.ext hBz.ext; replace bx5 := hBz.blk bx5 zN; replace HB := hide (HB.out.trans (hBz.below (B := w.heap.size) HB.out.size zE)); clear hOz hAz hNz hSz hBz
     go_wp2_with fail
     go_ret
     exact ⟨HB.out, VF.mk (Fact.cast (Fact.eq_self _ _) (by rw [HM.out]; simp only [decide_eq_true (show 0 ≤ q by omega), decide_eq_true (show q ≤ 1200 by omega), decide_eq_true (show 1 ≤ n by omega), decide_eq_false (show ¬ (n ≤ 400) by omega), Bool.true_and, Bool.false_and] <;> rfl))⟩
    ·
     by_cases g4 : s < 0
     ·
      obtain ⟨bx5c0, bx5c1, -⟩ := bx5.two
      go_wp2_with fail
      refine Calls.mono (HS.out ▸ u_sign h0 (by omega)) ?_; rintro e w6 ⟨hb2, uz6, rfl, hf⟩; clear bx5c0 bx5c1; obtain rfl := Fact.eq_of hf; have HW := ext_of hb2; replace h0 := h0.ext HW; replace bx5 := bx5.below hb2 bx5.lt; replace HB := hide (HB.out.trans (hb2.mono HB.out.size)); clear HW hb2
      go_upto_region 2 with (fail)
      refine F2.regionS [.o] [Fact.eq ?cg10_] [10] [10] (by kernel_rfl) ?sog ?sopg (by kernel_rfl) ?stg ?fing
      case sog => exact fun x hx => by cases hx
      case sopg => exact List.Pairwise.nil
      case stg =>
       refine F2.Steps.consO rfl ?_ ?_
       ·
        intro vz wz hBz hDz hTz K hK; have HW := hBz.ext; simp only [zy, F2.Wp] at hK ⊢; go_simp; refine hK _ wz zB (Fact.eq_mk ?_); with_reducible rfl
       exact F2.Steps.nil
      intro vg w7 hBz ⟨hOz, hAz, hNz, hSz⟩; have E10 : vg 10 = _ := hOz 0 (by decide) rfl; simp only [Act.put, actv, fill, fC, fN, tA, cS, cZ]; simp only [E10]; clear E10; replace h0 := h0.ext hBz.ext; replace bx5 := hBz.blk bx5 zN; replace HB := hide (HB.out.trans (hBz.below (B := w.heap.size) HB.out.size zE)); clear hOz hAz hNz hSz hBz
      go_wp2_with fail
      go_ret
      exact ⟨HB.out, VF.mk (Fact.cast (Fact.eq_self _ _) (by rw [HM.out]; simp only [decide_eq_true (show 0 ≤ q by omega), decide_eq_true (show q ≤ 1200 by omega), decide_eq_true (show 1 ≤ n by omega), decide_eq_true (show n ≤ 400 by omega), decide_eq_false (show ¬ (0 ≤ s) by omega), Bool.true_and, Bool.false_and] <;> rfl))⟩
     ·
      obtain ⟨bx5c0, bx5c1, -⟩ := bx5.two
      go_wp2_with fail
      refine Calls.mono (HS.out ▸ u_sign h0 (by omega)) ?_; rintro e w8 ⟨hb2, uz8, rfl, hf⟩; clear bx5c0 bx5c1; obtain rfl := Fact.eq_of hf; have HW := ext_of hb2; replace h0 := h0.ext HW; replace bx5 := bx5.below hb2 bx5.lt; replace HB := hide (HB.out.trans (hb2.mono HB.out.size)); clear HW hb2
      go_upto_region 3 with (fail)
      refine F2.regionS [.o, .o, .o, .o, .al 24 #[.bool false, .slice none 0 0], .st 4] [Fact.eq ?ci31_, Fact.z ?ki32_ ?zi32_, Fact.eq ?ci33_, Fact.z ?ki34_ ?zi34_, Fact.any, Fact.z ?kis11_ ?zis11_] [31, 32, 33, 34, 11] [31, 32, 33, 34, 11, 0] (by kernel_rfl) ?soi ?sopi (by kernel_rfl) ?sti ?fini
      case soi => exact fun x hx => by cases hx
      case sopi => exact List.Pairwise.nil
      case sti =>
       refine F2.Steps.consO rfl ?_ ?_
       ·
        intro vz wz hBz hDz hTz K hK; have HW := hBz.ext; simp only [zy, F2.Wp] at hK ⊢; go_simp; refine hK _ wz zB (Fact.eq_mk ?_); with_reducible rfl
       refine F2.Steps.consO rfl ?_ ?_
       ·
        intro vz wz hBz hDz hTz K hK; have E31 : vz 31 = _ := hDz 0 (by kernel_rfl) rfl; have HW := hBz.ext; simp only [zy, F2.Wp] at hK ⊢; simp only [E31] at hK ⊢; go_simp; refine Calls.mono (u_of  (by omega) (by omega)) ?_; rintro e w2z ⟨hb2, uz, rfl, hf⟩
        go_wp2_with fail
        refine hK _ w2z hb2 (Fact.cast (hf) ?_); with_reducible rfl
       refine F2.Steps.consO rfl ?_ ?_
       ·
        intro vz wz hBz hDz hTz K hK; have HW := hBz.ext; simp only [zy, F2.Wp] at hK ⊢; go_simp; refine hK _ wz zB (Fact.eq_mk ?_); with_reducible rfl
       refine F2.Steps.consO rfl ?_ ?_
       ·
        intro vz wz hBz hDz hTz K hK; obtain ⟨n32_, A32_, l32_, c32_, E32, q32⟩ : IntV 0 _ _ wz (vz 32) := hDz 1 (by kernel_rfl) rfl; have E33 : vz 33 = _ := hDz 2 (by kernel_rfl) rfl; have HW := hBz.ext; simp only [zy, F2.Wp] at hK ⊢; simp only [E32, E33] at hK ⊢; go_simp; refine Calls.mono (u_shl q32.q (by omega) (by omega) (by omega)) ?_; rintro e w2z ⟨hb2, uz, rfl, hf⟩
        go_wp2_with fail
        refine hK _ w2z hb2 (Fact.cast (hf) ?_); with_reducible rfl
       refine F2.Steps.consA rfl ⟨NoU.two nB nS, ?_⟩ ?_
       ·
        intro vz wz hBz K hK; simp only [zy, F2.Wp] at hK ⊢; go_simp; exact hK
       refine F2.Steps.consS rfl rfl ?_ ?_
       ·
        intro vz wz gz hBz hDz E11' hgz hbz K hK; obtain ⟨zc0, zc1, zc2, zc3⟩ := hbz.two; obtain ⟨n34_, A34_, l34_, c34_, E34, q34⟩ : IntV 0 _ _ wz (vz 34) := hDz 3 (by kernel_rfl) rfl; have E11 : vz 11 = .pointer (some ⟨gz, 0, none⟩) := E11'; have HW := hBz.ext; simp only [zy, F2.Wp] at hK ⊢; simp only [E11, E34] at hK ⊢; go_simp; refine hK _ ((Far.set _ gz 0 _).trans (Far.set _ gz 1 _)) ⟨_, blk_two hbz, NoU.two nB nS, Fact.cast (Fact.z_mk q34) ?_⟩; with_reducible rfl
       exact F2.Steps.nil
      intro vi w9 hBz ⟨hOz, hAz, hNz, hSz⟩; have E31 : vi 31 = _ := hOz 0 (by decide) rfl; obtain ⟨n32_, A32_, l32_, c32_, E32, q32⟩ : IntV 0 _ _ w9 (vi 32) := hOz 1 (by decide) rfl; have E33 : vi 33 = _ := hOz 2 (by decide) rfl; obtain ⟨n34_, A34_, l34_, c34_, E34, q34⟩ : IntV 0 _ _ w9 (vi 34) := hOz 3 (by decide) rfl; obtain ⟨g11, cs11, E11, hg11, bx11, hs11, hz11⟩ := hAz 4 _ _ (by decide) rfl; obtain ⟨n11si_, A11si_, l11si_, c11si_, E11si, q11si⟩ : IntV 0 _ _ w9 (.agg cs11) := hs11 5 (by decide) rfl; injection E11si with E11si
      subst E11si; simp only [Act.put, actv, fill, fC, fN, tA, cS, cZ]; simp only [E31, E32, E33, E34, (show vi 11 = _ from E11)]; clear E31 E32 E33 E34 E11; have hge11 : w.heap.size ≤ g11 := Nat.le_trans HB.out.size hg11; have hne11_5 := hide (Nat.ne_of_gt (Nat.lt_of_lt_of_le bx5.lt (show w8.heap.size ≤ g11 from hg11))); replace h0 := h0.ext hBz.ext; replace bx5 := hBz.blk bx5 zN; replace HB := hide (HB.out.trans (hBz.below (B := w.heap.size) HB.out.size zE)); clear hOz hAz hNz hSz hs11 hz11 hBz
      go_upto_region 4 with (fail)
      refine F2.region [.o, .o, .o, .o, .o, .o, .o] [Fact.eq ?cj35_, Fact.eq ?cj36_, Fact.z ?kj37_ ?zj37_, Fact.eq ?cj38_, Fact.eq ?cj39_, Fact.eq ?cj40_, Fact.eq ?cj10_] [35, 36, 37, 38, 39, 40, 10] [35, 36, 37, 38, 39, 40, 10] (by kernel_rfl) ?soj ?sopj (by kernel_rfl) ?stj ?finj
      case soj => exact fun x hx => by cases hx
      case sopj => exact List.Pairwise.nil
      case stj =>
       refine F2.Steps.consO rfl ?_ ?_
       ·
        intro vz wz hBz hDz hTz K hK; have HW := ext_drew hBz.ext; have bx5z := hBz.blk bx5.drew zN; obtain ⟨zl0, zl1, -⟩ := bx5z.two; simp only [zy, F2.Wp] at hK ⊢; go_simp; refine hK _ wz zB (Fact.eq_mk ?_); with_reducible rfl
       refine F2.Steps.consO rfl ?_ ?_
       ·
        intro vz wz hBz hDz hTz K hK; have HW := ext_drew hBz.ext; simp only [zy, F2.Wp] at hK ⊢; go_simp; refine hK _ wz zB (Fact.eq_mk ?_); with_reducible rfl
       refine F2.Steps.consO rfl ?_ ?_
       ·
        intro vz wz hBz hDz hTz K hK; have E35 : vz 35 = _ := hDz 0 (by kernel_rfl) rfl; have E36 : vz 36 = _ := hDz 1 (by kernel_rfl) rfl; have HW := ext_drew hBz.ext; simp only [zy, F2.Wp] at hK ⊢; simp only [E35, E36] at hK ⊢; go_simp; refine Calls.mono (u_shl (h0.ext HW) (by omega) (by omega) (by omega)) ?_; rintro e w2z ⟨hb2, uz, rfl, hf⟩
        go_wp2_with fail
        refine hK _ w2z hb2 (Fact.cast (hf) ?_); with_reducible rfl
       refine F2.Steps.consO rfl ?_ ?_
       ·
        intro vz wz hBz hDz hTz K hK; have HW := ext_drew hBz.ext; have bx11z := hBz.blk bx11.drew zN; obtain ⟨zl0, zl1, -⟩ := bx11z.two; simp only [zy, F2.Wp] at hK ⊢; go_simp; refine hK _ wz zB (Fact.eq_mk ?_); with_reducible rfl
       refine F2.Steps.consO rfl ?_ ?_
       ·
        intro vz wz hBz hDz hTz K hK; obtain ⟨n37_, A37_, l37_, c37_, E37, q37⟩ : IntV 0 _ _ wz (vz 37) := hDz 2 (by kernel_rfl) rfl; have E38 : vz 38 = _ := hDz 3 (by kernel_rfl) rfl; have HW := ext_drew hBz.ext; simp only [zy, F2.Wp] at hK ⊢; simp only [E37, E38] at hK ⊢; go_simp; refine Calls.mono (HC.out ▸ u_cmp q37.q (q11si.ext HW).q (by omega) (by omega)) ?_; rintro e w2z ⟨hb2, uz, rfl, hf⟩
        go_wp2_with fail
        refine hK _ w2z hb2 (Fact.cast (hf) ?_); with_reducible rfl
       refine F2.Steps.consO rfl ?_ ?_
       ·
        intro vz wz hBz hDz hTz K hK; have E39 : vz 39 = _ := hDz 4 (by kernel_rfl) rfl; have HW := ext_drew hBz.ext; simp only [zy, F2.Wp] at hK ⊢; simp only [E39] at hK ⊢; go_simp; refine hK _ wz zB (Fact.eq_mk ?_); with_reducible rfl
       refine F2.Steps.consO rfl ?_ ?_
       ·
        intro vz wz hBz hDz hTz K hK; have E40 : vz 40 = _ := hDz 5 (by kernel_rfl) rfl; have HW := ext_drew hBz.ext; simp only [zy, F2.Wp] at hK ⊢; simp only [E40] at hK ⊢; go_simp; refine hK _ wz zB (Fact.eq_mk ?_); with_reducible rfl
       exact F2.Steps.nil
      intro vj w10 hBz ⟨hOz, hAz, hNz, hSz⟩; have E35 : vj 35 = _ := hOz 0 (by decide) rfl; have E36 : vj 36 = _ := hOz 1 (by decide) rfl; obtain ⟨n37_, A37_, l37_, c37_, E37, q37⟩ : IntV 0 _ _ w10 (vj 37) := hOz 2 (by decide) rfl; have E38 : vj 38 = _ := hOz 3 (by decide) rfl; have E39 : vj 39 = _ := hOz 4 (by decide) rfl; have E40 : vj 40 = _ := hOz 5 (by decide) rfl; have E10 : vj 10 = _ := hOz 6 (by decide) rfl; simp only [Act.put, actv, fill, fC, fN, tA, cS, cZ]; simp only [E35, E36, E37, E38, E39, E40, E10]; clear E35 E36 E37 E38 E39 E40 E10; replace h0 := h0.ext hBz.ext; replace q11si := q11si.ext hBz.ext; replace bx5 := hBz.blk bx5 zN; replace bx11 := hBz.blk bx11 zN; replace HB := hide (HB.out.trans (hBz.below (B := w.heap.size) HB.out.size zE)); clear hOz hAz hNz hSz hBz
      go_wp2_with fail
      go_ret
      exact ⟨HB.out, VF.mk (Fact.cast (Fact.eq_self _ _) (by rw [HM.out]; simp only [decide_eq_true (show 0 ≤ q by omega), decide_eq_true (show q ≤ 1200 by omega), decide_eq_true (show 1 ≤ n by omega), decide_eq_true (show n ≤ 400 by omega), decide_eq_true (show 0 ≤ s by omega), Bool.true_and, Bool.false_and] <;> rfl))⟩
set_option maxHeartbeats 4000000 in
set_option maxRecDepth 100000 in
theorem ddown_calls {w : World}  {k0 k1 : Nat} {n0 n1 : Bool} {A0 A1 : Option Addr} {l0 l1 c0 c1 : Nat} {x0 x1 : Int} {y q : Int} (h0 : Q w k0 n0 A0 l0 c0 x0) (h1 : Q w k1 n1 A1 l1 c1 x1) (hk0 : k0 ≤ 4000) (hk1 : k1 ≤ 4000) (hy0 : 1 ≤ y) (hy1 : y ≤ 1000000000) (hq0 : 0 ≤ q) (hq1 : q ≤ 8000) :
    Calls Tryz.prog 39 #[.agg #[.bool n0, .slice A0 l0 c0], .agg #[.bool n1, .slice A1 l1 c1], .int .i64 y, .int .i64 q] w fun e w' => Below w.heap.size w w' ∧ VF (Fact.z (k0 + k1) (x0 * x1 / (y * 2 ^ q.toNat))) e w' := by
 have hy : y ≠ 0 := by omega
 go_enter Tryz.func39, Tryz.ntmps39
 have HB : Hid (Below w.heap.size w w) := hide (Below.refl _ _)
 go_upto_region 0 with (fail)
 refine F2.regionS [.al 24 #[.bool n0, .slice A0 l0 c0], .al 24 #[.bool n1, .slice A1 l1 c1], .al 24 #[.bool false, .slice none 0 0]] [Fact.any, Fact.any, Fact.any] [4, 5, 8] [4, 5, 8] (by kernel_rfl) ?soa ?sopa (by kernel_rfl) ?sta ?fina
 case soa => exact fun x hx => by cases hx
 case sopa => exact List.Pairwise.nil
 case sta =>
  refine F2.Steps.consA rfl ⟨NoU.two nB nS, ?_⟩ ?_
  ·
   intro vz wz hBz K hK; simp only [zy, F2.Wp] at hK ⊢; go_simp; exact hK
  refine F2.Steps.consA rfl ⟨NoU.two nB nS, ?_⟩ ?_
  ·
   intro vz wz hBz K hK; simp only [zy, F2.Wp] at hK ⊢; go_simp; exact hK
  refine F2.Steps.consA rfl ⟨NoU.two nB nS, ?_⟩ ?_
  ·
   intro vz wz hBz K hK; simp only [zy, F2.Wp] at hK ⊢; go_simp; exact hK
  exact F2.Steps.nil
 intro va w1 hBz ⟨hOz, hAz, hNz, hSz⟩; obtain ⟨g4, cs4, E4, hg4, bx4, hs4, hz4⟩ := hAz 0 _ _ (by decide) rfl; have hzz := hz4 (F2.nost (by kernel_rfl)); subst hzz; obtain ⟨g5, cs5, E5, hg5, bx5, hs5, hz5⟩ := hAz 1 _ _ (by decide) rfl; have hzz := hz5 (F2.nost (by kernel_rfl)); subst hzz; obtain ⟨g8, cs8, E8, hg8, bx8, hs8, hz8⟩ := hAz 2 _ _ (by decide) rfl; have hzz := hz8 (F2.nost (by kernel_rfl)); subst hzz; have hne4_5 : Hid (¬ g4 = g5) := hide (fun h => hNz 0 1 _ _ _ _ (by decide) (by decide) (by decide) rfl rfl (by rw [E4, E5, h])); have hne4_8 : Hid (¬ g4 = g8) := hide (fun h => hNz 0 2 _ _ _ _ (by decide) (by decide) (by decide) rfl rfl (by rw [E4, E8, h])); have hne5_8 : Hid (¬ g5 = g8) := hide (fun h => hNz 1 2 _ _ _ _ (by decide) (by decide) (by decide) rfl rfl (by rw [E5, E8, h])); simp only [Act.put, actv, fill, fC, fN, tA, cS, cZ]; simp only [(show va 4 = _ from E4), (show va 5 = _ from E5), (show va 8 = _ from E8)]; clear E4 E5 E8; have hge4 : w.heap.size ≤ g4 := Nat.le_trans HB.out.size hg4; have hge5 : w.heap.size ≤ g5 := Nat.le_trans HB.out.size hg5; have hge8 : w.heap.size ≤ g8 := Nat.le_trans HB.out.size hg8; replace h0 := h0.ext hBz.ext; replace h1 := h1.ext hBz.ext; replace HB := hide (HB.out.trans (hBz.below (B := w.heap.size) HB.out.size zE)); clear hOz hAz hNz hSz hs4 hz4 hs5 hz5 hs8 hz8 hBz
 go_upto_region 1 with (fail)
 refine F2.regionS [.o, .o, .o, .o, .o, .al 24 #[.bool false, .slice none 0 0], .st 5] [Fact.eq ?cb10_, Fact.eq ?cb11_, Fact.z ?kb12_ ?zb12_, Fact.eq ?cb13_, Fact.z ?kb14_ ?zb14_, Fact.any, Fact.z ?kbs9_ ?zbs9_] [10, 11, 12, 13, 14, 9] [10, 11, 12, 13, 14, 9, 0] (by kernel_rfl) ?sob ?sopb (by kernel_rfl) ?stb ?finb
 case sob => exact fun x hx => by cases hx
 case sopb => exact List.Pairwise.nil
 case stb =>
  refine F2.Steps.consO rfl ?_ ?_
  ·
   intro vz wz hBz hDz hTz K hK; have HW := hBz.ext; have bx4z := hBz.blk bx4 zN; obtain ⟨zl0, zl1, -⟩ := bx4z.two; simp only [zy, F2.Wp] at hK ⊢; go_simp; refine hK _ wz zB (Fact.eq_mk ?_); with_reducible rfl
  refine F2.Steps.consO rfl ?_ ?_
  ·
   intro vz wz hBz hDz hTz K hK; have HW := hBz.ext; have bx5z := hBz.blk bx5 zN; obtain ⟨zl0, zl1, -⟩ := bx5z.two; simp only [zy, F2.Wp] at hK ⊢; go_simp; refine hK _ wz zB (Fact.eq_mk ?_); with_reducible rfl
  refine F2.Steps.consO rfl ?_ ?_
  ·
   intro vz wz hBz hDz hTz K hK; have E10 : vz 10 = _ := hDz 0 (by kernel_rfl) rfl; have E11 : vz 11 = _ := hDz 1 (by kernel_rfl) rfl; have HW := hBz.ext; simp only [zy, F2.Wp] at hK ⊢; simp only [E10, E11] at hK ⊢; go_simp; refine Calls.mono (u_mul (h0.ext HW) (h1.ext HW) (by omega) (by omega)) ?_; rintro e w2z ⟨hb2, uz, rfl, hf⟩
   go_wp2_with fail
   refine hK _ w2z hb2 (Fact.cast (hf) ?_); with_reducible rfl
  refine F2.Steps.consO rfl ?_ ?_
  ·
   intro vz wz hBz hDz hTz K hK; have HW := hBz.ext; simp only [zy, F2.Wp] at hK ⊢; go_simp; refine hK _ wz zB (Fact.eq_mk ?_); with_reducible rfl
  refine F2.Steps.consO rfl ?_ ?_
  ·
   intro vz wz hBz hDz hTz K hK; obtain ⟨n12_, A12_, l12_, c12_, E12, q12⟩ : IntV 0 _ _ wz (vz 12) := hDz 2 (by kernel_rfl) rfl; have E13 : vz 13 = _ := hDz 3 (by kernel_rfl) rfl; have HW := hBz.ext; simp only [zy, F2.Wp] at hK ⊢; simp only [E12, E13] at hK ⊢; go_simp; refine Calls.mono (u_shr q12.q (by omega) (by omega) (by omega)) ?_; rintro e w2z ⟨hb2, uz, rfl, hf⟩
   go_wp2_with fail
   refine hK _ w2z hb2 (Fact.cast (hf) ?_); with_reducible rfl
  refine F2.Steps.consA rfl ⟨NoU.two nB nS, ?_⟩ ?_
  ·
   intro vz wz hBz K hK; simp only [zy, F2.Wp] at hK ⊢; go_simp; exact hK
  refine F2.Steps.consS rfl rfl ?_ ?_
  ·
   intro vz wz gz hBz hDz E9' hgz hbz K hK; obtain ⟨zc0, zc1, zc2, zc3⟩ := hbz.two; obtain ⟨n14_, A14_, l14_, c14_, E14, q14⟩ : IntV 0 _ _ wz (vz 14) := hDz 4 (by kernel_rfl) rfl; have E9 : vz 9 = .pointer (some ⟨gz, 0, none⟩) := E9'; have HW := hBz.ext; simp only [zy, F2.Wp] at hK ⊢; simp only [E9, E14] at hK ⊢; go_simp; refine hK _ ((Far.set _ gz 0 _).trans (Far.set _ gz 1 _)) ⟨_, blk_two hbz, NoU.two nB nS, Fact.cast (Fact.z_mk q14) ?_⟩; with_reducible rfl
  exact F2.Steps.nil
 intro vb w2 hBz ⟨hOz, hAz, hNz, hSz⟩; have E10 : vb 10 = _ := hOz 0 (by decide) rfl; have E11 : vb 11 = _ := hOz 1 (by decide) rfl; obtain ⟨n12_, A12_, l12_, c12_, E12, q12⟩ : IntV 0 _ _ w2 (vb 12) := hOz 2 (by decide) rfl; have E13 : vb 13 = _ := hOz 3 (by decide) rfl; obtain ⟨n14_, A14_, l14_, c14_, E14, q14⟩ : IntV 0 _ _ w2 (vb 14) := hOz 4 (by decide) rfl; obtain ⟨g9, cs9, E9, hg9, bx9, hs9, hz9⟩ := hAz 5 _ _ (by decide) rfl; obtain ⟨n9sb_, A9sb_, l9sb_, c9sb_, E9sb, q9sb⟩ : IntV 0 _ _ w2 (.agg cs9) := hs9 6 (by decide) rfl; injection E9sb with E9sb
 subst E9sb; simp only [Act.put, actv, fill, fC, fN, tA, cS, cZ]; simp only [E10, E11, E12, E13, E14, (show vb 9 = _ from E9)]; clear E10 E11 E12 E13 E14 E9; have hge9 : w.heap.size ≤ g9 := Nat.le_trans HB.out.size hg9; have hne9_4 := hide (Nat.ne_of_gt (Nat.lt_of_lt_of_le bx4.lt (show w1.heap.size ≤ g9 from hg9))); have hne9_5 := hide (Nat.ne_of_gt (Nat.lt_of_lt_of_le bx5.lt (show w1.heap.size ≤ g9 from hg9))); have hne9_8 := hide (Nat.ne_of_gt (Nat.lt_of_lt_of_le bx8.lt (show w1.heap.size ≤ g9 from hg9))); replace h0 := h0.ext hBz.ext; replace h1 := h1.ext hBz.ext; replace bx4 := hBz.blk bx4 zN; replace bx5 := hBz.blk bx5 zN; replace bx8 := hBz.blk bx8 zN; replace HB := hide (HB.out.trans (hBz.below (B := w.heap.size) HB.out.size zE)); clear hOz hAz hNz hSz hs9 hz9 hBz
 by_cases hb : y = 1
 ·
  subst hb
  go_upto_region 2 with (fail)
  refine F2.regionS [.o, .o] [Fact.eq ?cc15_, Fact.eq ?cc16_] [15, 16] [15, 16] (by kernel_rfl) ?soc ?sopc (by kernel_rfl) ?stc ?finc
  case soc => exact fun x hx => by cases hx
  case sopc => exact List.Pairwise.nil
  case stc =>
   refine F2.Steps.consO rfl ?_ ?_
   ·
    intro vz wz hBz hDz hTz K hK; have HW := hBz.ext; simp only [zy, F2.Wp] at hK ⊢; go_simp; refine hK _ wz zB (Fact.eq_mk ?_); with_reducible rfl
   refine F2.Steps.consO rfl ?_ ?_
   ·
    intro vz wz hBz hDz hTz K hK; have E15 : vz 15 = _ := hDz 0 (by kernel_rfl) rfl; have HW := hBz.ext; simp only [zy, F2.Wp] at hK ⊢; simp only [E15] at hK ⊢; go_simp; refine hK _ wz zB (Fact.eq_mk ?_); with_reducible rfl
   exact F2.Steps.nil
  intro vc w3 hBz ⟨hOz, hAz, hNz, hSz⟩; have E15 : vc 15 = _ := hOz 0 (by decide) rfl; have E16 : vc 16 = _ := hOz 1 (by decide) rfl; simp only [Act.put, actv, fill, fC, fN, tA, cS, cZ]; simp only [E15, E16]; clear E15 E16; replace h0 := h0.ext hBz.ext; replace h1 := h1.ext hBz.ext; replace q9sb := q9sb.ext hBz.ext; replace bx4 := hBz.blk bx4 zN; replace bx5 := hBz.blk bx5 zN; replace bx8 := hBz.blk bx8 zN; replace bx9 := hBz.blk bx9 zN; replace HB := hide (HB.out.trans (hBz.below (B := w.heap.size) HB.out.size zE)); clear hOz hAz hNz hSz hBz
  go_upto_region 3 with (fail)
  refine F2.regionS [.o, .so (g8) 24 #[.bool false, .slice none 0 0]] [Fact.eq ?cd17_, Fact.z ?kds8_ ?zds8_] [17] [17, 0] (by kernel_rfl) ?sod ?sopd (by kernel_rfl) ?std ?find
  case sod => exact List.forall_mem_cons.2 ⟨⟨bx8, NoU.two nB nS⟩, fun x hx => by cases hx⟩
  case sopd => exact List.Pairwise.cons (fun y hy => by cases hy) (List.Pairwise.nil)
  case std =>
   refine F2.Steps.consO rfl ?_ ?_
   ·
    intro vz wz hBz hDz hTz K hK; have HW := hBz.ext; have bx9z := hBz.blk bx9 (zM hne9_8.out zN); obtain ⟨zl0, zl1, -⟩ := bx9z.two; simp only [zy, F2.Wp] at hK ⊢; go_simp; refine hK _ wz zB (Fact.eq_mk ?_); with_reducible rfl
   refine F2.Steps.consT rfl ?_ ?_
   ·
    intro vz wz hBz hDz hbz K hK; obtain ⟨zc0, zc1, zc2, zc3⟩ := hbz.two; have E17 : vz 17 = _ := hDz 0 (by kernel_rfl) rfl; have HW := hBz.ext; simp only [zy, F2.Wp] at hK ⊢; simp only [E17] at hK ⊢; go_simp; refine hK _ ((Far.set _ _ 0 _).trans (Far.set _ _ 1 _)) ⟨_, blk_two hbz, NoU.two nB nS, Fact.cast (Fact.z_mk (q9sb.ext HW)) ?_⟩; with_reducible rfl
   exact F2.Steps.nil
  intro vd w4 hBz ⟨hOz, hAz, hNz, hSz⟩; have E17 : vd 17 = _ := hOz 0 (by decide) rfl; obtain ⟨cs8, bx8n, hs8⟩ := hSz 1 _ _ _ (by decide) rfl; obtain ⟨n8sd_, A8sd_, l8sd_, c8sd_, E8sd, q8sd⟩ : IntV 0 _ _ w4 (.agg cs8) := hs8; injection E8sd with E8sd
  subst E8sd; simp only [Act.put, actv, fill, fC, fN, tA, cS, cZ]; simp only [E17]; clear E17; replace h0 := h0.ext hBz.ext; replace h1 := h1.ext hBz.ext; replace q9sb := q9sb.ext hBz.ext; replace bx4 := hBz.blk bx4 (zM hne4_8.out zN); replace bx5 := hBz.blk bx5 (zM hne5_8.out zN); replace bx9 := hBz.blk bx9 (zM hne9_8.out zN); replace HB := hide (HB.out.trans (hBz.below (B := w.heap.size) HB.out.size (zA hge8 zE))); clear bx8; have bx8 := bx8n; clear bx8n; clear hOz hAz hNz hSz hBz
  go_wp2_with fail
  refine bodyPost_ret (results_int rfl _ _ _ _ _ _ rfl bx8) rfl ⟨HB.out, ?_⟩; refine VF.mk (Fact.cast (Fact.z_mk q8sd) ?_); rw [← down_one, Int.ediv_one]
 ·
  have hbb : (y == 1) = false := by simp [hb]
  go_upto_region 2 with (fail)
  refine F2.regionS [.o, .o] [Fact.eq ?ce15_, Fact.eq ?ce16_] [15, 16] [15, 16] (by kernel_rfl) ?soe ?sope (by kernel_rfl) ?ste ?fine
  case soe => exact fun x hx => by cases hx
  case sope => exact List.Pairwise.nil
  case ste =>
   refine F2.Steps.consO rfl ?_ ?_
   ·
    intro vz wz hBz hDz hTz K hK; have HW := hBz.ext; simp only [zy, F2.Wp] at hK ⊢; go_simp; refine hK _ wz zB (Fact.eq_mk ?_); with_reducible rfl
   refine F2.Steps.consO rfl ?_ ?_
   ·
    intro vz wz hBz hDz hTz K hK; have E15 : vz 15 = _ := hDz 0 (by kernel_rfl) rfl; have HW := hBz.ext; simp only [zy, F2.Wp] at hK ⊢; simp only [E15] at hK ⊢; go_simp; refine hK _ wz zB (Fact.eq_mk ?_); with_reducible rfl
   exact F2.Steps.nil
  intro ve w5 hBz ⟨hOz, hAz, hNz, hSz⟩; have E15 : ve 15 = _ := hOz 0 (by decide) rfl; have E16 : ve 16 = _ := hOz 1 (by decide) rfl; simp only [Act.put, actv, fill, fC, fN, tA, cS, cZ]; simp only [E15, E16]; clear E15 E16; replace h0 := h0.ext hBz.ext; replace h1 := h1.ext hBz.ext; replace q9sb := q9sb.ext hBz.ext; replace bx4 := hBz.blk bx4 zN; replace bx5 := hBz.blk bx5 zN; replace bx8 := hBz.blk bx8 zN; replace bx9 := hBz.blk bx9 zN; replace HB := hide (HB.out.trans (hBz.below (B := w.heap.size) HB.out.size zE)); clear hOz hAz hNz hSz hBz
  go_upto_region 4 with (fail)
  refine F2.region [.o, .o, .o, .o, .o, .o, .o, .o, .so (g9) 24 #[.bool n9sb_, .slice A9sb_ l9sb_ c9sb_]] [Fact.eq ?cf19_, Fact.eq ?cf20_, Fact.z ?kf21_ ?zf21_, Fact.t3 (Fact.z ?kf22_p ?zf22_p) (Fact.z ?kf22_q ?zf22_q) (Fact.eq ?cf22_r), Fact.t3 (Fact.z ?kf18_p ?zf18_p) (Fact.z ?kf18_q ?zf18_q) (Fact.eq ?cf18_r), Fact.z ?kf23_ ?zf23_, Fact.z ?kf24_ ?zf24_, Fact.eq ?cf25_, Fact.z ?kfs9_ ?zfs9_] [19, 20, 21, 22, 18, 23, 24, 25] [19, 20, 21, 22, 18, 23, 24, 25, 0] (by kernel_rfl) ?sof ?sopf (by kernel_rfl) ?stf ?finf
  case sof => exact List.forall_mem_cons.2 ⟨⟨bx9, NoU.two nB nS⟩, fun x hx => by cases hx⟩
  case sopf => exact List.Pairwise.cons (fun y hy => by cases hy) (List.Pairwise.nil)
  case stf =>
   refine F2.Steps.consO rfl ?_ ?_
   ·
    intro vz wz hBz hDz hTz K hK; have HW := ext_drew hBz.ext; have bx9z := hTz 8 _ _ _ _ rfl rfl (by kernel_rfl); obtain ⟨zl0, zl1, -⟩ := bx9z.two; simp only [zy, F2.Wp] at hK ⊢; go_simp; refine hK _ wz zB (Fact.eq_mk ?_); with_reducible rfl
   refine F2.Steps.consO rfl ?_ ?_
   ·
    intro vz wz hBz hDz hTz K hK; have HW := ext_drew hBz.ext; simp only [zy, F2.Wp] at hK ⊢; go_simp; refine hK _ wz zB (Fact.eq_mk ?_); with_reducible rfl
   refine F2.Steps.consO rfl ?_ ?_
   ·
    intro vz wz hBz hDz hTz K hK; have E20 : vz 20 = _ := hDz 1 (by kernel_rfl) rfl; have HW := ext_drew hBz.ext; simp only [zy, F2.Wp] at hK ⊢; simp only [E20] at hK ⊢; go_simp; refine Calls.mono (u_of  (by omega) (by omega)) ?_; rintro e w2z ⟨hb2, uz, rfl, hf⟩
    go_wp2_with fail
    refine hK _ w2z hb2 (Fact.cast (hf) ?_); with_reducible rfl
   refine F2.Steps.consO rfl ?_ ?_
   ·
    intro vz wz hBz hDz hTz K hK; have E19 : vz 19 = _ := hDz 0 (by kernel_rfl) rfl; obtain ⟨n21_, A21_, l21_, c21_, E21, q21⟩ : IntV 0 _ _ wz (vz 21) := hDz 2 (by kernel_rfl) rfl; have HW := ext_drew hBz.ext; simp only [zy, F2.Wp] at hK ⊢; simp only [E19, E21] at hK ⊢; go_simp; refine Calls.mono (u_divmod (q9sb.ext HW).q q21.q (by omega) (by omega) hy) ?_; rintro e w2z ⟨hb2, uz, rfl, hf⟩
    go_wp2_with fail
    refine hK _ w2z hb2 (Fact.cast (hf) ?_); with_reducible rfl
   refine F2.Steps.consO rfl ?_ ?_
   ·
    intro vz wz hBz hDz hTz K hK; obtain ⟨x22p_, x22q_, x22r_, E22, h22p, h22q, h22r⟩ : TV3 _ _ _ wz (vz 22) := hDz 3 (by kernel_rfl) rfl; obtain rfl := Fact.eq_of h22r; have HW := ext_drew hBz.ext; simp only [zy, F2.Wp] at hK ⊢; simp only [E22] at hK ⊢; go_simp; refine hK _ wz zB (Fact.cast (Fact.t3_mk h22p h22q (Fact.eq_self _ _)) ?_); with_reducible rfl
   refine F2.Steps.consO rfl ?_ ?_
   ·
    intro vz wz hBz hDz hTz K hK; obtain ⟨x18p_, x18q_, x18r_, E18, h18p, h18q, h18r⟩ : TV3 _ _ _ wz (vz 18) := hDz 4 (by kernel_rfl) rfl; obtain rfl := Fact.eq_of h18r; have HW := ext_drew hBz.ext; simp only [zy, F2.Wp] at hK ⊢; simp only [E18] at hK ⊢; go_simp; refine hK _ wz zB (Fact.cast (h18p) ?_); with_reducible rfl
   refine F2.Steps.consO rfl ?_ ?_
   ·
    intro vz wz hBz hDz hTz K hK; obtain ⟨x18p_, x18q_, x18r_, E18, h18p, h18q, h18r⟩ : TV3 _ _ _ wz (vz 18) := hDz 4 (by kernel_rfl) rfl; obtain rfl := Fact.eq_of h18r; have HW := ext_drew hBz.ext; simp only [zy, F2.Wp] at hK ⊢; simp only [E18] at hK ⊢; go_simp; refine hK _ wz zB (Fact.cast (h18q) ?_); with_reducible rfl
   refine F2.Steps.consO rfl ?_ ?_
   ·
    intro vz wz hBz hDz hTz K hK; obtain ⟨x18p_, x18q_, x18r_, E18, h18p, h18q, h18r⟩ : TV3 _ _ _ wz (vz 18) := hDz 4 (by kernel_rfl) rfl; obtain rfl := Fact.eq_of h18r; have HW := ext_drew hBz.ext; simp only [zy, F2.Wp] at hK ⊢; simp only [E18] at hK ⊢; go_simp; refine hK _ wz zB (Fact.eq_mk ?_); with_reducible rfl
   refine F2.Steps.consT rfl ?_ ?_
   ·
    intro vz wz hBz hDz hbz K hK; obtain ⟨zc0, zc1, zc2, zc3⟩ := hbz.two; obtain ⟨n23_, A23_, l23_, c23_, E23, q23⟩ : IntV 0 _ _ wz (vz 23) := hDz 5 (by kernel_rfl) rfl; have HW := ext_drew hBz.ext; simp only [zy, F2.Wp] at hK ⊢; simp only [E23] at hK ⊢; go_simp; refine hK _ ((Far.set _ _ 0 _).trans (Far.set _ _ 1 _)) ⟨_, blk_two hbz, NoU.two nB nS, Fact.cast (Fact.z_mk q23) ?_⟩; with_reducible rfl
   exact F2.Steps.nil
  intro vf w6 hBz ⟨hOz, hAz, hNz, hSz⟩; have E19 : vf 19 = _ := hOz 0 (by decide) rfl; have E20 : vf 20 = _ := hOz 1 (by decide) rfl; obtain ⟨n21_, A21_, l21_, c21_, E21, q21⟩ : IntV 0 _ _ w6 (vf 21) := hOz 2 (by decide) rfl; obtain ⟨x22p_, x22q_, x22r_, E22, h22p, h22q, h22r⟩ : TV3 _ _ _ w6 (vf 22) := hOz 3 (by decide) rfl; obtain rfl := Fact.eq_of h22r; obtain ⟨x18p_, x18q_, x18r_, E18, h18p, h18q, h18r⟩ : TV3 _ _ _ w6 (vf 18) := hOz 4 (by decide) rfl; obtain rfl := Fact.eq_of h18r; obtain ⟨n23_, A23_, l23_, c23_, E23, q23⟩ : IntV 0 _ _ w6 (vf 23) := hOz 5 (by decide) rfl; obtain ⟨n24_, A24_, l24_, c24_, E24, q24⟩ : IntV 0 _ _ w6 (vf 24) := hOz 6 (by decide) rfl; have E25 : vf 25 = _ := hOz 7 (by decide) rfl; obtain ⟨cs9, bx9n, hs9⟩ := hSz 8 _ _ _ (by decide) rfl; obtain ⟨n9sf_, A9sf_, l9sf_, c9sf_, E9sf, q9sf⟩ : IntV 0 _ _ w6 (.agg cs9) := hs9; injection E9sf with E9sf
  subst E9sf; simp only [Act.put, actv, fill, fC, fN, tA, cS, cZ]; simp only [E19, E20, E21, E22, E18, E23, E24, E25]; clear E19 E20 E21 E22 E18 E23 E24 E25; replace h0 := h0.ext hBz.ext; replace h1 := h1.ext hBz.ext; replace q9sb := q9sb.ext hBz.ext; replace bx4 := hBz.blk bx4 (zM (Ne.symm hne9_4.out) zN); replace bx5 := hBz.blk bx5 (zM (Ne.symm hne9_5.out) zN); replace bx8 := hBz.blk bx8 (zM (Ne.symm hne9_8.out) zN); replace HB := hide (HB.out.trans (hBz.below (B := w.heap.size) HB.out.size (zA hge9 zE))); clear bx9; have bx9 := bx9n; clear bx9n; clear hOz hAz hNz hSz hBz
  go_upto_region 5 with (fail)
  refine F2.regionS [.o, .so (g8) 24 #[.bool false, .slice none 0 0]] [Fact.eq ?cg26_, Fact.z ?kgs8_ ?zgs8_] [26] [26, 0] (by kernel_rfl) ?sog ?sopg (by kernel_rfl) ?stg ?fing
  case sog => exact List.forall_mem_cons.2 ⟨⟨bx8, NoU.two nB nS⟩, fun x hx => by cases hx⟩
  case sopg => exact List.Pairwise.cons (fun y hy => by cases hy) (List.Pairwise.nil)
  case stg =>
   refine F2.Steps.consO rfl ?_ ?_
   ·
    intro vz wz hBz hDz hTz K hK; have HW := hBz.ext; have bx9z := hBz.blk bx9 (zM hne9_8.out zN); obtain ⟨zl0, zl1, -⟩ := bx9z.two; simp only [zy, F2.Wp] at hK ⊢; go_simp; refine hK _ wz zB (Fact.eq_mk ?_); with_reducible rfl
   refine F2.Steps.consT rfl ?_ ?_
   ·
    intro vz wz hBz hDz hbz K hK; obtain ⟨zc0, zc1, zc2, zc3⟩ := hbz.two; have E26 : vz 26 = _ := hDz 0 (by kernel_rfl) rfl; have HW := hBz.ext; simp only [zy, F2.Wp] at hK ⊢; simp only [E26] at hK ⊢; go_simp; refine hK _ ((Far.set _ _ 0 _).trans (Far.set _ _ 1 _)) ⟨_, blk_two hbz, NoU.two nB nS, Fact.cast (Fact.z_mk (q9sf.ext HW)) ?_⟩; with_reducible rfl
   exact F2.Steps.nil
  intro vg w7 hBz ⟨hOz, hAz, hNz, hSz⟩; have E26 : vg 26 = _ := hOz 0 (by decide) rfl; obtain ⟨cs8, bx8n, hs8⟩ := hSz 1 _ _ _ (by decide) rfl; obtain ⟨n8sg_, A8sg_, l8sg_, c8sg_, E8sg, q8sg⟩ : IntV 0 _ _ w7 (.agg cs8) := hs8; injection E8sg with E8sg
  subst E8sg; simp only [Act.put, actv, fill, fC, fN, tA, cS, cZ]; simp only [E26]; clear E26; replace h0 := h0.ext hBz.ext; replace h1 := h1.ext hBz.ext; replace q9sf := q9sf.ext hBz.ext; replace bx4 := hBz.blk bx4 (zM hne4_8.out zN); replace bx5 := hBz.blk bx5 (zM hne5_8.out zN); replace bx9 := hBz.blk bx9 (zM hne9_8.out zN); replace HB := hide (HB.out.trans (hBz.below (B := w.heap.size) HB.out.size (zA hge8 zE))); clear bx8; have bx8 := bx8n; clear bx8n; clear hOz hAz hNz hSz hBz
  go_wp2_with fail
  refine bodyPost_ret (results_int rfl _ _ _ _ _ _ rfl bx8) rfl ⟨HB.out, ?_⟩; refine VF.mk (Fact.cast (Fact.z_mk q8sg) ?_); rw [← down_one]
set_option maxHeartbeats 4000000 in
set_option maxRecDepth 100000 in
theorem dup_calls {w : World}  {k0 k1 : Nat} {n0 n1 : Bool} {A0 A1 : Option Addr} {l0 l1 c0 c1 : Nat} {x0 x1 : Int} {y q : Int} (h0 : Q w k0 n0 A0 l0 c0 x0) (h1 : Q w k1 n1 A1 l1 c1 x1) (hk0 : k0 ≤ 4000) (hk1 : k1 ≤ 4000) (hy0 : 1 ≤ y) (hy1 : y ≤ 1000000000) (hq0 : 0 ≤ q) (hq1 : q ≤ 8000) :
    Calls Tryz.prog 40 #[.agg #[.bool n0, .slice A0 l0 c0], .agg #[.bool n1, .slice A1 l1 c1], .int .i64 y, .int .i64 q] w fun e w' => Below w.heap.size w w' ∧ VF (Fact.z (k0 + k1) (vUp (x0 * x1) (y * 2 ^ q.toNat))) e w' := by
 have hy : y ≠ 0 := by omega
 go_enter Tryz.func40, Tryz.ntmps40
 have HB : Hid (Below w.heap.size w w) := hide (Below.refl _ _)
 go_upto_region 0 with (fail)
 refine F2.regionS [.al 24 #[.bool n0, .slice A0 l0 c0], .al 24 #[.bool n1, .slice A1 l1 c1], .al 24 #[.bool false, .slice none 0 0]] [Fact.any, Fact.any, Fact.any] [4, 5, 8] [4, 5, 8] (by kernel_rfl) ?soa ?sopa (by kernel_rfl) ?sta ?fina
 case soa => exact fun x hx => by cases hx
 case sopa => exact List.Pairwise.nil
 case sta =>
  refine F2.Steps.consA rfl ⟨NoU.two nB nS, ?_⟩ ?_
  ·
   intro vz wz hBz K hK; simp only [zy, F2.Wp] at hK ⊢; go_simp; exact hK
  refine F2.Steps.consA rfl ⟨NoU.two nB nS, ?_⟩ ?_
  ·
   intro vz wz hBz K hK; simp only [zy, F2.Wp] at hK ⊢; go_simp; exact hK
  refine F2.Steps.consA rfl ⟨NoU.two nB nS, ?_⟩ ?_
  ·
   intro vz wz hBz K hK; simp only [zy, F2.Wp] at hK ⊢; go_simp; exact hK
  exact F2.Steps.nil
 intro va w1 hBz ⟨hOz, hAz, hNz, hSz⟩; obtain ⟨g4, cs4, E4, hg4, bx4, hs4, hz4⟩ := hAz 0 _ _ (by decide) rfl; have hzz := hz4 (F2.nost (by kernel_rfl)); subst hzz; obtain ⟨g5, cs5, E5, hg5, bx5, hs5, hz5⟩ := hAz 1 _ _ (by decide) rfl; have hzz := hz5 (F2.nost (by kernel_rfl)); subst hzz; obtain ⟨g8, cs8, E8, hg8, bx8, hs8, hz8⟩ := hAz 2 _ _ (by decide) rfl; have hzz := hz8 (F2.nost (by kernel_rfl)); subst hzz; have hne4_5 : Hid (¬ g4 = g5) := hide (fun h => hNz 0 1 _ _ _ _ (by decide) (by decide) (by decide) rfl rfl (by rw [E4, E5, h])); have hne4_8 : Hid (¬ g4 = g8) := hide (fun h => hNz 0 2 _ _ _ _ (by decide) (by decide) (by decide) rfl rfl (by rw [E4, E8, h])); have hne5_8 : Hid (¬ g5 = g8) := hide (fun h => hNz 1 2 _ _ _ _ (by decide) (by decide) (by decide) rfl rfl (by rw [E5, E8, h])); simp only [Act.put, actv, fill, fC, fN, tA, cS, cZ]; simp only [(show va 4 = _ from E4), (show va 5 = _ from E5), (show va 8 = _ from E8)]; clear E4 E5 E8; have hge4 : w.heap.size ≤ g4 := Nat.le_trans HB.out.size hg4; have hge5 : w.heap.size ≤ g5 := Nat.le_trans HB.out.size hg5; have hge8 : w.heap.size ≤ g8 := Nat.le_trans HB.out.size hg8; replace h0 := h0.ext hBz.ext; replace h1 := h1.ext hBz.ext; replace HB := hide (HB.out.trans (hBz.below (B := w.heap.size) HB.out.size zE)); clear hOz hAz hNz hSz hs4 hz4 hs5 hz5 hs8 hz8 hBz
 go_upto_region 1 with (fail)
 refine F2.regionS [.o, .o, .o, .o, .o, .o, .o, .al 24 #[.bool false, .slice none 0 0], .st 7] [Fact.eq ?cb10_, Fact.eq ?cb11_, Fact.z ?kb12_ ?zb12_, Fact.z ?kb13_ ?zb13_, Fact.eq ?cb14_, Fact.z ?kb15_ ?zb15_, Fact.z ?kb16_ ?zb16_, Fact.any, Fact.z ?kbs9_ ?zbs9_] [10, 11, 12, 13, 14, 15, 16, 9] [10, 11, 12, 13, 14, 15, 16, 9, 0] (by kernel_rfl) ?sob ?sopb (by kernel_rfl) ?stb ?finb
 case sob => exact fun x hx => by cases hx
 case sopb => exact List.Pairwise.nil
 case stb =>
  refine F2.Steps.consO rfl ?_ ?_
  ·
   intro vz wz hBz hDz hTz K hK; have HW := hBz.ext; have bx4z := hBz.blk bx4 zN; obtain ⟨zl0, zl1, -⟩ := bx4z.two; simp only [zy, F2.Wp] at hK ⊢; go_simp; refine hK _ wz zB (Fact.eq_mk ?_); with_reducible rfl
  refine F2.Steps.consO rfl ?_ ?_
  ·
   intro vz wz hBz hDz hTz K hK; have HW := hBz.ext; have bx5z := hBz.blk bx5 zN; obtain ⟨zl0, zl1, -⟩ := bx5z.two; simp only [zy, F2.Wp] at hK ⊢; go_simp; refine hK _ wz zB (Fact.eq_mk ?_); with_reducible rfl
  refine F2.Steps.consO rfl ?_ ?_
  ·
   intro vz wz hBz hDz hTz K hK; have E10 : vz 10 = _ := hDz 0 (by kernel_rfl) rfl; have E11 : vz 11 = _ := hDz 1 (by kernel_rfl) rfl; have HW := hBz.ext; simp only [zy, F2.Wp] at hK ⊢; simp only [E10, E11] at hK ⊢; go_simp; refine Calls.mono (u_mul (h0.ext HW) (h1.ext HW) (by omega) (by omega)) ?_; rintro e w2z ⟨hb2, uz, rfl, hf⟩
   go_wp2_with fail
   refine hK _ w2z hb2 (Fact.cast (hf) ?_); with_reducible rfl
  refine F2.Steps.consO rfl ?_ ?_
  ·
   intro vz wz hBz hDz hTz K hK; obtain ⟨n12_, A12_, l12_, c12_, E12, q12⟩ : IntV 0 _ _ wz (vz 12) := hDz 2 (by kernel_rfl) rfl; have HW := hBz.ext; simp only [zy, F2.Wp] at hK ⊢; simp only [E12] at hK ⊢; go_simp; refine Calls.mono (u_neg q12.q (by omega)) ?_; rintro e w2z ⟨hb2, uz, rfl, hf⟩
   go_wp2_with fail
   refine hK _ w2z hb2 (Fact.cast (hf) ?_); with_reducible rfl
  refine F2.Steps.consO rfl ?_ ?_
  ·
   intro vz wz hBz hDz hTz K hK; have HW := hBz.ext; simp only [zy, F2.Wp] at hK ⊢; go_simp; refine hK _ wz zB (Fact.eq_mk ?_); with_reducible rfl
  refine F2.Steps.consO rfl ?_ ?_
  ·
   intro vz wz hBz hDz hTz K hK; obtain ⟨n13_, A13_, l13_, c13_, E13, q13⟩ : IntV 0 _ _ wz (vz 13) := hDz 3 (by kernel_rfl) rfl; have E14 : vz 14 = _ := hDz 4 (by kernel_rfl) rfl; have HW := hBz.ext; simp only [zy, F2.Wp] at hK ⊢; simp only [E13, E14] at hK ⊢; go_simp; refine Calls.mono (u_shr q13.q (by omega) (by omega) (by omega)) ?_; rintro e w2z ⟨hb2, uz, rfl, hf⟩
   go_wp2_with fail
   refine hK _ w2z hb2 (Fact.cast (hf) ?_); with_reducible rfl
  refine F2.Steps.consO rfl ?_ ?_
  ·
   intro vz wz hBz hDz hTz K hK; obtain ⟨n15_, A15_, l15_, c15_, E15, q15⟩ : IntV 0 _ _ wz (vz 15) := hDz 5 (by kernel_rfl) rfl; have HW := hBz.ext; simp only [zy, F2.Wp] at hK ⊢; simp only [E15] at hK ⊢; go_simp; refine Calls.mono (u_neg q15.q (by omega)) ?_; rintro e w2z ⟨hb2, uz, rfl, hf⟩
   go_wp2_with fail
   refine hK _ w2z hb2 (Fact.cast (hf) ?_); with_reducible rfl
  refine F2.Steps.consA rfl ⟨NoU.two nB nS, ?_⟩ ?_
  ·
   intro vz wz hBz K hK; simp only [zy, F2.Wp] at hK ⊢; go_simp; exact hK
  refine F2.Steps.consS rfl rfl ?_ ?_
  ·
   intro vz wz gz hBz hDz E9' hgz hbz K hK; obtain ⟨zc0, zc1, zc2, zc3⟩ := hbz.two; obtain ⟨n16_, A16_, l16_, c16_, E16, q16⟩ : IntV 0 _ _ wz (vz 16) := hDz 6 (by kernel_rfl) rfl; have E9 : vz 9 = .pointer (some ⟨gz, 0, none⟩) := E9'; have HW := hBz.ext; simp only [zy, F2.Wp] at hK ⊢; simp only [E9, E16] at hK ⊢; go_simp; refine hK _ ((Far.set _ gz 0 _).trans (Far.set _ gz 1 _)) ⟨_, blk_two hbz, NoU.two nB nS, Fact.cast (Fact.z_mk q16) ?_⟩; with_reducible rfl
  exact F2.Steps.nil
 intro vb w2 hBz ⟨hOz, hAz, hNz, hSz⟩; have E10 : vb 10 = _ := hOz 0 (by decide) rfl; have E11 : vb 11 = _ := hOz 1 (by decide) rfl; obtain ⟨n12_, A12_, l12_, c12_, E12, q12⟩ : IntV 0 _ _ w2 (vb 12) := hOz 2 (by decide) rfl; obtain ⟨n13_, A13_, l13_, c13_, E13, q13⟩ : IntV 0 _ _ w2 (vb 13) := hOz 3 (by decide) rfl; have E14 : vb 14 = _ := hOz 4 (by decide) rfl; obtain ⟨n15_, A15_, l15_, c15_, E15, q15⟩ : IntV 0 _ _ w2 (vb 15) := hOz 5 (by decide) rfl; obtain ⟨n16_, A16_, l16_, c16_, E16, q16⟩ : IntV 0 _ _ w2 (vb 16) := hOz 6 (by decide) rfl; obtain ⟨g9, cs9, E9, hg9, bx9, hs9, hz9⟩ := hAz 7 _ _ (by decide) rfl; obtain ⟨n9sb_, A9sb_, l9sb_, c9sb_, E9sb, q9sb⟩ : IntV 0 _ _ w2 (.agg cs9) := hs9 8 (by decide) rfl; injection E9sb with E9sb
 subst E9sb; simp only [Act.put, actv, fill, fC, fN, tA, cS, cZ]; simp only [E10, E11, E12, E13, E14, E15, E16, (show vb 9 = _ from E9)]; clear E10 E11 E12 E13 E14 E15 E16 E9; have hge9 : w.heap.size ≤ g9 := Nat.le_trans HB.out.size hg9; have hne9_4 := hide (Nat.ne_of_gt (Nat.lt_of_lt_of_le bx4.lt (show w1.heap.size ≤ g9 from hg9))); have hne9_5 := hide (Nat.ne_of_gt (Nat.lt_of_lt_of_le bx5.lt (show w1.heap.size ≤ g9 from hg9))); have hne9_8 := hide (Nat.ne_of_gt (Nat.lt_of_lt_of_le bx8.lt (show w1.heap.size ≤ g9 from hg9))); replace h0 := h0.ext hBz.ext; replace h1 := h1.ext hBz.ext; replace bx4 := hBz.blk bx4 zN; replace bx5 := hBz.blk bx5 zN; replace bx8 := hBz.blk bx8 zN; replace HB := hide (HB.out.trans (hBz.below (B := w.heap.size) HB.out.size zE)); clear hOz hAz hNz hSz hs9 hz9 hBz
 by_cases hb : y = 1
 ·
  subst hb
  go_upto_region 2 with (fail)
  refine F2.regionS [.o, .o] [Fact.eq ?cc17_, Fact.eq ?cc18_] [17, 18] [17, 18] (by kernel_rfl) ?soc ?sopc (by kernel_rfl) ?stc ?finc
  case soc => exact fun x hx => by cases hx
  case sopc => exact List.Pairwise.nil
  case stc =>
   refine F2.Steps.consO rfl ?_ ?_
   ·
    intro vz wz hBz hDz hTz K hK; have HW := hBz.ext; simp only [zy, F2.Wp] at hK ⊢; go_simp; refine hK _ wz zB (Fact.eq_mk ?_); with_reducible rfl
   refine F2.Steps.consO rfl ?_ ?_
   ·
    intro vz wz hBz hDz hTz K hK; have E17 : vz 17 = _ := hDz 0 (by kernel_rfl) rfl; have HW := hBz.ext; simp only [zy, F2.Wp] at hK ⊢; simp only [E17] at hK ⊢; go_simp; refine hK _ wz zB (Fact.eq_mk ?_); with_reducible rfl
   exact F2.Steps.nil
  intro vc w3 hBz ⟨hOz, hAz, hNz, hSz⟩; have E17 : vc 17 = _ := hOz 0 (by decide) rfl; have E18 : vc 18 = _ := hOz 1 (by decide) rfl; simp only [Act.put, actv, fill, fC, fN, tA, cS, cZ]; simp only [E17, E18]; clear E17 E18; replace h0 := h0.ext hBz.ext; replace h1 := h1.ext hBz.ext; replace q9sb := q9sb.ext hBz.ext; replace bx4 := hBz.blk bx4 zN; replace bx5 := hBz.blk bx5 zN; replace bx8 := hBz.blk bx8 zN; replace bx9 := hBz.blk bx9 zN; replace HB := hide (HB.out.trans (hBz.below (B := w.heap.size) HB.out.size zE)); clear hOz hAz hNz hSz hBz
  go_upto_region 3 with (fail)
  refine F2.regionS [.o, .so (g8) 24 #[.bool false, .slice none 0 0]] [Fact.eq ?cd19_, Fact.z ?kds8_ ?zds8_] [19] [19, 0] (by kernel_rfl) ?sod ?sopd (by kernel_rfl) ?std ?find
  case sod => exact List.forall_mem_cons.2 ⟨⟨bx8, NoU.two nB nS⟩, fun x hx => by cases hx⟩
  case sopd => exact List.Pairwise.cons (fun y hy => by cases hy) (List.Pairwise.nil)
  case std =>
   refine F2.Steps.consO rfl ?_ ?_
   ·
    intro vz wz hBz hDz hTz K hK; have HW := hBz.ext; have bx9z := hBz.blk bx9 (zM hne9_8.out zN); obtain ⟨zl0, zl1, -⟩ := bx9z.two; simp only [zy, F2.Wp] at hK ⊢; go_simp; refine hK _ wz zB (Fact.eq_mk ?_); with_reducible rfl
   refine F2.Steps.consT rfl ?_ ?_
   ·
    intro vz wz hBz hDz hbz K hK; obtain ⟨zc0, zc1, zc2, zc3⟩ := hbz.two; have E19 : vz 19 = _ := hDz 0 (by kernel_rfl) rfl; have HW := hBz.ext; simp only [zy, F2.Wp] at hK ⊢; simp only [E19] at hK ⊢; go_simp; refine hK _ ((Far.set _ _ 0 _).trans (Far.set _ _ 1 _)) ⟨_, blk_two hbz, NoU.two nB nS, Fact.cast (Fact.z_mk (q9sb.ext HW)) ?_⟩; with_reducible rfl
   exact F2.Steps.nil
  intro vd w4 hBz ⟨hOz, hAz, hNz, hSz⟩; have E19 : vd 19 = _ := hOz 0 (by decide) rfl; obtain ⟨cs8, bx8n, hs8⟩ := hSz 1 _ _ _ (by decide) rfl; obtain ⟨n8sd_, A8sd_, l8sd_, c8sd_, E8sd, q8sd⟩ : IntV 0 _ _ w4 (.agg cs8) := hs8; injection E8sd with E8sd
  subst E8sd; simp only [Act.put, actv, fill, fC, fN, tA, cS, cZ]; simp only [E19]; clear E19; replace h0 := h0.ext hBz.ext; replace h1 := h1.ext hBz.ext; replace q9sb := q9sb.ext hBz.ext; replace bx4 := hBz.blk bx4 (zM hne4_8.out zN); replace bx5 := hBz.blk bx5 (zM hne5_8.out zN); replace bx9 := hBz.blk bx9 (zM hne9_8.out zN); replace HB := hide (HB.out.trans (hBz.below (B := w.heap.size) HB.out.size (zA hge8 zE))); clear bx8; have bx8 := bx8n; clear bx8n; clear hOz hAz hNz hSz hBz
  go_wp2_with fail
  refine bodyPost_ret (results_int rfl _ _ _ _ _ _ rfl bx8) rfl ⟨HB.out, ?_⟩; refine VF.mk (Fact.cast (Fact.z_mk q8sd) ?_); rw [← up_one]
 ·
  have hbb : (y == 1) = false := by simp [hb]
  go_upto_region 2 with (fail)
  refine F2.regionS [.o, .o] [Fact.eq ?ce17_, Fact.eq ?ce18_] [17, 18] [17, 18] (by kernel_rfl) ?soe ?sope (by kernel_rfl) ?ste ?fine
  case soe => exact fun x hx => by cases hx
  case sope => exact List.Pairwise.nil
  case ste =>
   refine F2.Steps.consO rfl ?_ ?_
   ·
    intro vz wz hBz hDz hTz K hK; have HW := hBz.ext; simp only [zy, F2.Wp] at hK ⊢; go_simp; refine hK _ wz zB (Fact.eq_mk ?_); with_reducible rfl
   refine F2.Steps.consO rfl ?_ ?_
   ·
    intro vz wz hBz hDz hTz K hK; have E17 : vz 17 = _ := hDz 0 (by kernel_rfl) rfl; have HW := hBz.ext; simp only [zy, F2.Wp] at hK ⊢; simp only [E17] at hK ⊢; go_simp; refine hK _ wz zB (Fact.eq_mk ?_); with_reducible rfl
   exact F2.Steps.nil
  intro ve w5 hBz ⟨hOz, hAz, hNz, hSz⟩; have E17 : ve 17 = _ := hOz 0 (by decide) rfl; have E18 : ve 18 = _ := hOz 1 (by decide) rfl; simp only [Act.put, actv, fill, fC, fN, tA, cS, cZ]; simp only [E17, E18]; clear E17 E18; replace h0 := h0.ext hBz.ext; replace h1 := h1.ext hBz.ext; replace q9sb := q9sb.ext hBz.ext; replace bx4 := hBz.blk bx4 zN; replace bx5 := hBz.blk bx5 zN; replace bx8 := hBz.blk bx8 zN; replace bx9 := hBz.blk bx9 zN; replace HB := hide (HB.out.trans (hBz.below (B := w.heap.size) HB.out.size zE)); clear hOz hAz hNz hSz hBz
  go_upto_region 4 with (fail)
  refine F2.region [.o, .o, .o, .o, .o, .o, .o, .so (g9) 24 #[.bool n9sb_, .slice A9sb_ l9sb_ c9sb_]] [Fact.eq ?cf21_, Fact.eq ?cf22_, Fact.z ?kf23_ ?zf23_, Fact.t2 (Fact.z ?kf24_p ?zf24_p) (Fact.eq ?cf24_q), Fact.t2 (Fact.z ?kf20_p ?zf20_p) (Fact.eq ?cf20_q), Fact.z ?kf25_ ?zf25_, Fact.eq ?cf26_, Fact.z ?kfs9_ ?zfs9_] [21, 22, 23, 24, 20, 25, 26] [21, 22, 23, 24, 20, 25, 26, 0] (by kernel_rfl) ?sof ?sopf (by kernel_rfl) ?stf ?finf
  case sof => exact List.forall_mem_cons.2 ⟨⟨bx9, NoU.two nB nS⟩, fun x hx => by cases hx⟩
  case sopf => exact List.Pairwise.cons (fun y hy => by cases hy) (List.Pairwise.nil)
  case stf =>
   refine F2.Steps.consO rfl ?_ ?_
   ·
    intro vz wz hBz hDz hTz K hK; have HW := ext_drew hBz.ext; have bx9z := hTz 7 _ _ _ _ rfl rfl (by kernel_rfl); obtain ⟨zl0, zl1, -⟩ := bx9z.two; simp only [zy, F2.Wp] at hK ⊢; go_simp; refine hK _ wz zB (Fact.eq_mk ?_); with_reducible rfl
   refine F2.Steps.consO rfl ?_ ?_
   ·
    intro vz wz hBz hDz hTz K hK; have HW := ext_drew hBz.ext; simp only [zy, F2.Wp] at hK ⊢; go_simp; refine hK _ wz zB (Fact.eq_mk ?_); with_reducible rfl
   refine F2.Steps.consO rfl ?_ ?_
   ·
    intro vz wz hBz hDz hTz K hK; have E22 : vz 22 = _ := hDz 1 (by kernel_rfl) rfl; have HW := ext_drew hBz.ext; simp only [zy, F2.Wp] at hK ⊢; simp only [E22] at hK ⊢; go_simp; refine Calls.mono (u_of  (by omega) (by omega)) ?_; rintro e w2z ⟨hb2, uz, rfl, hf⟩
    go_wp2_with fail
    refine hK _ w2z hb2 (Fact.cast (hf) ?_); with_reducible rfl
   refine F2.Steps.consO rfl ?_ ?_
   ·
    intro vz wz hBz hDz hTz K hK; have E21 : vz 21 = _ := hDz 0 (by kernel_rfl) rfl; obtain ⟨n23_, A23_, l23_, c23_, E23, q23⟩ : IntV 0 _ _ wz (vz 23) := hDz 2 (by kernel_rfl) rfl; have HW := ext_drew hBz.ext; simp only [zy, F2.Wp] at hK ⊢; simp only [E21, E23] at hK ⊢; go_simp; refine Calls.mono (u_up (q9sb.ext HW).q q23.q (by omega) (by omega) hy) ?_; rintro e w2z ⟨hb2, uz, rfl, hf⟩
    go_wp2_with fail
    refine hK _ w2z hb2 (Fact.cast (hf) ?_); with_reducible rfl
   refine F2.Steps.consO rfl ?_ ?_
   ·
    intro vz wz hBz hDz hTz K hK; obtain ⟨x24p_, x24q_, E24, h24p, h24q⟩ : TV2 _ _ wz (vz 24) := hDz 3 (by kernel_rfl) rfl; obtain rfl := Fact.eq_of h24q; have HW := ext_drew hBz.ext; simp only [zy, F2.Wp] at hK ⊢; simp only [E24] at hK ⊢; go_simp; refine hK _ wz zB (Fact.cast (Fact.t2_mk h24p (Fact.eq_self _ _)) ?_); with_reducible rfl
   refine F2.Steps.consO rfl ?_ ?_
   ·
    intro vz wz hBz hDz hTz K hK; obtain ⟨x20p_, x20q_, E20, h20p, h20q⟩ : TV2 _ _ wz (vz 20) := hDz 4 (by kernel_rfl) rfl; obtain rfl := Fact.eq_of h20q; have HW := ext_drew hBz.ext; simp only [zy, F2.Wp] at hK ⊢; simp only [E20] at hK ⊢; go_simp; refine hK _ wz zB (Fact.cast (h20p) ?_); with_reducible rfl
   refine F2.Steps.consO rfl ?_ ?_
   ·
    intro vz wz hBz hDz hTz K hK; obtain ⟨x20p_, x20q_, E20, h20p, h20q⟩ : TV2 _ _ wz (vz 20) := hDz 4 (by kernel_rfl) rfl; obtain rfl := Fact.eq_of h20q; have HW := ext_drew hBz.ext; simp only [zy, F2.Wp] at hK ⊢; simp only [E20] at hK ⊢; go_simp; refine hK _ wz zB (Fact.eq_mk ?_); with_reducible rfl
   refine F2.Steps.consT rfl ?_ ?_
   ·
    intro vz wz hBz hDz hbz K hK; obtain ⟨zc0, zc1, zc2, zc3⟩ := hbz.two; obtain ⟨n25_, A25_, l25_, c25_, E25, q25⟩ : IntV 0 _ _ wz (vz 25) := hDz 5 (by kernel_rfl) rfl; have HW := ext_drew hBz.ext; simp only [zy, F2.Wp] at hK ⊢; simp only [E25] at hK ⊢; go_simp; refine hK _ ((Far.set _ _ 0 _).trans (Far.set _ _ 1 _)) ⟨_, blk_two hbz, NoU.two nB nS, Fact.cast (Fact.z_mk q25) ?_⟩; with_reducible rfl
   exact F2.Steps.nil
  intro vf w6 hBz ⟨hOz, hAz, hNz, hSz⟩; have E21 : vf 21 = _ := hOz 0 (by decide) rfl; have E22 : vf 22 = _ := hOz 1 (by decide) rfl; obtain ⟨n23_, A23_, l23_, c23_, E23, q23⟩ : IntV 0 _ _ w6 (vf 23) := hOz 2 (by decide) rfl; obtain ⟨x24p_, x24q_, E24, h24p, h24q⟩ : TV2 _ _ w6 (vf 24) := hOz 3 (by decide) rfl; obtain rfl := Fact.eq_of h24q; obtain ⟨x20p_, x20q_, E20, h20p, h20q⟩ : TV2 _ _ w6 (vf 20) := hOz 4 (by decide) rfl; obtain rfl := Fact.eq_of h20q; obtain ⟨n25_, A25_, l25_, c25_, E25, q25⟩ : IntV 0 _ _ w6 (vf 25) := hOz 5 (by decide) rfl; have E26 : vf 26 = _ := hOz 6 (by decide) rfl; obtain ⟨cs9, bx9n, hs9⟩ := hSz 7 _ _ _ (by decide) rfl; obtain ⟨n9sf_, A9sf_, l9sf_, c9sf_, E9sf, q9sf⟩ : IntV 0 _ _ w6 (.agg cs9) := hs9; injection E9sf with E9sf
  subst E9sf; simp only [Act.put, actv, fill, fC, fN, tA, cS, cZ]; simp only [E21, E22, E23, E24, E20, E25, E26]; clear E21 E22 E23 E24 E20 E25 E26; replace h0 := h0.ext hBz.ext; replace h1 := h1.ext hBz.ext; replace q9sb := q9sb.ext hBz.ext; replace bx4 := hBz.blk bx4 (zM (Ne.symm hne9_4.out) zN); replace bx5 := hBz.blk bx5 (zM (Ne.symm hne9_5.out) zN); replace bx8 := hBz.blk bx8 (zM (Ne.symm hne9_8.out) zN); replace HB := hide (HB.out.trans (hBz.below (B := w.heap.size) HB.out.size (zA hge9 zE))); clear bx9; have bx9 := bx9n; clear bx9n; clear hOz hAz hNz hSz hBz
  go_upto_region 5 with (fail)
  refine F2.regionS [.o, .so (g8) 24 #[.bool false, .slice none 0 0]] [Fact.eq ?cg27_, Fact.z ?kgs8_ ?zgs8_] [27] [27, 0] (by kernel_rfl) ?sog ?sopg (by kernel_rfl) ?stg ?fing
  case sog => exact List.forall_mem_cons.2 ⟨⟨bx8, NoU.two nB nS⟩, fun x hx => by cases hx⟩
  case sopg => exact List.Pairwise.cons (fun y hy => by cases hy) (List.Pairwise.nil)
  case stg =>
   refine F2.Steps.consO rfl ?_ ?_
   ·
    intro vz wz hBz hDz hTz K hK; have HW := hBz.ext; have bx9z := hBz.blk bx9 (zM hne9_8.out zN); obtain ⟨zl0, zl1, -⟩ := bx9z.two; simp only [zy, F2.Wp] at hK ⊢; go_simp; refine hK _ wz zB (Fact.eq_mk ?_); with_reducible rfl
   refine F2.Steps.consT rfl ?_ ?_
   ·
    intro vz wz hBz hDz hbz K hK; obtain ⟨zc0, zc1, zc2, zc3⟩ := hbz.two; have E27 : vz 27 = _ := hDz 0 (by kernel_rfl) rfl; have HW := hBz.ext; simp only [zy, F2.Wp] at hK ⊢; simp only [E27] at hK ⊢; go_simp; refine hK _ ((Far.set _ _ 0 _).trans (Far.set _ _ 1 _)) ⟨_, blk_two hbz, NoU.two nB nS, Fact.cast (Fact.z_mk (q9sf.ext HW)) ?_⟩; with_reducible rfl
   exact F2.Steps.nil
  intro vg w7 hBz ⟨hOz, hAz, hNz, hSz⟩; have E27 : vg 27 = _ := hOz 0 (by decide) rfl; obtain ⟨cs8, bx8n, hs8⟩ := hSz 1 _ _ _ (by decide) rfl; obtain ⟨n8sg_, A8sg_, l8sg_, c8sg_, E8sg, q8sg⟩ : IntV 0 _ _ w7 (.agg cs8) := hs8; injection E8sg with E8sg
  subst E8sg; simp only [Act.put, actv, fill, fC, fN, tA, cS, cZ]; simp only [E27]; clear E27; replace h0 := h0.ext hBz.ext; replace h1 := h1.ext hBz.ext; replace q9sf := q9sf.ext hBz.ext; replace bx4 := hBz.blk bx4 (zM hne4_8.out zN); replace bx5 := hBz.blk bx5 (zM hne5_8.out zN); replace bx9 := hBz.blk bx9 (zM hne9_8.out zN); replace HB := hide (HB.out.trans (hBz.below (B := w.heap.size) HB.out.size (zA hge8 zE))); clear bx8; have bx8 := bx8n; clear bx8n; clear hOz hAz hNz hSz hBz
  go_wp2_with fail
  refine bodyPost_ret (results_int rfl _ _ _ _ _ _ rfl bx8) rfl ⟨HB.out, ?_⟩; refine VF.mk (Fact.cast (Fact.z_mk q8sg) ?_); rw [← up_two (by omega)]
end Go.Proofs.YtnephejalollfaaGreat
end
section
set_option linter.unusedVariables false
set_option linter.unusedSimpArgs false
namespace Go.Proofs.YtnephejalollfaaGreat
open Go.RowKit
open L (val dig nth)
theorem QB.cast_ {w : World} {B k : Nat} {n : Bool} {A : Option Addr} {len cap : Nat} {z y : Int} (h : QB w B k n A len cap z) (e : z = y) : QB w B k n A len cap y := e ▸ h
end Go.Proofs.YtnephejalollfaaGreat
end
