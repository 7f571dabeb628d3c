/- hairlineref06: may, down, up, Exp. hairlineref06: Exp. -/
import Derived.Test.YtnephejalollfaaRx
section
set_option linter.unusedVariables false
set_option linter.unusedSimpArgs false
namespace Go.Proofs.Ytnephejalollfaa
open Go.RowKit
open L (val dig nth)
def mayD (x q n b h : Int) : Bool := decide (0 ≤ q) && (decide (q ≤ 1200) && (decide (1 ≤ n) && (decide (n ≤ 400) && (decide (0 ≤ x) && decide (x * 2 ^ h.toNat ≤ b * 2 ^ q.toNat)))))
theorem mayD_exp (x q n : Int) : mayD x q n 1 0 = mayR x q n 2 := by
  unfold mayD mayR
  have e : decide (x * 2 ^ (0 : Int).toNat ≤ 1 * 2 ^ q.toNat) = decide (x * 2 ≤ 2 * 2 ^ q.toNat) := decide_eq_decide.2 (by
    rw [show (0 : Int).toNat = 0 from rfl, Int.pow_zero]
    generalize (2 : Int) ^ q.toNat = Y
    omega)
  rw [e]
theorem down_one (x y q : Int) : x / 2 ^ q.toNat / y = x / (y * 2 ^ q.toNat) := by
  rw [Int.ediv_ediv_of_nonneg (Int.le_of_lt (two_pow_pos q)), Int.mul_comm]
theorem up_two {x y q : Int} (hy : 0 < y) : vUp (-(-x / 2 ^ q.toNat)) y = vUp x (y * 2 ^ q.toNat) := by
  rw [vUp_pos hy, vUp_pos (Int.mul_pos hy (two_pow_pos q)), Int.neg_neg, down_one]
theorem up_one {x q : Int} : -(-x / 2 ^ q.toNat) = vUp x (1 * 2 ^ q.toNat) := by
  have hp := two_pow_pos q
  rw [vUp_pos (by omega), Int.one_mul]
set_option maxHeartbeats 4000000 in
set_option maxRecDepth 100000 in
theorem dmay_calls {w : World}  {k0 : Nat} {n0 : Bool} {A0 : Option Addr} {l0 c0 : Nat} {x0 : Int} {q n y m : Int} (h0 : Q w k0 n0 A0 l0 c0 x0) (hk0 : k0 ≤ 900) (hy0 : 1 ≤ y) (hy1 : y ≤ 4) (hm0 : 0 ≤ m) (hm1 : m ≤ 1) :
    Calls Try.prog 32 #[.agg #[.bool n0, .slice A0 l0 c0], .int .i64 q, .int .i64 n, .int .i64 y, .int .i64 m] w fun e w' => Below w.heap.size w w' ∧ VF (Fact.eq (.bool (mayD x0 q n y m))) e w' := by
 obtain ⟨s, HS⟩ : ∃ s, Hid (x0.sign = s) := ⟨_, hide rfl⟩
 obtain ⟨c, HC⟩ : ∃ c, Hid (cmpZ (x0 * 2 ^ m.toNat) (y * 2 ^ q.toNat) = c) := ⟨_, hide rfl⟩
 have HM : Hid (mayD x0 q n y m = (decide (0 ≤ q) && (decide (q ≤ 1200) && (decide (1 ≤ n) && (decide (n ≤ 400) && (decide (0 ≤ s) && decide (c ≤ 0))))))) := hide (by
  unfold mayD
  rw [← HS.out, ← HC.out, decide_eq_decide.2 (sign_nn x0), decide_eq_decide.2 (cmpZ_le _ _)])
 obtain ⟨r, HR⟩ : ∃ r, Hid (mayD x0 q n y m = r) := ⟨_, hide rfl⟩
 rw [HR.out]
 rw [HR.out] at HM
 go_enter Try.func32, Try.ntmps32
 have HB : Hid (Below w.heap.size w w) := hide (Below.refl _ _)
 go_upto_region 0 with (fail)
 refine F2.regionS [.al 24 #[.bool n0, .slice A0 l0 c0], .o] [Fact.any, Fact.eq ?ca10_] [5, 10] [5, 10] (by kernel_rfl) ?soa ?sopa (by kernel_rfl) ?sta ?fina
 case soa => exact fun x hx => by cases hx
 case sopa => exact List.Pairwise.nil
 case sta =>
  refine F2.Steps.consA rfl ⟨NoU.two nB nS, ?_⟩ ?_
  ·
   intro vz wz hBz K hK
   replace hK := hK.out
   apply Kept.mk
   simp only [F2.Wp, F2.fc, actv, fill, Act.put, sZ, sS, fC, fN, tA, cS, cZ] at hK ⊢
   go_simp
   exact hK
  refine F2.Steps.consO rfl ?_ ?_
  ·
   intro vz wz hBz hDz hTz K hK
   have HW := hBz.ext
   replace hK := hK.out
   apply Kept.mk
   simp only [F2.Wp, F2.fc, actv, fill, Act.put, sZ, sS, fC, fN, tA, cS, cZ] at hK ⊢
   go_simp
   refine hK _ wz (Below.refl _ _) (Fact.eq_mk ?_)
   with_reducible rfl
  exact F2.Steps.nil
 intro va w1 hBz ⟨hOz, hAz, hNz, hSz⟩
 obtain ⟨g5, cs5, E5, hg5, bx5, hs5, hz5⟩ := hAz 0 _ _ (by decide) rfl
 have hzz := hz5 (F2.nost (by kernel_rfl))
 subst hzz
 have E10 : va 10 = _ := hOz 1 (by decide) rfl
 simp only [Act.put, actv, fill, fC, fN, tA, cS, cZ]
 simp only [(show va 5 = _ from E5), E10]
 clear E5 E10
 have hge5 : w.heap.size ≤ g5 := Nat.le_trans HB.out.size hg5
 replace h0 := h0.ext hBz.ext
 replace HB := hide (HB.out.trans (hBz.below (B := w.heap.size) HB.out.size zE))
 clear hOz hAz hNz hSz hs5 hz5 hBz
 by_cases g0 : q < 0
 ·
  go_upto_region 2 with (fail)
  refine F2.regionS [.o] [Fact.eq ?cb10_] [10] [10] (by kernel_rfl) ?sob ?sopb (by kernel_rfl) ?stb ?finb
  case sob => exact fun x hx => by cases hx
  case sopb => exact List.Pairwise.nil
  case stb =>
   refine F2.Steps.consO rfl ?_ ?_
   ·
    intro vz wz hBz hDz hTz K hK
    have HW := hBz.ext
    replace hK := hK.out
    apply Kept.mk
    simp only [F2.Wp, F2.fc, actv, fill, Act.put, sZ, sS, fC, fN, tA, cS, cZ] at hK ⊢
    go_simp
    refine hK _ wz (Below.refl _ _) (Fact.eq_mk ?_)
    with_reducible rfl
   exact F2.Steps.nil
  intro vb w2 hBz ⟨hOz, hAz, hNz, hSz⟩
  have E10 : vb 10 = _ := hOz 0 (by decide) rfl
  simp only [Act.put, actv, fill, fC, fN, tA, cS, cZ]
  simp only [E10]
  clear E10
  replace h0 := h0.ext hBz.ext
  replace bx5 := hBz.blk bx5 zN
  replace HB := hide (HB.out.trans (hBz.below (B := w.heap.size) HB.out.size zE))
  clear hOz hAz hNz hSz hBz
  go_wp2_with fail
  go_ret
  exact ⟨HB.out, VF.mk (Fact.cast (Fact.eq_self _ _) (by rw [HM.out]; simp only [decide_eq_false (show ¬ (0 ≤ q) by omega), Bool.true_and, Bool.false_and] <;> rfl))⟩
 ·
  by_cases g1 : 1200 < q
  ·
   go_upto_region 2 with (fail)
   refine F2.regionS [.o] [Fact.eq ?cc10_] [10] [10] (by kernel_rfl) ?soc ?sopc (by kernel_rfl) ?stc ?finc
   case soc => exact fun x hx => by cases hx
   case sopc => exact List.Pairwise.nil
   case stc =>
    refine F2.Steps.consO rfl ?_ ?_
    ·
     intro vz wz hBz hDz hTz K hK
     have HW := hBz.ext
     replace hK := hK.out
     apply Kept.mk
     simp only [F2.Wp, F2.fc, actv, fill, Act.put, sZ, sS, fC, fN, tA, cS, cZ] at hK ⊢
     go_simp
     refine hK _ wz (Below.refl _ _) (Fact.eq_mk ?_)
     with_reducible rfl
    exact F2.Steps.nil
   intro vc w3 hBz ⟨hOz, hAz, hNz, hSz⟩
   have E10 : vc 10 = _ := hOz 0 (by decide) rfl
   simp only [Act.put, actv, fill, fC, fN, tA, cS, cZ]
   simp only [E10]
   clear E10
   replace h0 := h0.ext hBz.ext
   replace bx5 := hBz.blk bx5 zN
   replace HB := hide (HB.out.trans (hBz.below (B := w.heap.size) HB.out.size zE))
   clear hOz hAz hNz hSz hBz
   go_wp2_with fail
   go_ret
   exact ⟨HB.out, VF.mk (Fact.cast (Fact.eq_self _ _) (by rw [HM.out]; simp only [decide_eq_true (show 0 ≤ q by omega), decide_eq_false (show ¬ (q ≤ 1200) by omega), Bool.true_and, Bool.false_and] <;> rfl))⟩
  ·
   by_cases g2 : n < 1
   ·
    go_upto_region 2 with (fail)
    refine F2.regionS [.o] [Fact.eq ?cd10_] [10] [10] (by kernel_rfl) ?sod ?sopd (by kernel_rfl) ?std ?find
    case sod => exact fun x hx => by cases hx
    case sopd => exact List.Pairwise.nil
    case std =>
     refine F2.Steps.consO rfl ?_ ?_
     ·
      intro vz wz hBz hDz hTz K hK
      have HW := hBz.ext
      replace hK := hK.out
      apply Kept.mk
      simp only [F2.Wp, F2.fc, actv, fill, Act.put, sZ, sS, fC, fN, tA, cS, cZ] at hK ⊢
      go_simp
      refine hK _ wz (Below.refl _ _) (Fact.eq_mk ?_)
      with_reducible rfl
     exact F2.Steps.nil
    intro vd w4 hBz ⟨hOz, hAz, hNz, hSz⟩
    have E10 : vd 10 = _ := hOz 0 (by decide) rfl
    simp only [Act.put, actv, fill, fC, fN, tA, cS, cZ]
    simp only [E10]
    clear E10
    replace h0 := h0.ext hBz.ext
    replace bx5 := hBz.blk bx5 zN
    replace HB := hide (HB.out.trans (hBz.below (B := w.heap.size) HB.out.size zE))
    clear hOz hAz hNz hSz hBz
    go_wp2_with fail
    go_ret
    exact ⟨HB.out, VF.mk (Fact.cast (Fact.eq_self _ _) (by rw [HM.out]; simp only [decide_eq_true (show 0 ≤ q by omega), decide_eq_true (show q ≤ 1200 by omega), decide_eq_false (show ¬ (1 ≤ n) by omega), Bool.true_and, Bool.false_and] <;> rfl))⟩
   ·
    by_cases g3 : 400 < n
    ·
     go_upto_region 2 with (fail)
     refine F2.regionS [.o] [Fact.eq ?ce10_] [10] [10] (by kernel_rfl) ?soe ?sope (by kernel_rfl) ?ste ?fine
     case soe => exact fun x hx => by cases hx
     case sope => exact List.Pairwise.nil
     case ste =>
      refine F2.Steps.consO rfl ?_ ?_
      ·
       intro vz wz hBz hDz hTz K hK
       have HW := hBz.ext
       replace hK := hK.out
       apply Kept.mk
       simp only [F2.Wp, F2.fc, actv, fill, Act.put, sZ, sS, fC, fN, tA, cS, cZ] at hK ⊢
       go_simp
       refine hK _ wz (Below.refl _ _) (Fact.eq_mk ?_)
       with_reducible rfl
      exact F2.Steps.nil
     intro ve w5 hBz ⟨hOz, hAz, hNz, hSz⟩
     have E10 : ve 10 = _ := hOz 0 (by decide) rfl
     simp only [Act.put, actv, fill, fC, fN, tA, cS, cZ]
     simp only [E10]
     clear E10
     replace h0 := h0.ext hBz.ext
     replace bx5 := hBz.blk bx5 zN
     replace HB := hide (HB.out.trans (hBz.below (B := w.heap.size) HB.out.size zE))
     clear hOz hAz hNz hSz hBz
     go_wp2_with fail
     go_ret
     exact ⟨HB.out, VF.mk (Fact.cast (Fact.eq_self _ _) (by rw [HM.out]; simp only [decide_eq_true (show 0 ≤ q by omega), decide_eq_true (show q ≤ 1200 by omega), decide_eq_true (show 1 ≤ n by omega), decide_eq_false (show ¬ (n ≤ 400) by omega), Bool.true_and, Bool.false_and] <;> rfl))⟩
    ·
     by_cases g4 : s < 0
     ·
      obtain ⟨bx5c0, bx5c1, -⟩ := bx5.two
      go_wp2_with fail
      refine Calls.mono (HS.out ▸ u_sign h0 (by omega)) ?_
      rintro e w6 ⟨hb2, uz6, rfl, hf⟩
      clear bx5c0 bx5c1
      obtain rfl := Fact.eq_of hf
      have HW := ext_of hb2
      replace h0 := h0.ext HW
      replace bx5 := bx5.below hb2 bx5.lt
      replace HB := hide (HB.out.trans (hb2.mono HB.out.size))
      clear HW hb2
      go_upto_region 2 with (fail)
      refine F2.regionS [.o] [Fact.eq ?cg10_] [10] [10] (by kernel_rfl) ?sog ?sopg (by kernel_rfl) ?stg ?fing
      case sog => exact fun x hx => by cases hx
      case sopg => exact List.Pairwise.nil
      case stg =>
       refine F2.Steps.consO rfl ?_ ?_
       ·
        intro vz wz hBz hDz hTz K hK
        have HW := hBz.ext
        replace hK := hK.out
        apply Kept.mk
        simp only [F2.Wp, F2.fc, actv, fill, Act.put, sZ, sS, fC, fN, tA, cS, cZ] at hK ⊢
        go_simp
        refine hK _ wz (Below.refl _ _) (Fact.eq_mk ?_)
        with_reducible rfl
       exact F2.Steps.nil
      intro vg w7 hBz ⟨hOz, hAz, hNz, hSz⟩
      have E10 : vg 10 = _ := hOz 0 (by decide) rfl
      simp only [Act.put, actv, fill, fC, fN, tA, cS, cZ]
      simp only [E10]
      clear E10
      replace h0 := h0.ext hBz.ext
      replace bx5 := hBz.blk bx5 zN
      replace HB := hide (HB.out.trans (hBz.below (B := w.heap.size) HB.out.size zE))
      clear hOz hAz hNz hSz hBz
      go_wp2_with fail
      go_ret
      exact ⟨HB.out, VF.mk (Fact.cast (Fact.eq_self _ _) (by rw [HM.out]; simp only [decide_eq_true (show 0 ≤ q by omega), decide_eq_true (show q ≤ 1200 by omega), decide_eq_true (show 1 ≤ n by omega), decide_eq_true (show n ≤ 400 by omega), decide_eq_false (show ¬ (0 ≤ s) by omega), Bool.true_and, Bool.false_and] <;> rfl))⟩
     ·
      obtain ⟨bx5c0, bx5c1, -⟩ := bx5.two
      go_wp2_with fail
      refine Calls.mono (HS.out ▸ u_sign h0 (by omega)) ?_
      rintro e w8 ⟨hb2, uz8, rfl, hf⟩
      clear bx5c0 bx5c1
      obtain rfl := Fact.eq_of hf
      have HW := ext_of hb2
      replace h0 := h0.ext HW
      replace bx5 := bx5.below hb2 bx5.lt
      replace HB := hide (HB.out.trans (hb2.mono HB.out.size))
      clear HW hb2
      go_upto_region 3 with (fail)
      refine F2.regionS [.o, .o, .o, .o, .al 24 #[.bool false, .slice none 0 0], .st 4] [Fact.eq ?ci31_, Fact.z ?ki32_ ?zi32_, Fact.eq ?ci33_, Fact.z ?ki34_ ?zi34_, Fact.any, Fact.z ?kis11_ ?zis11_] [31, 32, 33, 34, 11] [31, 32, 33, 34, 11, 0] (by kernel_rfl) ?soi ?sopi (by kernel_rfl) ?sti ?fini
      case soi => exact fun x hx => by cases hx
      case sopi => exact List.Pairwise.nil
      case sti =>
       refine F2.Steps.consO rfl ?_ ?_
       ·
        intro vz wz hBz hDz hTz K hK
        have HW := hBz.ext
        replace hK := hK.out
        apply Kept.mk
        simp only [F2.Wp, F2.fc, actv, fill, Act.put, sZ, sS, fC, fN, tA, cS, cZ] at hK ⊢
        go_simp
        refine hK _ wz (Below.refl _ _) (Fact.eq_mk ?_)
        with_reducible rfl
       refine F2.Steps.consO rfl ?_ ?_
       ·
        intro vz wz hBz hDz hTz K hK
        have E31 : vz 31 = _ := hDz 0 (by kernel_rfl) rfl
        have HW := hBz.ext
        replace hK := hK.out
        apply Kept.mk
        simp only [F2.Wp, F2.fc, actv, fill, Act.put, sZ, sS, fC, fN, tA, cS, cZ] at hK ⊢
        simp only [E31] at hK ⊢
        go_simp
        refine Calls.mono (u_of  (by omega) (by omega)) ?_
        rintro e w2z ⟨hb2, uz, rfl, hf⟩
        go_wp2_with fail
        refine hK _ w2z hb2 (Fact.cast (hf) ?_)
        with_reducible rfl
       refine F2.Steps.consO rfl ?_ ?_
       ·
        intro vz wz hBz hDz hTz K hK
        have HW := hBz.ext
        replace hK := hK.out
        apply Kept.mk
        simp only [F2.Wp, F2.fc, actv, fill, Act.put, sZ, sS, fC, fN, tA, cS, cZ] at hK ⊢
        go_simp
        refine hK _ wz (Below.refl _ _) (Fact.eq_mk ?_)
        with_reducible rfl
       refine F2.Steps.consO rfl ?_ ?_
       ·
        intro vz wz hBz hDz hTz K hK
        obtain ⟨n32_, A32_, l32_, c32_, E32, q32⟩ : IntV 0 _ _ wz (vz 32) := hDz 1 (by kernel_rfl) rfl
        have E33 : vz 33 = _ := hDz 2 (by kernel_rfl) rfl
        have HW := hBz.ext
        replace hK := hK.out
        apply Kept.mk
        simp only [F2.Wp, F2.fc, actv, fill, Act.put, sZ, sS, fC, fN, tA, cS, cZ] at hK ⊢
        simp only [E32, E33] at hK ⊢
        go_simp
        refine Calls.mono (u_shl q32.q (by omega) (by omega) (by omega)) ?_
        rintro e w2z ⟨hb2, uz, rfl, hf⟩
        go_wp2_with fail
        refine hK _ w2z hb2 (Fact.cast (hf) ?_)
        with_reducible rfl
       refine F2.Steps.consA rfl ⟨NoU.two nB nS, ?_⟩ ?_
       ·
        intro vz wz hBz K hK
        replace hK := hK.out
        apply Kept.mk
        simp only [F2.Wp, F2.fc, actv, fill, Act.put, sZ, sS, fC, fN, tA, cS, cZ] at hK ⊢
        go_simp
        exact hK
       refine F2.Steps.consS rfl rfl ?_ ?_
       ·
        intro vz wz gz hBz hDz E11' hgz hbz K hK
        obtain ⟨zc0, zc1, zc2, zc3⟩ := hbz.two
        obtain ⟨n34_, A34_, l34_, c34_, E34, q34⟩ : IntV 0 _ _ wz (vz 34) := hDz 3 (by kernel_rfl) rfl
        have E11 : vz 11 = .pointer (some ⟨gz, 0, none⟩) := E11'
        have HW := hBz.ext
        replace hK := hK.out
        apply Kept.mk
        simp only [F2.Wp, F2.fc, actv, fill, Act.put, sZ, sS, fC, fN, tA, cS, cZ] at hK ⊢
        simp only [E11, E34] at hK ⊢
        go_simp
        refine hK _ ((Far.set _ gz 0 _).trans (Far.set _ gz 1 _)) ⟨_, blk_two hbz, NoU.two nB nS, Fact.cast (Fact.z_mk q34) ?_⟩
        with_reducible rfl
       exact F2.Steps.nil
      intro vi w9 hBz ⟨hOz, hAz, hNz, hSz⟩
      have E31 : vi 31 = _ := hOz 0 (by decide) rfl
      obtain ⟨n32_, A32_, l32_, c32_, E32, q32⟩ : IntV 0 _ _ w9 (vi 32) := hOz 1 (by decide) rfl
      have E33 : vi 33 = _ := hOz 2 (by decide) rfl
      obtain ⟨n34_, A34_, l34_, c34_, E34, q34⟩ : IntV 0 _ _ w9 (vi 34) := hOz 3 (by decide) rfl
      obtain ⟨g11, cs11, E11, hg11, bx11, hs11, hz11⟩ := hAz 4 _ _ (by decide) rfl
      obtain ⟨n11si_, A11si_, l11si_, c11si_, E11si, q11si⟩ : IntV 0 _ _ w9 (.agg cs11) := hs11 5 (by decide) rfl
      injection E11si with E11si
      subst E11si
      simp only [Act.put, actv, fill, fC, fN, tA, cS, cZ]
      simp only [E31, E32, E33, E34, (show vi 11 = _ from E11)]
      clear E31 E32 E33 E34 E11
      have hge11 : w.heap.size ≤ g11 := Nat.le_trans HB.out.size hg11
      have hne11_5 := hide (Nat.ne_of_gt (Nat.lt_of_lt_of_le bx5.lt (show w8.heap.size ≤ g11 from hg11)))
      replace h0 := h0.ext hBz.ext
      replace bx5 := hBz.blk bx5 zN
      replace HB := hide (HB.out.trans (hBz.below (B := w.heap.size) HB.out.size zE))
      clear hOz hAz hNz hSz hs11 hz11 hBz
      go_upto_region 4 with (fail)
      refine F2.region [.o, .o, .o, .o, .o, .o, .o] [Fact.eq ?cj35_, Fact.eq ?cj36_, Fact.z ?kj37_ ?zj37_, Fact.eq ?cj38_, Fact.eq ?cj39_, Fact.eq ?cj40_, Fact.eq ?cj10_] [35, 36, 37, 38, 39, 40, 10] [35, 36, 37, 38, 39, 40, 10] (by kernel_rfl) ?soj ?sopj (by kernel_rfl) ?stj ?finj
      case soj => exact fun x hx => by cases hx
      case sopj => exact List.Pairwise.nil
      case stj =>
       refine F2.Steps.consO rfl ?_ ?_
       ·
        intro vz wz hBz hDz hTz K hK
        have HW := ext_drew hBz.ext
        have bx5z := hBz.blk bx5.drew zN
        obtain ⟨zl0, zl1, -⟩ := bx5z.two
        replace hK := hK.out
        apply Kept.mk
        simp only [F2.Wp, F2.fc, actv, fill, Act.put, sZ, sS, fC, fN, tA, cS, cZ] at hK ⊢
        go_simp
        refine hK _ wz (Below.refl _ _) (Fact.eq_mk ?_)
        with_reducible rfl
       refine F2.Steps.consO rfl ?_ ?_
       ·
        intro vz wz hBz hDz hTz K hK
        have HW := ext_drew hBz.ext
        replace hK := hK.out
        apply Kept.mk
        simp only [F2.Wp, F2.fc, actv, fill, Act.put, sZ, sS, fC, fN, tA, cS, cZ] at hK ⊢
        go_simp
        refine hK _ wz (Below.refl _ _) (Fact.eq_mk ?_)
        with_reducible rfl
       refine F2.Steps.consO rfl ?_ ?_
       ·
        intro vz wz hBz hDz hTz K hK
        have E35 : vz 35 = _ := hDz 0 (by kernel_rfl) rfl
        have E36 : vz 36 = _ := hDz 1 (by kernel_rfl) rfl
        have HW := ext_drew hBz.ext
        replace hK := hK.out
        apply Kept.mk
        simp only [F2.Wp, F2.fc, actv, fill, Act.put, sZ, sS, fC, fN, tA, cS, cZ] at hK ⊢
        simp only [E35, E36] at hK ⊢
        go_simp
        refine Calls.mono (u_shl (h0.ext HW) (by omega) (by omega) (by omega)) ?_
        rintro e w2z ⟨hb2, uz, rfl, hf⟩
        go_wp2_with fail
        refine hK _ w2z hb2 (Fact.cast (hf) ?_)
        with_reducible rfl
       refine F2.Steps.consO rfl ?_ ?_
       ·
        intro vz wz hBz hDz hTz K hK
        have HW := ext_drew hBz.ext
        have bx11z := hBz.blk bx11.drew zN
        obtain ⟨zl0, zl1, -⟩ := bx11z.two
        replace hK := hK.out
        apply Kept.mk
        simp only [F2.Wp, F2.fc, actv, fill, Act.put, sZ, sS, fC, fN, tA, cS, cZ] at hK ⊢
        go_simp
        refine hK _ wz (Below.refl _ _) (Fact.eq_mk ?_)
        with_reducible rfl
       refine F2.Steps.consO rfl ?_ ?_
       ·
        intro vz wz hBz hDz hTz K hK
        obtain ⟨n37_, A37_, l37_, c37_, E37, q37⟩ : IntV 0 _ _ wz (vz 37) := hDz 2 (by kernel_rfl) rfl
        have E38 : vz 38 = _ := hDz 3 (by kernel_rfl) rfl
        have HW := ext_drew hBz.ext
        replace hK := hK.out
        apply Kept.mk
        simp only [F2.Wp, F2.fc, actv, fill, Act.put, sZ, sS, fC, fN, tA, cS, cZ] at hK ⊢
        simp only [E37, E38] at hK ⊢
        go_simp
        refine Calls.mono (HC.out ▸ u_cmp q37.q (q11si.ext HW).q (by omega) (by omega)) ?_
        rintro e w2z ⟨hb2, uz, rfl, hf⟩
        go_wp2_with fail
        refine hK _ w2z hb2 (Fact.cast (hf) ?_)
        with_reducible rfl
       refine F2.Steps.consO rfl ?_ ?_
       ·
        intro vz wz hBz hDz hTz K hK
        have E39 : vz 39 = _ := hDz 4 (by kernel_rfl) rfl
        have HW := ext_drew hBz.ext
        replace hK := hK.out
        apply Kept.mk
        simp only [F2.Wp, F2.fc, actv, fill, Act.put, sZ, sS, fC, fN, tA, cS, cZ] at hK ⊢
        simp only [E39] at hK ⊢
        go_simp
        refine hK _ wz (Below.refl _ _) (Fact.eq_mk ?_)
        with_reducible rfl
       refine F2.Steps.consO rfl ?_ ?_
       ·
        intro vz wz hBz hDz hTz K hK
        have E40 : vz 40 = _ := hDz 5 (by kernel_rfl) rfl
        have HW := ext_drew hBz.ext
        replace hK := hK.out
        apply Kept.mk
        simp only [F2.Wp, F2.fc, actv, fill, Act.put, sZ, sS, fC, fN, tA, cS, cZ] at hK ⊢
        simp only [E40] at hK ⊢
        go_simp
        refine hK _ wz (Below.refl _ _) (Fact.eq_mk ?_)
        with_reducible rfl
       exact F2.Steps.nil
      intro vj w10 hBz ⟨hOz, hAz, hNz, hSz⟩
      have E35 : vj 35 = _ := hOz 0 (by decide) rfl
      have E36 : vj 36 = _ := hOz 1 (by decide) rfl
      obtain ⟨n37_, A37_, l37_, c37_, E37, q37⟩ : IntV 0 _ _ w10 (vj 37) := hOz 2 (by decide) rfl
      have E38 : vj 38 = _ := hOz 3 (by decide) rfl
      have E39 : vj 39 = _ := hOz 4 (by decide) rfl
      have E40 : vj 40 = _ := hOz 5 (by decide) rfl
      have E10 : vj 10 = _ := hOz 6 (by decide) rfl
      simp only [Act.put, actv, fill, fC, fN, tA, cS, cZ]
      simp only [E35, E36, E37, E38, E39, E40, E10]
      clear E35 E36 E37 E38 E39 E40 E10
      replace h0 := h0.ext hBz.ext
      replace q11si := q11si.ext hBz.ext
      replace bx5 := hBz.blk bx5 zN
      replace bx11 := hBz.blk bx11 zN
      replace HB := hide (HB.out.trans (hBz.below (B := w.heap.size) HB.out.size zE))
      clear hOz hAz hNz hSz hBz
      go_wp2_with fail
      go_ret
      exact ⟨HB.out, VF.mk (Fact.cast (Fact.eq_self _ _) (by rw [HM.out]; simp only [decide_eq_true (show 0 ≤ q by omega), decide_eq_true (show q ≤ 1200 by omega), decide_eq_true (show 1 ≤ n by omega), decide_eq_true (show n ≤ 400 by omega), decide_eq_true (show 0 ≤ s by omega), Bool.true_and, Bool.false_and] <;> rfl))⟩
set_option maxHeartbeats 4000000 in
set_option maxRecDepth 100000 in
theorem ddown_calls {w : World}  {k0 k1 : Nat} {n0 n1 : Bool} {A0 A1 : Option Addr} {l0 l1 c0 c1 : Nat} {x0 x1 : Int} {y q : Int} (h0 : Q w k0 n0 A0 l0 c0 x0) (h1 : Q w k1 n1 A1 l1 c1 x1) (hk0 : k0 ≤ 4000) (hk1 : k1 ≤ 4000) (hy0 : 1 ≤ y) (hy1 : y ≤ 1000000000) (hq0 : 0 ≤ q) (hq1 : q ≤ 8000) :
    Calls Try.prog 36 #[.agg #[.bool n0, .slice A0 l0 c0], .agg #[.bool n1, .slice A1 l1 c1], .int .i64 y, .int .i64 q] w fun e w' => Below w.heap.size w w' ∧ VF (Fact.z (k0 + k1) (x0 * x1 / (y * 2 ^ q.toNat))) e w' := by
 have hy : y ≠ 0 := by omega
 go_enter Try.func36, Try.ntmps36
 have HB : Hid (Below w.heap.size w w) := hide (Below.refl _ _)
 go_upto_region 0 with (fail)
 refine F2.regionS [.al 24 #[.bool n0, .slice A0 l0 c0], .al 24 #[.bool n1, .slice A1 l1 c1], .al 24 #[.bool false, .slice none 0 0]] [Fact.any, Fact.any, Fact.any] [4, 5, 8] [4, 5, 8] (by kernel_rfl) ?soa ?sopa (by kernel_rfl) ?sta ?fina
 case soa => exact fun x hx => by cases hx
 case sopa => exact List.Pairwise.nil
 case sta =>
  refine F2.Steps.consA rfl ⟨NoU.two nB nS, ?_⟩ ?_
  ·
   intro vz wz hBz K hK
   replace hK := hK.out
   apply Kept.mk
   simp only [F2.Wp, F2.fc, actv, fill, Act.put, sZ, sS, fC, fN, tA, cS, cZ] at hK ⊢
   go_simp
   exact hK
  refine F2.Steps.consA rfl ⟨NoU.two nB nS, ?_⟩ ?_
  ·
   intro vz wz hBz K hK
   replace hK := hK.out
   apply Kept.mk
   simp only [F2.Wp, F2.fc, actv, fill, Act.put, sZ, sS, fC, fN, tA, cS, cZ] at hK ⊢
   go_simp
   exact hK
  refine F2.Steps.consA rfl ⟨NoU.two nB nS, ?_⟩ ?_
  ·
   intro vz wz hBz K hK
   replace hK := hK.out
   apply Kept.mk
   simp only [F2.Wp, F2.fc, actv, fill, Act.put, sZ, sS, fC, fN, tA, cS, cZ] at hK ⊢
   go_simp
   exact hK
  exact F2.Steps.nil
 intro va w1 hBz ⟨hOz, hAz, hNz, hSz⟩
 obtain ⟨g4, cs4, E4, hg4, bx4, hs4, hz4⟩ := hAz 0 _ _ (by decide) rfl
 have hzz := hz4 (F2.nost (by kernel_rfl))
 subst hzz
 obtain ⟨g5, cs5, E5, hg5, bx5, hs5, hz5⟩ := hAz 1 _ _ (by decide) rfl
 have hzz := hz5 (F2.nost (by kernel_rfl))
 subst hzz
 obtain ⟨g8, cs8, E8, hg8, bx8, hs8, hz8⟩ := hAz 2 _ _ (by decide) rfl
 have hzz := hz8 (F2.nost (by kernel_rfl))
 subst hzz
 have hne4_5 : Hid (¬ g4 = g5) := hide (fun h => hNz 0 1 _ _ _ _ (by decide) (by decide) (by decide) rfl rfl (by rw [E4, E5, h]))
 have hne4_8 : Hid (¬ g4 = g8) := hide (fun h => hNz 0 2 _ _ _ _ (by decide) (by decide) (by decide) rfl rfl (by rw [E4, E8, h]))
 have hne5_8 : Hid (¬ g5 = g8) := hide (fun h => hNz 1 2 _ _ _ _ (by decide) (by decide) (by decide) rfl rfl (by rw [E5, E8, h]))
 simp only [Act.put, actv, fill, fC, fN, tA, cS, cZ]
 simp only [(show va 4 = _ from E4), (show va 5 = _ from E5), (show va 8 = _ from E8)]
 clear E4 E5 E8
 have hge4 : w.heap.size ≤ g4 := Nat.le_trans HB.out.size hg4
 have hge5 : w.heap.size ≤ g5 := Nat.le_trans HB.out.size hg5
 have hge8 : w.heap.size ≤ g8 := Nat.le_trans HB.out.size hg8
 replace h0 := h0.ext hBz.ext
 replace h1 := h1.ext hBz.ext
 replace HB := hide (HB.out.trans (hBz.below (B := w.heap.size) HB.out.size zE))
 clear hOz hAz hNz hSz hs4 hz4 hs5 hz5 hs8 hz8 hBz
 go_upto_region 1 with (fail)
 refine F2.regionS [.o, .o, .o, .o, .o, .al 24 #[.bool false, .slice none 0 0], .st 5] [Fact.eq ?cb10_, Fact.eq ?cb11_, Fact.z ?kb12_ ?zb12_, Fact.eq ?cb13_, Fact.z ?kb14_ ?zb14_, Fact.any, Fact.z ?kbs9_ ?zbs9_] [10, 11, 12, 13, 14, 9] [10, 11, 12, 13, 14, 9, 0] (by kernel_rfl) ?sob ?sopb (by kernel_rfl) ?stb ?finb
 case sob => exact fun x hx => by cases hx
 case sopb => exact List.Pairwise.nil
 case stb =>
  refine F2.Steps.consO rfl ?_ ?_
  ·
   intro vz wz hBz hDz hTz K hK
   have HW := hBz.ext
   have bx4z := hBz.blk bx4 zN
   obtain ⟨zl0, zl1, -⟩ := bx4z.two
   replace hK := hK.out
   apply Kept.mk
   simp only [F2.Wp, F2.fc, actv, fill, Act.put, sZ, sS, fC, fN, tA, cS, cZ] at hK ⊢
   go_simp
   refine hK _ wz (Below.refl _ _) (Fact.eq_mk ?_)
   with_reducible rfl
  refine F2.Steps.consO rfl ?_ ?_
  ·
   intro vz wz hBz hDz hTz K hK
   have HW := hBz.ext
   have bx5z := hBz.blk bx5 zN
   obtain ⟨zl0, zl1, -⟩ := bx5z.two
   replace hK := hK.out
   apply Kept.mk
   simp only [F2.Wp, F2.fc, actv, fill, Act.put, sZ, sS, fC, fN, tA, cS, cZ] at hK ⊢
   go_simp
   refine hK _ wz (Below.refl _ _) (Fact.eq_mk ?_)
   with_reducible rfl
  refine F2.Steps.consO rfl ?_ ?_
  ·
   intro vz wz hBz hDz hTz K hK
   have E10 : vz 10 = _ := hDz 0 (by kernel_rfl) rfl
   have E11 : vz 11 = _ := hDz 1 (by kernel_rfl) rfl
   have HW := hBz.ext
   replace hK := hK.out
   apply Kept.mk
   simp only [F2.Wp, F2.fc, actv, fill, Act.put, sZ, sS, fC, fN, tA, cS, cZ] at hK ⊢
   simp only [E10, E11] at hK ⊢
   go_simp
   refine Calls.mono (u_mul (h0.ext HW) (h1.ext HW) (by omega) (by omega)) ?_
   rintro e w2z ⟨hb2, uz, rfl, hf⟩
   go_wp2_with fail
   refine hK _ w2z hb2 (Fact.cast (hf) ?_)
   with_reducible rfl
  refine F2.Steps.consO rfl ?_ ?_
  ·
   intro vz wz hBz hDz hTz K hK
   have HW := hBz.ext
   replace hK := hK.out
   apply Kept.mk
   simp only [F2.Wp, F2.fc, actv, fill, Act.put, sZ, sS, fC, fN, tA, cS, cZ] at hK ⊢
   go_simp
   refine hK _ wz (Below.refl _ _) (Fact.eq_mk ?_)
   with_reducible rfl
  refine F2.Steps.consO rfl ?_ ?_
  ·
   intro vz wz hBz hDz hTz K hK
   obtain ⟨n12_, A12_, l12_, c12_, E12, q12⟩ : IntV 0 _ _ wz (vz 12) := hDz 2 (by kernel_rfl) rfl
   have E13 : vz 13 = _ := hDz 3 (by kernel_rfl) rfl
   have HW := hBz.ext
   replace hK := hK.out
   apply Kept.mk
   simp only [F2.Wp, F2.fc, actv, fill, Act.put, sZ, sS, fC, fN, tA, cS, cZ] at hK ⊢
   simp only [E12, E13] at hK ⊢
   go_simp
   refine Calls.mono (u_shr q12.q (by omega) (by omega) (by omega)) ?_
   rintro e w2z ⟨hb2, uz, rfl, hf⟩
   go_wp2_with fail
   refine hK _ w2z hb2 (Fact.cast (hf) ?_)
   with_reducible rfl
  refine F2.Steps.consA rfl ⟨NoU.two nB nS, ?_⟩ ?_
  ·
   intro vz wz hBz K hK
   replace hK := hK.out
   apply Kept.mk
   simp only [F2.Wp, F2.fc, actv, fill, Act.put, sZ, sS, fC, fN, tA, cS, cZ] at hK ⊢
   go_simp
   exact hK
  refine F2.Steps.consS rfl rfl ?_ ?_
  ·
   intro vz wz gz hBz hDz E9' hgz hbz K hK
   obtain ⟨zc0, zc1, zc2, zc3⟩ := hbz.two
   obtain ⟨n14_, A14_, l14_, c14_, E14, q14⟩ : IntV 0 _ _ wz (vz 14) := hDz 4 (by kernel_rfl) rfl
   have E9 : vz 9 = .pointer (some ⟨gz, 0, none⟩) := E9'
   have HW := hBz.ext
   replace hK := hK.out
   apply Kept.mk
   simp only [F2.Wp, F2.fc, actv, fill, Act.put, sZ, sS, fC, fN, tA, cS, cZ] at hK ⊢
   simp only [E9, E14] at hK ⊢
   go_simp
   refine hK _ ((Far.set _ gz 0 _).trans (Far.set _ gz 1 _)) ⟨_, blk_two hbz, NoU.two nB nS, Fact.cast (Fact.z_mk q14) ?_⟩
   with_reducible rfl
  exact F2.Steps.nil
 intro vb w2 hBz ⟨hOz, hAz, hNz, hSz⟩
 have E10 : vb 10 = _ := hOz 0 (by decide) rfl
 have E11 : vb 11 = _ := hOz 1 (by decide) rfl
 obtain ⟨n12_, A12_, l12_, c12_, E12, q12⟩ : IntV 0 _ _ w2 (vb 12) := hOz 2 (by decide) rfl
 have E13 : vb 13 = _ := hOz 3 (by decide) rfl
 obtain ⟨n14_, A14_, l14_, c14_, E14, q14⟩ : IntV 0 _ _ w2 (vb 14) := hOz 4 (by decide) rfl
 obtain ⟨g9, cs9, E9, hg9, bx9, hs9, hz9⟩ := hAz 5 _ _ (by decide) rfl
 obtain ⟨n9sb_, A9sb_, l9sb_, c9sb_, E9sb, q9sb⟩ : IntV 0 _ _ w2 (.agg cs9) := hs9 6 (by decide) rfl
 injection E9sb with E9sb
 subst E9sb
 simp only [Act.put, actv, fill, fC, fN, tA, cS, cZ]
 simp only [E10, E11, E12, E13, E14, (show vb 9 = _ from E9)]
 clear E10 E11 E12 E13 E14 E9
 have hge9 : w.heap.size ≤ g9 := Nat.le_trans HB.out.size hg9
 have hne9_4 := hide (Nat.ne_of_gt (Nat.lt_of_lt_of_le bx4.lt (show w1.heap.size ≤ g9 from hg9)))
 have hne9_5 := hide (Nat.ne_of_gt (Nat.lt_of_lt_of_le bx5.lt (show w1.heap.size ≤ g9 from hg9)))
 have hne9_8 := hide (Nat.ne_of_gt (Nat.lt_of_lt_of_le bx8.lt (show w1.heap.size ≤ g9 from hg9)))
 replace h0 := h0.ext hBz.ext
 replace h1 := h1.ext hBz.ext
 replace bx4 := hBz.blk bx4 zN
 replace bx5 := hBz.blk bx5 zN
 replace bx8 := hBz.blk bx8 zN
 replace HB := hide (HB.out.trans (hBz.below (B := w.heap.size) HB.out.size zE))
 clear hOz hAz hNz hSz hs9 hz9 hBz
 by_cases hb : y = 1
 ·
  subst hb
  go_upto_region 2 with (fail)
  refine F2.regionS [.o, .o] [Fact.eq ?cc15_, Fact.eq ?cc16_] [15, 16] [15, 16] (by kernel_rfl) ?soc ?sopc (by kernel_rfl) ?stc ?finc
  case soc => exact fun x hx => by cases hx
  case sopc => exact List.Pairwise.nil
  case stc =>
   refine F2.Steps.consO rfl ?_ ?_
   ·
    intro vz wz hBz hDz hTz K hK
    have HW := hBz.ext
    replace hK := hK.out
    apply Kept.mk
    simp only [F2.Wp, F2.fc, actv, fill, Act.put, sZ, sS, fC, fN, tA, cS, cZ] at hK ⊢
    go_simp
    refine hK _ wz (Below.refl _ _) (Fact.eq_mk ?_)
    with_reducible rfl
   refine F2.Steps.consO rfl ?_ ?_
   ·
    intro vz wz hBz hDz hTz K hK
    have E15 : vz 15 = _ := hDz 0 (by kernel_rfl) rfl
    have HW := hBz.ext
    replace hK := hK.out
    apply Kept.mk
    simp only [F2.Wp, F2.fc, actv, fill, Act.put, sZ, sS, fC, fN, tA, cS, cZ] at hK ⊢
    simp only [E15] at hK ⊢
    go_simp
    refine hK _ wz (Below.refl _ _) (Fact.eq_mk ?_)
    with_reducible rfl
   exact F2.Steps.nil
  intro vc w3 hBz ⟨hOz, hAz, hNz, hSz⟩
  have E15 : vc 15 = _ := hOz 0 (by decide) rfl
  have E16 : vc 16 = _ := hOz 1 (by decide) rfl
  simp only [Act.put, actv, fill, fC, fN, tA, cS, cZ]
  simp only [E15, E16]
  clear E15 E16
  replace h0 := h0.ext hBz.ext
  replace h1 := h1.ext hBz.ext
  replace q9sb := q9sb.ext hBz.ext
  replace bx4 := hBz.blk bx4 zN
  replace bx5 := hBz.blk bx5 zN
  replace bx8 := hBz.blk bx8 zN
  replace bx9 := hBz.blk bx9 zN
  replace HB := hide (HB.out.trans (hBz.below (B := w.heap.size) HB.out.size zE))
  clear hOz hAz hNz hSz hBz
  go_upto_region 3 with (fail)
  refine F2.regionS [.o, .so (g8) 24 #[.bool false, .slice none 0 0]] [Fact.eq ?cd17_, Fact.z ?kds8_ ?zds8_] [17] [17, 0] (by kernel_rfl) ?sod ?sopd (by kernel_rfl) ?std ?find
  case sod => exact List.forall_mem_cons.2 ⟨⟨bx8, NoU.two nB nS⟩, fun x hx => by cases hx⟩
  case sopd => exact List.Pairwise.cons (fun y hy => by cases hy) (List.Pairwise.nil)
  case std =>
   refine F2.Steps.consO rfl ?_ ?_
   ·
    intro vz wz hBz hDz hTz K hK
    have HW := hBz.ext
    have bx9z := hBz.blk bx9 (zM hne9_8.out zN)
    obtain ⟨zl0, zl1, -⟩ := bx9z.two
    replace hK := hK.out
    apply Kept.mk
    simp only [F2.Wp, F2.fc, actv, fill, Act.put, sZ, sS, fC, fN, tA, cS, cZ] at hK ⊢
    go_simp
    refine hK _ wz (Below.refl _ _) (Fact.eq_mk ?_)
    with_reducible rfl
   refine F2.Steps.consT rfl ?_ ?_
   ·
    intro vz wz hBz hDz hbz K hK
    obtain ⟨zc0, zc1, zc2, zc3⟩ := hbz.two
    have E17 : vz 17 = _ := hDz 0 (by kernel_rfl) rfl
    have HW := hBz.ext
    replace hK := hK.out
    apply Kept.mk
    simp only [F2.Wp, F2.fc, actv, fill, Act.put, sZ, sS, fC, fN, tA, cS, cZ] at hK ⊢
    simp only [E17] at hK ⊢
    go_simp
    refine hK _ ((Far.set _ _ 0 _).trans (Far.set _ _ 1 _)) ⟨_, blk_two hbz, NoU.two nB nS, Fact.cast (Fact.z_mk (q9sb.ext HW)) ?_⟩
    with_reducible rfl
   exact F2.Steps.nil
  intro vd w4 hBz ⟨hOz, hAz, hNz, hSz⟩
  have E17 : vd 17 = _ := hOz 0 (by decide) rfl
  obtain ⟨cs8, bx8n, hs8⟩ := hSz 1 _ _ _ (by decide) rfl
  obtain ⟨n8sd_, A8sd_, l8sd_, c8sd_, E8sd, q8sd⟩ : IntV 0 _ _ w4 (.agg cs8) := hs8
  injection E8sd with E8sd
  subst E8sd
  simp only [Act.put, actv, fill, fC, fN, tA, cS, cZ]
  simp only [E17]
  clear E17
  replace h0 := h0.ext hBz.ext
  replace h1 := h1.ext hBz.ext
  replace q9sb := q9sb.ext hBz.ext
  replace bx4 := hBz.blk bx4 (zM hne4_8.out zN)
  replace bx5 := hBz.blk bx5 (zM hne5_8.out zN)
  replace bx9 := hBz.blk bx9 (zM hne9_8.out zN)
  replace HB := hide (HB.out.trans (hBz.below (B := w.heap.size) HB.out.size (zA hge8 zE)))
  clear bx8
  have bx8 := bx8n
  clear bx8n
  clear hOz hAz hNz hSz hBz
  go_wp2_with fail
  refine bodyPost_ret (results_int rfl _ _ _ _ _ _ rfl bx8) rfl ⟨HB.out, ?_⟩
  refine VF.mk (Fact.cast (Fact.z_mk q8sd) ?_)
  rw [← down_one, Int.ediv_one]
 ·
  have hbb : (y == 1) = false := by simp [hb]
  go_upto_region 2 with (fail)
  refine F2.regionS [.o, .o] [Fact.eq ?ce15_, Fact.eq ?ce16_] [15, 16] [15, 16] (by kernel_rfl) ?soe ?sope (by kernel_rfl) ?ste ?fine
  case soe => exact fun x hx => by cases hx
  case sope => exact List.Pairwise.nil
  case ste =>
   refine F2.Steps.consO rfl ?_ ?_
   ·
    intro vz wz hBz hDz hTz K hK
    have HW := hBz.ext
    replace hK := hK.out
    apply Kept.mk
    simp only [F2.Wp, F2.fc, actv, fill, Act.put, sZ, sS, fC, fN, tA, cS, cZ] at hK ⊢
    go_simp
    refine hK _ wz (Below.refl _ _) (Fact.eq_mk ?_)
    with_reducible rfl
   refine F2.Steps.consO rfl ?_ ?_
   ·
    intro vz wz hBz hDz hTz K hK
    have E15 : vz 15 = _ := hDz 0 (by kernel_rfl) rfl
    have HW := hBz.ext
    replace hK := hK.out
    apply Kept.mk
    simp only [F2.Wp, F2.fc, actv, fill, Act.put, sZ, sS, fC, fN, tA, cS, cZ] at hK ⊢
    simp only [E15] at hK ⊢
    go_simp
    refine hK _ wz (Below.refl _ _) (Fact.eq_mk ?_)
    with_reducible rfl
   exact F2.Steps.nil
  intro ve w5 hBz ⟨hOz, hAz, hNz, hSz⟩
  have E15 : ve 15 = _ := hOz 0 (by decide) rfl
  have E16 : ve 16 = _ := hOz 1 (by decide) rfl
  simp only [Act.put, actv, fill, fC, fN, tA, cS, cZ]
  simp only [E15, E16]
  clear E15 E16
  replace h0 := h0.ext hBz.ext
  replace h1 := h1.ext hBz.ext
  replace q9sb := q9sb.ext hBz.ext
  replace bx4 := hBz.blk bx4 zN
  replace bx5 := hBz.blk bx5 zN
  replace bx8 := hBz.blk bx8 zN
  replace bx9 := hBz.blk bx9 zN
  replace HB := hide (HB.out.trans (hBz.below (B := w.heap.size) HB.out.size zE))
  clear hOz hAz hNz hSz hBz
  go_upto_region 4 with (fail)
  refine F2.region [.o, .o, .o, .o, .o, .o, .o, .o, .so (g9) 24 #[.bool n9sb_, .slice A9sb_ l9sb_ c9sb_]] [Fact.eq ?cf19_, Fact.eq ?cf20_, Fact.z ?kf21_ ?zf21_, Fact.t3 (Fact.z ?kf22_p ?zf22_p) (Fact.z ?kf22_q ?zf22_q) (Fact.eq ?cf22_r), Fact.t3 (Fact.z ?kf18_p ?zf18_p) (Fact.z ?kf18_q ?zf18_q) (Fact.eq ?cf18_r), Fact.z ?kf23_ ?zf23_, Fact.z ?kf24_ ?zf24_, Fact.eq ?cf25_, Fact.z ?kfs9_ ?zfs9_] [19, 20, 21, 22, 18, 23, 24, 25] [19, 20, 21, 22, 18, 23, 24, 25, 0] (by kernel_rfl) ?sof ?sopf (by kernel_rfl) ?stf ?finf
  case sof => exact List.forall_mem_cons.2 ⟨⟨bx9, NoU.two nB nS⟩, fun x hx => by cases hx⟩
  case sopf => exact List.Pairwise.cons (fun y hy => by cases hy) (List.Pairwise.nil)
  case stf =>
   refine F2.Steps.consO rfl ?_ ?_
   ·
    intro vz wz hBz hDz hTz K hK
    have HW := ext_drew hBz.ext
    have bx9z := hTz 8 _ _ _ _ rfl rfl (by kernel_rfl)
    obtain ⟨zl0, zl1, -⟩ := bx9z.two
    replace hK := hK.out
    apply Kept.mk
    simp only [F2.Wp, F2.fc, actv, fill, Act.put, sZ, sS, fC, fN, tA, cS, cZ] at hK ⊢
    go_simp
    refine hK _ wz (Below.refl _ _) (Fact.eq_mk ?_)
    with_reducible rfl
   refine F2.Steps.consO rfl ?_ ?_
   ·
    intro vz wz hBz hDz hTz K hK
    have HW := ext_drew hBz.ext
    replace hK := hK.out
    apply Kept.mk
    simp only [F2.Wp, F2.fc, actv, fill, Act.put, sZ, sS, fC, fN, tA, cS, cZ] at hK ⊢
    go_simp
    refine hK _ wz (Below.refl _ _) (Fact.eq_mk ?_)
    with_reducible rfl
   refine F2.Steps.consO rfl ?_ ?_
   ·
    intro vz wz hBz hDz hTz K hK
    have E20 : vz 20 = _ := hDz 1 (by kernel_rfl) rfl
    have HW := ext_drew hBz.ext
    replace hK := hK.out
    apply Kept.mk
    simp only [F2.Wp, F2.fc, actv, fill, Act.put, sZ, sS, fC, fN, tA, cS, cZ] at hK ⊢
    simp only [E20] at hK ⊢
    go_simp
    refine Calls.mono (u_of  (by omega) (by omega)) ?_
    rintro e w2z ⟨hb2, uz, rfl, hf⟩
    go_wp2_with fail
    refine hK _ w2z hb2 (Fact.cast (hf) ?_)
    with_reducible rfl
   refine F2.Steps.consO rfl ?_ ?_
   ·
    intro vz wz hBz hDz hTz K hK
    have E19 : vz 19 = _ := hDz 0 (by kernel_rfl) rfl
    obtain ⟨n21_, A21_, l21_, c21_, E21, q21⟩ : IntV 0 _ _ wz (vz 21) := hDz 2 (by kernel_rfl) rfl
    have HW := ext_drew hBz.ext
    replace hK := hK.out
    apply Kept.mk
    simp only [F2.Wp, F2.fc, actv, fill, Act.put, sZ, sS, fC, fN, tA, cS, cZ] at hK ⊢
    simp only [E19, E21] at hK ⊢
    go_simp
    refine Calls.mono (u_divmod (q9sb.ext HW).q q21.q (by omega) (by omega) hy) ?_
    rintro e w2z ⟨hb2, uz, rfl, hf⟩
    go_wp2_with fail
    refine hK _ w2z hb2 (Fact.cast (hf) ?_)
    with_reducible rfl
   refine F2.Steps.consO rfl ?_ ?_
   ·
    intro vz wz hBz hDz hTz K hK
    obtain ⟨x22p_, x22q_, x22r_, E22, h22p, h22q, h22r⟩ : TV3 _ _ _ wz (vz 22) := hDz 3 (by kernel_rfl) rfl
    obtain rfl := Fact.eq_of h22r
    have HW := ext_drew hBz.ext
    replace hK := hK.out
    apply Kept.mk
    simp only [F2.Wp, F2.fc, actv, fill, Act.put, sZ, sS, fC, fN, tA, cS, cZ] at hK ⊢
    simp only [E22] at hK ⊢
    go_simp
    refine hK _ wz (Below.refl _ _) (Fact.cast (Fact.t3_mk h22p h22q (Fact.eq_self _ _)) ?_)
    with_reducible rfl
   refine F2.Steps.consO rfl ?_ ?_
   ·
    intro vz wz hBz hDz hTz K hK
    obtain ⟨x18p_, x18q_, x18r_, E18, h18p, h18q, h18r⟩ : TV3 _ _ _ wz (vz 18) := hDz 4 (by kernel_rfl) rfl
    obtain rfl := Fact.eq_of h18r
    have HW := ext_drew hBz.ext
    replace hK := hK.out
    apply Kept.mk
    simp only [F2.Wp, F2.fc, actv, fill, Act.put, sZ, sS, fC, fN, tA, cS, cZ] at hK ⊢
    simp only [E18] at hK ⊢
    go_simp
    refine hK _ wz (Below.refl _ _) (Fact.cast (h18p) ?_)
    with_reducible rfl
   refine F2.Steps.consO rfl ?_ ?_
   ·
    intro vz wz hBz hDz hTz K hK
    obtain ⟨x18p_, x18q_, x18r_, E18, h18p, h18q, h18r⟩ : TV3 _ _ _ wz (vz 18) := hDz 4 (by kernel_rfl) rfl
    obtain rfl := Fact.eq_of h18r
    have HW := ext_drew hBz.ext
    replace hK := hK.out
    apply Kept.mk
    simp only [F2.Wp, F2.fc, actv, fill, Act.put, sZ, sS, fC, fN, tA, cS, cZ] at hK ⊢
    simp only [E18] at hK ⊢
    go_simp
    refine hK _ wz (Below.refl _ _) (Fact.cast (h18q) ?_)
    with_reducible rfl
   refine F2.Steps.consO rfl ?_ ?_
   ·
    intro vz wz hBz hDz hTz K hK
    obtain ⟨x18p_, x18q_, x18r_, E18, h18p, h18q, h18r⟩ : TV3 _ _ _ wz (vz 18) := hDz 4 (by kernel_rfl) rfl
    obtain rfl := Fact.eq_of h18r
    have HW := ext_drew hBz.ext
    replace hK := hK.out
    apply Kept.mk
    simp only [F2.Wp, F2.fc, actv, fill, Act.put, sZ, sS, fC, fN, tA, cS, cZ] at hK ⊢
    simp only [E18] at hK ⊢
    go_simp
    refine hK _ wz (Below.refl _ _) (Fact.eq_mk ?_)
    with_reducible rfl
   refine F2.Steps.consT rfl ?_ ?_
   ·
    intro vz wz hBz hDz hbz K hK
    obtain ⟨zc0, zc1, zc2, zc3⟩ := hbz.two
    obtain ⟨n23_, A23_, l23_, c23_, E23, q23⟩ : IntV 0 _ _ wz (vz 23) := hDz 5 (by kernel_rfl) rfl
    have HW := ext_drew hBz.ext
    replace hK := hK.out
    apply Kept.mk
    simp only [F2.Wp, F2.fc, actv, fill, Act.put, sZ, sS, fC, fN, tA, cS, cZ] at hK ⊢
    simp only [E23] at hK ⊢
    go_simp
    refine hK _ ((Far.set _ _ 0 _).trans (Far.set _ _ 1 _)) ⟨_, blk_two hbz, NoU.two nB nS, Fact.cast (Fact.z_mk q23) ?_⟩
    with_reducible rfl
   exact F2.Steps.nil
  intro vf w6 hBz ⟨hOz, hAz, hNz, hSz⟩
  have E19 : vf 19 = _ := hOz 0 (by decide) rfl
  have E20 : vf 20 = _ := hOz 1 (by decide) rfl
  obtain ⟨n21_, A21_, l21_, c21_, E21, q21⟩ : IntV 0 _ _ w6 (vf 21) := hOz 2 (by decide) rfl
  obtain ⟨x22p_, x22q_, x22r_, E22, h22p, h22q, h22r⟩ : TV3 _ _ _ w6 (vf 22) := hOz 3 (by decide) rfl
  obtain rfl := Fact.eq_of h22r
  obtain ⟨x18p_, x18q_, x18r_, E18, h18p, h18q, h18r⟩ : TV3 _ _ _ w6 (vf 18) := hOz 4 (by decide) rfl
  obtain rfl := Fact.eq_of h18r
  obtain ⟨n23_, A23_, l23_, c23_, E23, q23⟩ : IntV 0 _ _ w6 (vf 23) := hOz 5 (by decide) rfl
  obtain ⟨n24_, A24_, l24_, c24_, E24, q24⟩ : IntV 0 _ _ w6 (vf 24) := hOz 6 (by decide) rfl
  have E25 : vf 25 = _ := hOz 7 (by decide) rfl
  obtain ⟨cs9, bx9n, hs9⟩ := hSz 8 _ _ _ (by decide) rfl
  obtain ⟨n9sf_, A9sf_, l9sf_, c9sf_, E9sf, q9sf⟩ : IntV 0 _ _ w6 (.agg cs9) := hs9
  injection E9sf with E9sf
  subst E9sf
  simp only [Act.put, actv, fill, fC, fN, tA, cS, cZ]
  simp only [E19, E20, E21, E22, E18, E23, E24, E25]
  clear E19 E20 E21 E22 E18 E23 E24 E25
  replace h0 := h0.ext hBz.ext
  replace h1 := h1.ext hBz.ext
  replace q9sb := q9sb.ext hBz.ext
  replace bx4 := hBz.blk bx4 (zM (Ne.symm hne9_4.out) zN)
  replace bx5 := hBz.blk bx5 (zM (Ne.symm hne9_5.out) zN)
  replace bx8 := hBz.blk bx8 (zM (Ne.symm hne9_8.out) zN)
  replace HB := hide (HB.out.trans (hBz.below (B := w.heap.size) HB.out.size (zA hge9 zE)))
  clear bx9
  have bx9 := bx9n
  clear bx9n
  clear hOz hAz hNz hSz hBz
  go_upto_region 5 with (fail)
  refine F2.regionS [.o, .so (g8) 24 #[.bool false, .slice none 0 0]] [Fact.eq ?cg26_, Fact.z ?kgs8_ ?zgs8_] [26] [26, 0] (by kernel_rfl) ?sog ?sopg (by kernel_rfl) ?stg ?fing
  case sog => exact List.forall_mem_cons.2 ⟨⟨bx8, NoU.two nB nS⟩, fun x hx => by cases hx⟩
  case sopg => exact List.Pairwise.cons (fun y hy => by cases hy) (List.Pairwise.nil)
  case stg =>
   refine F2.Steps.consO rfl ?_ ?_
   ·
    intro vz wz hBz hDz hTz K hK
    have HW := hBz.ext
    have bx9z := hBz.blk bx9 (zM hne9_8.out zN)
    obtain ⟨zl0, zl1, -⟩ := bx9z.two
    replace hK := hK.out
    apply Kept.mk
    simp only [F2.Wp, F2.fc, actv, fill, Act.put, sZ, sS, fC, fN, tA, cS, cZ] at hK ⊢
    go_simp
    refine hK _ wz (Below.refl _ _) (Fact.eq_mk ?_)
    with_reducible rfl
   refine F2.Steps.consT rfl ?_ ?_
   ·
    intro vz wz hBz hDz hbz K hK
    obtain ⟨zc0, zc1, zc2, zc3⟩ := hbz.two
    have E26 : vz 26 = _ := hDz 0 (by kernel_rfl) rfl
    have HW := hBz.ext
    replace hK := hK.out
    apply Kept.mk
    simp only [F2.Wp, F2.fc, actv, fill, Act.put, sZ, sS, fC, fN, tA, cS, cZ] at hK ⊢
    simp only [E26] at hK ⊢
    go_simp
    refine hK _ ((Far.set _ _ 0 _).trans (Far.set _ _ 1 _)) ⟨_, blk_two hbz, NoU.two nB nS, Fact.cast (Fact.z_mk (q9sf.ext HW)) ?_⟩
    with_reducible rfl
   exact F2.Steps.nil
  intro vg w7 hBz ⟨hOz, hAz, hNz, hSz⟩
  have E26 : vg 26 = _ := hOz 0 (by decide) rfl
  obtain ⟨cs8, bx8n, hs8⟩ := hSz 1 _ _ _ (by decide) rfl
  obtain ⟨n8sg_, A8sg_, l8sg_, c8sg_, E8sg, q8sg⟩ : IntV 0 _ _ w7 (.agg cs8) := hs8
  injection E8sg with E8sg
  subst E8sg
  simp only [Act.put, actv, fill, fC, fN, tA, cS, cZ]
  simp only [E26]
  clear E26
  replace h0 := h0.ext hBz.ext
  replace h1 := h1.ext hBz.ext
  replace q9sf := q9sf.ext hBz.ext
  replace bx4 := hBz.blk bx4 (zM hne4_8.out zN)
  replace bx5 := hBz.blk bx5 (zM hne5_8.out zN)
  replace bx9 := hBz.blk bx9 (zM hne9_8.out zN)
  replace HB := hide (HB.out.trans (hBz.below (B := w.heap.size) HB.out.size (zA hge8 zE)))
  clear bx8
  have bx8 := bx8n
  clear bx8n
  clear hOz hAz hNz hSz hBz
  go_wp2_with fail
  refine bodyPost_ret (results_int rfl _ _ _ _ _ _ rfl bx8) rfl ⟨HB.out, ?_⟩
  refine VF.mk (Fact.cast (Fact.z_mk q8sg) ?_)
  rw [← down_one]
set_option maxHeartbeats 4000000 in
set_option maxRecDepth 100000 in
theorem dup_calls {w : World}  {k0 k1 : Nat} {n0 n1 : Bool} {A0 A1 : Option Addr} {l0 l1 c0 c1 : Nat} {x0 x1 : Int} {y q : Int} (h0 : Q w k0 n0 A0 l0 c0 x0) (h1 : Q w k1 n1 A1 l1 c1 x1) (hk0 : k0 ≤ 4000) (hk1 : k1 ≤ 4000) (hy0 : 1 ≤ y) (hy1 : y ≤ 1000000000) (hq0 : 0 ≤ q) (hq1 : q ≤ 8000) :
    Calls Try.prog 37 #[.agg #[.bool n0, .slice A0 l0 c0], .agg #[.bool n1, .slice A1 l1 c1], .int .i64 y, .int .i64 q] w fun e w' => Below w.heap.size w w' ∧ VF (Fact.z (k0 + k1) (vUp (x0 * x1) (y * 2 ^ q.toNat))) e w' := by
 have hy : y ≠ 0 := by omega
 go_enter Try.func37, Try.ntmps37
 have HB : Hid (Below w.heap.size w w) := hide (Below.refl _ _)
 go_upto_region 0 with (fail)
 refine F2.regionS [.al 24 #[.bool n0, .slice A0 l0 c0], .al 24 #[.bool n1, .slice A1 l1 c1], .al 24 #[.bool false, .slice none 0 0]] [Fact.any, Fact.any, Fact.any] [4, 5, 8] [4, 5, 8] (by kernel_rfl) ?soa ?sopa (by kernel_rfl) ?sta ?fina
 case soa => exact fun x hx => by cases hx
 case sopa => exact List.Pairwise.nil
 case sta =>
  refine F2.Steps.consA rfl ⟨NoU.two nB nS, ?_⟩ ?_
  ·
   intro vz wz hBz K hK
   replace hK := hK.out
   apply Kept.mk
   simp only [F2.Wp, F2.fc, actv, fill, Act.put, sZ, sS, fC, fN, tA, cS, cZ] at hK ⊢
   go_simp
   exact hK
  refine F2.Steps.consA rfl ⟨NoU.two nB nS, ?_⟩ ?_
  ·
   intro vz wz hBz K hK
   replace hK := hK.out
   apply Kept.mk
   simp only [F2.Wp, F2.fc, actv, fill, Act.put, sZ, sS, fC, fN, tA, cS, cZ] at hK ⊢
   go_simp
   exact hK
  refine F2.Steps.consA rfl ⟨NoU.two nB nS, ?_⟩ ?_
  ·
   intro vz wz hBz K hK
   replace hK := hK.out
   apply Kept.mk
   simp only [F2.Wp, F2.fc, actv, fill, Act.put, sZ, sS, fC, fN, tA, cS, cZ] at hK ⊢
   go_simp
   exact hK
  exact F2.Steps.nil
 intro va w1 hBz ⟨hOz, hAz, hNz, hSz⟩
 obtain ⟨g4, cs4, E4, hg4, bx4, hs4, hz4⟩ := hAz 0 _ _ (by decide) rfl
 have hzz := hz4 (F2.nost (by kernel_rfl))
 subst hzz
 obtain ⟨g5, cs5, E5, hg5, bx5, hs5, hz5⟩ := hAz 1 _ _ (by decide) rfl
 have hzz := hz5 (F2.nost (by kernel_rfl))
 subst hzz
 obtain ⟨g8, cs8, E8, hg8, bx8, hs8, hz8⟩ := hAz 2 _ _ (by decide) rfl
 have hzz := hz8 (F2.nost (by kernel_rfl))
 subst hzz
 have hne4_5 : Hid (¬ g4 = g5) := hide (fun h => hNz 0 1 _ _ _ _ (by decide) (by decide) (by decide) rfl rfl (by rw [E4, E5, h]))
 have hne4_8 : Hid (¬ g4 = g8) := hide (fun h => hNz 0 2 _ _ _ _ (by decide) (by decide) (by decide) rfl rfl (by rw [E4, E8, h]))
 have hne5_8 : Hid (¬ g5 = g8) := hide (fun h => hNz 1 2 _ _ _ _ (by decide) (by decide) (by decide) rfl rfl (by rw [E5, E8, h]))
 simp only [Act.put, actv, fill, fC, fN, tA, cS, cZ]
 simp only [(show va 4 = _ from E4), (show va 5 = _ from E5), (show va 8 = _ from E8)]
 clear E4 E5 E8
 have hge4 : w.heap.size ≤ g4 := Nat.le_trans HB.out.size hg4
 have hge5 : w.heap.size ≤ g5 := Nat.le_trans HB.out.size hg5
 have hge8 : w.heap.size ≤ g8 := Nat.le_trans HB.out.size hg8
 replace h0 := h0.ext hBz.ext
 replace h1 := h1.ext hBz.ext
 replace HB := hide (HB.out.trans (hBz.below (B := w.heap.size) HB.out.size zE))
 clear hOz hAz hNz hSz hs4 hz4 hs5 hz5 hs8 hz8 hBz
 go_upto_region 1 with (fail)
 refine F2.regionS [.o, .o, .o, .o, .o, .o, .o, .al 24 #[.bool false, .slice none 0 0], .st 7] [Fact.eq ?cb10_, Fact.eq ?cb11_, Fact.z ?kb12_ ?zb12_, Fact.z ?kb13_ ?zb13_, Fact.eq ?cb14_, Fact.z ?kb15_ ?zb15_, Fact.z ?kb16_ ?zb16_, Fact.any, Fact.z ?kbs9_ ?zbs9_] [10, 11, 12, 13, 14, 15, 16, 9] [10, 11, 12, 13, 14, 15, 16, 9, 0] (by kernel_rfl) ?sob ?sopb (by kernel_rfl) ?stb ?finb
 case sob => exact fun x hx => by cases hx
 case sopb => exact List.Pairwise.nil
 case stb =>
  refine F2.Steps.consO rfl ?_ ?_
  ·
   intro vz wz hBz hDz hTz K hK
   have HW := hBz.ext
   have bx4z := hBz.blk bx4 zN
   obtain ⟨zl0, zl1, -⟩ := bx4z.two
   replace hK := hK.out
   apply Kept.mk
   simp only [F2.Wp, F2.fc, actv, fill, Act.put, sZ, sS, fC, fN, tA, cS, cZ] at hK ⊢
   go_simp
   refine hK _ wz (Below.refl _ _) (Fact.eq_mk ?_)
   with_reducible rfl
  refine F2.Steps.consO rfl ?_ ?_
  ·
   intro vz wz hBz hDz hTz K hK
   have HW := hBz.ext
   have bx5z := hBz.blk bx5 zN
   obtain ⟨zl0, zl1, -⟩ := bx5z.two
   replace hK := hK.out
   apply Kept.mk
   simp only [F2.Wp, F2.fc, actv, fill, Act.put, sZ, sS, fC, fN, tA, cS, cZ] at hK ⊢
   go_simp
   refine hK _ wz (Below.refl _ _) (Fact.eq_mk ?_)
   with_reducible rfl
  refine F2.Steps.consO rfl ?_ ?_
  ·
   intro vz wz hBz hDz hTz K hK
   have E10 : vz 10 = _ := hDz 0 (by kernel_rfl) rfl
   have E11 : vz 11 = _ := hDz 1 (by kernel_rfl) rfl
   have HW := hBz.ext
   replace hK := hK.out
   apply Kept.mk
   simp only [F2.Wp, F2.fc, actv, fill, Act.put, sZ, sS, fC, fN, tA, cS, cZ] at hK ⊢
   simp only [E10, E11] at hK ⊢
   go_simp
   refine Calls.mono (u_mul (h0.ext HW) (h1.ext HW) (by omega) (by omega)) ?_
   rintro e w2z ⟨hb2, uz, rfl, hf⟩
   go_wp2_with fail
   refine hK _ w2z hb2 (Fact.cast (hf) ?_)
   with_reducible rfl
  refine F2.Steps.consO rfl ?_ ?_
  ·
   intro vz wz hBz hDz hTz K hK
   obtain ⟨n12_, A12_, l12_, c12_, E12, q12⟩ : IntV 0 _ _ wz (vz 12) := hDz 2 (by kernel_rfl) rfl
   have HW := hBz.ext
   replace hK := hK.out
   apply Kept.mk
   simp only [F2.Wp, F2.fc, actv, fill, Act.put, sZ, sS, fC, fN, tA, cS, cZ] at hK ⊢
   simp only [E12] at hK ⊢
   go_simp
   refine Calls.mono (u_neg q12.q (by omega)) ?_
   rintro e w2z ⟨hb2, uz, rfl, hf⟩
   go_wp2_with fail
   refine hK _ w2z hb2 (Fact.cast (hf) ?_)
   with_reducible rfl
  refine F2.Steps.consO rfl ?_ ?_
  ·
   intro vz wz hBz hDz hTz K hK
   have HW := hBz.ext
   replace hK := hK.out
   apply Kept.mk
   simp only [F2.Wp, F2.fc, actv, fill, Act.put, sZ, sS, fC, fN, tA, cS, cZ] at hK ⊢
   go_simp
   refine hK _ wz (Below.refl _ _) (Fact.eq_mk ?_)
   with_reducible rfl
  refine F2.Steps.consO rfl ?_ ?_
  ·
   intro vz wz hBz hDz hTz K hK
   obtain ⟨n13_, A13_, l13_, c13_, E13, q13⟩ : IntV 0 _ _ wz (vz 13) := hDz 3 (by kernel_rfl) rfl
   have E14 : vz 14 = _ := hDz 4 (by kernel_rfl) rfl
   have HW := hBz.ext
   replace hK := hK.out
   apply Kept.mk
   simp only [F2.Wp, F2.fc, actv, fill, Act.put, sZ, sS, fC, fN, tA, cS, cZ] at hK ⊢
   simp only [E13, E14] at hK ⊢
   go_simp
   refine Calls.mono (u_shr q13.q (by omega) (by omega) (by omega)) ?_
   rintro e w2z ⟨hb2, uz, rfl, hf⟩
   go_wp2_with fail
   refine hK _ w2z hb2 (Fact.cast (hf) ?_)
   with_reducible rfl
  refine F2.Steps.consO rfl ?_ ?_
  ·
   intro vz wz hBz hDz hTz K hK
   obtain ⟨n15_, A15_, l15_, c15_, E15, q15⟩ : IntV 0 _ _ wz (vz 15) := hDz 5 (by kernel_rfl) rfl
   have HW := hBz.ext
   replace hK := hK.out
   apply Kept.mk
   simp only [F2.Wp, F2.fc, actv, fill, Act.put, sZ, sS, fC, fN, tA, cS, cZ] at hK ⊢
   simp only [E15] at hK ⊢
   go_simp
   refine Calls.mono (u_neg q15.q (by omega)) ?_
   rintro e w2z ⟨hb2, uz, rfl, hf⟩
   go_wp2_with fail
   refine hK _ w2z hb2 (Fact.cast (hf) ?_)
   with_reducible rfl
  refine F2.Steps.consA rfl ⟨NoU.two nB nS, ?_⟩ ?_
  ·
   intro vz wz hBz K hK
   replace hK := hK.out
   apply Kept.mk
   simp only [F2.Wp, F2.fc, actv, fill, Act.put, sZ, sS, fC, fN, tA, cS, cZ] at hK ⊢
   go_simp
   exact hK
  refine F2.Steps.consS rfl rfl ?_ ?_
  ·
   intro vz wz gz hBz hDz E9' hgz hbz K hK
   obtain ⟨zc0, zc1, zc2, zc3⟩ := hbz.two
   obtain ⟨n16_, A16_, l16_, c16_, E16, q16⟩ : IntV 0 _ _ wz (vz 16) := hDz 6 (by kernel_rfl) rfl
   have E9 : vz 9 = .pointer (some ⟨gz, 0, none⟩) := E9'
   have HW := hBz.ext
   replace hK := hK.out
   apply Kept.mk
   simp only [F2.Wp, F2.fc, actv, fill, Act.put, sZ, sS, fC, fN, tA, cS, cZ] at hK ⊢
   simp only [E9, E16] at hK ⊢
   go_simp
   refine hK _ ((Far.set _ gz 0 _).trans (Far.set _ gz 1 _)) ⟨_, blk_two hbz, NoU.two nB nS, Fact.cast (Fact.z_mk q16) ?_⟩
   with_reducible rfl
  exact F2.Steps.nil
 intro vb w2 hBz ⟨hOz, hAz, hNz, hSz⟩
 have E10 : vb 10 = _ := hOz 0 (by decide) rfl
 have E11 : vb 11 = _ := hOz 1 (by decide) rfl
 obtain ⟨n12_, A12_, l12_, c12_, E12, q12⟩ : IntV 0 _ _ w2 (vb 12) := hOz 2 (by decide) rfl
 obtain ⟨n13_, A13_, l13_, c13_, E13, q13⟩ : IntV 0 _ _ w2 (vb 13) := hOz 3 (by decide) rfl
 have E14 : vb 14 = _ := hOz 4 (by decide) rfl
 obtain ⟨n15_, A15_, l15_, c15_, E15, q15⟩ : IntV 0 _ _ w2 (vb 15) := hOz 5 (by decide) rfl
 obtain ⟨n16_, A16_, l16_, c16_, E16, q16⟩ : IntV 0 _ _ w2 (vb 16) := hOz 6 (by decide) rfl
 obtain ⟨g9, cs9, E9, hg9, bx9, hs9, hz9⟩ := hAz 7 _ _ (by decide) rfl
 obtain ⟨n9sb_, A9sb_, l9sb_, c9sb_, E9sb, q9sb⟩ : IntV 0 _ _ w2 (.agg cs9) := hs9 8 (by decide) rfl
 injection E9sb with E9sb
 subst E9sb
 simp only [Act.put, actv, fill, fC, fN, tA, cS, cZ]
 simp only [E10, E11, E12, E13, E14, E15, E16, (show vb 9 = _ from E9)]
 clear E10 E11 E12 E13 E14 E15 E16 E9
 have hge9 : w.heap.size ≤ g9 := Nat.le_trans HB.out.size hg9
 have hne9_4 := hide (Nat.ne_of_gt (Nat.lt_of_lt_of_le bx4.lt (show w1.heap.size ≤ g9 from hg9)))
 have hne9_5 := hide (Nat.ne_of_gt (Nat.lt_of_lt_of_le bx5.lt (show w1.heap.size ≤ g9 from hg9)))
 have hne9_8 := hide (Nat.ne_of_gt (Nat.lt_of_lt_of_le bx8.lt (show w1.heap.size ≤ g9 from hg9)))
 replace h0 := h0.ext hBz.ext
 replace h1 := h1.ext hBz.ext
 replace bx4 := hBz.blk bx4 zN
 replace bx5 := hBz.blk bx5 zN
 replace bx8 := hBz.blk bx8 zN
 replace HB := hide (HB.out.trans (hBz.below (B := w.heap.size) HB.out.size zE))
 clear hOz hAz hNz hSz hs9 hz9 hBz
 by_cases hb : y = 1
 ·
  subst hb
  go_upto_region 2 with (fail)
  refine F2.regionS [.o, .o] [Fact.eq ?cc17_, Fact.eq ?cc18_] [17, 18] [17, 18] (by kernel_rfl) ?soc ?sopc (by kernel_rfl) ?stc ?finc
  case soc => exact fun x hx => by cases hx
  case sopc => exact List.Pairwise.nil
  case stc =>
   refine F2.Steps.consO rfl ?_ ?_
   ·
    intro vz wz hBz hDz hTz K hK
    have HW := hBz.ext
    replace hK := hK.out
    apply Kept.mk
    simp only [F2.Wp, F2.fc, actv, fill, Act.put, sZ, sS, fC, fN, tA, cS, cZ] at hK ⊢
    go_simp
    refine hK _ wz (Below.refl _ _) (Fact.eq_mk ?_)
    with_reducible rfl
   refine F2.Steps.consO rfl ?_ ?_
   ·
    intro vz wz hBz hDz hTz K hK
    have E17 : vz 17 = _ := hDz 0 (by kernel_rfl) rfl
    have HW := hBz.ext
    replace hK := hK.out
    apply Kept.mk
    simp only [F2.Wp, F2.fc, actv, fill, Act.put, sZ, sS, fC, fN, tA, cS, cZ] at hK ⊢
    simp only [E17] at hK ⊢
    go_simp
    refine hK _ wz (Below.refl _ _) (Fact.eq_mk ?_)
    with_reducible rfl
   exact F2.Steps.nil
  intro vc w3 hBz ⟨hOz, hAz, hNz, hSz⟩
  have E17 : vc 17 = _ := hOz 0 (by decide) rfl
  have E18 : vc 18 = _ := hOz 1 (by decide) rfl
  simp only [Act.put, actv, fill, fC, fN, tA, cS, cZ]
  simp only [E17, E18]
  clear E17 E18
  replace h0 := h0.ext hBz.ext
  replace h1 := h1.ext hBz.ext
  replace q9sb := q9sb.ext hBz.ext
  replace bx4 := hBz.blk bx4 zN
  replace bx5 := hBz.blk bx5 zN
  replace bx8 := hBz.blk bx8 zN
  replace bx9 := hBz.blk bx9 zN
  replace HB := hide (HB.out.trans (hBz.below (B := w.heap.size) HB.out.size zE))
  clear hOz hAz hNz hSz hBz
  go_upto_region 3 with (fail)
  refine F2.regionS [.o, .so (g8) 24 #[.bool false, .slice none 0 0]] [Fact.eq ?cd19_, Fact.z ?kds8_ ?zds8_] [19] [19, 0] (by kernel_rfl) ?sod ?sopd (by kernel_rfl) ?std ?find
  case sod => exact List.forall_mem_cons.2 ⟨⟨bx8, NoU.two nB nS⟩, fun x hx => by cases hx⟩
  case sopd => exact List.Pairwise.cons (fun y hy => by cases hy) (List.Pairwise.nil)
  case std =>
   refine F2.Steps.consO rfl ?_ ?_
   ·
    intro vz wz hBz hDz hTz K hK
    have HW := hBz.ext
    have bx9z := hBz.blk bx9 (zM hne9_8.out zN)
    obtain ⟨zl0, zl1, -⟩ := bx9z.two
    replace hK := hK.out
    apply Kept.mk
    simp only [F2.Wp, F2.fc, actv, fill, Act.put, sZ, sS, fC, fN, tA, cS, cZ] at hK ⊢
    go_simp
    refine hK _ wz (Below.refl _ _) (Fact.eq_mk ?_)
    with_reducible rfl
   refine F2.Steps.consT rfl ?_ ?_
   ·
    intro vz wz hBz hDz hbz K hK
    obtain ⟨zc0, zc1, zc2, zc3⟩ := hbz.two
    have E19 : vz 19 = _ := hDz 0 (by kernel_rfl) rfl
    have HW := hBz.ext
    replace hK := hK.out
    apply Kept.mk
    simp only [F2.Wp, F2.fc, actv, fill, Act.put, sZ, sS, fC, fN, tA, cS, cZ] at hK ⊢
    simp only [E19] at hK ⊢
    go_simp
    refine hK _ ((Far.set _ _ 0 _).trans (Far.set _ _ 1 _)) ⟨_, blk_two hbz, NoU.two nB nS, Fact.cast (Fact.z_mk (q9sb.ext HW)) ?_⟩
    with_reducible rfl
   exact F2.Steps.nil
  intro vd w4 hBz ⟨hOz, hAz, hNz, hSz⟩
  have E19 : vd 19 = _ := hOz 0 (by decide) rfl
  obtain ⟨cs8, bx8n, hs8⟩ := hSz 1 _ _ _ (by decide) rfl
  obtain ⟨n8sd_, A8sd_, l8sd_, c8sd_, E8sd, q8sd⟩ : IntV 0 _ _ w4 (.agg cs8) := hs8
  injection E8sd with E8sd
  subst E8sd
  simp only [Act.put, actv, fill, fC, fN, tA, cS, cZ]
  simp only [E19]
  clear E19
  replace h0 := h0.ext hBz.ext
  replace h1 := h1.ext hBz.ext
  replace q9sb := q9sb.ext hBz.ext
  replace bx4 := hBz.blk bx4 (zM hne4_8.out zN)
  replace bx5 := hBz.blk bx5 (zM hne5_8.out zN)
  replace bx9 := hBz.blk bx9 (zM hne9_8.out zN)
  replace HB := hide (HB.out.trans (hBz.below (B := w.heap.size) HB.out.size (zA hge8 zE)))
  clear bx8
  have bx8 := bx8n
  clear bx8n
  clear hOz hAz hNz hSz hBz
  go_wp2_with fail
  refine bodyPost_ret (results_int rfl _ _ _ _ _ _ rfl bx8) rfl ⟨HB.out, ?_⟩
  refine VF.mk (Fact.cast (Fact.z_mk q8sd) ?_)
  rw [← up_one]
 ·
  have hbb : (y == 1) = false := by simp [hb]
  go_upto_region 2 with (fail)
  refine F2.regionS [.o, .o] [Fact.eq ?ce17_, Fact.eq ?ce18_] [17, 18] [17, 18] (by kernel_rfl) ?soe ?sope (by kernel_rfl) ?ste ?fine
  case soe => exact fun x hx => by cases hx
  case sope => exact List.Pairwise.nil
  case ste =>
   refine F2.Steps.consO rfl ?_ ?_
   ·
    intro vz wz hBz hDz hTz K hK
    have HW := hBz.ext
    replace hK := hK.out
    apply Kept.mk
    simp only [F2.Wp, F2.fc, actv, fill, Act.put, sZ, sS, fC, fN, tA, cS, cZ] at hK ⊢
    go_simp
    refine hK _ wz (Below.refl _ _) (Fact.eq_mk ?_)
    with_reducible rfl
   refine F2.Steps.consO rfl ?_ ?_
   ·
    intro vz wz hBz hDz hTz K hK
    have E17 : vz 17 = _ := hDz 0 (by kernel_rfl) rfl
    have HW := hBz.ext
    replace hK := hK.out
    apply Kept.mk
    simp only [F2.Wp, F2.fc, actv, fill, Act.put, sZ, sS, fC, fN, tA, cS, cZ] at hK ⊢
    simp only [E17] at hK ⊢
    go_simp
    refine hK _ wz (Below.refl _ _) (Fact.eq_mk ?_)
    with_reducible rfl
   exact F2.Steps.nil
  intro ve w5 hBz ⟨hOz, hAz, hNz, hSz⟩
  have E17 : ve 17 = _ := hOz 0 (by decide) rfl
  have E18 : ve 18 = _ := hOz 1 (by decide) rfl
  simp only [Act.put, actv, fill, fC, fN, tA, cS, cZ]
  simp only [E17, E18]
  clear E17 E18
  replace h0 := h0.ext hBz.ext
  replace h1 := h1.ext hBz.ext
  replace q9sb := q9sb.ext hBz.ext
  replace bx4 := hBz.blk bx4 zN
  replace bx5 := hBz.blk bx5 zN
  replace bx8 := hBz.blk bx8 zN
  replace bx9 := hBz.blk bx9 zN
  replace HB := hide (HB.out.trans (hBz.below (B := w.heap.size) HB.out.size zE))
  clear hOz hAz hNz hSz hBz
  go_upto_region 4 with (fail)
  refine F2.region [.o, .o, .o, .o, .o, .o, .o, .so (g9) 24 #[.bool n9sb_, .slice A9sb_ l9sb_ c9sb_]] [Fact.eq ?cf21_, Fact.eq ?cf22_, Fact.z ?kf23_ ?zf23_, Fact.t2 (Fact.z ?kf24_p ?zf24_p) (Fact.eq ?cf24_q), Fact.t2 (Fact.z ?kf20_p ?zf20_p) (Fact.eq ?cf20_q), Fact.z ?kf25_ ?zf25_, Fact.eq ?cf26_, Fact.z ?kfs9_ ?zfs9_] [21, 22, 23, 24, 20, 25, 26] [21, 22, 23, 24, 20, 25, 26, 0] (by kernel_rfl) ?sof ?sopf (by kernel_rfl) ?stf ?finf
  case sof => exact List.forall_mem_cons.2 ⟨⟨bx9, NoU.two nB nS⟩, fun x hx => by cases hx⟩
  case sopf => exact List.Pairwise.cons (fun y hy => by cases hy) (List.Pairwise.nil)
  case stf =>
   refine F2.Steps.consO rfl ?_ ?_
   ·
    intro vz wz hBz hDz hTz K hK
    have HW := ext_drew hBz.ext
    have bx9z := hTz 7 _ _ _ _ rfl rfl (by kernel_rfl)
    obtain ⟨zl0, zl1, -⟩ := bx9z.two
    replace hK := hK.out
    apply Kept.mk
    simp only [F2.Wp, F2.fc, actv, fill, Act.put, sZ, sS, fC, fN, tA, cS, cZ] at hK ⊢
    go_simp
    refine hK _ wz (Below.refl _ _) (Fact.eq_mk ?_)
    with_reducible rfl
   refine F2.Steps.consO rfl ?_ ?_
   ·
    intro vz wz hBz hDz hTz K hK
    have HW := ext_drew hBz.ext
    replace hK := hK.out
    apply Kept.mk
    simp only [F2.Wp, F2.fc, actv, fill, Act.put, sZ, sS, fC, fN, tA, cS, cZ] at hK ⊢
    go_simp
    refine hK _ wz (Below.refl _ _) (Fact.eq_mk ?_)
    with_reducible rfl
   refine F2.Steps.consO rfl ?_ ?_
   ·
    intro vz wz hBz hDz hTz K hK
    have E22 : vz 22 = _ := hDz 1 (by kernel_rfl) rfl
    have HW := ext_drew hBz.ext
    replace hK := hK.out
    apply Kept.mk
    simp only [F2.Wp, F2.fc, actv, fill, Act.put, sZ, sS, fC, fN, tA, cS, cZ] at hK ⊢
    simp only [E22] at hK ⊢
    go_simp
    refine Calls.mono (u_of  (by omega) (by omega)) ?_
    rintro e w2z ⟨hb2, uz, rfl, hf⟩
    go_wp2_with fail
    refine hK _ w2z hb2 (Fact.cast (hf) ?_)
    with_reducible rfl
   refine F2.Steps.consO rfl ?_ ?_
   ·
    intro vz wz hBz hDz hTz K hK
    have E21 : vz 21 = _ := hDz 0 (by kernel_rfl) rfl
    obtain ⟨n23_, A23_, l23_, c23_, E23, q23⟩ : IntV 0 _ _ wz (vz 23) := hDz 2 (by kernel_rfl) rfl
    have HW := ext_drew hBz.ext
    replace hK := hK.out
    apply Kept.mk
    simp only [F2.Wp, F2.fc, actv, fill, Act.put, sZ, sS, fC, fN, tA, cS, cZ] at hK ⊢
    simp only [E21, E23] at hK ⊢
    go_simp
    refine Calls.mono (u_up (q9sb.ext HW).q q23.q (by omega) (by omega) hy) ?_
    rintro e w2z ⟨hb2, uz, rfl, hf⟩
    go_wp2_with fail
    refine hK _ w2z hb2 (Fact.cast (hf) ?_)
    with_reducible rfl
   refine F2.Steps.consO rfl ?_ ?_
   ·
    intro vz wz hBz hDz hTz K hK
    obtain ⟨x24p_, x24q_, E24, h24p, h24q⟩ : TV2 _ _ wz (vz 24) := hDz 3 (by kernel_rfl) rfl
    obtain rfl := Fact.eq_of h24q
    have HW := ext_drew hBz.ext
    replace hK := hK.out
    apply Kept.mk
    simp only [F2.Wp, F2.fc, actv, fill, Act.put, sZ, sS, fC, fN, tA, cS, cZ] at hK ⊢
    simp only [E24] at hK ⊢
    go_simp
    refine hK _ wz (Below.refl _ _) (Fact.cast (Fact.t2_mk h24p (Fact.eq_self _ _)) ?_)
    with_reducible rfl
   refine F2.Steps.consO rfl ?_ ?_
   ·
    intro vz wz hBz hDz hTz K hK
    obtain ⟨x20p_, x20q_, E20, h20p, h20q⟩ : TV2 _ _ wz (vz 20) := hDz 4 (by kernel_rfl) rfl
    obtain rfl := Fact.eq_of h20q
    have HW := ext_drew hBz.ext
    replace hK := hK.out
    apply Kept.mk
    simp only [F2.Wp, F2.fc, actv, fill, Act.put, sZ, sS, fC, fN, tA, cS, cZ] at hK ⊢
    simp only [E20] at hK ⊢
    go_simp
    refine hK _ wz (Below.refl _ _) (Fact.cast (h20p) ?_)
    with_reducible rfl
   refine F2.Steps.consO rfl ?_ ?_
   ·
    intro vz wz hBz hDz hTz K hK
    obtain ⟨x20p_, x20q_, E20, h20p, h20q⟩ : TV2 _ _ wz (vz 20) := hDz 4 (by kernel_rfl) rfl
    obtain rfl := Fact.eq_of h20q
    have HW := ext_drew hBz.ext
    replace hK := hK.out
    apply Kept.mk
    simp only [F2.Wp, F2.fc, actv, fill, Act.put, sZ, sS, fC, fN, tA, cS, cZ] at hK ⊢
    simp only [E20] at hK ⊢
    go_simp
    refine hK _ wz (Below.refl _ _) (Fact.eq_mk ?_)
    with_reducible rfl
   refine F2.Steps.consT rfl ?_ ?_
   ·
    intro vz wz hBz hDz hbz K hK
    obtain ⟨zc0, zc1, zc2, zc3⟩ := hbz.two
    obtain ⟨n25_, A25_, l25_, c25_, E25, q25⟩ : IntV 0 _ _ wz (vz 25) := hDz 5 (by kernel_rfl) rfl
    have HW := ext_drew hBz.ext
    replace hK := hK.out
    apply Kept.mk
    simp only [F2.Wp, F2.fc, actv, fill, Act.put, sZ, sS, fC, fN, tA, cS, cZ] at hK ⊢
    simp only [E25] at hK ⊢
    go_simp
    refine hK _ ((Far.set _ _ 0 _).trans (Far.set _ _ 1 _)) ⟨_, blk_two hbz, NoU.two nB nS, Fact.cast (Fact.z_mk q25) ?_⟩
    with_reducible rfl
   exact F2.Steps.nil
  intro vf w6 hBz ⟨hOz, hAz, hNz, hSz⟩
  have E21 : vf 21 = _ := hOz 0 (by decide) rfl
  have E22 : vf 22 = _ := hOz 1 (by decide) rfl
  obtain ⟨n23_, A23_, l23_, c23_, E23, q23⟩ : IntV 0 _ _ w6 (vf 23) := hOz 2 (by decide) rfl
  obtain ⟨x24p_, x24q_, E24, h24p, h24q⟩ : TV2 _ _ w6 (vf 24) := hOz 3 (by decide) rfl
  obtain rfl := Fact.eq_of h24q
  obtain ⟨x20p_, x20q_, E20, h20p, h20q⟩ : TV2 _ _ w6 (vf 20) := hOz 4 (by decide) rfl
  obtain rfl := Fact.eq_of h20q
  obtain ⟨n25_, A25_, l25_, c25_, E25, q25⟩ : IntV 0 _ _ w6 (vf 25) := hOz 5 (by decide) rfl
  have E26 : vf 26 = _ := hOz 6 (by decide) rfl
  obtain ⟨cs9, bx9n, hs9⟩ := hSz 7 _ _ _ (by decide) rfl
  obtain ⟨n9sf_, A9sf_, l9sf_, c9sf_, E9sf, q9sf⟩ : IntV 0 _ _ w6 (.agg cs9) := hs9
  injection E9sf with E9sf
  subst E9sf
  simp only [Act.put, actv, fill, fC, fN, tA, cS, cZ]
  simp only [E21, E22, E23, E24, E20, E25, E26]
  clear E21 E22 E23 E24 E20 E25 E26
  replace h0 := h0.ext hBz.ext
  replace h1 := h1.ext hBz.ext
  replace q9sb := q9sb.ext hBz.ext
  replace bx4 := hBz.blk bx4 (zM (Ne.symm hne9_4.out) zN)
  replace bx5 := hBz.blk bx5 (zM (Ne.symm hne9_5.out) zN)
  replace bx8 := hBz.blk bx8 (zM (Ne.symm hne9_8.out) zN)
  replace HB := hide (HB.out.trans (hBz.below (B := w.heap.size) HB.out.size (zA hge9 zE)))
  clear bx9
  have bx9 := bx9n
  clear bx9n
  clear hOz hAz hNz hSz hBz
  go_upto_region 5 with (fail)
  refine F2.regionS [.o, .so (g8) 24 #[.bool false, .slice none 0 0]] [Fact.eq ?cg27_, Fact.z ?kgs8_ ?zgs8_] [27] [27, 0] (by kernel_rfl) ?sog ?sopg (by kernel_rfl) ?stg ?fing
  case sog => exact List.forall_mem_cons.2 ⟨⟨bx8, NoU.two nB nS⟩, fun x hx => by cases hx⟩
  case sopg => exact List.Pairwise.cons (fun y hy => by cases hy) (List.Pairwise.nil)
  case stg =>
   refine F2.Steps.consO rfl ?_ ?_
   ·
    intro vz wz hBz hDz hTz K hK
    have HW := hBz.ext
    have bx9z := hBz.blk bx9 (zM hne9_8.out zN)
    obtain ⟨zl0, zl1, -⟩ := bx9z.two
    replace hK := hK.out
    apply Kept.mk
    simp only [F2.Wp, F2.fc, actv, fill, Act.put, sZ, sS, fC, fN, tA, cS, cZ] at hK ⊢
    go_simp
    refine hK _ wz (Below.refl _ _) (Fact.eq_mk ?_)
    with_reducible rfl
   refine F2.Steps.consT rfl ?_ ?_
   ·
    intro vz wz hBz hDz hbz K hK
    obtain ⟨zc0, zc1, zc2, zc3⟩ := hbz.two
    have E27 : vz 27 = _ := hDz 0 (by kernel_rfl) rfl
    have HW := hBz.ext
    replace hK := hK.out
    apply Kept.mk
    simp only [F2.Wp, F2.fc, actv, fill, Act.put, sZ, sS, fC, fN, tA, cS, cZ] at hK ⊢
    simp only [E27] at hK ⊢
    go_simp
    refine hK _ ((Far.set _ _ 0 _).trans (Far.set _ _ 1 _)) ⟨_, blk_two hbz, NoU.two nB nS, Fact.cast (Fact.z_mk (q9sf.ext HW)) ?_⟩
    with_reducible rfl
   exact F2.Steps.nil
  intro vg w7 hBz ⟨hOz, hAz, hNz, hSz⟩
  have E27 : vg 27 = _ := hOz 0 (by decide) rfl
  obtain ⟨cs8, bx8n, hs8⟩ := hSz 1 _ _ _ (by decide) rfl
  obtain ⟨n8sg_, A8sg_, l8sg_, c8sg_, E8sg, q8sg⟩ : IntV 0 _ _ w7 (.agg cs8) := hs8
  injection E8sg with E8sg
  subst E8sg
  simp only [Act.put, actv, fill, fC, fN, tA, cS, cZ]
  simp only [E27]
  clear E27
  replace h0 := h0.ext hBz.ext
  replace h1 := h1.ext hBz.ext
  replace q9sf := q9sf.ext hBz.ext
  replace bx4 := hBz.blk bx4 (zM hne4_8.out zN)
  replace bx5 := hBz.blk bx5 (zM hne5_8.out zN)
  replace bx9 := hBz.blk bx9 (zM hne9_8.out zN)
  replace HB := hide (HB.out.trans (hBz.below (B := w.heap.size) HB.out.size (zA hge8 zE)))
  clear bx8
  have bx8 := bx8n
  clear bx8n
  clear hOz hAz hNz hSz hBz
  go_wp2_with fail
  refine bodyPost_ret (results_int rfl _ _ _ _ _ _ rfl bx8) rfl ⟨HB.out, ?_⟩
  refine VF.mk (Fact.cast (Fact.z_mk q8sg) ?_)
  rw [← up_two (by omega)]
end Go.Proofs.Ytnephejalollfaa
end
section
set_option linter.unusedVariables false
set_option linter.unusedSimpArgs false
namespace Go.Proofs.Ytnephejalollfaa
open Go.RowKit
open L (val dig nth)
theorem QB.cast_ {w : World} {B k : Nat} {n : Bool} {A : Option Addr} {len cap : Nat} {z y : Int} (h : QB w B k n A len cap z) (e : z = y) : QB w B k n A len cap y := e ▸ h
set_option maxHeartbeats 4000000 in
set_option maxRecDepth 100000 in
theorem dexp_calls {w : World}  {k0 : Nat} {n0 : Bool} {A0 : Option Addr} {l0 c0 : Nat} {x0 : Int} {q n : Int} (h0 : Q w k0 n0 A0 l0 c0 x0) (hk0 : k0 ≤ 40) :
    Calls Try.prog 12 #[.agg #[.bool n0, .slice A0 l0 c0], .int .i64 q, .int .i64 n] w fun e w' => Below w.heap.size w w' ∧ VF (Fact.t3 (Fact.z 340 (if mayR x0 q n 2 = true then expLo x0 q n.toNat else 0)) (Fact.z 340 (if mayR x0 q n 2 = true then expHi x0 q n.toNat else 0)) (Fact.eq (.int .i64 (if mayR x0 q n 2 = true then 0 else 1)))) e w' := by
 obtain ⟨mm, HM⟩ : ∃ m, Hid (mayR x0 q n 2 = m) := ⟨_, hide rfl⟩
 have HM2 : Hid (mayD x0 q n 1 0 = mm) := hide (by rw [mayD_exp, HM.out])
 rw [HM.out]
 go_enter Try.func12, Try.ntmps12
 have HB : Hid (Below w.heap.size w w) := hide (Below.refl _ _)
 go_upto_region 0 with (fail)
 refine F2.regionS [.al 24 #[.bool n0, .slice A0 l0 c0], .al 24 #[.bool false, .slice none 0 0], .al 24 #[.bool false, .slice none 0 0], .o] [Fact.any, Fact.any, Fact.any, Fact.eq ?ca8_] [3, 6, 7, 8] [3, 6, 7, 8] (by kernel_rfl) ?soa ?sopa (by kernel_rfl) ?sta ?fina
 case soa => exact fun x hx => by cases hx
 case sopa => exact List.Pairwise.nil
 case sta =>
  refine F2.Steps.consA rfl ⟨NoU.two nB nS, ?_⟩ ?_
  ·
   intro vz wz hBz K hK
   replace hK := hK.out
   apply Kept.mk
   simp only [F2.Wp, F2.fc, actv, fill, Act.put, sZ, sS, fC, fN, tA, cS, cZ] at hK ⊢
   go_simp
   exact hK
  refine F2.Steps.consA rfl ⟨NoU.two nB nS, ?_⟩ ?_
  ·
   intro vz wz hBz K hK
   replace hK := hK.out
   apply Kept.mk
   simp only [F2.Wp, F2.fc, actv, fill, Act.put, sZ, sS, fC, fN, tA, cS, cZ] at hK ⊢
   go_simp
   exact hK
  refine F2.Steps.consA rfl ⟨NoU.two nB nS, ?_⟩ ?_
  ·
   intro vz wz hBz K hK
   replace hK := hK.out
   apply Kept.mk
   simp only [F2.Wp, F2.fc, actv, fill, Act.put, sZ, sS, fC, fN, tA, cS, cZ] at hK ⊢
   go_simp
   exact hK
  refine F2.Steps.consO rfl ?_ ?_
  ·
   intro vz wz hBz hDz hTz K hK
   have HW := hBz.ext
   replace hK := hK.out
   apply Kept.mk
   simp only [F2.Wp, F2.fc, actv, fill, Act.put, sZ, sS, fC, fN, tA, cS, cZ] at hK ⊢
   go_simp
   refine hK _ wz (Below.refl _ _) (Fact.eq_mk ?_)
   with_reducible rfl
  exact F2.Steps.nil
 intro va w1 hBz ⟨hOz, hAz, hNz, hSz⟩
 obtain ⟨g3, cs3, E3, hg3, bx3, hs3, hz3⟩ := hAz 0 _ _ (by decide) rfl
 have hzz := hz3 (F2.nost (by kernel_rfl))
 subst hzz
 obtain ⟨g6, cs6, E6, hg6, bx6, hs6, hz6⟩ := hAz 1 _ _ (by decide) rfl
 have hzz := hz6 (F2.nost (by kernel_rfl))
 subst hzz
 obtain ⟨g7, cs7, E7, hg7, bx7, hs7, hz7⟩ := hAz 2 _ _ (by decide) rfl
 have hzz := hz7 (F2.nost (by kernel_rfl))
 subst hzz
 have E8 : va 8 = _ := hOz 3 (by decide) rfl
 have hne3_6 : Hid (¬ g3 = g6) := hide (fun h => hNz 0 1 _ _ _ _ (by decide) (by decide) (by decide) rfl rfl (by rw [E3, E6, h]))
 have hne3_7 : Hid (¬ g3 = g7) := hide (fun h => hNz 0 2 _ _ _ _ (by decide) (by decide) (by decide) rfl rfl (by rw [E3, E7, h]))
 have hne6_7 : Hid (¬ g6 = g7) := hide (fun h => hNz 1 2 _ _ _ _ (by decide) (by decide) (by decide) rfl rfl (by rw [E6, E7, h]))
 simp only [Act.put, actv, fill, fC, fN, tA, cS, cZ]
 simp only [(show va 3 = _ from E3), (show va 6 = _ from E6), (show va 7 = _ from E7), E8]
 clear E3 E6 E7 E8
 have hge3 : w.heap.size ≤ g3 := Nat.le_trans HB.out.size hg3
 have hge6 : w.heap.size ≤ g6 := Nat.le_trans HB.out.size hg6
 have hge7 : w.heap.size ≤ g7 := Nat.le_trans HB.out.size hg7
 replace h0 := h0.ext hBz.ext
 replace HB := hide (HB.out.trans (hBz.below (B := w.heap.size) HB.out.size zE))
 clear hOz hAz hNz hSz hs3 hz3 hs6 hz6 hs7 hz7 hBz
 go_upto_region 1 with (fail)
 refine F2.regionS [.o, .o, .o, .o, .o] [Fact.eq ?cb15_, Fact.eq ?cb16_, Fact.eq ?cb17_, Fact.eq ?cb18_, Fact.eq ?cb9_] [15, 16, 17, 18, 9] [15, 16, 17, 18, 9] (by kernel_rfl) ?sob ?sopb (by kernel_rfl) ?stb ?finb
 case sob => exact fun x hx => by cases hx
 case sopb => exact List.Pairwise.nil
 case stb =>
  refine F2.Steps.consO rfl ?_ ?_
  ·
   intro vz wz hBz hDz hTz K hK
   have HW := hBz.ext
   have bx3z := hBz.blk bx3 zN
   obtain ⟨zl0, zl1, -⟩ := bx3z.two
   replace hK := hK.out
   apply Kept.mk
   simp only [F2.Wp, F2.fc, actv, fill, Act.put, sZ, sS, fC, fN, tA, cS, cZ] at hK ⊢
   go_simp
   refine hK _ wz (Below.refl _ _) (Fact.eq_mk ?_)
   with_reducible rfl
  refine F2.Steps.consO rfl ?_ ?_
  ·
   intro vz wz hBz hDz hTz K hK
   have HW := hBz.ext
   replace hK := hK.out
   apply Kept.mk
   simp only [F2.Wp, F2.fc, actv, fill, Act.put, sZ, sS, fC, fN, tA, cS, cZ] at hK ⊢
   go_simp
   refine hK _ wz (Below.refl _ _) (Fact.eq_mk ?_)
   with_reducible rfl
  refine F2.Steps.consO rfl ?_ ?_
  ·
   intro vz wz hBz hDz hTz K hK
   have HW := hBz.ext
   replace hK := hK.out
   apply Kept.mk
   simp only [F2.Wp, F2.fc, actv, fill, Act.put, sZ, sS, fC, fN, tA, cS, cZ] at hK ⊢
   go_simp
   refine hK _ wz (Below.refl _ _) (Fact.eq_mk ?_)
   with_reducible rfl
  refine F2.Steps.consO rfl ?_ ?_
  ·
   intro vz wz hBz hDz hTz K hK
   have E15 : vz 15 = _ := hDz 0 (by kernel_rfl) rfl
   have E16 : vz 16 = _ := hDz 1 (by kernel_rfl) rfl
   have E17 : vz 17 = _ := hDz 2 (by kernel_rfl) rfl
   have HW := hBz.ext
   replace hK := hK.out
   apply Kept.mk
   simp only [F2.Wp, F2.fc, actv, fill, Act.put, sZ, sS, fC, fN, tA, cS, cZ] at hK ⊢
   simp only [E15, E16, E17] at hK ⊢
   go_simp
   refine Calls.mono (HM2.out ▸ dmay_calls (h0.ext HW) (by omega) (by omega) (by omega) (by omega) (by omega)) ?_
   rintro e w2z ⟨hb2, uz, rfl, hf⟩
   go_wp2_with fail
   refine hK _ w2z hb2 (Fact.cast (hf) ?_)
   with_reducible rfl
  refine F2.Steps.consO rfl ?_ ?_
  ·
   intro vz wz hBz hDz hTz K hK
   have E18 : vz 18 = _ := hDz 3 (by kernel_rfl) rfl
   have HW := hBz.ext
   replace hK := hK.out
   apply Kept.mk
   simp only [F2.Wp, F2.fc, actv, fill, Act.put, sZ, sS, fC, fN, tA, cS, cZ] at hK ⊢
   simp only [E18] at hK ⊢
   go_simp
   refine hK _ wz (Below.refl _ _) (Fact.eq_mk ?_)
   with_reducible rfl
  exact F2.Steps.nil
 intro vb w2 hBz ⟨hOz, hAz, hNz, hSz⟩
 have E15 : vb 15 = _ := hOz 0 (by decide) rfl
 have E16 : vb 16 = _ := hOz 1 (by decide) rfl
 have E17 : vb 17 = _ := hOz 2 (by decide) rfl
 have E18 : vb 18 = _ := hOz 3 (by decide) rfl
 have E9 : vb 9 = _ := hOz 4 (by decide) rfl
 simp only [Act.put, actv, fill, fC, fN, tA, cS, cZ]
 simp only [E15, E16, E17, E18, E9]
 clear E15 E16 E17 E18 E9
 replace h0 := h0.ext hBz.ext
 replace bx3 := hBz.blk bx3 zN
 replace bx6 := hBz.blk bx6 zN
 replace bx7 := hBz.blk bx7 zN
 replace HB := hide (HB.out.trans (hBz.below (B := w.heap.size) HB.out.size zE))
 clear hOz hAz hNz hSz hBz
 go_upto_region 2 with (fail)
 refine F2.regionS [.o, .o] [Fact.eq ?cc19_, Fact.eq ?cc20_] [19, 20] [19, 20] (by kernel_rfl) ?soc ?sopc (by kernel_rfl) ?stc ?finc
 case soc => exact fun x hx => by cases hx
 case sopc => exact List.Pairwise.nil
 case stc =>
  refine F2.Steps.consO rfl ?_ ?_
  ·
   intro vz wz hBz hDz hTz K hK
   have HW := hBz.ext
   replace hK := hK.out
   apply Kept.mk
   simp only [F2.Wp, F2.fc, actv, fill, Act.put, sZ, sS, fC, fN, tA, cS, cZ] at hK ⊢
   go_simp
   refine hK _ wz (Below.refl _ _) (Fact.eq_mk ?_)
   with_reducible rfl
  refine F2.Steps.consO rfl ?_ ?_
  ·
   intro vz wz hBz hDz hTz K hK
   have E19 : vz 19 = _ := hDz 0 (by kernel_rfl) rfl
   have HW := hBz.ext
   replace hK := hK.out
   apply Kept.mk
   simp only [F2.Wp, F2.fc, actv, fill, Act.put, sZ, sS, fC, fN, tA, cS, cZ] at hK ⊢
   simp only [E19] at hK ⊢
   go_simp
   refine hK _ wz (Below.refl _ _) (Fact.eq_mk ?_)
   with_reducible rfl
  exact F2.Steps.nil
 intro vc w3 hBz ⟨hOz, hAz, hNz, hSz⟩
 have E19 : vc 19 = _ := hOz 0 (by decide) rfl
 have E20 : vc 20 = _ := hOz 1 (by decide) rfl
 simp only [Act.put, actv, fill, fC, fN, tA, cS, cZ]
 simp only [E19, E20]
 clear E19 E20
 replace h0 := h0.ext hBz.ext
 replace bx3 := hBz.blk bx3 zN
 replace bx6 := hBz.blk bx6 zN
 replace bx7 := hBz.blk bx7 zN
 replace HB := hide (HB.out.trans (hBz.below (B := w.heap.size) HB.out.size zE))
 clear hOz hAz hNz hSz hBz
 cases mm with
 | false =>
  go_upto_region 3 with (fail)
  refine F2.regionS [.o, .o, .so (g6) 24 #[.bool false, .slice none 0 0], .so (g7) 24 #[.bool false, .slice none 0 0], .o] [Fact.eq ?cd21_, Fact.eq ?cd22_, Fact.z ?kds6_ ?zds6_, Fact.z ?kds7_ ?zds7_, Fact.eq ?cd8_] [21, 22, 8] [21, 22, 0, 0, 8] (by kernel_rfl) ?sod ?sopd (by kernel_rfl) ?std ?find
  case sod => exact List.forall_mem_cons.2 ⟨⟨bx6, NoU.two nB nS⟩, List.forall_mem_cons.2 ⟨⟨bx7, NoU.two nB nS⟩, fun x hx => by cases hx⟩⟩
  case sopd => exact List.Pairwise.cons (by intro y hy; simp [F2.sos] at hy; have hne6_7 := hne6_7.out; first | (subst hy; simp; done) | (subst hy; simp; omega) | (rcases hy with rfl | rfl <;> simp <;> omega)) (List.Pairwise.cons (fun y hy => by cases hy) (List.Pairwise.nil))
  case std =>
   refine F2.Steps.consO rfl ?_ ?_
   ·
    intro vz wz hBz hDz hTz K hK
    have HW := hBz.ext
    replace hK := hK.out
    apply Kept.mk
    simp only [F2.Wp, F2.fc, actv, fill, Act.put, sZ, sS, fC, fN, tA, cS, cZ] at hK ⊢
    go_simp
    refine hK _ wz (Below.refl _ _) (Fact.eq_mk ?_)
    with_reducible rfl
   refine F2.Steps.consO rfl ?_ ?_
   ·
    intro vz wz hBz hDz hTz K hK
    have HW := hBz.ext
    replace hK := hK.out
    apply Kept.mk
    simp only [F2.Wp, F2.fc, actv, fill, Act.put, sZ, sS, fC, fN, tA, cS, cZ] at hK ⊢
    go_simp
    refine hK _ wz (Below.refl _ _) (Fact.eq_mk ?_)
    with_reducible rfl
   refine F2.Steps.consT rfl ?_ ?_
   ·
    intro vz wz hBz hDz hbz K hK
    obtain ⟨zc0, zc1, zc2, zc3⟩ := hbz.two
    have E21 : vz 21 = _ := hDz 0 (by kernel_rfl) rfl
    have HW := hBz.ext
    replace hK := hK.out
    apply Kept.mk
    simp only [F2.Wp, F2.fc, actv, fill, Act.put, sZ, sS, fC, fN, tA, cS, cZ] at hK ⊢
    simp only [E21] at hK ⊢
    go_simp
    refine hK _ ((Far.set _ _ 0 _).trans (Far.set _ _ 1 _)) ⟨_, blk_two hbz, NoU.two nB nS, Fact.cast (Fact.z_mk (QB.zero _ 0 0)) ?_⟩
    with_reducible rfl
   refine F2.Steps.consT rfl ?_ ?_
   ·
    intro vz wz hBz hDz hbz K hK
    obtain ⟨zc0, zc1, zc2, zc3⟩ := hbz.two
    have E22 : vz 22 = _ := hDz 1 (by kernel_rfl) rfl
    have HW := hBz.ext
    replace hK := hK.out
    apply Kept.mk
    simp only [F2.Wp, F2.fc, actv, fill, Act.put, sZ, sS, fC, fN, tA, cS, cZ] at hK ⊢
    simp only [E22] at hK ⊢
    go_simp
    refine hK _ ((Far.set _ _ 0 _).trans (Far.set _ _ 1 _)) ⟨_, blk_two hbz, NoU.two nB nS, Fact.cast (Fact.z_mk (QB.zero _ 0 0)) ?_⟩
    with_reducible rfl
   refine F2.Steps.consO rfl ?_ ?_
   ·
    intro vz wz hBz hDz hTz K hK
    have HW := hBz.ext
    replace hK := hK.out
    apply Kept.mk
    simp only [F2.Wp, F2.fc, actv, fill, Act.put, sZ, sS, fC, fN, tA, cS, cZ] at hK ⊢
    go_simp
    refine hK _ wz (Below.refl _ _) (Fact.eq_mk ?_)
    with_reducible rfl
   exact F2.Steps.nil
  intro vd w4 hBz ⟨hOz, hAz, hNz, hSz⟩
  have E21 : vd 21 = _ := hOz 0 (by decide) rfl
  have E22 : vd 22 = _ := hOz 1 (by decide) rfl
  obtain ⟨cs6, bx6n, hs6⟩ := hSz 2 _ _ _ (by decide) rfl
  obtain ⟨n6sd_, A6sd_, l6sd_, c6sd_, E6sd, q6sd⟩ : IntV 0 _ _ w4 (.agg cs6) := hs6
  injection E6sd with E6sd
  subst E6sd
  obtain ⟨cs7, bx7n, hs7⟩ := hSz 3 _ _ _ (by decide) rfl
  obtain ⟨n7sd_, A7sd_, l7sd_, c7sd_, E7sd, q7sd⟩ : IntV 0 _ _ w4 (.agg cs7) := hs7
  injection E7sd with E7sd
  subst E7sd
  have E8 : vd 8 = _ := hOz 4 (by decide) rfl
  simp only [Act.put, actv, fill, fC, fN, tA, cS, cZ]
  simp only [E21, E22, E8]
  clear E21 E22 E8
  replace h0 := h0.ext hBz.ext
  replace bx3 := hBz.blk bx3 (zM hne3_6.out (zM hne3_7.out zN))
  replace HB := hide (HB.out.trans (hBz.below (B := w.heap.size) HB.out.size (zA hge6 (zA hge7 zE))))
  clear bx6
  clear bx7
  have bx6 := bx6n
  clear bx6n
  have bx7 := bx7n
  clear bx7n
  clear hOz hAz hNz hSz hBz
  go_wp2_with fail
  refine bodyPost_ret (results_int_int_tmp rfl _ _ _ _ _ _ _ _ _ _ rfl bx6 rfl bx7) rfl ⟨HB.out, ?_⟩
  exact VF.mk (Fact.t3_mk (Fact.z_mk (q6sd.up (by omega))) (Fact.z_mk (q7sd.up (by omega))) (Fact.eq_self _ _))
 | true =>
  obtain ⟨hq, hn, ht0, hT⟩ := mayR_true HM.out
  have HT := hide hT
  clear hT
  obtain ⟨N, rfl⟩ : ∃ N : Nat, n = (N : Int) := ⟨n.toNat, by omega⟩
  have HL := hide (lim_exp (q := q) ht0 HT.out)
  have HX := hide (one_le hq.2)
  have HA := hide (HL.out.la HX.out)
  have HB_ := hide (HL.out.lb HX.out)
  have HS := hide (HL.out.sa HX.out)
  have HT2 := hide (HL.out.sb HX.out)
  clear HL HX
  go_upto_region 4 with (fail)
  refine F2.regionS [.o, .o, .o, .al 24 #[.bool false, .slice none 0 0], .st 3] [Fact.z ?ke23_ ?ze23_, Fact.eq ?ce24_, Fact.z ?ke25_ ?ze25_, Fact.any, Fact.z ?kes10_ ?zes10_] [23, 24, 25, 10] [23, 24, 25, 10, 0] (by kernel_rfl) ?soe ?sope (by kernel_rfl) ?ste ?fine
  case soe => exact fun x hx => by cases hx
  case sope => exact List.Pairwise.nil
  case ste =>
   refine F2.Steps.consO rfl ?_ ?_
   ·
    intro vz wz hBz hDz hTz K hK
    have HW := hBz.ext
    replace hK := hK.out
    apply Kept.mk
    simp only [F2.Wp, F2.fc, actv, fill, Act.put, sZ, sS, fC, fN, tA, cS, cZ] at hK ⊢
    go_simp
    refine Calls.mono (u_of  (by omega) (by omega)) ?_
    rintro e w2z ⟨hb2, uz, rfl, hf⟩
    go_wp2_with fail
    refine hK _ w2z hb2 (Fact.cast (hf) ?_)
    with_reducible rfl
   refine F2.Steps.consO rfl ?_ ?_
   ·
    intro vz wz hBz hDz hTz K hK
    have HW := hBz.ext
    replace hK := hK.out
    apply Kept.mk
    simp only [F2.Wp, F2.fc, actv, fill, Act.put, sZ, sS, fC, fN, tA, cS, cZ] at hK ⊢
    go_simp
    refine hK _ wz (Below.refl _ _) (Fact.eq_mk ?_)
    with_reducible rfl
   refine F2.Steps.consO rfl ?_ ?_
   ·
    intro vz wz hBz hDz hTz K hK
    obtain ⟨n23_, A23_, l23_, c23_, E23, q23⟩ : IntV 0 _ _ wz (vz 23) := hDz 0 (by kernel_rfl) rfl
    have E24 : vz 24 = _ := hDz 1 (by kernel_rfl) rfl
    have HW := hBz.ext
    replace hK := hK.out
    apply Kept.mk
    simp only [F2.Wp, F2.fc, actv, fill, Act.put, sZ, sS, fC, fN, tA, cS, cZ] at hK ⊢
    simp only [E23, E24] at hK ⊢
    go_simp
    refine Calls.mono (u_shl q23.q (by omega) (by omega) (by omega)) ?_
    rintro e w2z ⟨hb2, uz, rfl, hf⟩
    go_wp2_with fail
    refine hK _ w2z hb2 (Fact.cast (hf) ?_)
    with_reducible rfl
   refine F2.Steps.consA rfl ⟨NoU.two nB nS, ?_⟩ ?_
   ·
    intro vz wz hBz K hK
    replace hK := hK.out
    apply Kept.mk
    simp only [F2.Wp, F2.fc, actv, fill, Act.put, sZ, sS, fC, fN, tA, cS, cZ] at hK ⊢
    go_simp
    exact hK
   refine F2.Steps.consS rfl rfl ?_ ?_
   ·
    intro vz wz gz hBz hDz E10' hgz hbz K hK
    obtain ⟨zc0, zc1, zc2, zc3⟩ := hbz.two
    obtain ⟨n25_, A25_, l25_, c25_, E25, q25⟩ : IntV 0 _ _ wz (vz 25) := hDz 2 (by kernel_rfl) rfl
    have E10 : vz 10 = .pointer (some ⟨gz, 0, none⟩) := E10'
    have HW := hBz.ext
    replace hK := hK.out
    apply Kept.mk
    simp only [F2.Wp, F2.fc, actv, fill, Act.put, sZ, sS, fC, fN, tA, cS, cZ] at hK ⊢
    simp only [E10, E25] at hK ⊢
    go_simp
    refine hK _ ((Far.set _ gz 0 _).trans (Far.set _ gz 1 _)) ⟨_, blk_two hbz, NoU.two nB nS, Fact.cast (Fact.z_mk q25) ?_⟩
    with_reducible rfl
   exact F2.Steps.nil
  intro ve w5 hBz ⟨hOz, hAz, hNz, hSz⟩
  obtain ⟨n23_, A23_, l23_, c23_, E23, q23⟩ : IntV 0 _ _ w5 (ve 23) := hOz 0 (by decide) rfl
  have E24 : ve 24 = _ := hOz 1 (by decide) rfl
  obtain ⟨n25_, A25_, l25_, c25_, E25, q25⟩ : IntV 0 _ _ w5 (ve 25) := hOz 2 (by decide) rfl
  obtain ⟨g10, cs10, E10, hg10, bx10, hs10, hz10⟩ := hAz 3 _ _ (by decide) rfl
  obtain ⟨n10se_, A10se_, l10se_, c10se_, E10se, q10se⟩ : IntV 0 _ _ w5 (.agg cs10) := hs10 4 (by decide) rfl
  injection E10se with E10se
  subst E10se
  simp only [Act.put, actv, fill, fC, fN, tA, cS, cZ]
  simp only [E23, E24, E25, (show ve 10 = _ from E10)]
  clear E23 E24 E25 E10
  have hge10 : w.heap.size ≤ g10 := Nat.le_trans HB.out.size hg10
  have hne10_3 := hide (Nat.ne_of_gt (Nat.lt_of_lt_of_le bx3.lt (show w3.heap.size ≤ g10 from hg10)))
  have hne10_6 := hide (Nat.ne_of_gt (Nat.lt_of_lt_of_le bx6.lt (show w3.heap.size ≤ g10 from hg10)))
  have hne10_7 := hide (Nat.ne_of_gt (Nat.lt_of_lt_of_le bx7.lt (show w3.heap.size ≤ g10 from hg10)))
  replace h0 := h0.ext hBz.ext
  replace bx3 := hBz.blk bx3 zN
  replace bx6 := hBz.blk bx6 zN
  replace bx7 := hBz.blk bx7 zN
  replace HB := hide (HB.out.trans (hBz.below (B := w.heap.size) HB.out.size zE))
  clear hOz hAz hNz hSz hs10 hz10 hBz
  go_upto_region 5 with (fail)
  refine F2.regionS [.o, .al 24 #[.bool false, .slice none 0 0], .st 1] [Fact.eq ?cf26_, Fact.any, Fact.z ?kfs11_ ?zfs11_] [26, 11] [26, 11, 0] (by kernel_rfl) ?sof ?sopf (by kernel_rfl) ?stf ?finf
  case sof => exact fun x hx => by cases hx
  case sopf => exact List.Pairwise.nil
  case stf =>
   refine F2.Steps.consO rfl ?_ ?_
   ·
    intro vz wz hBz hDz hTz K hK
    have HW := hBz.ext
    have bx10z := hBz.blk bx10 zN
    obtain ⟨zl0, zl1, -⟩ := bx10z.two
    replace hK := hK.out
    apply Kept.mk
    simp only [F2.Wp, F2.fc, actv, fill, Act.put, sZ, sS, fC, fN, tA, cS, cZ] at hK ⊢
    go_simp
    refine hK _ wz (Below.refl _ _) (Fact.eq_mk ?_)
    with_reducible rfl
   refine F2.Steps.consA rfl ⟨NoU.two nB nS, ?_⟩ ?_
   ·
    intro vz wz hBz K hK
    replace hK := hK.out
    apply Kept.mk
    simp only [F2.Wp, F2.fc, actv, fill, Act.put, sZ, sS, fC, fN, tA, cS, cZ] at hK ⊢
    go_simp
    exact hK
   refine F2.Steps.consS rfl rfl ?_ ?_
   ·
    intro vz wz gz hBz hDz E11' hgz hbz K hK
    obtain ⟨zc0, zc1, zc2, zc3⟩ := hbz.two
    have E26 : vz 26 = _ := hDz 0 (by kernel_rfl) rfl
    have E11 : vz 11 = .pointer (some ⟨gz, 0, none⟩) := E11'
    have HW := hBz.ext
    replace hK := hK.out
    apply Kept.mk
    simp only [F2.Wp, F2.fc, actv, fill, Act.put, sZ, sS, fC, fN, tA, cS, cZ] at hK ⊢
    simp only [E11, E26] at hK ⊢
    go_simp
    refine hK _ ((Far.set _ gz 0 _).trans (Far.set _ gz 1 _)) ⟨_, blk_two hbz, NoU.two nB nS, Fact.cast (Fact.z_mk (q10se.ext HW)) ?_⟩
    with_reducible rfl
   exact F2.Steps.nil
  intro vf w6 hBz ⟨hOz, hAz, hNz, hSz⟩
  have E26 : vf 26 = _ := hOz 0 (by decide) rfl
  obtain ⟨g11, cs11, E11, hg11, bx11, hs11, hz11⟩ := hAz 1 _ _ (by decide) rfl
  obtain ⟨n11sf_, A11sf_, l11sf_, c11sf_, E11sf, q11sf⟩ : IntV 0 _ _ w6 (.agg cs11) := hs11 2 (by decide) rfl
  injection E11sf with E11sf
  subst E11sf
  simp only [Act.put, actv, fill, fC, fN, tA, cS, cZ]
  simp only [E26, (show vf 11 = _ from E11)]
  clear E26 E11
  have hge11 : w.heap.size ≤ g11 := Nat.le_trans HB.out.size hg11
  have hne11_3 := hide (Nat.ne_of_gt (Nat.lt_of_lt_of_le bx3.lt (show w5.heap.size ≤ g11 from hg11)))
  have hne11_6 := hide (Nat.ne_of_gt (Nat.lt_of_lt_of_le bx6.lt (show w5.heap.size ≤ g11 from hg11)))
  have hne11_7 := hide (Nat.ne_of_gt (Nat.lt_of_lt_of_le bx7.lt (show w5.heap.size ≤ g11 from hg11)))
  have hne11_10 := hide (Nat.ne_of_gt (Nat.lt_of_lt_of_le bx10.lt (show w5.heap.size ≤ g11 from hg11)))
  replace h0 := h0.ext hBz.ext
  replace q10se := q10se.ext hBz.ext
  replace bx3 := hBz.blk bx3 zN
  replace bx6 := hBz.blk bx6 zN
  replace bx7 := hBz.blk bx7 zN
  replace bx10 := hBz.blk bx10 zN
  replace HB := hide (HB.out.trans (hBz.below (B := w.heap.size) HB.out.size zE))
  clear hOz hAz hNz hSz hs11 hz11 hBz
  go_upto_region 6 with (fail)
  refine F2.regionS [.o, .al 24 #[.bool false, .slice none 0 0], .st 1] [Fact.eq ?cg27_, Fact.any, Fact.z ?kgs12_ ?zgs12_] [27, 12] [27, 12, 0] (by kernel_rfl) ?sog ?sopg (by kernel_rfl) ?stg ?fing
  case sog => exact fun x hx => by cases hx
  case sopg => exact List.Pairwise.nil
  case stg =>
   refine F2.Steps.consO rfl ?_ ?_
   ·
    intro vz wz hBz hDz hTz K hK
    have HW := hBz.ext
    replace hK := hK.out
    apply Kept.mk
    simp only [F2.Wp, F2.fc, actv, fill, Act.put, sZ, sS, fC, fN, tA, cS, cZ] at hK ⊢
    go_simp
    refine hK _ wz (Below.refl _ _) (Fact.eq_mk ?_)
    with_reducible rfl
   refine F2.Steps.consA rfl ⟨NoU.two nB nS, ?_⟩ ?_
   ·
    intro vz wz hBz K hK
    replace hK := hK.out
    apply Kept.mk
    simp only [F2.Wp, F2.fc, actv, fill, Act.put, sZ, sS, fC, fN, tA, cS, cZ] at hK ⊢
    go_simp
    exact hK
   refine F2.Steps.consS rfl rfl ?_ ?_
   ·
    intro vz wz gz hBz hDz E12' hgz hbz K hK
    obtain ⟨zc0, zc1, zc2, zc3⟩ := hbz.two
    have E27 : vz 27 = _ := hDz 0 (by kernel_rfl) rfl
    have E12 : vz 12 = .pointer (some ⟨gz, 0, none⟩) := E12'
    have HW := hBz.ext
    replace hK := hK.out
    apply Kept.mk
    simp only [F2.Wp, F2.fc, actv, fill, Act.put, sZ, sS, fC, fN, tA, cS, cZ] at hK ⊢
    simp only [E12, E27] at hK ⊢
    go_simp
    refine hK _ ((Far.set _ gz 0 _).trans (Far.set _ gz 1 _)) ⟨_, blk_two hbz, NoU.two nB nS, Fact.cast (Fact.z_mk (QB.zero _ 0 0)) ?_⟩
    with_reducible rfl
   exact F2.Steps.nil
  intro vg w7 hBz ⟨hOz, hAz, hNz, hSz⟩
  have E27 : vg 27 = _ := hOz 0 (by decide) rfl
  obtain ⟨g12, cs12, E12, hg12, bx12, hs12, hz12⟩ := hAz 1 _ _ (by decide) rfl
  obtain ⟨n12sg_, A12sg_, l12sg_, c12sg_, E12sg, q12sg⟩ : IntV 0 _ _ w7 (.agg cs12) := hs12 2 (by decide) rfl
  injection E12sg with E12sg
  subst E12sg
  simp only [Act.put, actv, fill, fC, fN, tA, cS, cZ]
  simp only [E27, (show vg 12 = _ from E12)]
  clear E27 E12
  have hge12 : w.heap.size ≤ g12 := Nat.le_trans HB.out.size hg12
  have hne12_3 := hide (Nat.ne_of_gt (Nat.lt_of_lt_of_le bx3.lt (show w6.heap.size ≤ g12 from hg12)))
  have hne12_6 := hide (Nat.ne_of_gt (Nat.lt_of_lt_of_le bx6.lt (show w6.heap.size ≤ g12 from hg12)))
  have hne12_7 := hide (Nat.ne_of_gt (Nat.lt_of_lt_of_le bx7.lt (show w6.heap.size ≤ g12 from hg12)))
  have hne12_10 := hide (Nat.ne_of_gt (Nat.lt_of_lt_of_le bx10.lt (show w6.heap.size ≤ g12 from hg12)))
  have hne12_11 := hide (Nat.ne_of_gt (Nat.lt_of_lt_of_le bx11.lt (show w6.heap.size ≤ g12 from hg12)))
  replace h0 := h0.ext hBz.ext
  replace q10se := q10se.ext hBz.ext
  replace q11sf := q11sf.ext hBz.ext
  replace bx3 := hBz.blk bx3 zN
  replace bx6 := hBz.blk bx6 zN
  replace bx7 := hBz.blk bx7 zN
  replace bx10 := hBz.blk bx10 zN
  replace bx11 := hBz.blk bx11 zN
  replace HB := hide (HB.out.trans (hBz.below (B := w.heap.size) HB.out.size zE))
  clear hOz hAz hNz hSz hs12 hz12 hBz
  go_upto_region 7 with (fail)
  refine F2.regionS [.o, .al 24 #[.bool false, .slice none 0 0], .st 1] [Fact.eq ?ch28_, Fact.any, Fact.z ?khs13_ ?zhs13_] [28, 13] [28, 13, 0] (by kernel_rfl) ?soh ?soph (by kernel_rfl) ?sth ?finh
  case soh => exact fun x hx => by cases hx
  case soph => exact List.Pairwise.nil
  case sth =>
   refine F2.Steps.consO rfl ?_ ?_
   ·
    intro vz wz hBz hDz hTz K hK
    have HW := hBz.ext
    replace hK := hK.out
    apply Kept.mk
    simp only [F2.Wp, F2.fc, actv, fill, Act.put, sZ, sS, fC, fN, tA, cS, cZ] at hK ⊢
    go_simp
    refine hK _ wz (Below.refl _ _) (Fact.eq_mk ?_)
    with_reducible rfl
   refine F2.Steps.consA rfl ⟨NoU.two nB nS, ?_⟩ ?_
   ·
    intro vz wz hBz K hK
    replace hK := hK.out
    apply Kept.mk
    simp only [F2.Wp, F2.fc, actv, fill, Act.put, sZ, sS, fC, fN, tA, cS, cZ] at hK ⊢
    go_simp
    exact hK
   refine F2.Steps.consS rfl rfl ?_ ?_
   ·
    intro vz wz gz hBz hDz E13' hgz hbz K hK
    obtain ⟨zc0, zc1, zc2, zc3⟩ := hbz.two
    have E28 : vz 28 = _ := hDz 0 (by kernel_rfl) rfl
    have E13 : vz 13 = .pointer (some ⟨gz, 0, none⟩) := E13'
    have HW := hBz.ext
    replace hK := hK.out
    apply Kept.mk
    simp only [F2.Wp, F2.fc, actv, fill, Act.put, sZ, sS, fC, fN, tA, cS, cZ] at hK ⊢
    simp only [E13, E28] at hK ⊢
    go_simp
    refine hK _ ((Far.set _ gz 0 _).trans (Far.set _ gz 1 _)) ⟨_, blk_two hbz, NoU.two nB nS, Fact.cast (Fact.z_mk (QB.zero _ 0 0)) ?_⟩
    with_reducible rfl
   exact F2.Steps.nil
  intro vh w8 hBz ⟨hOz, hAz, hNz, hSz⟩
  have E28 : vh 28 = _ := hOz 0 (by decide) rfl
  obtain ⟨g13, cs13, E13, hg13, bx13, hs13, hz13⟩ := hAz 1 _ _ (by decide) rfl
  obtain ⟨n13sh_, A13sh_, l13sh_, c13sh_, E13sh, q13sh⟩ : IntV 0 _ _ w8 (.agg cs13) := hs13 2 (by decide) rfl
  injection E13sh with E13sh
  subst E13sh
  simp only [Act.put, actv, fill, fC, fN, tA, cS, cZ]
  simp only [E28, (show vh 13 = _ from E13)]
  clear E28 E13
  have hge13 : w.heap.size ≤ g13 := Nat.le_trans HB.out.size hg13
  have hne13_3 := hide (Nat.ne_of_gt (Nat.lt_of_lt_of_le bx3.lt (show w7.heap.size ≤ g13 from hg13)))
  have hne13_6 := hide (Nat.ne_of_gt (Nat.lt_of_lt_of_le bx6.lt (show w7.heap.size ≤ g13 from hg13)))
  have hne13_7 := hide (Nat.ne_of_gt (Nat.lt_of_lt_of_le bx7.lt (show w7.heap.size ≤ g13 from hg13)))
  have hne13_10 := hide (Nat.ne_of_gt (Nat.lt_of_lt_of_le bx10.lt (show w7.heap.size ≤ g13 from hg13)))
  have hne13_11 := hide (Nat.ne_of_gt (Nat.lt_of_lt_of_le bx11.lt (show w7.heap.size ≤ g13 from hg13)))
  have hne13_12 := hide (Nat.ne_of_gt (Nat.lt_of_lt_of_le bx12.lt (show w7.heap.size ≤ g13 from hg13)))
  replace h0 := h0.ext hBz.ext
  replace q10se := q10se.ext hBz.ext
  replace q11sf := q11sf.ext hBz.ext
  replace q12sg := q12sg.ext hBz.ext
  replace bx3 := hBz.blk bx3 zN
  replace bx6 := hBz.blk bx6 zN
  replace bx7 := hBz.blk bx7 zN
  replace bx10 := hBz.blk bx10 zN
  replace bx11 := hBz.blk bx11 zN
  replace bx12 := hBz.blk bx12 zN
  replace HB := hide (HB.out.trans (hBz.below (B := w.heap.size) HB.out.size zE))
  clear hOz hAz hNz hSz hs13 hz13 hBz
  go_upto_region 8 with (fail)
  refine F2.regionS [.o] [Fact.eq ?ci14_] [14] [14] (by kernel_rfl) ?soi ?sopi (by kernel_rfl) ?sti ?fini
  case soi => exact fun x hx => by cases hx
  case sopi => exact List.Pairwise.nil
  case sti =>
   refine F2.Steps.consO rfl ?_ ?_
   ·
    intro vz wz hBz hDz hTz K hK
    have HW := hBz.ext
    replace hK := hK.out
    apply Kept.mk
    simp only [F2.Wp, F2.fc, actv, fill, Act.put, sZ, sS, fC, fN, tA, cS, cZ] at hK ⊢
    go_simp
    refine hK _ wz (Below.refl _ _) (Fact.eq_mk ?_)
    with_reducible rfl
   exact F2.Steps.nil
  intro vi w9 hBz ⟨hOz, hAz, hNz, hSz⟩
  have E14 : vi 14 = _ := hOz 0 (by decide) rfl
  simp only [Act.put, actv, fill, fC, fN, tA, cS, cZ]
  simp only [E14]
  clear E14
  replace h0 := h0.ext hBz.ext
  replace q10se := q10se.ext hBz.ext
  replace q11sf := q11sf.ext hBz.ext
  replace q12sg := q12sg.ext hBz.ext
  replace q13sh := q13sh.ext hBz.ext
  replace bx3 := hBz.blk bx3 zN
  replace bx6 := hBz.blk bx6 zN
  replace bx7 := hBz.blk bx7 zN
  replace bx10 := hBz.blk bx10 zN
  replace bx11 := hBz.blk bx11 zN
  replace bx12 := hBz.blk bx12 zN
  replace bx13 := hBz.blk bx13 zN
  replace HB := hide (HB.out.trans (hBz.below (B := w.heap.size) HB.out.size zE))
  clear hOz hAz hNz hSz hBz
  go_wp2_with fail
  go_loopw [14] (fun iv wr10 => ∃ i : Nat, i ≤ N ∧ iv = .int .i64 ((i : Int) + 1) ∧ Low [g10, g11, g12, g13] w9 wr10 ∧ True ∧ (∃ n10a A10a l10a c10a, Blk wr10 (g10) 24 #[.bool n10a, .slice A10a l10a c10a] ∧ Q wr10 (40) n10a A10a l10a c10a ((rA (dExp q) x0 (1 * 2 ^ q.toNat) i))) ∧ (∃ n11a A11a l11a c11a, Blk wr10 (g11) 24 #[.bool n11a, .slice A11a l11a c11a] ∧ Q wr10 (40) n11a A11a l11a c11a ((rB (dExp q) x0 (1 * 2 ^ q.toNat) i))) ∧ (∃ n12a A12a l12a c12a, Blk wr10 (g12) 24 #[.bool n12a, .slice A12a l12a c12a] ∧ QB wr10 0 (40) n12a A12a l12a c12a ((su (rA (dExp q) x0 (1 * 2 ^ q.toNat)) i))) ∧ (∃ n13a A13a l13a c13a, Blk wr10 (g13) 24 #[.bool n13a, .slice A13a l13a c13a] ∧ Q wr10 (40) n13a A13a l13a c13a ((su (rB (dExp q) x0 (1 * 2 ^ q.toNat)) i)))) (fun iv _ => N + 1 - (intOf iv).toNat)
  case atStart => exact ⟨0, by omega, rfl, Low.refl _ _, trivial, ⟨_, _, _, _, bx10, (q10se.up (by omega)).q⟩, ⟨_, _, _, _, bx11, (q11sf.up (by omega)).q⟩, ⟨_, _, _, _, bx12, (q12sg.up (by omega))⟩, ⟨_, _, _, _, bx13, (q13sh.up (by omega)).q⟩⟩
  case round =>
   obtain ⟨i, hi, rfl, HL10, hmore, ⟨n10a, A10a, l10a, c10a, bx10, q10a⟩, ⟨n11a, A11a, l11a, c11a, bx11, q11a⟩, ⟨n12a, A12a, l12a, c12a, bx12, q12a⟩, ⟨n13a, A13a, l13a, c13a, bx13, q13a⟩⟩ := hrel
   replace h0 := h0.ext HL10.ext
   replace bx3 := HL10.blk bx3 (zM (Ne.symm hne10_3.out) (zM (Ne.symm hne11_3.out) (zM (Ne.symm hne12_3.out) (zM (Ne.symm hne13_3.out) zN))))
   replace bx6 := HL10.blk bx6 (zM (Ne.symm hne10_6.out) (zM (Ne.symm hne11_6.out) (zM (Ne.symm hne12_6.out) (zM (Ne.symm hne13_6.out) zN))))
   replace bx7 := HL10.blk bx7 (zM (Ne.symm hne10_7.out) (zM (Ne.symm hne11_7.out) (zM (Ne.symm hne12_7.out) (zM (Ne.symm hne13_7.out) zN))))
   replace HB := hide (HB.out.trans (HL10.below (B := w.heap.size) HB.out.size (zA hge10 (zA hge11 (zA hge12 (zA hge13 zE))))))
   have hszHL10 := HL10.size
   by_cases hlti : i < N
   ·
    have hlti' : (i : Int) + 1 ≤ (N : Nat) := by omega
    go_upto_region 11 with (fail)
    refine F2.regionS [.o, .o, .o, .so (g12) 24 #[.bool n12a, .slice A12a l12a c12a]] [Fact.eq ?ck34_, Fact.eq ?ck35_, Fact.z ?kk36_ ?zk36_, Fact.z ?kks12_ ?zks12_] [34, 35, 36] [34, 35, 36, 0] (by kernel_rfl) ?sok ?sopk (by kernel_rfl) ?stk ?fink
    case sok => exact List.forall_mem_cons.2 ⟨⟨bx12, NoU.two nB nS⟩, fun x hx => by cases hx⟩
    case sopk => exact List.Pairwise.cons (fun y hy => by cases hy) (List.Pairwise.nil)
    case stk =>
     refine F2.Steps.consO rfl ?_ ?_
     ·
      intro vz wz hBz hDz hTz K hK
      have HW := hBz.ext
      have bx12z := hTz 3 _ _ _ _ rfl rfl (by kernel_rfl)
      obtain ⟨zl0, zl1, -⟩ := bx12z.two
      replace hK := hK.out
      apply Kept.mk
      simp only [F2.Wp, F2.fc, actv, fill, Act.put, sZ, sS, fC, fN, tA, cS, cZ] at hK ⊢
      go_simp
      refine hK _ wz (Below.refl _ _) (Fact.eq_mk ?_)
      with_reducible rfl
     refine F2.Steps.consO rfl ?_ ?_
     ·
      intro vz wz hBz hDz hTz K hK
      have HW := hBz.ext
      have bx10z := hBz.blk bx10 (zM (Ne.symm hne12_10.out) zN)
      obtain ⟨zl0, zl1, -⟩ := bx10z.two
      replace hK := hK.out
      apply Kept.mk
      simp only [F2.Wp, F2.fc, actv, fill, Act.put, sZ, sS, fC, fN, tA, cS, cZ] at hK ⊢
      go_simp
      refine hK _ wz (Below.refl _ _) (Fact.eq_mk ?_)
      with_reducible rfl
     refine F2.Steps.consO rfl ?_ ?_
     ·
      intro vz wz hBz hDz hTz K hK
      have E34 : vz 34 = _ := hDz 0 (by kernel_rfl) rfl
      have E35 : vz 35 = _ := hDz 1 (by kernel_rfl) rfl
      have HW := hBz.ext
      replace hK := hK.out
      apply Kept.mk
      simp only [F2.Wp, F2.fc, actv, fill, Act.put, sZ, sS, fC, fN, tA, cS, cZ] at hK ⊢
      simp only [E34, E35] at hK ⊢
      go_simp
      refine Calls.mono (u_add (q12a.ext HW).q (q10a.ext HW) (by omega) (by omega)) ?_
      rintro e w2z ⟨hb2, uz, rfl, hf⟩
      go_wp2_with fail
      refine hK _ w2z hb2 (Fact.cast (hf) ?_)
      with_reducible rfl
     refine F2.Steps.consT rfl ?_ ?_
     ·
      intro vz wz hBz hDz hbz K hK
      obtain ⟨zc0, zc1, zc2, zc3⟩ := hbz.two
      obtain ⟨n36_, A36_, l36_, c36_, E36, q36⟩ : IntV 0 _ _ wz (vz 36) := hDz 2 (by kernel_rfl) rfl
      have HW := hBz.ext
      replace hK := hK.out
      apply Kept.mk
      simp only [F2.Wp, F2.fc, actv, fill, Act.put, sZ, sS, fC, fN, tA, cS, cZ] at hK ⊢
      simp only [E36] at hK ⊢
      go_simp
      refine hK _ ((Far.set _ _ 0 _).trans (Far.set _ _ 1 _)) ⟨_, blk_two hbz, NoU.two nB nS, Fact.cast (Fact.z_mk q36) ?_⟩
      with_reducible rfl
     exact F2.Steps.nil
    intro vk w11 hBz ⟨hOz, hAz, hNz, hSz⟩
    have E34 : vk 34 = _ := hOz 0 (by decide) rfl
    have E35 : vk 35 = _ := hOz 1 (by decide) rfl
    obtain ⟨n36_, A36_, l36_, c36_, E36, q36⟩ : IntV 0 _ _ w11 (vk 36) := hOz 2 (by decide) rfl
    obtain ⟨cs12, bx12n, hs12⟩ := hSz 3 _ _ _ (by decide) rfl
    obtain ⟨n12sk_, A12sk_, l12sk_, c12sk_, E12sk, q12sk⟩ : IntV 0 _ _ w11 (.agg cs12) := hs12
    injection E12sk with E12sk
    subst E12sk
    simp only [Act.put, actv, fill, fC, fN, tA, cS, cZ]
    simp only [E34, E35, E36]
    clear E34 E35 E36
    replace h0 := h0.ext hBz.ext
    replace q10a := q10a.ext hBz.ext
    replace q11a := q11a.ext hBz.ext
    replace q12a := q12a.ext hBz.ext
    replace q13a := q13a.ext hBz.ext
    replace bx3 := hBz.blk bx3 (zM (Ne.symm hne12_3.out) zN)
    replace bx6 := hBz.blk bx6 (zM (Ne.symm hne12_6.out) zN)
    replace bx7 := hBz.blk bx7 (zM (Ne.symm hne12_7.out) zN)
    replace bx10 := hBz.blk bx10 (zM (Ne.symm hne12_10.out) zN)
    replace bx11 := hBz.blk bx11 (zM (Ne.symm hne12_11.out) zN)
    replace bx13 := hBz.blk bx13 (zM hne13_12.out zN)
    replace HL10 := HL10.step hBz (zA (Or.inl (by simp)) zE)
    replace HB := hide (HB.out.trans (hBz.below (B := w.heap.size) HB.out.size (zA hge12 zE)))
    clear bx12
    have bx12 := bx12n
    clear bx12n
    clear hOz hAz hNz hSz hBz
    go_upto_region 12 with (fail)
    refine F2.regionS [.o, .o, .o, .so (g13) 24 #[.bool n13a, .slice A13a l13a c13a]] [Fact.eq ?cl37_, Fact.eq ?cl38_, Fact.z ?kl39_ ?zl39_, Fact.z ?kls13_ ?zls13_] [37, 38, 39] [37, 38, 39, 0] (by kernel_rfl) ?sol ?sopl (by kernel_rfl) ?stl ?finl
    case sol => exact List.forall_mem_cons.2 ⟨⟨bx13, NoU.two nB nS⟩, fun x hx => by cases hx⟩
    case sopl => exact List.Pairwise.cons (fun y hy => by cases hy) (List.Pairwise.nil)
    case stl =>
     refine F2.Steps.consO rfl ?_ ?_
     ·
      intro vz wz hBz hDz hTz K hK
      have HW := hBz.ext
      have bx13z := hTz 3 _ _ _ _ rfl rfl (by kernel_rfl)
      obtain ⟨zl0, zl1, -⟩ := bx13z.two
      replace hK := hK.out
      apply Kept.mk
      simp only [F2.Wp, F2.fc, actv, fill, Act.put, sZ, sS, fC, fN, tA, cS, cZ] at hK ⊢
      go_simp
      refine hK _ wz (Below.refl _ _) (Fact.eq_mk ?_)
      with_reducible rfl
     refine F2.Steps.consO rfl ?_ ?_
     ·
      intro vz wz hBz hDz hTz K hK
      have HW := hBz.ext
      have bx11z := hBz.blk bx11 (zM (Ne.symm hne13_11.out) zN)
      obtain ⟨zl0, zl1, -⟩ := bx11z.two
      replace hK := hK.out
      apply Kept.mk
      simp only [F2.Wp, F2.fc, actv, fill, Act.put, sZ, sS, fC, fN, tA, cS, cZ] at hK ⊢
      go_simp
      refine hK _ wz (Below.refl _ _) (Fact.eq_mk ?_)
      with_reducible rfl
     refine F2.Steps.consO rfl ?_ ?_
     ·
      intro vz wz hBz hDz hTz K hK
      have E37 : vz 37 = _ := hDz 0 (by kernel_rfl) rfl
      have E38 : vz 38 = _ := hDz 1 (by kernel_rfl) rfl
      have HW := hBz.ext
      replace hK := hK.out
      apply Kept.mk
      simp only [F2.Wp, F2.fc, actv, fill, Act.put, sZ, sS, fC, fN, tA, cS, cZ] at hK ⊢
      simp only [E37, E38] at hK ⊢
      go_simp
      refine Calls.mono (u_add (q13a.ext HW) (q11a.ext HW) (by omega) (by omega)) ?_
      rintro e w2z ⟨hb2, uz, rfl, hf⟩
      go_wp2_with fail
      refine hK _ w2z hb2 (Fact.cast (hf) ?_)
      with_reducible rfl
     refine F2.Steps.consT rfl ?_ ?_
     ·
      intro vz wz hBz hDz hbz K hK
      obtain ⟨zc0, zc1, zc2, zc3⟩ := hbz.two
      obtain ⟨n39_, A39_, l39_, c39_, E39, q39⟩ : IntV 0 _ _ wz (vz 39) := hDz 2 (by kernel_rfl) rfl
      have HW := hBz.ext
      replace hK := hK.out
      apply Kept.mk
      simp only [F2.Wp, F2.fc, actv, fill, Act.put, sZ, sS, fC, fN, tA, cS, cZ] at hK ⊢
      simp only [E39] at hK ⊢
      go_simp
      refine hK _ ((Far.set _ _ 0 _).trans (Far.set _ _ 1 _)) ⟨_, blk_two hbz, NoU.two nB nS, Fact.cast (Fact.z_mk q39) ?_⟩
      with_reducible rfl
     exact F2.Steps.nil
    intro vl w12 hBz ⟨hOz, hAz, hNz, hSz⟩
    have E37 : vl 37 = _ := hOz 0 (by decide) rfl
    have E38 : vl 38 = _ := hOz 1 (by decide) rfl
    obtain ⟨n39_, A39_, l39_, c39_, E39, q39⟩ : IntV 0 _ _ w12 (vl 39) := hOz 2 (by decide) rfl
    obtain ⟨cs13, bx13n, hs13⟩ := hSz 3 _ _ _ (by decide) rfl
    obtain ⟨n13sl_, A13sl_, l13sl_, c13sl_, E13sl, q13sl⟩ : IntV 0 _ _ w12 (.agg cs13) := hs13
    injection E13sl with E13sl
    subst E13sl
    simp only [Act.put, actv, fill, fC, fN, tA, cS, cZ]
    simp only [E37, E38, E39]
    clear E37 E38 E39
    replace h0 := h0.ext hBz.ext
    replace q10a := q10a.ext hBz.ext
    replace q11a := q11a.ext hBz.ext
    replace q12sk := q12sk.ext hBz.ext
    replace q13a := q13a.ext hBz.ext
    replace bx3 := hBz.blk bx3 (zM (Ne.symm hne13_3.out) zN)
    replace bx6 := hBz.blk bx6 (zM (Ne.symm hne13_6.out) zN)
    replace bx7 := hBz.blk bx7 (zM (Ne.symm hne13_7.out) zN)
    replace bx10 := hBz.blk bx10 (zM (Ne.symm hne13_10.out) zN)
    replace bx11 := hBz.blk bx11 (zM (Ne.symm hne13_11.out) zN)
    replace bx12 := hBz.blk bx12 (zM (Ne.symm hne13_12.out) zN)
    replace HL10 := HL10.step hBz (zA (Or.inl (by simp)) zE)
    replace HB := hide (HB.out.trans (hBz.below (B := w.heap.size) HB.out.size (zA hge13 zE)))
    clear bx13
    have bx13 := bx13n
    clear bx13n
    clear hOz hAz hNz hSz hBz
    go_upto_region 13 with (fail)
    refine F2.regionS [.o, .o, .o, .o, .o, .so (g10) 24 #[.bool n10a, .slice A10a l10a c10a]] [Fact.eq ?cm40_, Fact.eq ?cm41_, Fact.eq ?cm42_, Fact.eq ?cm43_, Fact.z ?km44_ ?zm44_, Fact.z ?kms10_ ?zms10_] [40, 41, 42, 43, 44] [40, 41, 42, 43, 44, 0] (by kernel_rfl) ?som ?sopm (by kernel_rfl) ?stm ?finm
    case som => exact List.forall_mem_cons.2 ⟨⟨bx10, NoU.two nB nS⟩, fun x hx => by cases hx⟩
    case sopm => exact List.Pairwise.cons (fun y hy => by cases hy) (List.Pairwise.nil)
    case stm =>
     refine F2.Steps.consO rfl ?_ ?_
     ·
      intro vz wz hBz hDz hTz K hK
      have HW := hBz.ext
      have bx10z := hTz 5 _ _ _ _ rfl rfl (by kernel_rfl)
      obtain ⟨zl0, zl1, -⟩ := bx10z.two
      replace hK := hK.out
      apply Kept.mk
      simp only [F2.Wp, F2.fc, actv, fill, Act.put, sZ, sS, fC, fN, tA, cS, cZ] at hK ⊢
      go_simp
      refine hK _ wz (Below.refl _ _) (Fact.eq_mk ?_)
      with_reducible rfl
     refine F2.Steps.consO rfl ?_ ?_
     ·
      intro vz wz hBz hDz hTz K hK
      have HW := hBz.ext
      have bx3z := hBz.blk bx3 (zM (Ne.symm hne10_3.out) zN)
      obtain ⟨zl0, zl1, -⟩ := bx3z.two
      replace hK := hK.out
      apply Kept.mk
      simp only [F2.Wp, F2.fc, actv, fill, Act.put, sZ, sS, fC, fN, tA, cS, cZ] at hK ⊢
      go_simp
      refine hK _ wz (Below.refl _ _) (Fact.eq_mk ?_)
      with_reducible rfl
     refine F2.Steps.consO rfl ?_ ?_
     ·
      intro vz wz hBz hDz hTz K hK
      have HW := hBz.ext
      replace hK := hK.out
      apply Kept.mk
      simp only [F2.Wp, F2.fc, actv, fill, Act.put, sZ, sS, fC, fN, tA, cS, cZ] at hK ⊢
      go_simp
      refine hK _ wz (Below.refl _ _) (Fact.eq_mk ?_)
      with_reducible rfl
     refine F2.Steps.consO rfl ?_ ?_
     ·
      intro vz wz hBz hDz hTz K hK
      have HW := hBz.ext
      replace hK := hK.out
      apply Kept.mk
      simp only [F2.Wp, F2.fc, actv, fill, Act.put, sZ, sS, fC, fN, tA, cS, cZ] at hK ⊢
      go_simp
      refine hK _ wz (Below.refl _ _) (Fact.eq_mk ?_)
      with_reducible rfl
     refine F2.Steps.consO rfl ?_ ?_
     ·
      intro vz wz hBz hDz hTz K hK
      have E40 : vz 40 = _ := hDz 0 (by kernel_rfl) rfl
      have E41 : vz 41 = _ := hDz 1 (by kernel_rfl) rfl
      have E42 : vz 42 = _ := hDz 2 (by kernel_rfl) rfl
      have E43 : vz 43 = _ := hDz 3 (by kernel_rfl) rfl
      have HW := hBz.ext
      replace hK := hK.out
      apply Kept.mk
      simp only [F2.Wp, F2.fc, actv, fill, Act.put, sZ, sS, fC, fN, tA, cS, cZ] at hK ⊢
      simp only [E40, E41, E42, E43] at hK ⊢
      go_simp
      refine Calls.mono (ddown_calls (q10a.ext HW) (h0.ext HW) (by omega) (by omega) (by omega) (by omega) (by omega) (by omega)) ?_
      rintro e w2z ⟨hb2, uz, rfl, hf⟩
      go_wp2_with fail
      refine hK _ w2z hb2 (Fact.cast (hf) ?_)
      with_reducible rfl
     refine F2.Steps.consT rfl ?_ ?_
     ·
      intro vz wz hBz hDz hbz K hK
      obtain ⟨zc0, zc1, zc2, zc3⟩ := hbz.two
      obtain ⟨n44_, A44_, l44_, c44_, E44, q44⟩ : IntV 0 _ _ wz (vz 44) := hDz 4 (by kernel_rfl) rfl
      have HW := hBz.ext
      replace hK := hK.out
      apply Kept.mk
      simp only [F2.Wp, F2.fc, actv, fill, Act.put, sZ, sS, fC, fN, tA, cS, cZ] at hK ⊢
      simp only [E44] at hK ⊢
      go_simp
      refine hK _ ((Far.set _ _ 0 _).trans (Far.set _ _ 1 _)) ⟨_, blk_two hbz, NoU.two nB nS, Fact.cast (Fact.z_mk q44) ?_⟩
      with_reducible rfl
     exact F2.Steps.nil
    intro vm w13 hBz ⟨hOz, hAz, hNz, hSz⟩
    have E40 : vm 40 = _ := hOz 0 (by decide) rfl
    have E41 : vm 41 = _ := hOz 1 (by decide) rfl
    have E42 : vm 42 = _ := hOz 2 (by decide) rfl
    have E43 : vm 43 = _ := hOz 3 (by decide) rfl
    obtain ⟨n44_, A44_, l44_, c44_, E44, q44⟩ : IntV 0 _ _ w13 (vm 44) := hOz 4 (by decide) rfl
    obtain ⟨cs10, bx10n, hs10⟩ := hSz 5 _ _ _ (by decide) rfl
    obtain ⟨n10sm_, A10sm_, l10sm_, c10sm_, E10sm, q10sm⟩ : IntV 0 _ _ w13 (.agg cs10) := hs10
    injection E10sm with E10sm
    subst E10sm
    simp only [Act.put, actv, fill, fC, fN, tA, cS, cZ]
    simp only [E40, E41, E42, E43, E44]
    clear E40 E41 E42 E43 E44
    replace h0 := h0.ext hBz.ext
    replace q10a := q10a.ext hBz.ext
    replace q11a := q11a.ext hBz.ext
    replace q12sk := q12sk.ext hBz.ext
    replace q13sl := q13sl.ext hBz.ext
    replace bx3 := hBz.blk bx3 (zM (Ne.symm hne10_3.out) zN)
    replace bx6 := hBz.blk bx6 (zM (Ne.symm hne10_6.out) zN)
    replace bx7 := hBz.blk bx7 (zM (Ne.symm hne10_7.out) zN)
    replace bx11 := hBz.blk bx11 (zM hne11_10.out zN)
    replace bx12 := hBz.blk bx12 (zM hne12_10.out zN)
    replace bx13 := hBz.blk bx13 (zM hne13_10.out zN)
    replace HL10 := HL10.step hBz (zA (Or.inl (by simp)) zE)
    replace HB := hide (HB.out.trans (hBz.below (B := w.heap.size) HB.out.size (zA hge10 zE)))
    clear bx10
    have bx10 := bx10n
    clear bx10n
    clear hOz hAz hNz hSz hBz
    go_upto_region 14 with (fail)
    refine F2.regionS [.o, .o, .o, .o, .o, .so (g11) 24 #[.bool n11a, .slice A11a l11a c11a]] [Fact.eq ?cn45_, Fact.eq ?cn46_, Fact.eq ?cn47_, Fact.eq ?cn48_, Fact.z ?kn49_ ?zn49_, Fact.z ?kns11_ ?zns11_] [45, 46, 47, 48, 49] [45, 46, 47, 48, 49, 0] (by kernel_rfl) ?son ?sopn (by kernel_rfl) ?stn ?finn
    case son => exact List.forall_mem_cons.2 ⟨⟨bx11, NoU.two nB nS⟩, fun x hx => by cases hx⟩
    case sopn => exact List.Pairwise.cons (fun y hy => by cases hy) (List.Pairwise.nil)
    case stn =>
     refine F2.Steps.consO rfl ?_ ?_
     ·
      intro vz wz hBz hDz hTz K hK
      have HW := hBz.ext
      have bx11z := hTz 5 _ _ _ _ rfl rfl (by kernel_rfl)
      obtain ⟨zl0, zl1, -⟩ := bx11z.two
      replace hK := hK.out
      apply Kept.mk
      simp only [F2.Wp, F2.fc, actv, fill, Act.put, sZ, sS, fC, fN, tA, cS, cZ] at hK ⊢
      go_simp
      refine hK _ wz (Below.refl _ _) (Fact.eq_mk ?_)
      with_reducible rfl
     refine F2.Steps.consO rfl ?_ ?_
     ·
      intro vz wz hBz hDz hTz K hK
      have HW := hBz.ext
      have bx3z := hBz.blk bx3 (zM (Ne.symm hne11_3.out) zN)
      obtain ⟨zl0, zl1, -⟩ := bx3z.two
      replace hK := hK.out
      apply Kept.mk
      simp only [F2.Wp, F2.fc, actv, fill, Act.put, sZ, sS, fC, fN, tA, cS, cZ] at hK ⊢
      go_simp
      refine hK _ wz (Below.refl _ _) (Fact.eq_mk ?_)
      with_reducible rfl
     refine F2.Steps.consO rfl ?_ ?_
     ·
      intro vz wz hBz hDz hTz K hK
      have HW := hBz.ext
      replace hK := hK.out
      apply Kept.mk
      simp only [F2.Wp, F2.fc, actv, fill, Act.put, sZ, sS, fC, fN, tA, cS, cZ] at hK ⊢
      go_simp
      refine hK _ wz (Below.refl _ _) (Fact.eq_mk ?_)
      with_reducible rfl
     refine F2.Steps.consO rfl ?_ ?_
     ·
      intro vz wz hBz hDz hTz K hK
      have HW := hBz.ext
      replace hK := hK.out
      apply Kept.mk
      simp only [F2.Wp, F2.fc, actv, fill, Act.put, sZ, sS, fC, fN, tA, cS, cZ] at hK ⊢
      go_simp
      refine hK _ wz (Below.refl _ _) (Fact.eq_mk ?_)
      with_reducible rfl
     refine F2.Steps.consO rfl ?_ ?_
     ·
      intro vz wz hBz hDz hTz K hK
      have E45 : vz 45 = _ := hDz 0 (by kernel_rfl) rfl
      have E46 : vz 46 = _ := hDz 1 (by kernel_rfl) rfl
      have E47 : vz 47 = _ := hDz 2 (by kernel_rfl) rfl
      have E48 : vz 48 = _ := hDz 3 (by kernel_rfl) rfl
      have HW := hBz.ext
      replace hK := hK.out
      apply Kept.mk
      simp only [F2.Wp, F2.fc, actv, fill, Act.put, sZ, sS, fC, fN, tA, cS, cZ] at hK ⊢
      simp only [E45, E46, E47, E48] at hK ⊢
      go_simp
      refine Calls.mono (dup_calls (q11a.ext HW) (h0.ext HW) (by omega) (by omega) (by omega) (by omega) (by omega) (by omega)) ?_
      rintro e w2z ⟨hb2, uz, rfl, hf⟩
      go_wp2_with fail
      refine hK _ w2z hb2 (Fact.cast (hf) ?_)
      with_reducible rfl
     refine F2.Steps.consT rfl ?_ ?_
     ·
      intro vz wz hBz hDz hbz K hK
      obtain ⟨zc0, zc1, zc2, zc3⟩ := hbz.two
      obtain ⟨n49_, A49_, l49_, c49_, E49, q49⟩ : IntV 0 _ _ wz (vz 49) := hDz 4 (by kernel_rfl) rfl
      have HW := hBz.ext
      replace hK := hK.out
      apply Kept.mk
      simp only [F2.Wp, F2.fc, actv, fill, Act.put, sZ, sS, fC, fN, tA, cS, cZ] at hK ⊢
      simp only [E49] at hK ⊢
      go_simp
      refine hK _ ((Far.set _ _ 0 _).trans (Far.set _ _ 1 _)) ⟨_, blk_two hbz, NoU.two nB nS, Fact.cast (Fact.z_mk q49) ?_⟩
      with_reducible rfl
     exact F2.Steps.nil
    intro vn w14 hBz ⟨hOz, hAz, hNz, hSz⟩
    have E45 : vn 45 = _ := hOz 0 (by decide) rfl
    have E46 : vn 46 = _ := hOz 1 (by decide) rfl
    have E47 : vn 47 = _ := hOz 2 (by decide) rfl
    have E48 : vn 48 = _ := hOz 3 (by decide) rfl
    obtain ⟨n49_, A49_, l49_, c49_, E49, q49⟩ : IntV 0 _ _ w14 (vn 49) := hOz 4 (by decide) rfl
    obtain ⟨cs11, bx11n, hs11⟩ := hSz 5 _ _ _ (by decide) rfl
    obtain ⟨n11sn_, A11sn_, l11sn_, c11sn_, E11sn, q11sn⟩ : IntV 0 _ _ w14 (.agg cs11) := hs11
    injection E11sn with E11sn
    subst E11sn
    simp only [Act.put, actv, fill, fC, fN, tA, cS, cZ]
    simp only [E45, E46, E47, E48, E49]
    clear E45 E46 E47 E48 E49
    replace h0 := h0.ext hBz.ext
    replace q10sm := q10sm.ext hBz.ext
    replace q11a := q11a.ext hBz.ext
    replace q12sk := q12sk.ext hBz.ext
    replace q13sl := q13sl.ext hBz.ext
    replace bx3 := hBz.blk bx3 (zM (Ne.symm hne11_3.out) zN)
    replace bx6 := hBz.blk bx6 (zM (Ne.symm hne11_6.out) zN)
    replace bx7 := hBz.blk bx7 (zM (Ne.symm hne11_7.out) zN)
    replace bx10 := hBz.blk bx10 (zM (Ne.symm hne11_10.out) zN)
    replace bx12 := hBz.blk bx12 (zM hne12_11.out zN)
    replace bx13 := hBz.blk bx13 (zM hne13_11.out zN)
    replace HL10 := HL10.step hBz (zA (Or.inl (by simp)) zE)
    replace HB := hide (HB.out.trans (hBz.below (B := w.heap.size) HB.out.size (zA hge11 zE)))
    clear bx11
    have bx11 := bx11n
    clear bx11n
    clear hOz hAz hNz hSz hBz
    go_wp2_with fail
    go_roundw
    case rel => exact ⟨i + 1, by omega, by go_num, HL10, trivial, ⟨_, _, _, _, bx10, (q10sm.fit (HA.out (i + 1) (by omega))).q⟩, ⟨_, _, _, _, bx11, (q11sn.fit (HB_.out (i + 1) (by omega))).q⟩, ⟨_, _, _, _, bx12, (q12sk.fit (HS.out (i + 1) (by omega)))⟩, ⟨_, _, _, _, bx13, (q13sl.fit (HT2.out (i + 1) (by omega))).q⟩⟩
    case measure => simp [intOf]; omega
   ·
    have hgei : ¬ (i : Int) + 1 ≤ (N : Nat) := by omega
    obtain rfl : i = N := by omega
    clear hlti
    go_upto_region 15 with (fail)
    clear hgei
    refine F2.region [.o, .o, .o, .o, .o, .o, .so (g6) 24 #[.bool false, .slice none 0 0], .so (g7) 24 #[.bool false, .slice none 0 0], .o] [Fact.eq ?co50_, Fact.eq ?co51_, Fact.eq ?co52_, Fact.eq ?co53_, Fact.z ?ko54_ ?zo54_, Fact.z ?ko55_ ?zo55_, Fact.z ?kos6_ ?zos6_, Fact.z ?kos7_ ?zos7_, Fact.eq ?co8_] [50, 51, 52, 53, 54, 55, 8] [50, 51, 52, 53, 54, 55, 0, 0, 8] (by kernel_rfl) ?soo ?sopo (by kernel_rfl) ?sto ?fino
    case soo => exact List.forall_mem_cons.2 ⟨⟨bx6, NoU.two nB nS⟩, List.forall_mem_cons.2 ⟨⟨bx7, NoU.two nB nS⟩, fun x hx => by cases hx⟩⟩
    case sopo => exact List.Pairwise.cons (by intro y hy; simp [F2.sos] at hy; have hne6_7 := hne6_7.out; first | (subst hy; simp; done) | (subst hy; simp; omega) | (rcases hy with rfl | rfl <;> simp <;> omega)) (List.Pairwise.cons (fun y hy => by cases hy) (List.Pairwise.nil))
    case sto =>
     refine F2.Steps.consO rfl ?_ ?_
     ·
      intro vz wz hBz hDz hTz K hK
      have HW := ext_drew hBz.ext
      have bx12z := hBz.blk bx12.drew (zM hne12_6.out (zM hne12_7.out zN))
      obtain ⟨zl0, zl1, -⟩ := bx12z.two
      replace hK := hK.out
      apply Kept.mk
      simp only [F2.Wp, F2.fc, actv, fill, Act.put, sZ, sS, fC, fN, tA, cS, cZ] at hK ⊢
      go_simp
      refine hK _ wz (Below.refl _ _) (Fact.eq_mk ?_)
      with_reducible rfl
     refine F2.Steps.consO rfl ?_ ?_
     ·
      intro vz wz hBz hDz hTz K hK
      have HW := ext_drew hBz.ext
      have bx13z := hBz.blk bx13.drew (zM hne13_6.out (zM hne13_7.out zN))
      obtain ⟨zl0, zl1, -⟩ := bx13z.two
      replace hK := hK.out
      apply Kept.mk
      simp only [F2.Wp, F2.fc, actv, fill, Act.put, sZ, sS, fC, fN, tA, cS, cZ] at hK ⊢
      go_simp
      refine hK _ wz (Below.refl _ _) (Fact.eq_mk ?_)
      with_reducible rfl
     refine F2.Steps.consO rfl ?_ ?_
     ·
      intro vz wz hBz hDz hTz K hK
      have HW := ext_drew hBz.ext
      have bx11z := hBz.blk bx11.drew (zM hne11_6.out (zM hne11_7.out zN))
      obtain ⟨zl0, zl1, -⟩ := bx11z.two
      replace hK := hK.out
      apply Kept.mk
      simp only [F2.Wp, F2.fc, actv, fill, Act.put, sZ, sS, fC, fN, tA, cS, cZ] at hK ⊢
      go_simp
      refine hK _ wz (Below.refl _ _) (Fact.eq_mk ?_)
      with_reducible rfl
     refine F2.Steps.consO rfl ?_ ?_
     ·
      intro vz wz hBz hDz hTz K hK
      have HW := ext_drew hBz.ext
      have bx11z := hBz.blk bx11.drew (zM hne11_6.out (zM hne11_7.out zN))
      obtain ⟨zl0, zl1, -⟩ := bx11z.two
      replace hK := hK.out
      apply Kept.mk
      simp only [F2.Wp, F2.fc, actv, fill, Act.put, sZ, sS, fC, fN, tA, cS, cZ] at hK ⊢
      go_simp
      refine hK _ wz (Below.refl _ _) (Fact.eq_mk ?_)
      with_reducible rfl
     refine F2.Steps.consO rfl ?_ ?_
     ·
      intro vz wz hBz hDz hTz K hK
      have E52 : vz 52 = _ := hDz 2 (by kernel_rfl) rfl
      have E53 : vz 53 = _ := hDz 3 (by kernel_rfl) rfl
      have HW := ext_drew hBz.ext
      replace hK := hK.out
      apply Kept.mk
      simp only [F2.Wp, F2.fc, actv, fill, Act.put, sZ, sS, fC, fN, tA, cS, cZ] at hK ⊢
      simp only [E52, E53] at hK ⊢
      go_simp
      refine Calls.mono (u_add (q11a.ext HW) (q11a.ext HW) (by omega) (by omega)) ?_
      rintro e w2z ⟨hb2, uz, rfl, hf⟩
      go_wp2_with fail
      refine hK _ w2z hb2 (Fact.cast (hf) ?_)
      with_reducible rfl
     refine F2.Steps.consO rfl ?_ ?_
     ·
      intro vz wz hBz hDz hTz K hK
      have E51 : vz 51 = _ := hDz 1 (by kernel_rfl) rfl
      obtain ⟨n54_, A54_, l54_, c54_, E54, q54⟩ : IntV 0 _ _ wz (vz 54) := hDz 4 (by kernel_rfl) rfl
      have HW := ext_drew hBz.ext
      replace hK := hK.out
      apply Kept.mk
      simp only [F2.Wp, F2.fc, actv, fill, Act.put, sZ, sS, fC, fN, tA, cS, cZ] at hK ⊢
      simp only [E51, E54] at hK ⊢
      go_simp
      refine Calls.mono (u_add (q13a.ext HW) q54.q (by omega) (by omega)) ?_
      rintro e w2z ⟨hb2, uz, rfl, hf⟩
      go_wp2_with fail
      refine hK _ w2z hb2 (Fact.cast (hf) ?_)
      with_reducible rfl
     refine F2.Steps.consT rfl ?_ ?_
     ·
      intro vz wz hBz hDz hbz K hK
      obtain ⟨zc0, zc1, zc2, zc3⟩ := hbz.two
      have E50 : vz 50 = _ := hDz 0 (by kernel_rfl) rfl
      have HW := ext_drew hBz.ext
      replace hK := hK.out
      apply Kept.mk
      simp only [F2.Wp, F2.fc, actv, fill, Act.put, sZ, sS, fC, fN, tA, cS, cZ] at hK ⊢
      simp only [E50] at hK ⊢
      go_simp
      refine hK _ ((Far.set _ _ 0 _).trans (Far.set _ _ 1 _)) ⟨_, blk_two hbz, NoU.two nB nS, Fact.cast (Fact.z_mk (q12a.ext HW)) ?_⟩
      with_reducible rfl
     refine F2.Steps.consT rfl ?_ ?_
     ·
      intro vz wz hBz hDz hbz K hK
      obtain ⟨zc0, zc1, zc2, zc3⟩ := hbz.two
      obtain ⟨n55_, A55_, l55_, c55_, E55, q55⟩ : IntV 0 _ _ wz (vz 55) := hDz 5 (by kernel_rfl) rfl
      have HW := ext_drew hBz.ext
      replace hK := hK.out
      apply Kept.mk
      simp only [F2.Wp, F2.fc, actv, fill, Act.put, sZ, sS, fC, fN, tA, cS, cZ] at hK ⊢
      simp only [E55] at hK ⊢
      go_simp
      refine hK _ ((Far.set _ _ 0 _).trans (Far.set _ _ 1 _)) ⟨_, blk_two hbz, NoU.two nB nS, Fact.cast (Fact.z_mk q55) ?_⟩
      with_reducible rfl
     refine F2.Steps.consO rfl ?_ ?_
     ·
      intro vz wz hBz hDz hTz K hK
      have HW := ext_drew hBz.ext
      replace hK := hK.out
      apply Kept.mk
      simp only [F2.Wp, F2.fc, actv, fill, Act.put, sZ, sS, fC, fN, tA, cS, cZ] at hK ⊢
      go_simp
      refine hK _ wz (Below.refl _ _) (Fact.eq_mk ?_)
      with_reducible rfl
     exact F2.Steps.nil
    intro vo w15 hBz ⟨hOz, hAz, hNz, hSz⟩
    have E50 : vo 50 = _ := hOz 0 (by decide) rfl
    have E51 : vo 51 = _ := hOz 1 (by decide) rfl
    have E52 : vo 52 = _ := hOz 2 (by decide) rfl
    have E53 : vo 53 = _ := hOz 3 (by decide) rfl
    obtain ⟨n54_, A54_, l54_, c54_, E54, q54⟩ : IntV 0 _ _ w15 (vo 54) := hOz 4 (by decide) rfl
    obtain ⟨n55_, A55_, l55_, c55_, E55, q55⟩ : IntV 0 _ _ w15 (vo 55) := hOz 5 (by decide) rfl
    obtain ⟨cs6, bx6n, hs6⟩ := hSz 6 _ _ _ (by decide) rfl
    obtain ⟨n6so_, A6so_, l6so_, c6so_, E6so, q6so⟩ : IntV 0 _ _ w15 (.agg cs6) := hs6
    injection E6so with E6so
    subst E6so
    obtain ⟨cs7, bx7n, hs7⟩ := hSz 7 _ _ _ (by decide) rfl
    obtain ⟨n7so_, A7so_, l7so_, c7so_, E7so, q7so⟩ : IntV 0 _ _ w15 (.agg cs7) := hs7
    injection E7so with E7so
    subst E7so
    have E8 : vo 8 = _ := hOz 8 (by decide) rfl
    simp only [Act.put, actv, fill, fC, fN, tA, cS, cZ]
    simp only [E50, E51, E52, E53, E54, E55, E8]
    clear E50 E51 E52 E53 E54 E55 E8
    replace h0 := h0.ext hBz.ext
    replace q10a := q10a.ext hBz.ext
    replace q11a := q11a.ext hBz.ext
    replace q12a := q12a.ext hBz.ext
    replace q13a := q13a.ext hBz.ext
    replace bx3 := hBz.blk bx3 (zM hne3_6.out (zM hne3_7.out zN))
    replace bx10 := hBz.blk bx10 (zM hne10_6.out (zM hne10_7.out zN))
    replace bx11 := hBz.blk bx11 (zM hne11_6.out (zM hne11_7.out zN))
    replace bx12 := hBz.blk bx12 (zM hne12_6.out (zM hne12_7.out zN))
    replace bx13 := hBz.blk bx13 (zM hne13_6.out (zM hne13_7.out zN))
    replace HB := hide (HB.out.trans (hBz.below (B := w.heap.size) HB.out.size (zA hge6 (zA hge7 zE))))
    clear bx6
    clear bx7
    have bx6 := bx6n
    clear bx6n
    have bx7 := bx7n
    clear bx7n
    clear hOz hAz hNz hSz hBz
    go_wp2_with fail
    refine bodyPost_ret (results_int_int_tmp rfl _ _ _ _ _ _ _ _ _ _ rfl bx6 rfl bx7) rfl ⟨HB.out, ?_⟩
    exact VF.mk (Fact.t3_mk (Fact.z_mk (q6so.up (by omega))) (Fact.z_mk ((q7so.up (by omega)).cast_ (by show _ = _ + up2 _; unfold up2; rw [show (1 : Int).toNat = 1 from rfl, Int.pow_succ, Int.pow_zero]; omega))) (Fact.eq_self _ _))
end Go.Proofs.Ytnephejalollfaa
end
