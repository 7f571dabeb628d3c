/- hairlineref06: may, down, up, Exp. hairlineref06: Exp. hairlineref06: Atanh. -/
import Derived.Test.YtgbpnpemigddeaaGreatVr
set_option linter.unusedVariables false
set_option linter.unusedSimpArgs false
namespace Go.Proofs.YtgbpnpemigddeaaGreat
section
section
section
open Go.RowKit
open L (val dig nth)
theorem jsa (x : Int) : 0 ≤ x.sign ↔ 0 ≤ x := Int.sign_nonneg_iff
def mayD (x q n b h : Int) : Bool := decide (0 ≤ q) && (decide (q ≤ 1200) && (decide (1 ≤ n) && (decide (n ≤ 400) && (decide (0 ≤ x) && decide (x * 2 ^ h.toNat ≤ b * 2 ^ q.toNat)))))
theorem jkx (x q n : Int) : mayD x q n 1 1 = mayR x q n 1 := by
  unfold mayD mayR
  have e : decide (x * 2 ^ (1 : Int).toNat ≤ 1 * 2 ^ q.toNat) = decide (x * 2 ≤ 1 * 2 ^ q.toNat) := decide_eq_decide.2 (by
    rw [show (1 : Int).toNat = 1 from rfl, Int.pow_succ, Int.pow_zero]
    generalize (2 : Int) ^ q.toNat = Y
    omega)
  rw [e]
theorem jhm (x y q : Int) : x / 2 ^ q.toNat / y = x / (y * 2 ^ q.toNat) := by
  rw [Int.ediv_ediv_of_nonneg (Int.le_of_lt (two_pow_pos q)), Int.mul_comm]
theorem jtp {x y q : Int} (hy : 0 < y) : vUp (-(-x / 2 ^ q.toNat)) y = vUp x (y * 2 ^ q.toNat) := by
  rw [jgd hy, jgd (Int.mul_pos hy (two_pow_pos q)), Int.neg_neg, jhm]
theorem jtq {x q : Int} : -(-x / 2 ^ q.toNat) = vUp x (1 * 2 ^ q.toNat) := by
  have hp := two_pow_pos q; rw [jgd (by omega), Int.one_mul]
set_option maxHeartbeats 4000000 in
set_option maxRecDepth 100000 in
theorem jgs {w : World}  {k0 : Nat} {n0 : Bool} {A0 : Option Addr} {l0 c0 : Nat} {x0 : Int} {q n y m : Int} (h0 : Q w k0 n0 A0 l0 c0 x0) (hk0 : k0 ≤ 900) (hy0 : 1 ≤ y) (hy1 : y ≤ 4) (hm0 : 0 ≤ m) (hm1 : m ≤ 1) :
    Calls Tryz.prog 43 #[.agg #[.bool n0, .slice A0 l0 c0], .int .i64 q, .int .i64 n, .int .i64 y, .int .i64 m] w fun e w' => Below w.heap.size w w' ∧ VF (Fact.eq (.bool (mayD x0 q n y m))) e w' := by
 obtain ⟨s, HS⟩ : ∃ s, Hid (x0.sign = s) := ⟨_, hide rfl⟩; obtain ⟨c, HC⟩ : ∃ c, Hid (cmpZ (x0 * 2 ^ m.toNat) (y * 2 ^ q.toNat) = c) := ⟨_, hide rfl⟩
 have HM : Hid (mayD x0 q n y m = (decide (0 ≤ q) && (decide (q ≤ 1200) && (decide (1 ≤ n) && (decide (n ≤ 400) && (decide (0 ≤ s) && decide (c ≤ 0))))))) := hide (by
  unfold mayD; rw [← HS.out, ← HC.out, decide_eq_decide.2 (jsa x0), decide_eq_decide.2 (jb9 _ _)])
 obtain ⟨r, HR⟩ : ∃ r, Hid (mayD x0 q n y m = r) := ⟨_, hide rfl⟩; rw [HR.out]; rw [HR.out] at HM
 go_enter Tryz.func43, Tryz.ntmps43
 have HB : Hid (Below w.heap.size w w) := hide (Below.refl _ _)
 go_upto_region 0 with (fail)
 refine F2.regionS [.al 25 #[.bool n0, .slice A0 l0 c0], .o] [Fact.any, Fact.eq ?ca10_] [5, 10] [5, 10] (by kernel_rfl) ?soa ?sopa (by kernel_rfl) ?sta ?fina
 case soa => exact fun x hx => by cases hx
 case sopa => exact List.Pairwise.nil
 case sta =>
  refine F2.Steps.consA rfl ⟨NoU.two nB nS, ?_⟩ ?_
  ·
   intro vz wz hBz K hK; simp only [zy, F2.Wp] at hK ⊢; go_simp; exact hK
  refine F2.Steps.consO rfl ?_ ?_
  ·
   intro vz wz hBz hDz hTz K hK; have HW := hBz.ext; simp only [zy, F2.Wp] at hK ⊢; go_simp; refine hK _ wz zB (Fact.eq_mk ?_); with_reducible rfl
  exact F2.Steps.nil
 intro va w1 hBz ⟨hOz, hAz, hNz, hSz⟩; obtain ⟨g5, cs5, E5, hg5, bx5, hs5, hz5⟩ := hAz 0 _ _ (by decide) rfl; have hzz := hz5 (F2.nost (by kernel_rfl)); subst hzz; have E10 : va 10 = _ := hOz 1 (by decide) rfl; simp only [Act.put, actv, fill, fC, fN, tA, cS, cZ]; simp only [(show va 5 = _ from E5), E10]; clear E5 E10; have hge5 : w.heap.size ≤ g5 := Nat.le_trans HB.out.size hg5; replace h0 := h0.ext hBz.ext; replace HB := hide (HB.out.trans (hBz.below (B := w.heap.size) HB.out.size zE)); clear hOz hAz hNz hSz hs5 hz5 hBz
 by_cases g0 : q < 0
 ·
  go_upto_region 2 with (fail)
  refine F2.regionS [.o] [Fact.eq ?cb10_] [10] [10] (by kernel_rfl) ?sob ?sopb (by kernel_rfl) ?stb ?finb
  case sob => exact fun x hx => by cases hx
  case sopb => exact List.Pairwise.nil
  case stb =>
   refine F2.Steps.consO rfl ?_ ?_
   ·
    intro vz wz hBz hDz hTz K hK; have HW := hBz.ext; simp only [zy, F2.Wp] at hK ⊢; go_simp; refine hK _ wz zB (Fact.eq_mk ?_); with_reducible rfl
   exact F2.Steps.nil
  intro vb w2 hBz ⟨hOz, hAz, hNz, hSz⟩; have E10 : vb 10 = _ := hOz 0 (by decide) rfl; simp only [Act.put, actv, fill, fC, fN, tA, cS, cZ]; simp only [E10]; clear E10; replace h0 := h0.ext hBz.ext; replace bx5 := hBz.blk bx5 zN; replace HB := hide (HB.out.trans (hBz.below (B := w.heap.size) HB.out.size zE)); clear hOz hAz hNz hSz hBz
  go_wp2_with fail
  go_ret
  exact ⟨HB.out, VF.mk (Fact.cast (Fact.eq_self _ _) (by rw [HM.out]; simp only [decide_eq_false (show ¬ (0 ≤ q) by omega), Bool.true_and, Bool.false_and] <;> rfl))⟩
 ·
  by_cases g1 : 1200 < q
  ·
   go_upto_region 2 with (fail)
   refine F2.regionS [.o] [Fact.eq ?cc10_] [10] [10] (by kernel_rfl) ?soc ?sopc (by kernel_rfl) ?stc ?finc
   case soc => exact fun x hx => by cases hx
   case sopc => exact List.Pairwise.nil
   case stc =>
    refine F2.Steps.consO rfl ?_ ?_
    ·
     intro vz wz hBz hDz hTz K hK; have HW := hBz.ext; simp only [zy, F2.Wp] at hK ⊢; go_simp; refine hK _ wz zB (Fact.eq_mk ?_); with_reducible rfl
    exact F2.Steps.nil
   intro vc w3 hBz ⟨hOz, hAz, hNz, hSz⟩; have E10 : vc 10 = _ := hOz 0 (by decide) rfl; simp only [Act.put, actv, fill, fC, fN, tA, cS, cZ]; simp only [E10]; clear E10; replace h0 := h0.ext hBz.ext; replace bx5 := hBz.blk bx5 zN; replace HB := hide (HB.out.trans (hBz.below (B := w.heap.size) HB.out.size zE)); clear hOz hAz hNz hSz hBz
   go_wp2_with fail
   go_ret
   exact ⟨HB.out, VF.mk (Fact.cast (Fact.eq_self _ _) (by rw [HM.out]; simp only [decide_eq_true (show 0 ≤ q by omega), decide_eq_false (show ¬ (q ≤ 1200) by omega), Bool.true_and, Bool.false_and] <;> rfl))⟩
  ·
   by_cases g2 : n < 1
   ·
    go_upto_region 2 with (fail)
    refine F2.regionS [.o] [Fact.eq ?cd10_] [10] [10] (by kernel_rfl) ?sod ?sopd (by kernel_rfl) ?std ?find
    case sod => exact fun x hx => by cases hx
    case sopd => exact List.Pairwise.nil
    case std =>
     refine F2.Steps.consO rfl ?_ ?_
     ·
      intro vz wz hBz hDz hTz K hK; have HW := hBz.ext; simp only [zy, F2.Wp] at hK ⊢; go_simp; refine hK _ wz zB (Fact.eq_mk ?_); with_reducible rfl
     exact F2.Steps.nil
    intro vd w4 hBz ⟨hOz, hAz, hNz, hSz⟩; have E10 : vd 10 = _ := hOz 0 (by decide) rfl; simp only [Act.put, actv, fill, fC, fN, tA, cS, cZ]; simp only [E10]; clear E10; replace h0 := h0.ext hBz.ext; replace bx5 := hBz.blk bx5 zN; replace HB := hide (HB.out.trans (hBz.below (B := w.heap.size) HB.out.size zE)); clear hOz hAz hNz hSz hBz
    go_wp2_with fail
    go_ret
    exact ⟨HB.out, VF.mk (Fact.cast (Fact.eq_self _ _) (by rw [HM.out]; simp only [decide_eq_true (show 0 ≤ q by omega), decide_eq_true (show q ≤ 1200 by omega), decide_eq_false (show ¬ (1 ≤ n) by omega), Bool.true_and, Bool.false_and] <;> rfl))⟩
   ·
    by_cases g3 : 400 < n
    ·
     go_upto_region 2 with (fail)
     refine F2.regionS [.o] [Fact.eq ?ce10_] [10] [10] (by kernel_rfl) ?soe ?sope (by kernel_rfl) ?ste ?fine
     case soe => exact fun x hx => by cases hx
     case sope => exact List.Pairwise.nil
     case ste =>
      refine F2.Steps.consO rfl ?_ ?_
      ·
       intro vz wz hBz hDz hTz K hK; have HW := hBz.ext; simp only [zy, F2.Wp] at hK ⊢; go_simp; refine hK _ wz zB (Fact.eq_mk ?_); with_reducible rfl
      exact F2.Steps.nil
     intro ve w5 hBz ⟨hOz, hAz, hNz, hSz⟩; have E10 : ve 10 = _ := hOz 0 (by decide) rfl; simp only [Act.put, actv, fill, fC, fN, tA, cS, cZ]; simp only [E10]; clear E10; replace h0 := h0.ext hBz.ext; replace bx5 := hBz.blk bx5 zN; replace HB := hide (HB.out.trans (hBz.below (B := w.heap.size) HB.out.size zE)); clear hOz hAz hNz hSz hBz
     go_wp2_with fail
     go_ret
     exact ⟨HB.out, VF.mk (Fact.cast (Fact.eq_self _ _) (by rw [HM.out]; simp only [decide_eq_true (show 0 ≤ q by omega), decide_eq_true (show q ≤ 1200 by omega), decide_eq_true (show 1 ≤ n by omega), decide_eq_false (show ¬ (n ≤ 400) by omega), Bool.true_and, Bool.false_and] <;> rfl))⟩
    ·
     by_cases g4 : s < 0
     ·
      obtain ⟨bx5c0, bx5c1, -⟩ := bx5.two
      go_wp2_with fail
      refine Calls.mono (HS.out ▸ jpb h0 (by omega)) ?_; rintro e w6 ⟨hb2, uz6, rfl, hf⟩; clear bx5c0 bx5c1; obtain rfl := Fact.eq_of hf; have HW := jah hb2; replace h0 := h0.ext HW; replace bx5 := bx5.below hb2 bx5.lt; replace HB := hide (HB.out.trans (hb2.mono HB.out.size)); clear HW hb2
      go_upto_region 2 with (fail)
      refine F2.regionS [.o] [Fact.eq ?cg10_] [10] [10] (by kernel_rfl) ?sog ?sopg (by kernel_rfl) ?stg ?fing
      case sog => exact fun x hx => by cases hx
      case sopg => exact List.Pairwise.nil
      case stg =>
       refine F2.Steps.consO rfl ?_ ?_
       ·
        intro vz wz hBz hDz hTz K hK; have HW := hBz.ext; simp only [zy, F2.Wp] at hK ⊢; go_simp; refine hK _ wz zB (Fact.eq_mk ?_); with_reducible rfl
       exact F2.Steps.nil
      intro vg w7 hBz ⟨hOz, hAz, hNz, hSz⟩; have E10 : vg 10 = _ := hOz 0 (by decide) rfl; simp only [Act.put, actv, fill, fC, fN, tA, cS, cZ]; simp only [E10]; clear E10; replace h0 := h0.ext hBz.ext; replace bx5 := hBz.blk bx5 zN; replace HB := hide (HB.out.trans (hBz.below (B := w.heap.size) HB.out.size zE)); clear hOz hAz hNz hSz hBz
      go_wp2_with fail
      go_ret
      exact ⟨HB.out, VF.mk (Fact.cast (Fact.eq_self _ _) (by rw [HM.out]; simp only [decide_eq_true (show 0 ≤ q by omega), decide_eq_true (show q ≤ 1200 by omega), decide_eq_true (show 1 ≤ n by omega), decide_eq_true (show n ≤ 400 by omega), decide_eq_false (show ¬ (0 ≤ s) by omega), Bool.true_and, Bool.false_and] <;> rfl))⟩
     ·
      obtain ⟨bx5c0, bx5c1, -⟩ := bx5.two
      go_wp2_with fail
      refine Calls.mono (HS.out ▸ jpb h0 (by omega)) ?_; rintro e w8 ⟨hb2, uz8, rfl, hf⟩; clear bx5c0 bx5c1; obtain rfl := Fact.eq_of hf; have HW := jah hb2; replace h0 := h0.ext HW; replace bx5 := bx5.below hb2 bx5.lt; replace HB := hide (HB.out.trans (hb2.mono HB.out.size)); clear HW hb2
      go_upto_region 3 with (fail)
      refine F2.regionS [.o, .o, .o, .o, .al 25 #[.bool false, .slice none 0 0], .st 4] [Fact.eq ?ci31_, Fact.z ?ki32_ ?zi32_, Fact.eq ?ci33_, Fact.z ?ki34_ ?zi34_, Fact.any, Fact.z ?kis11_ ?zis11_] [31, 32, 33, 34, 11] [31, 32, 33, 34, 11, 0] (by kernel_rfl) ?soi ?sopi (by kernel_rfl) ?sti ?fini
      case soi => exact fun x hx => by cases hx
      case sopi => exact List.Pairwise.nil
      case sti =>
       refine F2.Steps.consO rfl ?_ ?_
       ·
        intro vz wz hBz hDz hTz K hK; have HW := hBz.ext; simp only [zy, F2.Wp] at hK ⊢; go_simp; refine hK _ wz zB (Fact.eq_mk ?_); with_reducible rfl
       refine F2.Steps.consO rfl ?_ ?_
       ·
        intro vz wz hBz hDz hTz K hK; have E31 : vz 31 = _ := hDz 0 (by kernel_rfl) rfl; have HW := hBz.ext; simp only [zy, F2.Wp] at hK ⊢; simp only [E31] at hK ⊢; go_simp; refine Calls.mono (u_of  (by omega) (by omega)) ?_; rintro e w2z ⟨hb2, uz, rfl, hf⟩
        go_wp2_with fail
        refine hK _ w2z hb2 (Fact.cast (hf) ?_); with_reducible rfl
       refine F2.Steps.consO rfl ?_ ?_
       ·
        intro vz wz hBz hDz hTz K hK; have HW := hBz.ext; simp only [zy, F2.Wp] at hK ⊢; go_simp; refine hK _ wz zB (Fact.eq_mk ?_); with_reducible rfl
       refine F2.Steps.consO rfl ?_ ?_
       ·
        intro vz wz hBz hDz hTz K hK; obtain ⟨n32_, A32_, l32_, c32_, E32, q32⟩ : IntV 0 _ _ wz (vz 32) := hDz 1 (by kernel_rfl) rfl; have E33 : vz 33 = _ := hDz 2 (by kernel_rfl) rfl; have HW := hBz.ext; simp only [zy, F2.Wp] at hK ⊢; simp only [E32, E33] at hK ⊢; go_simp; refine Calls.mono (jsz q32.q (by omega) (by omega) (by omega)) ?_; rintro e w2z ⟨hb2, uz, rfl, hf⟩
        go_wp2_with fail
        refine hK _ w2z hb2 (Fact.cast (hf) ?_); with_reducible rfl
       refine F2.Steps.consA rfl ⟨NoU.two nB nS, ?_⟩ ?_
       ·
        intro vz wz hBz K hK; simp only [zy, F2.Wp] at hK ⊢; go_simp; exact hK
       refine F2.Steps.consS rfl rfl ?_ ?_
       ·
        intro vz wz gz hBz hDz E11' hgz hbz K hK; obtain ⟨zc0, zc1, zc2, zc3⟩ := hbz.two; obtain ⟨n34_, A34_, l34_, c34_, E34, q34⟩ : IntV 0 _ _ wz (vz 34) := hDz 3 (by kernel_rfl) rfl; have E11 : vz 11 = .pointer (some ⟨gz, 0, none⟩) := E11'; have HW := hBz.ext; simp only [zy, F2.Wp] at hK ⊢; simp only [E11, E34] at hK ⊢; go_simp; refine hK _ ((Far.set _ gz 0 _).trans (Far.set _ gz 1 _)) ⟨_, jab hbz, NoU.two nB nS, Fact.cast (Fact.z_mk q34) ?_⟩; with_reducible rfl
       exact F2.Steps.nil
      intro vi w9 hBz ⟨hOz, hAz, hNz, hSz⟩; have E31 : vi 31 = _ := hOz 0 (by decide) rfl; obtain ⟨n32_, A32_, l32_, c32_, E32, q32⟩ : IntV 0 _ _ w9 (vi 32) := hOz 1 (by decide) rfl; have E33 : vi 33 = _ := hOz 2 (by decide) rfl; obtain ⟨n34_, A34_, l34_, c34_, E34, q34⟩ : IntV 0 _ _ w9 (vi 34) := hOz 3 (by decide) rfl; obtain ⟨g11, cs11, E11, hg11, bx11, hs11, hz11⟩ := hAz 4 _ _ (by decide) rfl; obtain ⟨n11si_, A11si_, l11si_, c11si_, E11si, q11si⟩ : IntV 0 _ _ w9 (.agg cs11) := hs11 5 (by decide) rfl; injection E11si with E11si
      subst E11si; simp only [Act.put, actv, fill, fC, fN, tA, cS, cZ]; simp only [E31, E32, E33, E34, (show vi 11 = _ from E11)]; clear E31 E32 E33 E34 E11; have hge11 : w.heap.size ≤ g11 := Nat.le_trans HB.out.size hg11; have hne11_5 := hide (Nat.ne_of_gt (Nat.lt_of_lt_of_le bx5.lt (show w8.heap.size ≤ g11 from hg11))); replace h0 := h0.ext hBz.ext; replace bx5 := hBz.blk bx5 zN; replace HB := hide (HB.out.trans (hBz.below (B := w.heap.size) HB.out.size zE)); clear hOz hAz hNz hSz hs11 hz11 hBz
      go_upto_region 4 with (fail)
      refine F2.region [.o, .o, .o, .o, .o, .o, .o] [Fact.eq ?cj35_, Fact.eq ?cj36_, Fact.z ?kj37_ ?zj37_, Fact.eq ?cj38_, Fact.eq ?cj39_, Fact.eq ?cj40_, Fact.eq ?cj10_] [35, 36, 37, 38, 39, 40, 10] [35, 36, 37, 38, 39, 40, 10] (by kernel_rfl) ?soj ?sopj (by kernel_rfl) ?stj ?finj
      case soj => exact fun x hx => by cases hx
      case sopj => exact List.Pairwise.nil
      case stj =>
       refine F2.Steps.consO rfl ?_ ?_
       ·
        intro vz wz hBz hDz hTz K hK; have HW := jaa hBz.ext; have bx5z := hBz.blk bx5.drew zN; obtain ⟨zl0, zl1, -⟩ := bx5z.two; simp only [zy, F2.Wp] at hK ⊢; go_simp; refine hK _ wz zB (Fact.eq_mk ?_); with_reducible rfl
       refine F2.Steps.consO rfl ?_ ?_
       ·
        intro vz wz hBz hDz hTz K hK; have HW := jaa hBz.ext; simp only [zy, F2.Wp] at hK ⊢; go_simp; refine hK _ wz zB (Fact.eq_mk ?_); with_reducible rfl
       refine F2.Steps.consO rfl ?_ ?_
       ·
        intro vz wz hBz hDz hTz K hK; have E35 : vz 35 = _ := hDz 0 (by kernel_rfl) rfl; have E36 : vz 36 = _ := hDz 1 (by kernel_rfl) rfl; have HW := jaa hBz.ext; simp only [zy, F2.Wp] at hK ⊢; simp only [E35, E36] at hK ⊢; go_simp; refine Calls.mono (jsz (h0.ext HW) (by omega) (by omega) (by omega)) ?_; rintro e w2z ⟨hb2, uz, rfl, hf⟩
        go_wp2_with fail
        refine hK _ w2z hb2 (Fact.cast (hf) ?_); with_reducible rfl
       refine F2.Steps.consO rfl ?_ ?_
       ·
        intro vz wz hBz hDz hTz K hK; have HW := jaa hBz.ext; have bx11z := hBz.blk bx11.drew zN; obtain ⟨zl0, zl1, -⟩ := bx11z.two; simp only [zy, F2.Wp] at hK ⊢; go_simp; refine hK _ wz zB (Fact.eq_mk ?_); with_reducible rfl
       refine F2.Steps.consO rfl ?_ ?_
       ·
        intro vz wz hBz hDz hTz K hK; obtain ⟨n37_, A37_, l37_, c37_, E37, q37⟩ : IntV 0 _ _ wz (vz 37) := hDz 2 (by kernel_rfl) rfl; have E38 : vz 38 = _ := hDz 3 (by kernel_rfl) rfl; have HW := jaa hBz.ext; simp only [zy, F2.Wp] at hK ⊢; simp only [E37, E38] at hK ⊢; go_simp; refine Calls.mono (HC.out ▸ jug q37.q (q11si.ext HW).q (by omega) (by omega)) ?_; rintro e w2z ⟨hb2, uz, rfl, hf⟩
        go_wp2_with fail
        refine hK _ w2z hb2 (Fact.cast (hf) ?_); with_reducible rfl
       refine F2.Steps.consO rfl ?_ ?_
       ·
        intro vz wz hBz hDz hTz K hK; have E39 : vz 39 = _ := hDz 4 (by kernel_rfl) rfl; have HW := jaa hBz.ext; simp only [zy, F2.Wp] at hK ⊢; simp only [E39] at hK ⊢; go_simp; refine hK _ wz zB (Fact.eq_mk ?_); with_reducible rfl
       refine F2.Steps.consO rfl ?_ ?_
       ·
        intro vz wz hBz hDz hTz K hK; have E40 : vz 40 = _ := hDz 5 (by kernel_rfl) rfl; have HW := jaa hBz.ext; simp only [zy, F2.Wp] at hK ⊢; simp only [E40] at hK ⊢; go_simp; refine hK _ wz zB (Fact.eq_mk ?_); with_reducible rfl
       exact F2.Steps.nil
      intro vj w10 hBz ⟨hOz, hAz, hNz, hSz⟩; have E35 : vj 35 = _ := hOz 0 (by decide) rfl; have E36 : vj 36 = _ := hOz 1 (by decide) rfl; obtain ⟨n37_, A37_, l37_, c37_, E37, q37⟩ : IntV 0 _ _ w10 (vj 37) := hOz 2 (by decide) rfl; have E38 : vj 38 = _ := hOz 3 (by decide) rfl; have E39 : vj 39 = _ := hOz 4 (by decide) rfl; have E40 : vj 40 = _ := hOz 5 (by decide) rfl; have E10 : vj 10 = _ := hOz 6 (by decide) rfl; simp only [Act.put, actv, fill, fC, fN, tA, cS, cZ]; simp only [E35, E36, E37, E38, E39, E40, E10]; clear E35 E36 E37 E38 E39 E40 E10; replace h0 := h0.ext hBz.ext; replace q11si := q11si.ext hBz.ext; replace bx5 := hBz.blk bx5 zN; replace bx11 := hBz.blk bx11 zN; replace HB := hide (HB.out.trans (hBz.below (B := w.heap.size) HB.out.size zE)); clear hOz hAz hNz hSz hBz
      go_wp2_with fail
      go_ret
      exact ⟨HB.out, VF.mk (Fact.cast (Fact.eq_self _ _) (by rw [HM.out]; simp only [decide_eq_true (show 0 ≤ q by omega), decide_eq_true (show q ≤ 1200 by omega), decide_eq_true (show 1 ≤ n by omega), decide_eq_true (show n ≤ 400 by omega), decide_eq_true (show 0 ≤ s by omega), Bool.true_and, Bool.false_and] <;> rfl))⟩
set_option maxHeartbeats 4000000 in
set_option maxRecDepth 100000 in
theorem jcu {w : World}  {k0 k1 : Nat} {n0 n1 : Bool} {A0 A1 : Option Addr} {l0 l1 c0 c1 : Nat} {x0 x1 : Int} {y q : Int} (h0 : Q w k0 n0 A0 l0 c0 x0) (h1 : Q w k1 n1 A1 l1 c1 x1) (hk0 : k0 ≤ 4000) (hk1 : k1 ≤ 4000) (hy0 : 1 ≤ y) (hy1 : y ≤ 1000000000) (hq0 : 0 ≤ q) (hq1 : q ≤ 8000) :
    Calls Tryz.prog 46 #[.agg #[.bool n0, .slice A0 l0 c0], .agg #[.bool n1, .slice A1 l1 c1], .int .i64 y, .int .i64 q] w fun e w' => Below w.heap.size w w' ∧ VF (Fact.z (k0 + k1) (x0 * x1 / (y * 2 ^ q.toNat))) e w' := by
 have hy : y ≠ 0 := by omega
 go_enter Tryz.func46, Tryz.ntmps46
 have HB : Hid (Below w.heap.size w w) := hide (Below.refl _ _)
 go_upto_region 0 with (fail)
 refine F2.regionS [.al 25 #[.bool n0, .slice A0 l0 c0], .al 25 #[.bool n1, .slice A1 l1 c1], .al 25 #[.bool false, .slice none 0 0]] [Fact.any, Fact.any, Fact.any] [4, 5, 8] [4, 5, 8] (by kernel_rfl) ?soa ?sopa (by kernel_rfl) ?sta ?fina
 case soa => exact fun x hx => by cases hx
 case sopa => exact List.Pairwise.nil
 case sta =>
  refine F2.Steps.consA rfl ⟨NoU.two nB nS, ?_⟩ ?_
  ·
   intro vz wz hBz K hK; simp only [zy, F2.Wp] at hK ⊢; go_simp; exact hK
  refine F2.Steps.consA rfl ⟨NoU.two nB nS, ?_⟩ ?_
  ·
   intro vz wz hBz K hK; simp only [zy, F2.Wp] at hK ⊢; go_simp; exact hK
  refine F2.Steps.consA rfl ⟨NoU.two nB nS, ?_⟩ ?_
  ·
   intro vz wz hBz K hK; simp only [zy, F2.Wp] at hK ⊢; go_simp; exact hK
  exact F2.Steps.nil
 intro va w1 hBz ⟨hOz, hAz, hNz, hSz⟩; obtain ⟨g4, cs4, E4, hg4, bx4, hs4, hz4⟩ := hAz 0 _ _ (by decide) rfl; have hzz := hz4 (F2.nost (by kernel_rfl)); subst hzz; obtain ⟨g5, cs5, E5, hg5, bx5, hs5, hz5⟩ := hAz 1 _ _ (by decide) rfl; have hzz := hz5 (F2.nost (by kernel_rfl)); subst hzz; obtain ⟨g8, cs8, E8, hg8, bx8, hs8, hz8⟩ := hAz 2 _ _ (by decide) rfl; have hzz := hz8 (F2.nost (by kernel_rfl)); subst hzz; have hne4_5 : Hid (¬ g4 = g5) := hide (fun h => hNz 0 1 _ _ _ _ (by decide) (by decide) (by decide) rfl rfl (by rw [E4, E5, h])); have hne4_8 : Hid (¬ g4 = g8) := hide (fun h => hNz 0 2 _ _ _ _ (by decide) (by decide) (by decide) rfl rfl (by rw [E4, E8, h])); have hne5_8 : Hid (¬ g5 = g8) := hide (fun h => hNz 1 2 _ _ _ _ (by decide) (by decide) (by decide) rfl rfl (by rw [E5, E8, h])); simp only [Act.put, actv, fill, fC, fN, tA, cS, cZ]; simp only [(show va 4 = _ from E4), (show va 5 = _ from E5), (show va 8 = _ from E8)]; clear E4 E5 E8; have hge4 : w.heap.size ≤ g4 := Nat.le_trans HB.out.size hg4; have hge5 : w.heap.size ≤ g5 := Nat.le_trans HB.out.size hg5; have hge8 : w.heap.size ≤ g8 := Nat.le_trans HB.out.size hg8; replace h0 := h0.ext hBz.ext; replace h1 := h1.ext hBz.ext; replace HB := hide (HB.out.trans (hBz.below (B := w.heap.size) HB.out.size zE)); clear hOz hAz hNz hSz hs4 hz4 hs5 hz5 hs8 hz8 hBz
 go_upto_region 1 with (fail)
 refine F2.regionS [.o, .o, .o, .o, .o, .al 25 #[.bool false, .slice none 0 0], .st 5] [Fact.eq ?cb10_, Fact.eq ?cb11_, Fact.z ?kb12_ ?zb12_, Fact.eq ?cb13_, Fact.z ?kb14_ ?zb14_, Fact.any, Fact.z ?kbs9_ ?zbs9_] [10, 11, 12, 13, 14, 9] [10, 11, 12, 13, 14, 9, 0] (by kernel_rfl) ?sob ?sopb (by kernel_rfl) ?stb ?finb
 case sob => exact fun x hx => by cases hx
 case sopb => exact List.Pairwise.nil
 case stb =>
  refine F2.Steps.consO rfl ?_ ?_
  ·
   intro vz wz hBz hDz hTz K hK; have HW := hBz.ext; have bx4z := hBz.blk bx4 zN; obtain ⟨zl0, zl1, -⟩ := bx4z.two; simp only [zy, F2.Wp] at hK ⊢; go_simp; refine hK _ wz zB (Fact.eq_mk ?_); with_reducible rfl
  refine F2.Steps.consO rfl ?_ ?_
  ·
   intro vz wz hBz hDz hTz K hK; have HW := hBz.ext; have bx5z := hBz.blk bx5 zN; obtain ⟨zl0, zl1, -⟩ := bx5z.two; simp only [zy, F2.Wp] at hK ⊢; go_simp; refine hK _ wz zB (Fact.eq_mk ?_); with_reducible rfl
  refine F2.Steps.consO rfl ?_ ?_
  ·
   intro vz wz hBz hDz hTz K hK; have E10 : vz 10 = _ := hDz 0 (by kernel_rfl) rfl; have E11 : vz 11 = _ := hDz 1 (by kernel_rfl) rfl; have HW := hBz.ext; simp only [zy, F2.Wp] at hK ⊢; simp only [E10, E11] at hK ⊢; go_simp; refine Calls.mono (jpa (h0.ext HW) (h1.ext HW) (by omega) (by omega)) ?_; rintro e w2z ⟨hb2, uz, rfl, hf⟩
   go_wp2_with fail
   refine hK _ w2z hb2 (Fact.cast (hf) ?_); with_reducible rfl
  refine F2.Steps.consO rfl ?_ ?_
  ·
   intro vz wz hBz hDz hTz K hK; have HW := hBz.ext; simp only [zy, F2.Wp] at hK ⊢; go_simp; refine hK _ wz zB (Fact.eq_mk ?_); with_reducible rfl
  refine F2.Steps.consO rfl ?_ ?_
  ·
   intro vz wz hBz hDz hTz K hK; obtain ⟨n12_, A12_, l12_, c12_, E12, q12⟩ : IntV 0 _ _ wz (vz 12) := hDz 2 (by kernel_rfl) rfl; have E13 : vz 13 = _ := hDz 3 (by kernel_rfl) rfl; have HW := hBz.ext; simp only [zy, F2.Wp] at hK ⊢; simp only [E12, E13] at hK ⊢; go_simp; refine Calls.mono (js0 q12.q (by omega) (by omega) (by omega)) ?_; rintro e w2z ⟨hb2, uz, rfl, hf⟩
   go_wp2_with fail
   refine hK _ w2z hb2 (Fact.cast (hf) ?_); with_reducible rfl
  refine F2.Steps.consA rfl ⟨NoU.two nB nS, ?_⟩ ?_
  ·
   intro vz wz hBz K hK; simp only [zy, F2.Wp] at hK ⊢; go_simp; exact hK
  refine F2.Steps.consS rfl rfl ?_ ?_
  ·
   intro vz wz gz hBz hDz E9' hgz hbz K hK; obtain ⟨zc0, zc1, zc2, zc3⟩ := hbz.two; obtain ⟨n14_, A14_, l14_, c14_, E14, q14⟩ : IntV 0 _ _ wz (vz 14) := hDz 4 (by kernel_rfl) rfl; have E9 : vz 9 = .pointer (some ⟨gz, 0, none⟩) := E9'; have HW := hBz.ext; simp only [zy, F2.Wp] at hK ⊢; simp only [E9, E14] at hK ⊢; go_simp; refine hK _ ((Far.set _ gz 0 _).trans (Far.set _ gz 1 _)) ⟨_, jab hbz, NoU.two nB nS, Fact.cast (Fact.z_mk q14) ?_⟩; with_reducible rfl
  exact F2.Steps.nil
 intro vb w2 hBz ⟨hOz, hAz, hNz, hSz⟩; have E10 : vb 10 = _ := hOz 0 (by decide) rfl; have E11 : vb 11 = _ := hOz 1 (by decide) rfl; obtain ⟨n12_, A12_, l12_, c12_, E12, q12⟩ : IntV 0 _ _ w2 (vb 12) := hOz 2 (by decide) rfl; have E13 : vb 13 = _ := hOz 3 (by decide) rfl; obtain ⟨n14_, A14_, l14_, c14_, E14, q14⟩ : IntV 0 _ _ w2 (vb 14) := hOz 4 (by decide) rfl; obtain ⟨g9, cs9, E9, hg9, bx9, hs9, hz9⟩ := hAz 5 _ _ (by decide) rfl; obtain ⟨n9sb_, A9sb_, l9sb_, c9sb_, E9sb, q9sb⟩ : IntV 0 _ _ w2 (.agg cs9) := hs9 6 (by decide) rfl; injection E9sb with E9sb
 subst E9sb; simp only [Act.put, actv, fill, fC, fN, tA, cS, cZ]; simp only [E10, E11, E12, E13, E14, (show vb 9 = _ from E9)]; clear E10 E11 E12 E13 E14 E9; have hge9 : w.heap.size ≤ g9 := Nat.le_trans HB.out.size hg9; have hne9_4 := hide (Nat.ne_of_gt (Nat.lt_of_lt_of_le bx4.lt (show w1.heap.size ≤ g9 from hg9))); have hne9_5 := hide (Nat.ne_of_gt (Nat.lt_of_lt_of_le bx5.lt (show w1.heap.size ≤ g9 from hg9))); have hne9_8 := hide (Nat.ne_of_gt (Nat.lt_of_lt_of_le bx8.lt (show w1.heap.size ≤ g9 from hg9))); replace h0 := h0.ext hBz.ext; replace h1 := h1.ext hBz.ext; replace bx4 := hBz.blk bx4 zN; replace bx5 := hBz.blk bx5 zN; replace bx8 := hBz.blk bx8 zN; replace HB := hide (HB.out.trans (hBz.below (B := w.heap.size) HB.out.size zE)); clear hOz hAz hNz hSz hs9 hz9 hBz
 by_cases hb : y = 1
 ·
  subst hb
  go_upto_region 2 with (fail)
  refine F2.regionS [.o, .o] [Fact.eq ?cc15_, Fact.eq ?cc16_] [15, 16] [15, 16] (by kernel_rfl) ?soc ?sopc (by kernel_rfl) ?stc ?finc
  case soc => exact fun x hx => by cases hx
  case sopc => exact List.Pairwise.nil
  case stc =>
   refine F2.Steps.consO rfl ?_ ?_
   ·
    intro vz wz hBz hDz hTz K hK; have HW := hBz.ext; simp only [zy, F2.Wp] at hK ⊢; go_simp; refine hK _ wz zB (Fact.eq_mk ?_); with_reducible rfl
   refine F2.Steps.consO rfl ?_ ?_
   ·
    intro vz wz hBz hDz hTz K hK; have E15 : vz 15 = _ := hDz 0 (by kernel_rfl) rfl; have HW := hBz.ext; simp only [zy, F2.Wp] at hK ⊢; simp only [E15] at hK ⊢; go_simp; refine hK _ wz zB (Fact.eq_mk ?_); with_reducible rfl
   exact F2.Steps.nil
  intro vc w3 hBz ⟨hOz, hAz, hNz, hSz⟩; have E15 : vc 15 = _ := hOz 0 (by decide) rfl; have E16 : vc 16 = _ := hOz 1 (by decide) rfl; simp only [Act.put, actv, fill, fC, fN, tA, cS, cZ]; simp only [E15, E16]; clear E15 E16; replace h0 := h0.ext hBz.ext; replace h1 := h1.ext hBz.ext; replace q9sb := q9sb.ext hBz.ext; replace bx4 := hBz.blk bx4 zN; replace bx5 := hBz.blk bx5 zN; replace bx8 := hBz.blk bx8 zN; replace bx9 := hBz.blk bx9 zN; replace HB := hide (HB.out.trans (hBz.below (B := w.heap.size) HB.out.size zE)); clear hOz hAz hNz hSz hBz
  go_upto_region 3 with (fail)
  refine F2.regionS [.o, .so (g8) 25 #[.bool false, .slice none 0 0]] [Fact.eq ?cd17_, Fact.z ?kds8_ ?zds8_] [17] [17, 0] (by kernel_rfl) ?sod ?sopd (by kernel_rfl) ?std ?find
  case sod => exact List.forall_mem_cons.2 ⟨⟨bx8, NoU.two nB nS⟩, fun x hx => by cases hx⟩
  case sopd => exact List.Pairwise.cons (fun y hy => by cases hy) (List.Pairwise.nil)
  case std =>
   refine F2.Steps.consO rfl ?_ ?_
   ·
    intro vz wz hBz hDz hTz K hK; have HW := hBz.ext; have bx9z := hBz.blk bx9 (zM hne9_8.out zN); obtain ⟨zl0, zl1, -⟩ := bx9z.two; simp only [zy, F2.Wp] at hK ⊢; go_simp; refine hK _ wz zB (Fact.eq_mk ?_); with_reducible rfl
   refine F2.Steps.consT rfl ?_ ?_
   ·
    intro vz wz hBz hDz hbz K hK; obtain ⟨zc0, zc1, zc2, zc3⟩ := hbz.two; have E17 : vz 17 = _ := hDz 0 (by kernel_rfl) rfl; have HW := hBz.ext; simp only [zy, F2.Wp] at hK ⊢; simp only [E17] at hK ⊢; go_simp; refine hK _ ((Far.set _ _ 0 _).trans (Far.set _ _ 1 _)) ⟨_, jab hbz, NoU.two nB nS, Fact.cast (Fact.z_mk (q9sb.ext HW)) ?_⟩; with_reducible rfl
   exact F2.Steps.nil
  intro vd w4 hBz ⟨hOz, hAz, hNz, hSz⟩; have E17 : vd 17 = _ := hOz 0 (by decide) rfl; obtain ⟨cs8, bx8n, hs8⟩ := hSz 1 _ _ _ (by decide) rfl; obtain ⟨n8sd_, A8sd_, l8sd_, c8sd_, E8sd, q8sd⟩ : IntV 0 _ _ w4 (.agg cs8) := hs8; injection E8sd with E8sd
  subst E8sd; simp only [Act.put, actv, fill, fC, fN, tA, cS, cZ]; simp only [E17]; clear E17; replace h0 := h0.ext hBz.ext; replace h1 := h1.ext hBz.ext; replace q9sb := q9sb.ext hBz.ext; replace bx4 := hBz.blk bx4 (zM hne4_8.out zN); replace bx5 := hBz.blk bx5 (zM hne5_8.out zN); replace bx9 := hBz.blk bx9 (zM hne9_8.out zN); replace HB := hide (HB.out.trans (hBz.below (B := w.heap.size) HB.out.size (zA hge8 zE))); clear bx8; have bx8 := bx8n; clear bx8n; clear hOz hAz hNz hSz hBz
  go_wp2_with fail
  refine bodyPost_ret (jac rfl _ _ _ _ _ _ rfl bx8) rfl ⟨HB.out, ?_⟩; refine VF.mk (Fact.cast (Fact.z_mk q8sd) ?_); rw [← jhm, Int.ediv_one]
 ·
  have hbb : (y == 1) = false := by simp [hb]
  go_upto_region 2 with (fail)
  refine F2.regionS [.o, .o] [Fact.eq ?ce15_, Fact.eq ?ce16_] [15, 16] [15, 16] (by kernel_rfl) ?soe ?sope (by kernel_rfl) ?ste ?fine
  case soe => exact fun x hx => by cases hx
  case sope => exact List.Pairwise.nil
  case ste =>
   refine F2.Steps.consO rfl ?_ ?_
   ·
    intro vz wz hBz hDz hTz K hK; have HW := hBz.ext; simp only [zy, F2.Wp] at hK ⊢; go_simp; refine hK _ wz zB (Fact.eq_mk ?_); with_reducible rfl
   refine F2.Steps.consO rfl ?_ ?_
   ·
    intro vz wz hBz hDz hTz K hK; have E15 : vz 15 = _ := hDz 0 (by kernel_rfl) rfl; have HW := hBz.ext; simp only [zy, F2.Wp] at hK ⊢; simp only [E15] at hK ⊢; go_simp; refine hK _ wz zB (Fact.eq_mk ?_); with_reducible rfl
   exact F2.Steps.nil
  intro ve w5 hBz ⟨hOz, hAz, hNz, hSz⟩; have E15 : ve 15 = _ := hOz 0 (by decide) rfl; have E16 : ve 16 = _ := hOz 1 (by decide) rfl; simp only [Act.put, actv, fill, fC, fN, tA, cS, cZ]; simp only [E15, E16]; clear E15 E16; replace h0 := h0.ext hBz.ext; replace h1 := h1.ext hBz.ext; replace q9sb := q9sb.ext hBz.ext; replace bx4 := hBz.blk bx4 zN; replace bx5 := hBz.blk bx5 zN; replace bx8 := hBz.blk bx8 zN; replace bx9 := hBz.blk bx9 zN; replace HB := hide (HB.out.trans (hBz.below (B := w.heap.size) HB.out.size zE)); clear hOz hAz hNz hSz hBz
  go_upto_region 4 with (fail)
  refine F2.region [.o, .o, .o, .o, .o, .o, .o, .o, .so (g9) 25 #[.bool n9sb_, .slice A9sb_ l9sb_ c9sb_]] [Fact.eq ?cf19_, Fact.eq ?cf20_, Fact.z ?kf21_ ?zf21_, Fact.t3 (Fact.z ?kf22_p ?zf22_p) (Fact.z ?kf22_q ?zf22_q) (Fact.eq ?cf22_r), Fact.t3 (Fact.z ?kf18_p ?zf18_p) (Fact.z ?kf18_q ?zf18_q) (Fact.eq ?cf18_r), Fact.z ?kf23_ ?zf23_, Fact.z ?kf24_ ?zf24_, Fact.eq ?cf25_, Fact.z ?kfs9_ ?zfs9_] [19, 20, 21, 22, 18, 23, 24, 25] [19, 20, 21, 22, 18, 23, 24, 25, 0] (by kernel_rfl) ?sof ?sopf (by kernel_rfl) ?stf ?finf
  case sof => exact List.forall_mem_cons.2 ⟨⟨bx9, NoU.two nB nS⟩, fun x hx => by cases hx⟩
  case sopf => exact List.Pairwise.cons (fun y hy => by cases hy) (List.Pairwise.nil)
  case stf =>
   refine F2.Steps.consO rfl ?_ ?_
   ·
    intro vz wz hBz hDz hTz K hK; have HW := jaa hBz.ext; have bx9z := hTz 8 _ _ _ _ rfl rfl (by kernel_rfl); obtain ⟨zl0, zl1, -⟩ := bx9z.two; simp only [zy, F2.Wp] at hK ⊢; go_simp; refine hK _ wz zB (Fact.eq_mk ?_); with_reducible rfl
   refine F2.Steps.consO rfl ?_ ?_
   ·
    intro vz wz hBz hDz hTz K hK; have HW := jaa hBz.ext; simp only [zy, F2.Wp] at hK ⊢; go_simp; refine hK _ wz zB (Fact.eq_mk ?_); with_reducible rfl
   refine F2.Steps.consO rfl ?_ ?_
   ·
    intro vz wz hBz hDz hTz K hK; have E20 : vz 20 = _ := hDz 1 (by kernel_rfl) rfl; have HW := jaa hBz.ext; simp only [zy, F2.Wp] at hK ⊢; simp only [E20] at hK ⊢; go_simp; refine Calls.mono (u_of  (by omega) (by omega)) ?_; rintro e w2z ⟨hb2, uz, rfl, hf⟩
    go_wp2_with fail
    refine hK _ w2z hb2 (Fact.cast (hf) ?_); with_reducible rfl
   refine F2.Steps.consO rfl ?_ ?_
   ·
    intro vz wz hBz hDz hTz K hK; have E19 : vz 19 = _ := hDz 0 (by kernel_rfl) rfl; obtain ⟨n21_, A21_, l21_, c21_, E21, q21⟩ : IntV 0 _ _ wz (vz 21) := hDz 2 (by kernel_rfl) rfl; have HW := jaa hBz.ext; simp only [zy, F2.Wp] at hK ⊢; simp only [E19, E21] at hK ⊢; go_simp; refine Calls.mono (jl3 (q9sb.ext HW).q q21.q (by omega) (by omega) hy) ?_; rintro e w2z ⟨hb2, uz, rfl, hf⟩
    go_wp2_with fail
    refine hK _ w2z hb2 (Fact.cast (hf) ?_); with_reducible rfl
   refine F2.Steps.consO rfl ?_ ?_
   ·
    intro vz wz hBz hDz hTz K hK; obtain ⟨x22p_, x22q_, x22r_, E22, h22p, h22q, h22r⟩ : TV3 _ _ _ wz (vz 22) := hDz 3 (by kernel_rfl) rfl; obtain rfl := Fact.eq_of h22r; have HW := jaa hBz.ext; simp only [zy, F2.Wp] at hK ⊢; simp only [E22] at hK ⊢; go_simp; refine hK _ wz zB (Fact.cast (Fact.t3_mk h22p h22q (Fact.eq_self _ _)) ?_); with_reducible rfl
   refine F2.Steps.consO rfl ?_ ?_
   ·
    intro vz wz hBz hDz hTz K hK; obtain ⟨x18p_, x18q_, x18r_, E18, h18p, h18q, h18r⟩ : TV3 _ _ _ wz (vz 18) := hDz 4 (by kernel_rfl) rfl; obtain rfl := Fact.eq_of h18r; have HW := jaa hBz.ext; simp only [zy, F2.Wp] at hK ⊢; simp only [E18] at hK ⊢; go_simp; refine hK _ wz zB (Fact.cast (h18p) ?_); with_reducible rfl
   refine F2.Steps.consO rfl ?_ ?_
   ·
    intro vz wz hBz hDz hTz K hK; obtain ⟨x18p_, x18q_, x18r_, E18, h18p, h18q, h18r⟩ : TV3 _ _ _ wz (vz 18) := hDz 4 (by kernel_rfl) rfl; obtain rfl := Fact.eq_of h18r; have HW := jaa hBz.ext; simp only [zy, F2.Wp] at hK ⊢; simp only [E18] at hK ⊢; go_simp; refine hK _ wz zB (Fact.cast (h18q) ?_); with_reducible rfl
   refine F2.Steps.consO rfl ?_ ?_
   ·
    intro vz wz hBz hDz hTz K hK; obtain ⟨x18p_, x18q_, x18r_, E18, h18p, h18q, h18r⟩ : TV3 _ _ _ wz (vz 18) := hDz 4 (by kernel_rfl) rfl; obtain rfl := Fact.eq_of h18r; have HW := jaa hBz.ext; simp only [zy, F2.Wp] at hK ⊢; simp only [E18] at hK ⊢; go_simp; refine hK _ wz zB (Fact.eq_mk ?_); with_reducible rfl
   refine F2.Steps.consT rfl ?_ ?_
   ·
    intro vz wz hBz hDz hbz K hK; obtain ⟨zc0, zc1, zc2, zc3⟩ := hbz.two; obtain ⟨n23_, A23_, l23_, c23_, E23, q23⟩ : IntV 0 _ _ wz (vz 23) := hDz 5 (by kernel_rfl) rfl; have HW := jaa hBz.ext; simp only [zy, F2.Wp] at hK ⊢; simp only [E23] at hK ⊢; go_simp; refine hK _ ((Far.set _ _ 0 _).trans (Far.set _ _ 1 _)) ⟨_, jab hbz, NoU.two nB nS, Fact.cast (Fact.z_mk q23) ?_⟩; with_reducible rfl
   exact F2.Steps.nil
  intro vf w6 hBz ⟨hOz, hAz, hNz, hSz⟩; have E19 : vf 19 = _ := hOz 0 (by decide) rfl; have E20 : vf 20 = _ := hOz 1 (by decide) rfl; obtain ⟨n21_, A21_, l21_, c21_, E21, q21⟩ : IntV 0 _ _ w6 (vf 21) := hOz 2 (by decide) rfl; obtain ⟨x22p_, x22q_, x22r_, E22, h22p, h22q, h22r⟩ : TV3 _ _ _ w6 (vf 22) := hOz 3 (by decide) rfl; obtain rfl := Fact.eq_of h22r; obtain ⟨x18p_, x18q_, x18r_, E18, h18p, h18q, h18r⟩ : TV3 _ _ _ w6 (vf 18) := hOz 4 (by decide) rfl; obtain rfl := Fact.eq_of h18r; obtain ⟨n23_, A23_, l23_, c23_, E23, q23⟩ : IntV 0 _ _ w6 (vf 23) := hOz 5 (by decide) rfl; obtain ⟨n24_, A24_, l24_, c24_, E24, q24⟩ : IntV 0 _ _ w6 (vf 24) := hOz 6 (by decide) rfl; have E25 : vf 25 = _ := hOz 7 (by decide) rfl; obtain ⟨cs9, bx9n, hs9⟩ := hSz 8 _ _ _ (by decide) rfl; obtain ⟨n9sf_, A9sf_, l9sf_, c9sf_, E9sf, q9sf⟩ : IntV 0 _ _ w6 (.agg cs9) := hs9; injection E9sf with E9sf
  subst E9sf; simp only [Act.put, actv, fill, fC, fN, tA, cS, cZ]; simp only [E19, E20, E21, E22, E18, E23, E24, E25]; clear E19 E20 E21 E22 E18 E23 E24 E25; replace h0 := h0.ext hBz.ext; replace h1 := h1.ext hBz.ext; replace q9sb := q9sb.ext hBz.ext; replace bx4 := hBz.blk bx4 (zM (Ne.symm hne9_4.out) zN); replace bx5 := hBz.blk bx5 (zM (Ne.symm hne9_5.out) zN); replace bx8 := hBz.blk bx8 (zM (Ne.symm hne9_8.out) zN); replace HB := hide (HB.out.trans (hBz.below (B := w.heap.size) HB.out.size (zA hge9 zE))); clear bx9; have bx9 := bx9n; clear bx9n; clear hOz hAz hNz hSz hBz
  go_upto_region 5 with (fail)
  refine F2.regionS [.o, .so (g8) 25 #[.bool false, .slice none 0 0]] [Fact.eq ?cg26_, Fact.z ?kgs8_ ?zgs8_] [26] [26, 0] (by kernel_rfl) ?sog ?sopg (by kernel_rfl) ?stg ?fing
  case sog => exact List.forall_mem_cons.2 ⟨⟨bx8, NoU.two nB nS⟩, fun x hx => by cases hx⟩
  case sopg => exact List.Pairwise.cons (fun y hy => by cases hy) (List.Pairwise.nil)
  case stg =>
   refine F2.Steps.consO rfl ?_ ?_
   ·
    intro vz wz hBz hDz hTz K hK; have HW := hBz.ext; have bx9z := hBz.blk bx9 (zM hne9_8.out zN); obtain ⟨zl0, zl1, -⟩ := bx9z.two; simp only [zy, F2.Wp] at hK ⊢; go_simp; refine hK _ wz zB (Fact.eq_mk ?_); with_reducible rfl
   refine F2.Steps.consT rfl ?_ ?_
   ·
    intro vz wz hBz hDz hbz K hK; obtain ⟨zc0, zc1, zc2, zc3⟩ := hbz.two; have E26 : vz 26 = _ := hDz 0 (by kernel_rfl) rfl; have HW := hBz.ext; simp only [zy, F2.Wp] at hK ⊢; simp only [E26] at hK ⊢; go_simp; refine hK _ ((Far.set _ _ 0 _).trans (Far.set _ _ 1 _)) ⟨_, jab hbz, NoU.two nB nS, Fact.cast (Fact.z_mk (q9sf.ext HW)) ?_⟩; with_reducible rfl
   exact F2.Steps.nil
  intro vg w7 hBz ⟨hOz, hAz, hNz, hSz⟩; have E26 : vg 26 = _ := hOz 0 (by decide) rfl; obtain ⟨cs8, bx8n, hs8⟩ := hSz 1 _ _ _ (by decide) rfl; obtain ⟨n8sg_, A8sg_, l8sg_, c8sg_, E8sg, q8sg⟩ : IntV 0 _ _ w7 (.agg cs8) := hs8; injection E8sg with E8sg
  subst E8sg; simp only [Act.put, actv, fill, fC, fN, tA, cS, cZ]; simp only [E26]; clear E26; replace h0 := h0.ext hBz.ext; replace h1 := h1.ext hBz.ext; replace q9sf := q9sf.ext hBz.ext; replace bx4 := hBz.blk bx4 (zM hne4_8.out zN); replace bx5 := hBz.blk bx5 (zM hne5_8.out zN); replace bx9 := hBz.blk bx9 (zM hne9_8.out zN); replace HB := hide (HB.out.trans (hBz.below (B := w.heap.size) HB.out.size (zA hge8 zE))); clear bx8; have bx8 := bx8n; clear bx8n; clear hOz hAz hNz hSz hBz
  go_wp2_with fail
  refine bodyPost_ret (jac rfl _ _ _ _ _ _ rfl bx8) rfl ⟨HB.out, ?_⟩; refine VF.mk (Fact.cast (Fact.z_mk q8sg) ?_); rw [← jhm]
set_option maxHeartbeats 4000000 in
set_option maxRecDepth 100000 in
theorem jc9 {w : World}  {k0 k1 : Nat} {n0 n1 : Bool} {A0 A1 : Option Addr} {l0 l1 c0 c1 : Nat} {x0 x1 : Int} {y q : Int} (h0 : Q w k0 n0 A0 l0 c0 x0) (h1 : Q w k1 n1 A1 l1 c1 x1) (hk0 : k0 ≤ 4000) (hk1 : k1 ≤ 4000) (hy0 : 1 ≤ y) (hy1 : y ≤ 1000000000) (hq0 : 0 ≤ q) (hq1 : q ≤ 8000) :
    Calls Tryz.prog 47 #[.agg #[.bool n0, .slice A0 l0 c0], .agg #[.bool n1, .slice A1 l1 c1], .int .i64 y, .int .i64 q] w fun e w' => Below w.heap.size w w' ∧ VF (Fact.z (k0 + k1) (vUp (x0 * x1) (y * 2 ^ q.toNat))) e w' := by
 have hy : y ≠ 0 := by omega
 go_enter Tryz.func47, Tryz.ntmps47
 have HB : Hid (Below w.heap.size w w) := hide (Below.refl _ _)
 go_upto_region 0 with (fail)
 refine F2.regionS [.al 25 #[.bool n0, .slice A0 l0 c0], .al 25 #[.bool n1, .slice A1 l1 c1], .al 25 #[.bool false, .slice none 0 0]] [Fact.any, Fact.any, Fact.any] [4, 5, 8] [4, 5, 8] (by kernel_rfl) ?soa ?sopa (by kernel_rfl) ?sta ?fina
 case soa => exact fun x hx => by cases hx
 case sopa => exact List.Pairwise.nil
 case sta =>
  refine F2.Steps.consA rfl ⟨NoU.two nB nS, ?_⟩ ?_
  ·
   intro vz wz hBz K hK; simp only [zy, F2.Wp] at hK ⊢; go_simp; exact hK
  refine F2.Steps.consA rfl ⟨NoU.two nB nS, ?_⟩ ?_
  ·
   intro vz wz hBz K hK; simp only [zy, F2.Wp] at hK ⊢; go_simp; exact hK
  refine F2.Steps.consA rfl ⟨NoU.two nB nS, ?_⟩ ?_
  ·
   intro vz wz hBz K hK; simp only [zy, F2.Wp] at hK ⊢; go_simp; exact hK
  exact F2.Steps.nil
 intro va w1 hBz ⟨hOz, hAz, hNz, hSz⟩; obtain ⟨g4, cs4, E4, hg4, bx4, hs4, hz4⟩ := hAz 0 _ _ (by decide) rfl; have hzz := hz4 (F2.nost (by kernel_rfl)); subst hzz; obtain ⟨g5, cs5, E5, hg5, bx5, hs5, hz5⟩ := hAz 1 _ _ (by decide) rfl; have hzz := hz5 (F2.nost (by kernel_rfl)); subst hzz; obtain ⟨g8, cs8, E8, hg8, bx8, hs8, hz8⟩ := hAz 2 _ _ (by decide) rfl; have hzz := hz8 (F2.nost (by kernel_rfl)); subst hzz; have hne4_5 : Hid (¬ g4 = g5) := hide (fun h => hNz 0 1 _ _ _ _ (by decide) (by decide) (by decide) rfl rfl (by rw [E4, E5, h])); have hne4_8 : Hid (¬ g4 = g8) := hide (fun h => hNz 0 2 _ _ _ _ (by decide) (by decide) (by decide) rfl rfl (by rw [E4, E8, h])); have hne5_8 : Hid (¬ g5 = g8) := hide (fun h => hNz 1 2 _ _ _ _ (by decide) (by decide) (by decide) rfl rfl (by rw [E5, E8, h])); simp only [Act.put, actv, fill, fC, fN, tA, cS, cZ]; simp only [(show va 4 = _ from E4), (show va 5 = _ from E5), (show va 8 = _ from E8)]; clear E4 E5 E8; have hge4 : w.heap.size ≤ g4 := Nat.le_trans HB.out.size hg4; have hge5 : w.heap.size ≤ g5 := Nat.le_trans HB.out.size hg5; have hge8 : w.heap.size ≤ g8 := Nat.le_trans HB.out.size hg8; replace h0 := h0.ext hBz.ext; replace h1 := h1.ext hBz.ext; replace HB := hide (HB.out.trans (hBz.below (B := w.heap.size) HB.out.size zE)); clear hOz hAz hNz hSz hs4 hz4 hs5 hz5 hs8 hz8 hBz
 go_upto_region 1 with (fail)
 refine F2.regionS [.o, .o, .o, .o, .o, .o, .o, .al 25 #[.bool false, .slice none 0 0], .st 7] [Fact.eq ?cb10_, Fact.eq ?cb11_, Fact.z ?kb12_ ?zb12_, Fact.z ?kb13_ ?zb13_, Fact.eq ?cb14_, Fact.z ?kb15_ ?zb15_, Fact.z ?kb16_ ?zb16_, Fact.any, Fact.z ?kbs9_ ?zbs9_] [10, 11, 12, 13, 14, 15, 16, 9] [10, 11, 12, 13, 14, 15, 16, 9, 0] (by kernel_rfl) ?sob ?sopb (by kernel_rfl) ?stb ?finb
 case sob => exact fun x hx => by cases hx
 case sopb => exact List.Pairwise.nil
 case stb =>
  refine F2.Steps.consO rfl ?_ ?_
  ·
   intro vz wz hBz hDz hTz K hK; have HW := hBz.ext; have bx4z := hBz.blk bx4 zN; obtain ⟨zl0, zl1, -⟩ := bx4z.two; simp only [zy, F2.Wp] at hK ⊢; go_simp; refine hK _ wz zB (Fact.eq_mk ?_); with_reducible rfl
  refine F2.Steps.consO rfl ?_ ?_
  ·
   intro vz wz hBz hDz hTz K hK; have HW := hBz.ext; have bx5z := hBz.blk bx5 zN; obtain ⟨zl0, zl1, -⟩ := bx5z.two; simp only [zy, F2.Wp] at hK ⊢; go_simp; refine hK _ wz zB (Fact.eq_mk ?_); with_reducible rfl
  refine F2.Steps.consO rfl ?_ ?_
  ·
   intro vz wz hBz hDz hTz K hK; have E10 : vz 10 = _ := hDz 0 (by kernel_rfl) rfl; have E11 : vz 11 = _ := hDz 1 (by kernel_rfl) rfl; have HW := hBz.ext; simp only [zy, F2.Wp] at hK ⊢; simp only [E10, E11] at hK ⊢; go_simp; refine Calls.mono (jpa (h0.ext HW) (h1.ext HW) (by omega) (by omega)) ?_; rintro e w2z ⟨hb2, uz, rfl, hf⟩
   go_wp2_with fail
   refine hK _ w2z hb2 (Fact.cast (hf) ?_); with_reducible rfl
  refine F2.Steps.consO rfl ?_ ?_
  ·
   intro vz wz hBz hDz hTz K hK; obtain ⟨n12_, A12_, l12_, c12_, E12, q12⟩ : IntV 0 _ _ wz (vz 12) := hDz 2 (by kernel_rfl) rfl; have HW := hBz.ext; simp only [zy, F2.Wp] at hK ⊢; simp only [E12] at hK ⊢; go_simp; refine Calls.mono (jsx q12.q (by omega)) ?_; rintro e w2z ⟨hb2, uz, rfl, hf⟩
   go_wp2_with fail
   refine hK _ w2z hb2 (Fact.cast (hf) ?_); with_reducible rfl
  refine F2.Steps.consO rfl ?_ ?_
  ·
   intro vz wz hBz hDz hTz K hK; have HW := hBz.ext; simp only [zy, F2.Wp] at hK ⊢; go_simp; refine hK _ wz zB (Fact.eq_mk ?_); with_reducible rfl
  refine F2.Steps.consO rfl ?_ ?_
  ·
   intro vz wz hBz hDz hTz K hK; obtain ⟨n13_, A13_, l13_, c13_, E13, q13⟩ : IntV 0 _ _ wz (vz 13) := hDz 3 (by kernel_rfl) rfl; have E14 : vz 14 = _ := hDz 4 (by kernel_rfl) rfl; have HW := hBz.ext; simp only [zy, F2.Wp] at hK ⊢; simp only [E13, E14] at hK ⊢; go_simp; refine Calls.mono (js0 q13.q (by omega) (by omega) (by omega)) ?_; rintro e w2z ⟨hb2, uz, rfl, hf⟩
   go_wp2_with fail
   refine hK _ w2z hb2 (Fact.cast (hf) ?_); with_reducible rfl
  refine F2.Steps.consO rfl ?_ ?_
  ·
   intro vz wz hBz hDz hTz K hK; obtain ⟨n15_, A15_, l15_, c15_, E15, q15⟩ : IntV 0 _ _ wz (vz 15) := hDz 5 (by kernel_rfl) rfl; have HW := hBz.ext; simp only [zy, F2.Wp] at hK ⊢; simp only [E15] at hK ⊢; go_simp; refine Calls.mono (jsx q15.q (by omega)) ?_; rintro e w2z ⟨hb2, uz, rfl, hf⟩
   go_wp2_with fail
   refine hK _ w2z hb2 (Fact.cast (hf) ?_); with_reducible rfl
  refine F2.Steps.consA rfl ⟨NoU.two nB nS, ?_⟩ ?_
  ·
   intro vz wz hBz K hK; simp only [zy, F2.Wp] at hK ⊢; go_simp; exact hK
  refine F2.Steps.consS rfl rfl ?_ ?_
  ·
   intro vz wz gz hBz hDz E9' hgz hbz K hK; obtain ⟨zc0, zc1, zc2, zc3⟩ := hbz.two; obtain ⟨n16_, A16_, l16_, c16_, E16, q16⟩ : IntV 0 _ _ wz (vz 16) := hDz 6 (by kernel_rfl) rfl; have E9 : vz 9 = .pointer (some ⟨gz, 0, none⟩) := E9'; have HW := hBz.ext; simp only [zy, F2.Wp] at hK ⊢; simp only [E9, E16] at hK ⊢; go_simp; refine hK _ ((Far.set _ gz 0 _).trans (Far.set _ gz 1 _)) ⟨_, jab hbz, NoU.two nB nS, Fact.cast (Fact.z_mk q16) ?_⟩; with_reducible rfl
  exact F2.Steps.nil
 intro vb w2 hBz ⟨hOz, hAz, hNz, hSz⟩; have E10 : vb 10 = _ := hOz 0 (by decide) rfl; have E11 : vb 11 = _ := hOz 1 (by decide) rfl; obtain ⟨n12_, A12_, l12_, c12_, E12, q12⟩ : IntV 0 _ _ w2 (vb 12) := hOz 2 (by decide) rfl; obtain ⟨n13_, A13_, l13_, c13_, E13, q13⟩ : IntV 0 _ _ w2 (vb 13) := hOz 3 (by decide) rfl; have E14 : vb 14 = _ := hOz 4 (by decide) rfl; obtain ⟨n15_, A15_, l15_, c15_, E15, q15⟩ : IntV 0 _ _ w2 (vb 15) := hOz 5 (by decide) rfl; obtain ⟨n16_, A16_, l16_, c16_, E16, q16⟩ : IntV 0 _ _ w2 (vb 16) := hOz 6 (by decide) rfl; obtain ⟨g9, cs9, E9, hg9, bx9, hs9, hz9⟩ := hAz 7 _ _ (by decide) rfl; obtain ⟨n9sb_, A9sb_, l9sb_, c9sb_, E9sb, q9sb⟩ : IntV 0 _ _ w2 (.agg cs9) := hs9 8 (by decide) rfl; injection E9sb with E9sb
 subst E9sb; simp only [Act.put, actv, fill, fC, fN, tA, cS, cZ]; simp only [E10, E11, E12, E13, E14, E15, E16, (show vb 9 = _ from E9)]; clear E10 E11 E12 E13 E14 E15 E16 E9; have hge9 : w.heap.size ≤ g9 := Nat.le_trans HB.out.size hg9; have hne9_4 := hide (Nat.ne_of_gt (Nat.lt_of_lt_of_le bx4.lt (show w1.heap.size ≤ g9 from hg9))); have hne9_5 := hide (Nat.ne_of_gt (Nat.lt_of_lt_of_le bx5.lt (show w1.heap.size ≤ g9 from hg9))); have hne9_8 := hide (Nat.ne_of_gt (Nat.lt_of_lt_of_le bx8.lt (show w1.heap.size ≤ g9 from hg9))); replace h0 := h0.ext hBz.ext; replace h1 := h1.ext hBz.ext; replace bx4 := hBz.blk bx4 zN; replace bx5 := hBz.blk bx5 zN; replace bx8 := hBz.blk bx8 zN; replace HB := hide (HB.out.trans (hBz.below (B := w.heap.size) HB.out.size zE)); clear hOz hAz hNz hSz hs9 hz9 hBz
 by_cases hb : y = 1
 ·
  subst hb
  go_upto_region 2 with (fail)
  refine F2.regionS [.o, .o] [Fact.eq ?cc17_, Fact.eq ?cc18_] [17, 18] [17, 18] (by kernel_rfl) ?soc ?sopc (by kernel_rfl) ?stc ?finc
  case soc => exact fun x hx => by cases hx
  case sopc => exact List.Pairwise.nil
  case stc =>
   refine F2.Steps.consO rfl ?_ ?_
   ·
    intro vz wz hBz hDz hTz K hK; have HW := hBz.ext; simp only [zy, F2.Wp] at hK ⊢; go_simp; refine hK _ wz zB (Fact.eq_mk ?_); with_reducible rfl
   refine F2.Steps.consO rfl ?_ ?_
   ·
    intro vz wz hBz hDz hTz K hK; have E17 : vz 17 = _ := hDz 0 (by kernel_rfl) rfl; have HW := hBz.ext; simp only [zy, F2.Wp] at hK ⊢; simp only [E17] at hK ⊢; go_simp; refine hK _ wz zB (Fact.eq_mk ?_); with_reducible rfl
   exact F2.Steps.nil
  intro vc w3 hBz ⟨hOz, hAz, hNz, hSz⟩; have E17 : vc 17 = _ := hOz 0 (by decide) rfl; have E18 : vc 18 = _ := hOz 1 (by decide) rfl; simp only [Act.put, actv, fill, fC, fN, tA, cS, cZ]; simp only [E17, E18]; clear E17 E18; replace h0 := h0.ext hBz.ext; replace h1 := h1.ext hBz.ext; replace q9sb := q9sb.ext hBz.ext; replace bx4 := hBz.blk bx4 zN; replace bx5 := hBz.blk bx5 zN; replace bx8 := hBz.blk bx8 zN; replace bx9 := hBz.blk bx9 zN; replace HB := hide (HB.out.trans (hBz.below (B := w.heap.size) HB.out.size zE)); clear hOz hAz hNz hSz hBz
  go_upto_region 3 with (fail)
  refine F2.regionS [.o, .so (g8) 25 #[.bool false, .slice none 0 0]] [Fact.eq ?cd19_, Fact.z ?kds8_ ?zds8_] [19] [19, 0] (by kernel_rfl) ?sod ?sopd (by kernel_rfl) ?std ?find
  case sod => exact List.forall_mem_cons.2 ⟨⟨bx8, NoU.two nB nS⟩, fun x hx => by cases hx⟩
  case sopd => exact List.Pairwise.cons (fun y hy => by cases hy) (List.Pairwise.nil)
  case std =>
   refine F2.Steps.consO rfl ?_ ?_
   ·
    intro vz wz hBz hDz hTz K hK; have HW := hBz.ext; have bx9z := hBz.blk bx9 (zM hne9_8.out zN); obtain ⟨zl0, zl1, -⟩ := bx9z.two; simp only [zy, F2.Wp] at hK ⊢; go_simp; refine hK _ wz zB (Fact.eq_mk ?_); with_reducible rfl
   refine F2.Steps.consT rfl ?_ ?_
   ·
    intro vz wz hBz hDz hbz K hK; obtain ⟨zc0, zc1, zc2, zc3⟩ := hbz.two; have E19 : vz 19 = _ := hDz 0 (by kernel_rfl) rfl; have HW := hBz.ext; simp only [zy, F2.Wp] at hK ⊢; simp only [E19] at hK ⊢; go_simp; refine hK _ ((Far.set _ _ 0 _).trans (Far.set _ _ 1 _)) ⟨_, jab hbz, NoU.two nB nS, Fact.cast (Fact.z_mk (q9sb.ext HW)) ?_⟩; with_reducible rfl
   exact F2.Steps.nil
  intro vd w4 hBz ⟨hOz, hAz, hNz, hSz⟩; have E19 : vd 19 = _ := hOz 0 (by decide) rfl; obtain ⟨cs8, bx8n, hs8⟩ := hSz 1 _ _ _ (by decide) rfl; obtain ⟨n8sd_, A8sd_, l8sd_, c8sd_, E8sd, q8sd⟩ : IntV 0 _ _ w4 (.agg cs8) := hs8; injection E8sd with E8sd
  subst E8sd; simp only [Act.put, actv, fill, fC, fN, tA, cS, cZ]; simp only [E19]; clear E19; replace h0 := h0.ext hBz.ext; replace h1 := h1.ext hBz.ext; replace q9sb := q9sb.ext hBz.ext; replace bx4 := hBz.blk bx4 (zM hne4_8.out zN); replace bx5 := hBz.blk bx5 (zM hne5_8.out zN); replace bx9 := hBz.blk bx9 (zM hne9_8.out zN); replace HB := hide (HB.out.trans (hBz.below (B := w.heap.size) HB.out.size (zA hge8 zE))); clear bx8; have bx8 := bx8n; clear bx8n; clear hOz hAz hNz hSz hBz
  go_wp2_with fail
  refine bodyPost_ret (jac rfl _ _ _ _ _ _ rfl bx8) rfl ⟨HB.out, ?_⟩; refine VF.mk (Fact.cast (Fact.z_mk q8sd) ?_); rw [← jtq]
 ·
  have hbb : (y == 1) = false := by simp [hb]
  go_upto_region 2 with (fail)
  refine F2.regionS [.o, .o] [Fact.eq ?ce17_, Fact.eq ?ce18_] [17, 18] [17, 18] (by kernel_rfl) ?soe ?sope (by kernel_rfl) ?ste ?fine
  case soe => exact fun x hx => by cases hx
  case sope => exact List.Pairwise.nil
  case ste =>
   refine F2.Steps.consO rfl ?_ ?_
   ·
    intro vz wz hBz hDz hTz K hK; have HW := hBz.ext; simp only [zy, F2.Wp] at hK ⊢; go_simp; refine hK _ wz zB (Fact.eq_mk ?_); with_reducible rfl
   refine F2.Steps.consO rfl ?_ ?_
   ·
    intro vz wz hBz hDz hTz K hK; have E17 : vz 17 = _ := hDz 0 (by kernel_rfl) rfl; have HW := hBz.ext; simp only [zy, F2.Wp] at hK ⊢; simp only [E17] at hK ⊢; go_simp; refine hK _ wz zB (Fact.eq_mk ?_); with_reducible rfl
   exact F2.Steps.nil
  intro ve w5 hBz ⟨hOz, hAz, hNz, hSz⟩; have E17 : ve 17 = _ := hOz 0 (by decide) rfl; have E18 : ve 18 = _ := hOz 1 (by decide) rfl; simp only [Act.put, actv, fill, fC, fN, tA, cS, cZ]; simp only [E17, E18]; clear E17 E18; replace h0 := h0.ext hBz.ext; replace h1 := h1.ext hBz.ext; replace q9sb := q9sb.ext hBz.ext; replace bx4 := hBz.blk bx4 zN; replace bx5 := hBz.blk bx5 zN; replace bx8 := hBz.blk bx8 zN; replace bx9 := hBz.blk bx9 zN; replace HB := hide (HB.out.trans (hBz.below (B := w.heap.size) HB.out.size zE)); clear hOz hAz hNz hSz hBz
  go_upto_region 4 with (fail)
  refine F2.region [.o, .o, .o, .o, .o, .o, .o, .so (g9) 25 #[.bool n9sb_, .slice A9sb_ l9sb_ c9sb_]] [Fact.eq ?cf21_, Fact.eq ?cf22_, Fact.z ?kf23_ ?zf23_, Fact.t2 (Fact.z ?kf24_p ?zf24_p) (Fact.eq ?cf24_q), Fact.t2 (Fact.z ?kf20_p ?zf20_p) (Fact.eq ?cf20_q), Fact.z ?kf25_ ?zf25_, Fact.eq ?cf26_, Fact.z ?kfs9_ ?zfs9_] [21, 22, 23, 24, 20, 25, 26] [21, 22, 23, 24, 20, 25, 26, 0] (by kernel_rfl) ?sof ?sopf (by kernel_rfl) ?stf ?finf
  case sof => exact List.forall_mem_cons.2 ⟨⟨bx9, NoU.two nB nS⟩, fun x hx => by cases hx⟩
  case sopf => exact List.Pairwise.cons (fun y hy => by cases hy) (List.Pairwise.nil)
  case stf =>
   refine F2.Steps.consO rfl ?_ ?_
   ·
    intro vz wz hBz hDz hTz K hK; have HW := jaa hBz.ext; have bx9z := hTz 7 _ _ _ _ rfl rfl (by kernel_rfl); obtain ⟨zl0, zl1, -⟩ := bx9z.two; simp only [zy, F2.Wp] at hK ⊢; go_simp; refine hK _ wz zB (Fact.eq_mk ?_); with_reducible rfl
   refine F2.Steps.consO rfl ?_ ?_
   ·
    intro vz wz hBz hDz hTz K hK; have HW := jaa hBz.ext; simp only [zy, F2.Wp] at hK ⊢; go_simp; refine hK _ wz zB (Fact.eq_mk ?_); with_reducible rfl
   refine F2.Steps.consO rfl ?_ ?_
   ·
    intro vz wz hBz hDz hTz K hK; have E22 : vz 22 = _ := hDz 1 (by kernel_rfl) rfl; have HW := jaa hBz.ext; simp only [zy, F2.Wp] at hK ⊢; simp only [E22] at hK ⊢; go_simp; refine Calls.mono (u_of  (by omega) (by omega)) ?_; rintro e w2z ⟨hb2, uz, rfl, hf⟩
    go_wp2_with fail
    refine hK _ w2z hb2 (Fact.cast (hf) ?_); with_reducible rfl
   refine F2.Steps.consO rfl ?_ ?_
   ·
    intro vz wz hBz hDz hTz K hK; have E21 : vz 21 = _ := hDz 0 (by kernel_rfl) rfl; obtain ⟨n23_, A23_, l23_, c23_, E23, q23⟩ : IntV 0 _ _ wz (vz 23) := hDz 2 (by kernel_rfl) rfl; have HW := jaa hBz.ext; simp only [zy, F2.Wp] at hK ⊢; simp only [E21, E23] at hK ⊢; go_simp; refine Calls.mono (u_up (q9sb.ext HW).q q23.q (by omega) (by omega) hy) ?_; rintro e w2z ⟨hb2, uz, rfl, hf⟩
    go_wp2_with fail
    refine hK _ w2z hb2 (Fact.cast (hf) ?_); with_reducible rfl
   refine F2.Steps.consO rfl ?_ ?_
   ·
    intro vz wz hBz hDz hTz K hK; obtain ⟨x24p_, x24q_, E24, h24p, h24q⟩ : TV2 _ _ wz (vz 24) := hDz 3 (by kernel_rfl) rfl; obtain rfl := Fact.eq_of h24q; have HW := jaa hBz.ext; simp only [zy, F2.Wp] at hK ⊢; simp only [E24] at hK ⊢; go_simp; refine hK _ wz zB (Fact.cast (Fact.t2_mk h24p (Fact.eq_self _ _)) ?_); with_reducible rfl
   refine F2.Steps.consO rfl ?_ ?_
   ·
    intro vz wz hBz hDz hTz K hK; obtain ⟨x20p_, x20q_, E20, h20p, h20q⟩ : TV2 _ _ wz (vz 20) := hDz 4 (by kernel_rfl) rfl; obtain rfl := Fact.eq_of h20q; have HW := jaa hBz.ext; simp only [zy, F2.Wp] at hK ⊢; simp only [E20] at hK ⊢; go_simp; refine hK _ wz zB (Fact.cast (h20p) ?_); with_reducible rfl
   refine F2.Steps.consO rfl ?_ ?_
   ·
    intro vz wz hBz hDz hTz K hK; obtain ⟨x20p_, x20q_, E20, h20p, h20q⟩ : TV2 _ _ wz (vz 20) := hDz 4 (by kernel_rfl) rfl; obtain rfl := Fact.eq_of h20q; have HW := jaa hBz.ext; simp only [zy, F2.Wp] at hK ⊢; simp only [E20] at hK ⊢; go_simp; refine hK _ wz zB (Fact.eq_mk ?_); with_reducible rfl
   refine F2.Steps.consT rfl ?_ ?_
   ·
    intro vz wz hBz hDz hbz K hK; obtain ⟨zc0, zc1, zc2, zc3⟩ := hbz.two; obtain ⟨n25_, A25_, l25_, c25_, E25, q25⟩ : IntV 0 _ _ wz (vz 25) := hDz 5 (by kernel_rfl) rfl; have HW := jaa hBz.ext; simp only [zy, F2.Wp] at hK ⊢; simp only [E25] at hK ⊢; go_simp; refine hK _ ((Far.set _ _ 0 _).trans (Far.set _ _ 1 _)) ⟨_, jab hbz, NoU.two nB nS, Fact.cast (Fact.z_mk q25) ?_⟩; with_reducible rfl
   exact F2.Steps.nil
  intro vf w6 hBz ⟨hOz, hAz, hNz, hSz⟩; have E21 : vf 21 = _ := hOz 0 (by decide) rfl; have E22 : vf 22 = _ := hOz 1 (by decide) rfl; obtain ⟨n23_, A23_, l23_, c23_, E23, q23⟩ : IntV 0 _ _ w6 (vf 23) := hOz 2 (by decide) rfl; obtain ⟨x24p_, x24q_, E24, h24p, h24q⟩ : TV2 _ _ w6 (vf 24) := hOz 3 (by decide) rfl; obtain rfl := Fact.eq_of h24q; obtain ⟨x20p_, x20q_, E20, h20p, h20q⟩ : TV2 _ _ w6 (vf 20) := hOz 4 (by decide) rfl; obtain rfl := Fact.eq_of h20q; obtain ⟨n25_, A25_, l25_, c25_, E25, q25⟩ : IntV 0 _ _ w6 (vf 25) := hOz 5 (by decide) rfl; have E26 : vf 26 = _ := hOz 6 (by decide) rfl; obtain ⟨cs9, bx9n, hs9⟩ := hSz 7 _ _ _ (by decide) rfl; obtain ⟨n9sf_, A9sf_, l9sf_, c9sf_, E9sf, q9sf⟩ : IntV 0 _ _ w6 (.agg cs9) := hs9; injection E9sf with E9sf
  subst E9sf; simp only [Act.put, actv, fill, fC, fN, tA, cS, cZ]; simp only [E21, E22, E23, E24, E20, E25, E26]; clear E21 E22 E23 E24 E20 E25 E26; replace h0 := h0.ext hBz.ext; replace h1 := h1.ext hBz.ext; replace q9sb := q9sb.ext hBz.ext; replace bx4 := hBz.blk bx4 (zM (Ne.symm hne9_4.out) zN); replace bx5 := hBz.blk bx5 (zM (Ne.symm hne9_5.out) zN); replace bx8 := hBz.blk bx8 (zM (Ne.symm hne9_8.out) zN); replace HB := hide (HB.out.trans (hBz.below (B := w.heap.size) HB.out.size (zA hge9 zE))); clear bx9; have bx9 := bx9n; clear bx9n; clear hOz hAz hNz hSz hBz
  go_upto_region 5 with (fail)
  refine F2.regionS [.o, .so (g8) 25 #[.bool false, .slice none 0 0]] [Fact.eq ?cg27_, Fact.z ?kgs8_ ?zgs8_] [27] [27, 0] (by kernel_rfl) ?sog ?sopg (by kernel_rfl) ?stg ?fing
  case sog => exact List.forall_mem_cons.2 ⟨⟨bx8, NoU.two nB nS⟩, fun x hx => by cases hx⟩
  case sopg => exact List.Pairwise.cons (fun y hy => by cases hy) (List.Pairwise.nil)
  case stg =>
   refine F2.Steps.consO rfl ?_ ?_
   ·
    intro vz wz hBz hDz hTz K hK; have HW := hBz.ext; have bx9z := hBz.blk bx9 (zM hne9_8.out zN); obtain ⟨zl0, zl1, -⟩ := bx9z.two; simp only [zy, F2.Wp] at hK ⊢; go_simp; refine hK _ wz zB (Fact.eq_mk ?_); with_reducible rfl
   refine F2.Steps.consT rfl ?_ ?_
   ·
    intro vz wz hBz hDz hbz K hK; obtain ⟨zc0, zc1, zc2, zc3⟩ := hbz.two; have E27 : vz 27 = _ := hDz 0 (by kernel_rfl) rfl; have HW := hBz.ext; simp only [zy, F2.Wp] at hK ⊢; simp only [E27] at hK ⊢; go_simp; refine hK _ ((Far.set _ _ 0 _).trans (Far.set _ _ 1 _)) ⟨_, jab hbz, NoU.two nB nS, Fact.cast (Fact.z_mk (q9sf.ext HW)) ?_⟩; with_reducible rfl
   exact F2.Steps.nil
  intro vg w7 hBz ⟨hOz, hAz, hNz, hSz⟩; have E27 : vg 27 = _ := hOz 0 (by decide) rfl; obtain ⟨cs8, bx8n, hs8⟩ := hSz 1 _ _ _ (by decide) rfl; obtain ⟨n8sg_, A8sg_, l8sg_, c8sg_, E8sg, q8sg⟩ : IntV 0 _ _ w7 (.agg cs8) := hs8; injection E8sg with E8sg
  subst E8sg; simp only [Act.put, actv, fill, fC, fN, tA, cS, cZ]; simp only [E27]; clear E27; replace h0 := h0.ext hBz.ext; replace h1 := h1.ext hBz.ext; replace q9sf := q9sf.ext hBz.ext; replace bx4 := hBz.blk bx4 (zM hne4_8.out zN); replace bx5 := hBz.blk bx5 (zM hne5_8.out zN); replace bx9 := hBz.blk bx9 (zM hne9_8.out zN); replace HB := hide (HB.out.trans (hBz.below (B := w.heap.size) HB.out.size (zA hge8 zE))); clear bx8; have bx8 := bx8n; clear bx8n; clear hOz hAz hNz hSz hBz
  go_wp2_with fail
  refine bodyPost_ret (jac rfl _ _ _ _ _ _ rfl bx8) rfl ⟨HB.out, ?_⟩; refine VF.mk (Fact.cast (Fact.z_mk q8sg) ?_); rw [← jtp (by omega)]
end
end
section
section
open Go.RowKit
open L (val dig nth)
theorem QB.cast_ {w : World} {B k : Nat} {n : Bool} {A : Option Addr} {len cap : Nat} {z y : Int} (h : QB w B k n A len cap z) (e : z = y) : QB w B k n A len cap y := e ▸ h
end
end
end
section
section
open Go.RowKit
open L (val dig nth)
set_option maxHeartbeats 4000000 in
set_option maxRecDepth 100000 in
theorem jip {w : World}  {k0 : Nat} {n0 : Bool} {A0 : Option Addr} {l0 c0 : Nat} {x0 : Int} {q n : Int} (h0 : Q w k0 n0 A0 l0 c0 x0) (hk0 : k0 ≤ 40) :
    Calls Tryz.prog 15 #[.agg #[.bool n0, .slice A0 l0 c0], .int .i64 q, .int .i64 n] w fun e w' => Below w.heap.size w w' ∧ VF (Fact.t3 (Fact.z 340 (if mayR x0 q n 1 = true then atanhLo x0 q n.toNat else 0)) (Fact.z 340 (if mayR x0 q n 1 = true then atanhHi x0 q n.toNat else 0)) (Fact.eq (.int .i64 (if mayR x0 q n 1 = true then 0 else 1)))) e w' := by
 obtain ⟨mm, HM⟩ : ∃ m, Hid (mayR x0 q n 1 = m) := ⟨_, hide rfl⟩; have HM2 : Hid (mayD x0 q n 1 1 = mm) := hide (by rw [jkx, HM.out]); rw [HM.out]
 go_enter Tryz.func15, Tryz.ntmps15
 have HB : Hid (Below w.heap.size w w) := hide (Below.refl _ _)
 go_upto_region 0 with (fail)
 refine F2.regionS [.al 25 #[.bool n0, .slice A0 l0 c0], .al 25 #[.bool false, .slice none 0 0], .al 25 #[.bool false, .slice none 0 0], .o] [Fact.any, Fact.any, Fact.any, Fact.eq ?ca8_] [3, 6, 7, 8] [3, 6, 7, 8] (by kernel_rfl) ?soa ?sopa (by kernel_rfl) ?sta ?fina
 case soa => exact fun x hx => by cases hx
 case sopa => exact List.Pairwise.nil
 case sta =>
  refine F2.Steps.consA rfl ⟨NoU.two nB nS, ?_⟩ ?_
  ·
   intro vz wz hBz K hK; simp only [zy, F2.Wp] at hK ⊢; go_simp; exact hK
  refine F2.Steps.consA rfl ⟨NoU.two nB nS, ?_⟩ ?_
  ·
   intro vz wz hBz K hK; simp only [zy, F2.Wp] at hK ⊢; go_simp; exact hK
  refine F2.Steps.consA rfl ⟨NoU.two nB nS, ?_⟩ ?_
  ·
   intro vz wz hBz K hK; simp only [zy, F2.Wp] at hK ⊢; go_simp; exact hK
  refine F2.Steps.consO rfl ?_ ?_
  ·
   intro vz wz hBz hDz hTz K hK; have HW := hBz.ext; simp only [zy, F2.Wp] at hK ⊢; go_simp; refine hK _ wz zB (Fact.eq_mk ?_); with_reducible rfl
  exact F2.Steps.nil
 intro va w1 hBz ⟨hOz, hAz, hNz, hSz⟩; obtain ⟨g3, cs3, E3, hg3, bx3, hs3, hz3⟩ := hAz 0 _ _ (by decide) rfl; have hzz := hz3 (F2.nost (by kernel_rfl)); subst hzz; obtain ⟨g6, cs6, E6, hg6, bx6, hs6, hz6⟩ := hAz 1 _ _ (by decide) rfl; have hzz := hz6 (F2.nost (by kernel_rfl)); subst hzz; obtain ⟨g7, cs7, E7, hg7, bx7, hs7, hz7⟩ := hAz 2 _ _ (by decide) rfl; have hzz := hz7 (F2.nost (by kernel_rfl)); subst hzz; have E8 : va 8 = _ := hOz 3 (by decide) rfl; have hne3_6 : Hid (¬ g3 = g6) := hide (fun h => hNz 0 1 _ _ _ _ (by decide) (by decide) (by decide) rfl rfl (by rw [E3, E6, h])); have hne3_7 : Hid (¬ g3 = g7) := hide (fun h => hNz 0 2 _ _ _ _ (by decide) (by decide) (by decide) rfl rfl (by rw [E3, E7, h])); have hne6_7 : Hid (¬ g6 = g7) := hide (fun h => hNz 1 2 _ _ _ _ (by decide) (by decide) (by decide) rfl rfl (by rw [E6, E7, h])); simp only [Act.put, actv, fill, fC, fN, tA, cS, cZ]; simp only [(show va 3 = _ from E3), (show va 6 = _ from E6), (show va 7 = _ from E7), E8]; clear E3 E6 E7 E8; have hge3 : w.heap.size ≤ g3 := Nat.le_trans HB.out.size hg3; have hge6 : w.heap.size ≤ g6 := Nat.le_trans HB.out.size hg6; have hge7 : w.heap.size ≤ g7 := Nat.le_trans HB.out.size hg7; replace h0 := h0.ext hBz.ext; replace HB := hide (HB.out.trans (hBz.below (B := w.heap.size) HB.out.size zE)); clear hOz hAz hNz hSz hs3 hz3 hs6 hz6 hs7 hz7 hBz
 go_upto_region 1 with (fail)
 refine F2.regionS [.o, .o, .o, .o, .o] [Fact.eq ?cb18_, Fact.eq ?cb19_, Fact.eq ?cb20_, Fact.eq ?cb21_, Fact.eq ?cb9_] [18, 19, 20, 21, 9] [18, 19, 20, 21, 9] (by kernel_rfl) ?sob ?sopb (by kernel_rfl) ?stb ?finb
 case sob => exact fun x hx => by cases hx
 case sopb => exact List.Pairwise.nil
 case stb =>
  refine F2.Steps.consO rfl ?_ ?_
  ·
   intro vz wz hBz hDz hTz K hK; have HW := hBz.ext; have bx3z := hBz.blk bx3 zN; obtain ⟨zl0, zl1, -⟩ := bx3z.two; simp only [zy, F2.Wp] at hK ⊢; go_simp; refine hK _ wz zB (Fact.eq_mk ?_); with_reducible rfl
  refine F2.Steps.consO rfl ?_ ?_
  ·
   intro vz wz hBz hDz hTz K hK; have HW := hBz.ext; simp only [zy, F2.Wp] at hK ⊢; go_simp; refine hK _ wz zB (Fact.eq_mk ?_); with_reducible rfl
  refine F2.Steps.consO rfl ?_ ?_
  ·
   intro vz wz hBz hDz hTz K hK; have HW := hBz.ext; simp only [zy, F2.Wp] at hK ⊢; go_simp; refine hK _ wz zB (Fact.eq_mk ?_); with_reducible rfl
  refine F2.Steps.consO rfl ?_ ?_
  ·
   intro vz wz hBz hDz hTz K hK; have E18 : vz 18 = _ := hDz 0 (by kernel_rfl) rfl; have E19 : vz 19 = _ := hDz 1 (by kernel_rfl) rfl; have E20 : vz 20 = _ := hDz 2 (by kernel_rfl) rfl; have HW := hBz.ext; simp only [zy, F2.Wp] at hK ⊢; simp only [E18, E19, E20] at hK ⊢; go_simp; refine Calls.mono (HM2.out ▸ jgs (h0.ext HW) (by omega) (by omega) (by omega) (by omega) (by omega)) ?_; rintro e w2z ⟨hb2, uz, rfl, hf⟩
   go_wp2_with fail
   refine hK _ w2z hb2 (Fact.cast (hf) ?_); with_reducible rfl
  refine F2.Steps.consO rfl ?_ ?_
  ·
   intro vz wz hBz hDz hTz K hK; have E21 : vz 21 = _ := hDz 3 (by kernel_rfl) rfl; have HW := hBz.ext; simp only [zy, F2.Wp] at hK ⊢; simp only [E21] at hK ⊢; go_simp; refine hK _ wz zB (Fact.eq_mk ?_); with_reducible rfl
  exact F2.Steps.nil
 intro vb w2 hBz ⟨hOz, hAz, hNz, hSz⟩; have E18 : vb 18 = _ := hOz 0 (by decide) rfl; have E19 : vb 19 = _ := hOz 1 (by decide) rfl; have E20 : vb 20 = _ := hOz 2 (by decide) rfl; have E21 : vb 21 = _ := hOz 3 (by decide) rfl; have E9 : vb 9 = _ := hOz 4 (by decide) rfl; simp only [Act.put, actv, fill, fC, fN, tA, cS, cZ]; simp only [E18, E19, E20, E21, E9]; clear E18 E19 E20 E21 E9; replace h0 := h0.ext hBz.ext; replace bx3 := hBz.blk bx3 zN; replace bx6 := hBz.blk bx6 zN; replace bx7 := hBz.blk bx7 zN; replace HB := hide (HB.out.trans (hBz.below (B := w.heap.size) HB.out.size zE)); clear hOz hAz hNz hSz hBz
 go_upto_region 2 with (fail)
 refine F2.regionS [.o, .o] [Fact.eq ?cc22_, Fact.eq ?cc23_] [22, 23] [22, 23] (by kernel_rfl) ?soc ?sopc (by kernel_rfl) ?stc ?finc
 case soc => exact fun x hx => by cases hx
 case sopc => exact List.Pairwise.nil
 case stc =>
  refine F2.Steps.consO rfl ?_ ?_
  ·
   intro vz wz hBz hDz hTz K hK; have HW := hBz.ext; simp only [zy, F2.Wp] at hK ⊢; go_simp; refine hK _ wz zB (Fact.eq_mk ?_); with_reducible rfl
  refine F2.Steps.consO rfl ?_ ?_
  ·
   intro vz wz hBz hDz hTz K hK; have E22 : vz 22 = _ := hDz 0 (by kernel_rfl) rfl; have HW := hBz.ext; simp only [zy, F2.Wp] at hK ⊢; simp only [E22] at hK ⊢; go_simp; refine hK _ wz zB (Fact.eq_mk ?_); with_reducible rfl
  exact F2.Steps.nil
 intro vc w3 hBz ⟨hOz, hAz, hNz, hSz⟩; have E22 : vc 22 = _ := hOz 0 (by decide) rfl; have E23 : vc 23 = _ := hOz 1 (by decide) rfl; simp only [Act.put, actv, fill, fC, fN, tA, cS, cZ]; simp only [E22, E23]; clear E22 E23; replace h0 := h0.ext hBz.ext; replace bx3 := hBz.blk bx3 zN; replace bx6 := hBz.blk bx6 zN; replace bx7 := hBz.blk bx7 zN; replace HB := hide (HB.out.trans (hBz.below (B := w.heap.size) HB.out.size zE)); clear hOz hAz hNz hSz hBz
 cases mm with
 | false =>
  go_upto_region 3 with (fail)
  refine F2.regionS [.o, .o, .so (g6) 25 #[.bool false, .slice none 0 0], .so (g7) 25 #[.bool false, .slice none 0 0], .o] [Fact.eq ?cd24_, Fact.eq ?cd25_, Fact.z ?kds6_ ?zds6_, Fact.z ?kds7_ ?zds7_, Fact.eq ?cd8_] [24, 25, 8] [24, 25, 0, 0, 8] (by kernel_rfl) ?sod ?sopd (by kernel_rfl) ?std ?find
  case sod => exact List.forall_mem_cons.2 ⟨⟨bx6, NoU.two nB nS⟩, List.forall_mem_cons.2 ⟨⟨bx7, NoU.two nB nS⟩, fun x hx => by cases hx⟩⟩
  case sopd => exact List.Pairwise.cons (by intro y hy; simp [F2.sos] at hy; have hne6_7 := hne6_7.out; first | (subst hy; simp; done) | (subst hy; simp; omega) | (rcases hy with rfl | rfl <;> simp <;> omega)) (List.Pairwise.cons (fun y hy => by cases hy) (List.Pairwise.nil))
  case std =>
   refine F2.Steps.consO rfl ?_ ?_
   ·
    intro vz wz hBz hDz hTz K hK; have HW := hBz.ext; simp only [zy, F2.Wp] at hK ⊢; go_simp; refine hK _ wz zB (Fact.eq_mk ?_); with_reducible rfl
   refine F2.Steps.consO rfl ?_ ?_
   ·
    intro vz wz hBz hDz hTz K hK; have HW := hBz.ext; simp only [zy, F2.Wp] at hK ⊢; go_simp; refine hK _ wz zB (Fact.eq_mk ?_); with_reducible rfl
   refine F2.Steps.consT rfl ?_ ?_
   ·
    intro vz wz hBz hDz hbz K hK; obtain ⟨zc0, zc1, zc2, zc3⟩ := hbz.two; have E24 : vz 24 = _ := hDz 0 (by kernel_rfl) rfl; have HW := hBz.ext; simp only [zy, F2.Wp] at hK ⊢; simp only [E24] at hK ⊢; go_simp; refine hK _ ((Far.set _ _ 0 _).trans (Far.set _ _ 1 _)) ⟨_, jab hbz, NoU.two nB nS, Fact.cast (Fact.z_mk (QB.zero _ 0 0)) ?_⟩; with_reducible rfl
   refine F2.Steps.consT rfl ?_ ?_
   ·
    intro vz wz hBz hDz hbz K hK; obtain ⟨zc0, zc1, zc2, zc3⟩ := hbz.two; have E25 : vz 25 = _ := hDz 1 (by kernel_rfl) rfl; have HW := hBz.ext; simp only [zy, F2.Wp] at hK ⊢; simp only [E25] at hK ⊢; go_simp; refine hK _ ((Far.set _ _ 0 _).trans (Far.set _ _ 1 _)) ⟨_, jab hbz, NoU.two nB nS, Fact.cast (Fact.z_mk (QB.zero _ 0 0)) ?_⟩; with_reducible rfl
   refine F2.Steps.consO rfl ?_ ?_
   ·
    intro vz wz hBz hDz hTz K hK; have HW := hBz.ext; simp only [zy, F2.Wp] at hK ⊢; go_simp; refine hK _ wz zB (Fact.eq_mk ?_); with_reducible rfl
   exact F2.Steps.nil
  intro vd w4 hBz ⟨hOz, hAz, hNz, hSz⟩; have E24 : vd 24 = _ := hOz 0 (by decide) rfl; have E25 : vd 25 = _ := hOz 1 (by decide) rfl; obtain ⟨cs6, bx6n, hs6⟩ := hSz 2 _ _ _ (by decide) rfl; obtain ⟨n6sd_, A6sd_, l6sd_, c6sd_, E6sd, q6sd⟩ : IntV 0 _ _ w4 (.agg cs6) := hs6; injection E6sd with E6sd
  subst E6sd; obtain ⟨cs7, bx7n, hs7⟩ := hSz 3 _ _ _ (by decide) rfl; obtain ⟨n7sd_, A7sd_, l7sd_, c7sd_, E7sd, q7sd⟩ : IntV 0 _ _ w4 (.agg cs7) := hs7; injection E7sd with E7sd
  subst E7sd; have E8 : vd 8 = _ := hOz 4 (by decide) rfl; simp only [Act.put, actv, fill, fC, fN, tA, cS, cZ]; simp only [E24, E25, E8]; clear E24 E25 E8; replace h0 := h0.ext hBz.ext; replace bx3 := hBz.blk bx3 (zM hne3_6.out (zM hne3_7.out zN)); replace HB := hide (HB.out.trans (hBz.below (B := w.heap.size) HB.out.size (zA hge6 (zA hge7 zE)))); clear bx6; clear bx7; have bx6 := bx6n; clear bx6n; have bx7 := bx7n; clear bx7n; clear hOz hAz hNz hSz hBz
  go_wp2_with fail
  refine bodyPost_ret (jad rfl _ _ _ _ _ _ _ _ _ _ rfl bx6 rfl bx7) rfl ⟨HB.out, ?_⟩; exact VF.mk (Fact.t3_mk (Fact.z_mk (q6sd.up (by omega))) (Fact.z_mk (q7sd.up (by omega))) (Fact.eq_self _ _))
 | true =>
  obtain ⟨hq, hn, ht0, hT⟩ := jek HM.out; have HT := hide hT; clear hT; obtain ⟨N, rfl⟩ : ∃ N : Nat, n = (N : Int) := ⟨n.toNat, by omega⟩; have HL := hide (jd1 (q := q) hq.1 ht0 HT.out); have HL0 := hide (jh1 (q := q) hq.1 ht0 HT.out); have HX := hide (jl4 hq.2 (by omega) HT.out); have HA := hide (HL0.out.la HX.out); have HB_ := hide (HL0.out.lb HX.out); have HS := hide (HL.out.sa HX.out); have HT2 := hide (HL.out.sb HX.out); clear HL HL0 HX
  go_upto_region 4 with (fail)
  refine F2.regionS [.o, .o, .o, .al 25 #[.bool false, .slice none 0 0], .st 3] [Fact.eq ?ce26_, Fact.eq ?ce27_, Fact.z ?ke28_ ?ze28_, Fact.any, Fact.z ?kes10_ ?zes10_] [26, 27, 28, 10] [26, 27, 28, 10, 0] (by kernel_rfl) ?soe ?sope (by kernel_rfl) ?ste ?fine
  case soe => exact fun x hx => by cases hx
  case sope => exact List.Pairwise.nil
  case ste =>
   refine F2.Steps.consO rfl ?_ ?_
   ·
    intro vz wz hBz hDz hTz K hK; have HW := hBz.ext; have bx3z := hBz.blk bx3 zN; obtain ⟨zl0, zl1, -⟩ := bx3z.two; simp only [zy, F2.Wp] at hK ⊢; go_simp; refine hK _ wz zB (Fact.eq_mk ?_); with_reducible rfl
   refine F2.Steps.consO rfl ?_ ?_
   ·
    intro vz wz hBz hDz hTz K hK; have HW := hBz.ext; have bx3z := hBz.blk bx3 zN; obtain ⟨zl0, zl1, -⟩ := bx3z.two; simp only [zy, F2.Wp] at hK ⊢; go_simp; refine hK _ wz zB (Fact.eq_mk ?_); with_reducible rfl
   refine F2.Steps.consO rfl ?_ ?_
   ·
    intro vz wz hBz hDz hTz K hK; have E26 : vz 26 = _ := hDz 0 (by kernel_rfl) rfl; have E27 : vz 27 = _ := hDz 1 (by kernel_rfl) rfl; have HW := hBz.ext; simp only [zy, F2.Wp] at hK ⊢; simp only [E26, E27] at hK ⊢; go_simp; refine Calls.mono (jpa (h0.ext HW) (h0.ext HW) (by omega) (by omega)) ?_; rintro e w2z ⟨hb2, uz, rfl, hf⟩
    go_wp2_with fail
    refine hK _ w2z hb2 (Fact.cast (hf) ?_); with_reducible rfl
   refine F2.Steps.consA rfl ⟨NoU.two nB nS, ?_⟩ ?_
   ·
    intro vz wz hBz K hK; simp only [zy, F2.Wp] at hK ⊢; go_simp; exact hK
   refine F2.Steps.consS rfl rfl ?_ ?_
   ·
    intro vz wz gz hBz hDz E10' hgz hbz K hK; obtain ⟨zc0, zc1, zc2, zc3⟩ := hbz.two; obtain ⟨n28_, A28_, l28_, c28_, E28, q28⟩ : IntV 0 _ _ wz (vz 28) := hDz 2 (by kernel_rfl) rfl; have E10 : vz 10 = .pointer (some ⟨gz, 0, none⟩) := E10'; have HW := hBz.ext; simp only [zy, F2.Wp] at hK ⊢; simp only [E10, E28] at hK ⊢; go_simp; refine hK _ ((Far.set _ gz 0 _).trans (Far.set _ gz 1 _)) ⟨_, jab hbz, NoU.two nB nS, Fact.cast (Fact.z_mk q28) ?_⟩; with_reducible rfl
   exact F2.Steps.nil
  intro ve w5 hBz ⟨hOz, hAz, hNz, hSz⟩; have E26 : ve 26 = _ := hOz 0 (by decide) rfl; have E27 : ve 27 = _ := hOz 1 (by decide) rfl; obtain ⟨n28_, A28_, l28_, c28_, E28, q28⟩ : IntV 0 _ _ w5 (ve 28) := hOz 2 (by decide) rfl; obtain ⟨g10, cs10, E10, hg10, bx10, hs10, hz10⟩ := hAz 3 _ _ (by decide) rfl; obtain ⟨n10se_, A10se_, l10se_, c10se_, E10se, q10se⟩ : IntV 0 _ _ w5 (.agg cs10) := hs10 4 (by decide) rfl; injection E10se with E10se
  subst E10se; simp only [Act.put, actv, fill, fC, fN, tA, cS, cZ]; simp only [E26, E27, E28, (show ve 10 = _ from E10)]; clear E26 E27 E28 E10; have hge10 : w.heap.size ≤ g10 := Nat.le_trans HB.out.size hg10; have hne10_3 := hide (Nat.ne_of_gt (Nat.lt_of_lt_of_le bx3.lt (show w3.heap.size ≤ g10 from hg10))); have hne10_6 := hide (Nat.ne_of_gt (Nat.lt_of_lt_of_le bx6.lt (show w3.heap.size ≤ g10 from hg10))); have hne10_7 := hide (Nat.ne_of_gt (Nat.lt_of_lt_of_le bx7.lt (show w3.heap.size ≤ g10 from hg10))); replace h0 := h0.ext hBz.ext; replace bx3 := hBz.blk bx3 zN; replace bx6 := hBz.blk bx6 zN; replace bx7 := hBz.blk bx7 zN; replace HB := hide (HB.out.trans (hBz.below (B := w.heap.size) HB.out.size zE)); clear hOz hAz hNz hSz hs10 hz10 hBz
  go_upto_region 5 with (fail)
  refine F2.regionS [.o, .o, .al 25 #[.bool false, .slice none 0 0], .st 2] [Fact.eq ?cf29_, Fact.z ?kf30_ ?zf30_, Fact.any, Fact.z ?kfs11_ ?zfs11_] [29, 30, 11] [29, 30, 11, 0] (by kernel_rfl) ?sof ?sopf (by kernel_rfl) ?stf ?finf
  case sof => exact fun x hx => by cases hx
  case sopf => exact List.Pairwise.nil
  case stf =>
   refine F2.Steps.consO rfl ?_ ?_
   ·
    intro vz wz hBz hDz hTz K hK; have HW := hBz.ext; have bx3z := hBz.blk bx3 zN; obtain ⟨zl0, zl1, -⟩ := bx3z.two; simp only [zy, F2.Wp] at hK ⊢; go_simp; refine hK _ wz zB (Fact.eq_mk ?_); with_reducible rfl
   refine F2.Steps.consO rfl ?_ ?_
   ·
    intro vz wz hBz hDz hTz K hK; have E29 : vz 29 = _ := hDz 0 (by kernel_rfl) rfl; have HW := hBz.ext; simp only [zy, F2.Wp] at hK ⊢; simp only [E29] at hK ⊢; go_simp; refine Calls.mono (jo9 (h0.ext HW) (by omega)) ?_; rintro e w2z ⟨hb2, uz, rfl, hf⟩
    go_wp2_with fail
    refine hK _ w2z hb2 (Fact.cast (hf) ?_); with_reducible rfl
   refine F2.Steps.consA rfl ⟨NoU.two nB nS, ?_⟩ ?_
   ·
    intro vz wz hBz K hK; simp only [zy, F2.Wp] at hK ⊢; go_simp; exact hK
   refine F2.Steps.consS rfl rfl ?_ ?_
   ·
    intro vz wz gz hBz hDz E11' hgz hbz K hK; obtain ⟨zc0, zc1, zc2, zc3⟩ := hbz.two; obtain ⟨n30_, A30_, l30_, c30_, E30, q30⟩ : IntV 0 _ _ wz (vz 30) := hDz 1 (by kernel_rfl) rfl; have E11 : vz 11 = .pointer (some ⟨gz, 0, none⟩) := E11'; have HW := hBz.ext; simp only [zy, F2.Wp] at hK ⊢; simp only [E11, E30] at hK ⊢; go_simp; refine hK _ ((Far.set _ gz 0 _).trans (Far.set _ gz 1 _)) ⟨_, jab hbz, NoU.two nB nS, Fact.cast (Fact.z_mk q30) ?_⟩; with_reducible rfl
   exact F2.Steps.nil
  intro vf w6 hBz ⟨hOz, hAz, hNz, hSz⟩; have E29 : vf 29 = _ := hOz 0 (by decide) rfl; obtain ⟨n30_, A30_, l30_, c30_, E30, q30⟩ : IntV 0 _ _ w6 (vf 30) := hOz 1 (by decide) rfl; obtain ⟨g11, cs11, E11, hg11, bx11, hs11, hz11⟩ := hAz 2 _ _ (by decide) rfl; obtain ⟨n11sf_, A11sf_, l11sf_, c11sf_, E11sf, q11sf⟩ : IntV 0 _ _ w6 (.agg cs11) := hs11 3 (by decide) rfl; injection E11sf with E11sf
  subst E11sf; simp only [Act.put, actv, fill, fC, fN, tA, cS, cZ]; simp only [E29, E30, (show vf 11 = _ from E11)]; clear E29 E30 E11; have hge11 : w.heap.size ≤ g11 := Nat.le_trans HB.out.size hg11; have hne11_3 := hide (Nat.ne_of_gt (Nat.lt_of_lt_of_le bx3.lt (show w5.heap.size ≤ g11 from hg11))); have hne11_6 := hide (Nat.ne_of_gt (Nat.lt_of_lt_of_le bx6.lt (show w5.heap.size ≤ g11 from hg11))); have hne11_7 := hide (Nat.ne_of_gt (Nat.lt_of_lt_of_le bx7.lt (show w5.heap.size ≤ g11 from hg11))); have hne11_10 := hide (Nat.ne_of_gt (Nat.lt_of_lt_of_le bx10.lt (show w5.heap.size ≤ g11 from hg11))); replace h0 := h0.ext hBz.ext; replace q10se := q10se.ext hBz.ext; replace bx3 := hBz.blk bx3 zN; replace bx6 := hBz.blk bx6 zN; replace bx7 := hBz.blk bx7 zN; replace bx10 := hBz.blk bx10 zN; replace HB := hide (HB.out.trans (hBz.below (B := w.heap.size) HB.out.size zE)); clear hOz hAz hNz hSz hs11 hz11 hBz
  go_upto_region 6 with (fail)
  refine F2.regionS [.o, .al 25 #[.bool false, .slice none 0 0], .st 1] [Fact.eq ?cg31_, Fact.any, Fact.z ?kgs12_ ?zgs12_] [31, 12] [31, 12, 0] (by kernel_rfl) ?sog ?sopg (by kernel_rfl) ?stg ?fing
  case sog => exact fun x hx => by cases hx
  case sopg => exact List.Pairwise.nil
  case stg =>
   refine F2.Steps.consO rfl ?_ ?_
   ·
    intro vz wz hBz hDz hTz K hK; have HW := hBz.ext; have bx11z := hBz.blk bx11 zN; obtain ⟨zl0, zl1, -⟩ := bx11z.two; simp only [zy, F2.Wp] at hK ⊢; go_simp; refine hK _ wz zB (Fact.eq_mk ?_); with_reducible rfl
   refine F2.Steps.consA rfl ⟨NoU.two nB nS, ?_⟩ ?_
   ·
    intro vz wz hBz K hK; simp only [zy, F2.Wp] at hK ⊢; go_simp; exact hK
   refine F2.Steps.consS rfl rfl ?_ ?_
   ·
    intro vz wz gz hBz hDz E12' hgz hbz K hK; obtain ⟨zc0, zc1, zc2, zc3⟩ := hbz.two; have E31 : vz 31 = _ := hDz 0 (by kernel_rfl) rfl; have E12 : vz 12 = .pointer (some ⟨gz, 0, none⟩) := E12'; have HW := hBz.ext; simp only [zy, F2.Wp] at hK ⊢; simp only [E12, E31] at hK ⊢; go_simp; refine hK _ ((Far.set _ gz 0 _).trans (Far.set _ gz 1 _)) ⟨_, jab hbz, NoU.two nB nS, Fact.cast (Fact.z_mk (q11sf.ext HW)) ?_⟩; with_reducible rfl
   exact F2.Steps.nil
  intro vg w7 hBz ⟨hOz, hAz, hNz, hSz⟩; have E31 : vg 31 = _ := hOz 0 (by decide) rfl; obtain ⟨g12, cs12, E12, hg12, bx12, hs12, hz12⟩ := hAz 1 _ _ (by decide) rfl; obtain ⟨n12sg_, A12sg_, l12sg_, c12sg_, E12sg, q12sg⟩ : IntV 0 _ _ w7 (.agg cs12) := hs12 2 (by decide) rfl; injection E12sg with E12sg
  subst E12sg; simp only [Act.put, actv, fill, fC, fN, tA, cS, cZ]; simp only [E31, (show vg 12 = _ from E12)]; clear E31 E12; have hge12 : w.heap.size ≤ g12 := Nat.le_trans HB.out.size hg12; have hne12_3 := hide (Nat.ne_of_gt (Nat.lt_of_lt_of_le bx3.lt (show w6.heap.size ≤ g12 from hg12))); have hne12_6 := hide (Nat.ne_of_gt (Nat.lt_of_lt_of_le bx6.lt (show w6.heap.size ≤ g12 from hg12))); have hne12_7 := hide (Nat.ne_of_gt (Nat.lt_of_lt_of_le bx7.lt (show w6.heap.size ≤ g12 from hg12))); have hne12_10 := hide (Nat.ne_of_gt (Nat.lt_of_lt_of_le bx10.lt (show w6.heap.size ≤ g12 from hg12))); have hne12_11 := hide (Nat.ne_of_gt (Nat.lt_of_lt_of_le bx11.lt (show w6.heap.size ≤ g12 from hg12))); replace h0 := h0.ext hBz.ext; replace q10se := q10se.ext hBz.ext; replace q11sf := q11sf.ext hBz.ext; replace bx3 := hBz.blk bx3 zN; replace bx6 := hBz.blk bx6 zN; replace bx7 := hBz.blk bx7 zN; replace bx10 := hBz.blk bx10 zN; replace bx11 := hBz.blk bx11 zN; replace HB := hide (HB.out.trans (hBz.below (B := w.heap.size) HB.out.size zE)); clear hOz hAz hNz hSz hs12 hz12 hBz
  go_upto_region 7 with (fail)
  refine F2.regionS [.o, .al 25 #[.bool false, .slice none 0 0], .st 1] [Fact.eq ?ch32_, Fact.any, Fact.z ?khs13_ ?zhs13_] [32, 13] [32, 13, 0] (by kernel_rfl) ?soh ?soph (by kernel_rfl) ?sth ?finh
  case soh => exact fun x hx => by cases hx
  case soph => exact List.Pairwise.nil
  case sth =>
   refine F2.Steps.consO rfl ?_ ?_
   ·
    intro vz wz hBz hDz hTz K hK; have HW := hBz.ext; simp only [zy, F2.Wp] at hK ⊢; go_simp; refine hK _ wz zB (Fact.eq_mk ?_); with_reducible rfl
   refine F2.Steps.consA rfl ⟨NoU.two nB nS, ?_⟩ ?_
   ·
    intro vz wz hBz K hK; simp only [zy, F2.Wp] at hK ⊢; go_simp; exact hK
   refine F2.Steps.consS rfl rfl ?_ ?_
   ·
    intro vz wz gz hBz hDz E13' hgz hbz K hK; obtain ⟨zc0, zc1, zc2, zc3⟩ := hbz.two; have E32 : vz 32 = _ := hDz 0 (by kernel_rfl) rfl; have E13 : vz 13 = .pointer (some ⟨gz, 0, none⟩) := E13'; have HW := hBz.ext; simp only [zy, F2.Wp] at hK ⊢; simp only [E13, E32] at hK ⊢; go_simp; refine hK _ ((Far.set _ gz 0 _).trans (Far.set _ gz 1 _)) ⟨_, jab hbz, NoU.two nB nS, Fact.cast (Fact.z_mk (QB.zero _ 0 0)) ?_⟩; with_reducible rfl
   exact F2.Steps.nil
  intro vh w8 hBz ⟨hOz, hAz, hNz, hSz⟩; have E32 : vh 32 = _ := hOz 0 (by decide) rfl; obtain ⟨g13, cs13, E13, hg13, bx13, hs13, hz13⟩ := hAz 1 _ _ (by decide) rfl; obtain ⟨n13sh_, A13sh_, l13sh_, c13sh_, E13sh, q13sh⟩ : IntV 0 _ _ w8 (.agg cs13) := hs13 2 (by decide) rfl; injection E13sh with E13sh
  subst E13sh; simp only [Act.put, actv, fill, fC, fN, tA, cS, cZ]; simp only [E32, (show vh 13 = _ from E13)]; clear E32 E13; have hge13 : w.heap.size ≤ g13 := Nat.le_trans HB.out.size hg13; have hne13_3 := hide (Nat.ne_of_gt (Nat.lt_of_lt_of_le bx3.lt (show w7.heap.size ≤ g13 from hg13))); have hne13_6 := hide (Nat.ne_of_gt (Nat.lt_of_lt_of_le bx6.lt (show w7.heap.size ≤ g13 from hg13))); have hne13_7 := hide (Nat.ne_of_gt (Nat.lt_of_lt_of_le bx7.lt (show w7.heap.size ≤ g13 from hg13))); have hne13_10 := hide (Nat.ne_of_gt (Nat.lt_of_lt_of_le bx10.lt (show w7.heap.size ≤ g13 from hg13))); have hne13_11 := hide (Nat.ne_of_gt (Nat.lt_of_lt_of_le bx11.lt (show w7.heap.size ≤ g13 from hg13))); have hne13_12 := hide (Nat.ne_of_gt (Nat.lt_of_lt_of_le bx12.lt (show w7.heap.size ≤ g13 from hg13))); replace h0 := h0.ext hBz.ext; replace q10se := q10se.ext hBz.ext; replace q11sf := q11sf.ext hBz.ext; replace q12sg := q12sg.ext hBz.ext; replace bx3 := hBz.blk bx3 zN; replace bx6 := hBz.blk bx6 zN; replace bx7 := hBz.blk bx7 zN; replace bx10 := hBz.blk bx10 zN; replace bx11 := hBz.blk bx11 zN; replace bx12 := hBz.blk bx12 zN; replace HB := hide (HB.out.trans (hBz.below (B := w.heap.size) HB.out.size zE)); clear hOz hAz hNz hSz hs13 hz13 hBz
  go_upto_region 8 with (fail)
  refine F2.regionS [.o, .al 25 #[.bool false, .slice none 0 0], .st 1] [Fact.eq ?ci33_, Fact.any, Fact.z ?kis14_ ?zis14_] [33, 14] [33, 14, 0] (by kernel_rfl) ?soi ?sopi (by kernel_rfl) ?sti ?fini
  case soi => exact fun x hx => by cases hx
  case sopi => exact List.Pairwise.nil
  case sti =>
   refine F2.Steps.consO rfl ?_ ?_
   ·
    intro vz wz hBz hDz hTz K hK; have HW := hBz.ext; simp only [zy, F2.Wp] at hK ⊢; go_simp; refine hK _ wz zB (Fact.eq_mk ?_); with_reducible rfl
   refine F2.Steps.consA rfl ⟨NoU.two nB nS, ?_⟩ ?_
   ·
    intro vz wz hBz K hK; simp only [zy, F2.Wp] at hK ⊢; go_simp; exact hK
   refine F2.Steps.consS rfl rfl ?_ ?_
   ·
    intro vz wz gz hBz hDz E14' hgz hbz K hK; obtain ⟨zc0, zc1, zc2, zc3⟩ := hbz.two; have E33 : vz 33 = _ := hDz 0 (by kernel_rfl) rfl; have E14 : vz 14 = .pointer (some ⟨gz, 0, none⟩) := E14'; have HW := hBz.ext; simp only [zy, F2.Wp] at hK ⊢; simp only [E14, E33] at hK ⊢; go_simp; refine hK _ ((Far.set _ gz 0 _).trans (Far.set _ gz 1 _)) ⟨_, jab hbz, NoU.two nB nS, Fact.cast (Fact.z_mk (QB.zero _ 0 0)) ?_⟩; with_reducible rfl
   exact F2.Steps.nil
  intro vi w9 hBz ⟨hOz, hAz, hNz, hSz⟩; have E33 : vi 33 = _ := hOz 0 (by decide) rfl; obtain ⟨g14, cs14, E14, hg14, bx14, hs14, hz14⟩ := hAz 1 _ _ (by decide) rfl; obtain ⟨n14si_, A14si_, l14si_, c14si_, E14si, q14si⟩ : IntV 0 _ _ w9 (.agg cs14) := hs14 2 (by decide) rfl; injection E14si with E14si
  subst E14si; simp only [Act.put, actv, fill, fC, fN, tA, cS, cZ]; simp only [E33, (show vi 14 = _ from E14)]; clear E33 E14; have hge14 : w.heap.size ≤ g14 := Nat.le_trans HB.out.size hg14; have hne14_3 := hide (Nat.ne_of_gt (Nat.lt_of_lt_of_le bx3.lt (show w8.heap.size ≤ g14 from hg14))); have hne14_6 := hide (Nat.ne_of_gt (Nat.lt_of_lt_of_le bx6.lt (show w8.heap.size ≤ g14 from hg14))); have hne14_7 := hide (Nat.ne_of_gt (Nat.lt_of_lt_of_le bx7.lt (show w8.heap.size ≤ g14 from hg14))); have hne14_10 := hide (Nat.ne_of_gt (Nat.lt_of_lt_of_le bx10.lt (show w8.heap.size ≤ g14 from hg14))); have hne14_11 := hide (Nat.ne_of_gt (Nat.lt_of_lt_of_le bx11.lt (show w8.heap.size ≤ g14 from hg14))); have hne14_12 := hide (Nat.ne_of_gt (Nat.lt_of_lt_of_le bx12.lt (show w8.heap.size ≤ g14 from hg14))); have hne14_13 := hide (Nat.ne_of_gt (Nat.lt_of_lt_of_le bx13.lt (show w8.heap.size ≤ g14 from hg14))); replace h0 := h0.ext hBz.ext; replace q10se := q10se.ext hBz.ext; replace q11sf := q11sf.ext hBz.ext; replace q12sg := q12sg.ext hBz.ext; replace q13sh := q13sh.ext hBz.ext; replace bx3 := hBz.blk bx3 zN; replace bx6 := hBz.blk bx6 zN; replace bx7 := hBz.blk bx7 zN; replace bx10 := hBz.blk bx10 zN; replace bx11 := hBz.blk bx11 zN; replace bx12 := hBz.blk bx12 zN; replace bx13 := hBz.blk bx13 zN; replace HB := hide (HB.out.trans (hBz.below (B := w.heap.size) HB.out.size zE)); clear hOz hAz hNz hSz hs14 hz14 hBz
  go_upto_region 9 with (fail)
  refine F2.regionS [.o, .al 25 #[.bool false, .slice none 0 0], .st 1] [Fact.z ?kj34_ ?zj34_, Fact.any, Fact.z ?kjs15_ ?zjs15_] [34, 15] [34, 15, 0] (by kernel_rfl) ?soj ?sopj (by kernel_rfl) ?stj ?finj
  case soj => exact fun x hx => by cases hx
  case sopj => exact List.Pairwise.nil
  case stj =>
   refine F2.Steps.consO rfl ?_ ?_
   ·
    intro vz wz hBz hDz hTz K hK; have HW := hBz.ext; simp only [zy, F2.Wp] at hK ⊢; go_simp; refine Calls.mono (u_of  (by omega) (by omega)) ?_; rintro e w2z ⟨hb2, uz, rfl, hf⟩
    go_wp2_with fail
    refine hK _ w2z hb2 (Fact.cast (hf) ?_); with_reducible rfl
   refine F2.Steps.consA rfl ⟨NoU.two nB nS, ?_⟩ ?_
   ·
    intro vz wz hBz K hK; simp only [zy, F2.Wp] at hK ⊢; go_simp; exact hK
   refine F2.Steps.consS rfl rfl ?_ ?_
   ·
    intro vz wz gz hBz hDz E15' hgz hbz K hK; obtain ⟨zc0, zc1, zc2, zc3⟩ := hbz.two; obtain ⟨n34_, A34_, l34_, c34_, E34, q34⟩ : IntV 0 _ _ wz (vz 34) := hDz 0 (by kernel_rfl) rfl; have E15 : vz 15 = .pointer (some ⟨gz, 0, none⟩) := E15'; have HW := hBz.ext; simp only [zy, F2.Wp] at hK ⊢; simp only [E15, E34] at hK ⊢; go_simp; refine hK _ ((Far.set _ gz 0 _).trans (Far.set _ gz 1 _)) ⟨_, jab hbz, NoU.two nB nS, Fact.cast (Fact.z_mk q34) ?_⟩; with_reducible rfl
   exact F2.Steps.nil
  intro vj w10 hBz ⟨hOz, hAz, hNz, hSz⟩; obtain ⟨n34_, A34_, l34_, c34_, E34, q34⟩ : IntV 0 _ _ w10 (vj 34) := hOz 0 (by decide) rfl; obtain ⟨g15, cs15, E15, hg15, bx15, hs15, hz15⟩ := hAz 1 _ _ (by decide) rfl; obtain ⟨n15sj_, A15sj_, l15sj_, c15sj_, E15sj, q15sj⟩ : IntV 0 _ _ w10 (.agg cs15) := hs15 2 (by decide) rfl; injection E15sj with E15sj
  subst E15sj; simp only [Act.put, actv, fill, fC, fN, tA, cS, cZ]; simp only [E34, (show vj 15 = _ from E15)]; clear E34 E15; have hge15 : w.heap.size ≤ g15 := Nat.le_trans HB.out.size hg15; have hne15_3 := hide (Nat.ne_of_gt (Nat.lt_of_lt_of_le bx3.lt (show w9.heap.size ≤ g15 from hg15))); have hne15_6 := hide (Nat.ne_of_gt (Nat.lt_of_lt_of_le bx6.lt (show w9.heap.size ≤ g15 from hg15))); have hne15_7 := hide (Nat.ne_of_gt (Nat.lt_of_lt_of_le bx7.lt (show w9.heap.size ≤ g15 from hg15))); have hne15_10 := hide (Nat.ne_of_gt (Nat.lt_of_lt_of_le bx10.lt (show w9.heap.size ≤ g15 from hg15))); have hne15_11 := hide (Nat.ne_of_gt (Nat.lt_of_lt_of_le bx11.lt (show w9.heap.size ≤ g15 from hg15))); have hne15_12 := hide (Nat.ne_of_gt (Nat.lt_of_lt_of_le bx12.lt (show w9.heap.size ≤ g15 from hg15))); have hne15_13 := hide (Nat.ne_of_gt (Nat.lt_of_lt_of_le bx13.lt (show w9.heap.size ≤ g15 from hg15))); have hne15_14 := hide (Nat.ne_of_gt (Nat.lt_of_lt_of_le bx14.lt (show w9.heap.size ≤ g15 from hg15))); replace h0 := h0.ext hBz.ext; replace q10se := q10se.ext hBz.ext; replace q11sf := q11sf.ext hBz.ext; replace q12sg := q12sg.ext hBz.ext; replace q13sh := q13sh.ext hBz.ext; replace q14si := q14si.ext hBz.ext; replace bx3 := hBz.blk bx3 zN; replace bx6 := hBz.blk bx6 zN; replace bx7 := hBz.blk bx7 zN; replace bx10 := hBz.blk bx10 zN; replace bx11 := hBz.blk bx11 zN; replace bx12 := hBz.blk bx12 zN; replace bx13 := hBz.blk bx13 zN; replace bx14 := hBz.blk bx14 zN; replace HB := hide (HB.out.trans (hBz.below (B := w.heap.size) HB.out.size zE)); clear hOz hAz hNz hSz hs15 hz15 hBz
  go_upto_region 10 with (fail)
  refine F2.regionS [.o] [Fact.eq ?ck16_] [16] [16] (by kernel_rfl) ?sok ?sopk (by kernel_rfl) ?stk ?fink
  case sok => exact fun x hx => by cases hx
  case sopk => exact List.Pairwise.nil
  case stk =>
   refine F2.Steps.consO rfl ?_ ?_
   ·
    intro vz wz hBz hDz hTz K hK; have HW := hBz.ext; simp only [zy, F2.Wp] at hK ⊢; go_simp; refine hK _ wz zB (Fact.eq_mk ?_); with_reducible rfl
   exact F2.Steps.nil
  intro vk w11 hBz ⟨hOz, hAz, hNz, hSz⟩; have E16 : vk 16 = _ := hOz 0 (by decide) rfl; simp only [Act.put, actv, fill, fC, fN, tA, cS, cZ]; simp only [E16]; clear E16; replace h0 := h0.ext hBz.ext; replace q10se := q10se.ext hBz.ext; replace q11sf := q11sf.ext hBz.ext; replace q12sg := q12sg.ext hBz.ext; replace q13sh := q13sh.ext hBz.ext; replace q14si := q14si.ext hBz.ext; replace q15sj := q15sj.ext hBz.ext; replace bx3 := hBz.blk bx3 zN; replace bx6 := hBz.blk bx6 zN; replace bx7 := hBz.blk bx7 zN; replace bx10 := hBz.blk bx10 zN; replace bx11 := hBz.blk bx11 zN; replace bx12 := hBz.blk bx12 zN; replace bx13 := hBz.blk bx13 zN; replace bx14 := hBz.blk bx14 zN; replace bx15 := hBz.blk bx15 zN; replace HB := hide (HB.out.trans (hBz.below (B := w.heap.size) HB.out.size zE)); clear hOz hAz hNz hSz hBz
  go_wp2_with fail
  go_loopw [16] (fun iv wr12 => ∃ i : Nat, i ≤ N ∧ iv = .int .i64 i ∧ Low [g11, g12, g13, g14] w11 wr12 ∧ True ∧ (∃ n11a A11a l11a c11a, Blk wr12 (g11) 25 #[.bool n11a, .slice A11a l11a c11a] ∧ Q wr12 (40) n11a A11a l11a c11a ((rA (dPow q) (x0 * x0) x0 i))) ∧ (∃ n12a A12a l12a c12a, Blk wr12 (g12) 25 #[.bool n12a, .slice A12a l12a c12a] ∧ Q wr12 (40) n12a A12a l12a c12a ((rB (dPow q) (x0 * x0) x0 i))) ∧ (∃ n13a A13a l13a c13a, Blk wr12 (g13) 25 #[.bool n13a, .slice A13a l13a c13a] ∧ QB wr12 0 (40) n13a A13a l13a c13a ((su (oA (rA (dPow q) (x0 * x0) x0)) i))) ∧ (∃ n14a A14a l14a c14a, Blk wr12 (g14) 25 #[.bool n14a, .slice A14a l14a c14a] ∧ Q wr12 (40) n14a A14a l14a c14a ((su (oB (rB (dPow q) (x0 * x0) x0)) i)))) (fun iv _ => N + 0 - (intOf iv).toNat)
  case atStart => exact ⟨0, by omega, rfl, Low.refl _ _, trivial, ⟨_, _, _, _, bx11, (q11sf.up (by omega)).q⟩, ⟨_, _, _, _, bx12, (q12sg.up (by omega)).q⟩, ⟨_, _, _, _, bx13, (q13sh.up (by omega))⟩, ⟨_, _, _, _, bx14, (q14si.up (by omega)).q⟩⟩
  case round =>
   obtain ⟨i, hi, rfl, HL12, hmore, ⟨n11a, A11a, l11a, c11a, bx11, q11a⟩, ⟨n12a, A12a, l12a, c12a, bx12, q12a⟩, ⟨n13a, A13a, l13a, c13a, bx13, q13a⟩, ⟨n14a, A14a, l14a, c14a, bx14, q14a⟩⟩ := hrel; replace h0 := h0.ext HL12.ext; replace q10se := q10se.ext HL12.ext; replace q15sj := q15sj.ext HL12.ext; replace bx3 := HL12.blk bx3 (zM (Ne.symm hne11_3.out) (zM (Ne.symm hne12_3.out) (zM (Ne.symm hne13_3.out) (zM (Ne.symm hne14_3.out) zN)))); replace bx6 := HL12.blk bx6 (zM (Ne.symm hne11_6.out) (zM (Ne.symm hne12_6.out) (zM (Ne.symm hne13_6.out) (zM (Ne.symm hne14_6.out) zN)))); replace bx7 := HL12.blk bx7 (zM (Ne.symm hne11_7.out) (zM (Ne.symm hne12_7.out) (zM (Ne.symm hne13_7.out) (zM (Ne.symm hne14_7.out) zN)))); replace bx10 := HL12.blk bx10 (zM (Ne.symm hne11_10.out) (zM (Ne.symm hne12_10.out) (zM (Ne.symm hne13_10.out) (zM (Ne.symm hne14_10.out) zN)))); replace bx15 := HL12.blk bx15 (zM hne15_11.out (zM hne15_12.out (zM hne15_13.out (zM hne15_14.out zN)))); replace HB := hide (HB.out.trans (HL12.below (B := w.heap.size) HB.out.size (zA hge11 (zA hge12 (zA hge13 (zA hge14 zE)))))); have hszHL12 := HL12.size
   by_cases hlti : i < N
   ·
    have hlti' : (i : Int) < (N : Nat) := by omega
    go_upto_region 13 with (fail)
    refine F2.region [.o, .o, .o, .o, .o, .o, .o, .o, .so (g13) 25 #[.bool n13a, .slice A13a l13a c13a]] [Fact.eq ?cm40_, Fact.eq ?cm41_, Fact.eq ?cm42_, Fact.eq ?cm43_, Fact.eq ?cm44_, Fact.eq ?cm45_, Fact.z ?km46_ ?zm46_, Fact.z ?km47_ ?zm47_, Fact.z ?kms13_ ?zms13_] [40, 41, 42, 43, 44, 45, 46, 47] [40, 41, 42, 43, 44, 45, 46, 47, 0] (by kernel_rfl) ?som ?sopm (by kernel_rfl) ?stm ?finm
    case som => exact List.forall_mem_cons.2 ⟨⟨bx13, NoU.two nB nS⟩, fun x hx => by cases hx⟩
    case sopm => exact List.Pairwise.cons (fun y hy => by cases hy) (List.Pairwise.nil)
    case stm =>
     refine F2.Steps.consO rfl ?_ ?_
     ·
      intro vz wz hBz hDz hTz K hK; have HW := jaa hBz.ext; have bx13z := hTz 8 _ _ _ _ rfl rfl (by kernel_rfl); obtain ⟨zl0, zl1, -⟩ := bx13z.two; simp only [zy, F2.Wp] at hK ⊢; go_simp; refine hK _ wz zB (Fact.eq_mk ?_); with_reducible rfl
     refine F2.Steps.consO rfl ?_ ?_
     ·
      intro vz wz hBz hDz hTz K hK; have HW := jaa hBz.ext; have bx11z := hBz.blk bx11.drew (zM (Ne.symm hne13_11.out) zN); obtain ⟨zl0, zl1, -⟩ := bx11z.two; simp only [zy, F2.Wp] at hK ⊢; go_simp; refine hK _ wz zB (Fact.eq_mk ?_); with_reducible rfl
     refine F2.Steps.consO rfl ?_ ?_
     ·
      intro vz wz hBz hDz hTz K hK; have HW := jaa hBz.ext; have bx15z := hBz.blk bx15.drew (zM hne15_13.out zN); obtain ⟨zl0, zl1, -⟩ := bx15z.two; simp only [zy, F2.Wp] at hK ⊢; go_simp; refine hK _ wz zB (Fact.eq_mk ?_); with_reducible rfl
     refine F2.Steps.consO rfl ?_ ?_
     ·
      intro vz wz hBz hDz hTz K hK; have HW := jaa hBz.ext; simp only [zy, F2.Wp] at hK ⊢; go_simp; refine hK _ wz zB (Fact.eq_mk ?_); with_reducible rfl
     refine F2.Steps.consO rfl ?_ ?_
     ·
      intro vz wz hBz hDz hTz K hK; have E43 : vz 43 = _ := hDz 3 (by kernel_rfl) rfl; have HW := jaa hBz.ext; simp only [zy, F2.Wp] at hK ⊢; simp only [E43] at hK ⊢; go_simp
      try simp (disch := omega) only [IntWalk.i64_in]
      refine hK _ wz zB (Fact.eq_mk ?_); with_reducible rfl
     refine F2.Steps.consO rfl ?_ ?_
     ·
      intro vz wz hBz hDz hTz K hK; have E44 : vz 44 = _ := hDz 4 (by kernel_rfl) rfl; have HW := jaa hBz.ext; simp only [zy, F2.Wp] at hK ⊢; simp only [E44] at hK ⊢; go_simp
      try simp (disch := omega) only [IntWalk.i64_in]
      refine hK _ wz zB (Fact.eq_mk ?_); with_reducible rfl
     refine F2.Steps.consO rfl ?_ ?_
     ·
      intro vz wz hBz hDz hTz K hK; have E41 : vz 41 = _ := hDz 1 (by kernel_rfl) rfl; have E42 : vz 42 = _ := hDz 2 (by kernel_rfl) rfl; have E45 : vz 45 = _ := hDz 5 (by kernel_rfl) rfl; have HW := jaa hBz.ext; simp only [zy, F2.Wp] at hK ⊢; simp only [E41, E42, E45] at hK ⊢; go_simp; refine Calls.mono (jcu (q11a.ext HW) (q15sj.ext HW).q (by omega) (by omega) (by omega) (by omega) (by omega) (by omega)) ?_; rintro e w2z ⟨hb2, uz, rfl, hf⟩
      go_wp2_with fail
      refine hK _ w2z hb2 (Fact.cast (hf) ?_); with_reducible rfl
     refine F2.Steps.consO rfl ?_ ?_
     ·
      intro vz wz hBz hDz hTz K hK; have E40 : vz 40 = _ := hDz 0 (by kernel_rfl) rfl; obtain ⟨n46_, A46_, l46_, c46_, E46, q46⟩ : IntV 0 _ _ wz (vz 46) := hDz 6 (by kernel_rfl) rfl; have HW := jaa hBz.ext; simp only [zy, F2.Wp] at hK ⊢; simp only [E40, E46] at hK ⊢; go_simp; refine Calls.mono (jkh (q13a.ext HW).q q46.q (by omega) (by omega)) ?_; rintro e w2z ⟨hb2, uz, rfl, hf⟩
      go_wp2_with fail
      refine hK _ w2z hb2 (Fact.cast (hf) ?_); with_reducible rfl
     refine F2.Steps.consT rfl ?_ ?_
     ·
      intro vz wz hBz hDz hbz K hK; obtain ⟨zc0, zc1, zc2, zc3⟩ := hbz.two; obtain ⟨n47_, A47_, l47_, c47_, E47, q47⟩ : IntV 0 _ _ wz (vz 47) := hDz 7 (by kernel_rfl) rfl; have HW := jaa hBz.ext; simp only [zy, F2.Wp] at hK ⊢; simp only [E47] at hK ⊢; go_simp; refine hK _ ((Far.set _ _ 0 _).trans (Far.set _ _ 1 _)) ⟨_, jab hbz, NoU.two nB nS, Fact.cast (Fact.z_mk q47) ?_⟩; with_reducible rfl
     exact F2.Steps.nil
    intro vm w13 hBz ⟨hOz, hAz, hNz, hSz⟩; have E40 : vm 40 = _ := hOz 0 (by decide) rfl; have E41 : vm 41 = _ := hOz 1 (by decide) rfl; have E42 : vm 42 = _ := hOz 2 (by decide) rfl; have E43 : vm 43 = _ := hOz 3 (by decide) rfl; have E44 : vm 44 = _ := hOz 4 (by decide) rfl; have E45 : vm 45 = _ := hOz 5 (by decide) rfl; obtain ⟨n46_, A46_, l46_, c46_, E46, q46⟩ : IntV 0 _ _ w13 (vm 46) := hOz 6 (by decide) rfl; obtain ⟨n47_, A47_, l47_, c47_, E47, q47⟩ : IntV 0 _ _ w13 (vm 47) := hOz 7 (by decide) rfl; obtain ⟨cs13, bx13n, hs13⟩ := hSz 8 _ _ _ (by decide) rfl; obtain ⟨n13sm_, A13sm_, l13sm_, c13sm_, E13sm, q13sm⟩ : IntV 0 _ _ w13 (.agg cs13) := hs13; injection E13sm with E13sm
    subst E13sm; simp only [Act.put, actv, fill, fC, fN, tA, cS, cZ]; simp only [E40, E41, E42, E43, E44, E45, E46, E47]; clear E40 E41 E42 E43 E44 E45 E46 E47; replace h0 := h0.ext hBz.ext; replace q10se := q10se.ext hBz.ext; replace q11a := q11a.ext hBz.ext; replace q12a := q12a.ext hBz.ext; replace q13a := q13a.ext hBz.ext; replace q14a := q14a.ext hBz.ext; replace q15sj := q15sj.ext hBz.ext; replace bx3 := hBz.blk bx3 (zM (Ne.symm hne13_3.out) zN); replace bx6 := hBz.blk bx6 (zM (Ne.symm hne13_6.out) zN); replace bx7 := hBz.blk bx7 (zM (Ne.symm hne13_7.out) zN); replace bx10 := hBz.blk bx10 (zM (Ne.symm hne13_10.out) zN); replace bx11 := hBz.blk bx11 (zM (Ne.symm hne13_11.out) zN); replace bx12 := hBz.blk bx12 (zM (Ne.symm hne13_12.out) zN); replace bx14 := hBz.blk bx14 (zM hne14_13.out zN); replace bx15 := hBz.blk bx15 (zM hne15_13.out zN); replace HL12 := HL12.step hBz (zA (Or.inl (by simp)) zE); replace HB := hide (HB.out.trans (hBz.below (B := w.heap.size) HB.out.size (zA hge13 zE))); clear bx13; have bx13 := bx13n; clear bx13n; clear hOz hAz hNz hSz hBz
    go_upto_region 14 with (fail)
    refine F2.region [.o, .o, .o, .o, .o, .o, .o, .o, .so (g14) 25 #[.bool n14a, .slice A14a l14a c14a]] [Fact.eq ?cn48_, Fact.eq ?cn49_, Fact.eq ?cn50_, Fact.eq ?cn51_, Fact.eq ?cn52_, Fact.eq ?cn53_, Fact.z ?kn54_ ?zn54_, Fact.z ?kn55_ ?zn55_, Fact.z ?kns14_ ?zns14_] [48, 49, 50, 51, 52, 53, 54, 55] [48, 49, 50, 51, 52, 53, 54, 55, 0] (by kernel_rfl) ?son ?sopn (by kernel_rfl) ?stn ?finn
    case son => exact List.forall_mem_cons.2 ⟨⟨bx14, NoU.two nB nS⟩, fun x hx => by cases hx⟩
    case sopn => exact List.Pairwise.cons (fun y hy => by cases hy) (List.Pairwise.nil)
    case stn =>
     refine F2.Steps.consO rfl ?_ ?_
     ·
      intro vz wz hBz hDz hTz K hK; have HW := jaa hBz.ext; have bx14z := hTz 8 _ _ _ _ rfl rfl (by kernel_rfl); obtain ⟨zl0, zl1, -⟩ := bx14z.two; simp only [zy, F2.Wp] at hK ⊢; go_simp; refine hK _ wz zB (Fact.eq_mk ?_); with_reducible rfl
     refine F2.Steps.consO rfl ?_ ?_
     ·
      intro vz wz hBz hDz hTz K hK; have HW := jaa hBz.ext; have bx12z := hBz.blk bx12.drew (zM (Ne.symm hne14_12.out) zN); obtain ⟨zl0, zl1, -⟩ := bx12z.two; simp only [zy, F2.Wp] at hK ⊢; go_simp; refine hK _ wz zB (Fact.eq_mk ?_); with_reducible rfl
     refine F2.Steps.consO rfl ?_ ?_
     ·
      intro vz wz hBz hDz hTz K hK; have HW := jaa hBz.ext; have bx15z := hBz.blk bx15.drew (zM hne15_14.out zN); obtain ⟨zl0, zl1, -⟩ := bx15z.two; simp only [zy, F2.Wp] at hK ⊢; go_simp; refine hK _ wz zB (Fact.eq_mk ?_); with_reducible rfl
     refine F2.Steps.consO rfl ?_ ?_
     ·
      intro vz wz hBz hDz hTz K hK; have HW := jaa hBz.ext; simp only [zy, F2.Wp] at hK ⊢; go_simp; refine hK _ wz zB (Fact.eq_mk ?_); with_reducible rfl
     refine F2.Steps.consO rfl ?_ ?_
     ·
      intro vz wz hBz hDz hTz K hK; have E51 : vz 51 = _ := hDz 3 (by kernel_rfl) rfl; have HW := jaa hBz.ext; simp only [zy, F2.Wp] at hK ⊢; simp only [E51] at hK ⊢; go_simp
      try simp (disch := omega) only [IntWalk.i64_in]
      refine hK _ wz zB (Fact.eq_mk ?_); with_reducible rfl
     refine F2.Steps.consO rfl ?_ ?_
     ·
      intro vz wz hBz hDz hTz K hK; have E52 : vz 52 = _ := hDz 4 (by kernel_rfl) rfl; have HW := jaa hBz.ext; simp only [zy, F2.Wp] at hK ⊢; simp only [E52] at hK ⊢; go_simp
      try simp (disch := omega) only [IntWalk.i64_in]
      refine hK _ wz zB (Fact.eq_mk ?_); with_reducible rfl
     refine F2.Steps.consO rfl ?_ ?_
     ·
      intro vz wz hBz hDz hTz K hK; have E49 : vz 49 = _ := hDz 1 (by kernel_rfl) rfl; have E50 : vz 50 = _ := hDz 2 (by kernel_rfl) rfl; have E53 : vz 53 = _ := hDz 5 (by kernel_rfl) rfl; have HW := jaa hBz.ext; simp only [zy, F2.Wp] at hK ⊢; simp only [E49, E50, E53] at hK ⊢; go_simp; refine Calls.mono (jc9 (q12a.ext HW) (q15sj.ext HW).q (by omega) (by omega) (by omega) (by omega) (by omega) (by omega)) ?_; rintro e w2z ⟨hb2, uz, rfl, hf⟩
      go_wp2_with fail
      refine hK _ w2z hb2 (Fact.cast (hf) ?_); with_reducible rfl
     refine F2.Steps.consO rfl ?_ ?_
     ·
      intro vz wz hBz hDz hTz K hK; have E48 : vz 48 = _ := hDz 0 (by kernel_rfl) rfl; obtain ⟨n54_, A54_, l54_, c54_, E54, q54⟩ : IntV 0 _ _ wz (vz 54) := hDz 6 (by kernel_rfl) rfl; have HW := jaa hBz.ext; simp only [zy, F2.Wp] at hK ⊢; simp only [E48, E54] at hK ⊢; go_simp; refine Calls.mono (jkh (q14a.ext HW) q54.q (by omega) (by omega)) ?_; rintro e w2z ⟨hb2, uz, rfl, hf⟩
      go_wp2_with fail
      refine hK _ w2z hb2 (Fact.cast (hf) ?_); with_reducible rfl
     refine F2.Steps.consT rfl ?_ ?_
     ·
      intro vz wz hBz hDz hbz K hK; obtain ⟨zc0, zc1, zc2, zc3⟩ := hbz.two; obtain ⟨n55_, A55_, l55_, c55_, E55, q55⟩ : IntV 0 _ _ wz (vz 55) := hDz 7 (by kernel_rfl) rfl; have HW := jaa hBz.ext; simp only [zy, F2.Wp] at hK ⊢; simp only [E55] at hK ⊢; go_simp; refine hK _ ((Far.set _ _ 0 _).trans (Far.set _ _ 1 _)) ⟨_, jab hbz, NoU.two nB nS, Fact.cast (Fact.z_mk q55) ?_⟩; with_reducible rfl
     exact F2.Steps.nil
    intro vn w14 hBz ⟨hOz, hAz, hNz, hSz⟩; have E48 : vn 48 = _ := hOz 0 (by decide) rfl; have E49 : vn 49 = _ := hOz 1 (by decide) rfl; have E50 : vn 50 = _ := hOz 2 (by decide) rfl; have E51 : vn 51 = _ := hOz 3 (by decide) rfl; have E52 : vn 52 = _ := hOz 4 (by decide) rfl; have E53 : vn 53 = _ := hOz 5 (by decide) rfl; obtain ⟨n54_, A54_, l54_, c54_, E54, q54⟩ : IntV 0 _ _ w14 (vn 54) := hOz 6 (by decide) rfl; obtain ⟨n55_, A55_, l55_, c55_, E55, q55⟩ : IntV 0 _ _ w14 (vn 55) := hOz 7 (by decide) rfl; obtain ⟨cs14, bx14n, hs14⟩ := hSz 8 _ _ _ (by decide) rfl; obtain ⟨n14sn_, A14sn_, l14sn_, c14sn_, E14sn, q14sn⟩ : IntV 0 _ _ w14 (.agg cs14) := hs14; injection E14sn with E14sn
    subst E14sn; simp only [Act.put, actv, fill, fC, fN, tA, cS, cZ]; simp only [E48, E49, E50, E51, E52, E53, E54, E55]; clear E48 E49 E50 E51 E52 E53 E54 E55; replace h0 := h0.ext hBz.ext; replace q10se := q10se.ext hBz.ext; replace q11a := q11a.ext hBz.ext; replace q12a := q12a.ext hBz.ext; replace q13sm := q13sm.ext hBz.ext; replace q14a := q14a.ext hBz.ext; replace q15sj := q15sj.ext hBz.ext; replace bx3 := hBz.blk bx3 (zM (Ne.symm hne14_3.out) zN); replace bx6 := hBz.blk bx6 (zM (Ne.symm hne14_6.out) zN); replace bx7 := hBz.blk bx7 (zM (Ne.symm hne14_7.out) zN); replace bx10 := hBz.blk bx10 (zM (Ne.symm hne14_10.out) zN); replace bx11 := hBz.blk bx11 (zM (Ne.symm hne14_11.out) zN); replace bx12 := hBz.blk bx12 (zM (Ne.symm hne14_12.out) zN); replace bx13 := hBz.blk bx13 (zM (Ne.symm hne14_13.out) zN); replace bx15 := hBz.blk bx15 (zM hne15_14.out zN); replace HL12 := HL12.step hBz (zA (Or.inl (by simp)) zE); replace HB := hide (HB.out.trans (hBz.below (B := w.heap.size) HB.out.size (zA hge14 zE))); clear bx14; have bx14 := bx14n; clear bx14n; clear hOz hAz hNz hSz hBz
    go_upto_region 15 with (fail)
    refine F2.regionS [.o, .o, .o, .o, .o, .so (g11) 25 #[.bool n11a, .slice A11a l11a c11a]] [Fact.eq ?co56_, Fact.eq ?co57_, Fact.eq ?co58_, Fact.eq ?co59_, Fact.z ?ko60_ ?zo60_, Fact.z ?kos11_ ?zos11_] [56, 57, 58, 59, 60] [56, 57, 58, 59, 60, 0] (by kernel_rfl) ?soo ?sopo (by kernel_rfl) ?sto ?fino
    case soo => exact List.forall_mem_cons.2 ⟨⟨bx11, NoU.two nB nS⟩, fun x hx => by cases hx⟩
    case sopo => exact List.Pairwise.cons (fun y hy => by cases hy) (List.Pairwise.nil)
    case sto =>
     refine F2.Steps.consO rfl ?_ ?_
     ·
      intro vz wz hBz hDz hTz K hK; have HW := hBz.ext; have bx11z := hTz 5 _ _ _ _ rfl rfl (by kernel_rfl); obtain ⟨zl0, zl1, -⟩ := bx11z.two; simp only [zy, F2.Wp] at hK ⊢; go_simp; refine hK _ wz zB (Fact.eq_mk ?_); with_reducible rfl
     refine F2.Steps.consO rfl ?_ ?_
     ·
      intro vz wz hBz hDz hTz K hK; have HW := hBz.ext; have bx10z := hBz.blk bx10 (zM (Ne.symm hne11_10.out) zN); obtain ⟨zl0, zl1, -⟩ := bx10z.two; simp only [zy, F2.Wp] at hK ⊢; go_simp; refine hK _ wz zB (Fact.eq_mk ?_); with_reducible rfl
     refine F2.Steps.consO rfl ?_ ?_
     ·
      intro vz wz hBz hDz hTz K hK; have HW := hBz.ext; simp only [zy, F2.Wp] at hK ⊢; go_simp; refine hK _ wz zB (Fact.eq_mk ?_); with_reducible rfl
     refine F2.Steps.consO rfl ?_ ?_
     ·
      intro vz wz hBz hDz hTz K hK; have E58 : vz 58 = _ := hDz 2 (by kernel_rfl) rfl; have HW := hBz.ext; simp only [zy, F2.Wp] at hK ⊢; simp only [E58] at hK ⊢; go_simp
      try simp (disch := omega) only [IntWalk.i64_in]
      refine hK _ wz zB (Fact.eq_mk ?_); with_reducible rfl
     refine F2.Steps.consO rfl ?_ ?_
     ·
      intro vz wz hBz hDz hTz K hK; have E56 : vz 56 = _ := hDz 0 (by kernel_rfl) rfl; have E57 : vz 57 = _ := hDz 1 (by kernel_rfl) rfl; have E59 : vz 59 = _ := hDz 3 (by kernel_rfl) rfl; have HW := hBz.ext; simp only [zy, F2.Wp] at hK ⊢; simp only [E56, E57, E59] at hK ⊢; go_simp; refine Calls.mono (jcu (q11a.ext HW) (q10se.ext HW).q (by omega) (by omega) (by omega) (by omega) (by omega) (by omega)) ?_; rintro e w2z ⟨hb2, uz, rfl, hf⟩
      go_wp2_with fail
      refine hK _ w2z hb2 (Fact.cast (hf) ?_); with_reducible rfl
     refine F2.Steps.consT rfl ?_ ?_
     ·
      intro vz wz hBz hDz hbz K hK; obtain ⟨zc0, zc1, zc2, zc3⟩ := hbz.two; obtain ⟨n60_, A60_, l60_, c60_, E60, q60⟩ : IntV 0 _ _ wz (vz 60) := hDz 4 (by kernel_rfl) rfl; have HW := hBz.ext; simp only [zy, F2.Wp] at hK ⊢; simp only [E60] at hK ⊢; go_simp; refine hK _ ((Far.set _ _ 0 _).trans (Far.set _ _ 1 _)) ⟨_, jab hbz, NoU.two nB nS, Fact.cast (Fact.z_mk q60) ?_⟩; with_reducible rfl
     exact F2.Steps.nil
    intro vo w15 hBz ⟨hOz, hAz, hNz, hSz⟩; have E56 : vo 56 = _ := hOz 0 (by decide) rfl; have E57 : vo 57 = _ := hOz 1 (by decide) rfl; have E58 : vo 58 = _ := hOz 2 (by decide) rfl; have E59 : vo 59 = _ := hOz 3 (by decide) rfl; obtain ⟨n60_, A60_, l60_, c60_, E60, q60⟩ : IntV 0 _ _ w15 (vo 60) := hOz 4 (by decide) rfl; obtain ⟨cs11, bx11n, hs11⟩ := hSz 5 _ _ _ (by decide) rfl; obtain ⟨n11so_, A11so_, l11so_, c11so_, E11so, q11so⟩ : IntV 0 _ _ w15 (.agg cs11) := hs11; injection E11so with E11so
    subst E11so; simp only [Act.put, actv, fill, fC, fN, tA, cS, cZ]; simp only [E56, E57, E58, E59, E60]; clear E56 E57 E58 E59 E60; replace h0 := h0.ext hBz.ext; replace q10se := q10se.ext hBz.ext; replace q11a := q11a.ext hBz.ext; replace q12a := q12a.ext hBz.ext; replace q13sm := q13sm.ext hBz.ext; replace q14sn := q14sn.ext hBz.ext; replace q15sj := q15sj.ext hBz.ext; replace bx3 := hBz.blk bx3 (zM (Ne.symm hne11_3.out) zN); replace bx6 := hBz.blk bx6 (zM (Ne.symm hne11_6.out) zN); replace bx7 := hBz.blk bx7 (zM (Ne.symm hne11_7.out) zN); replace bx10 := hBz.blk bx10 (zM (Ne.symm hne11_10.out) zN); replace bx12 := hBz.blk bx12 (zM hne12_11.out zN); replace bx13 := hBz.blk bx13 (zM hne13_11.out zN); replace bx14 := hBz.blk bx14 (zM hne14_11.out zN); replace bx15 := hBz.blk bx15 (zM hne15_11.out zN); replace HL12 := HL12.step hBz (zA (Or.inl (by simp)) zE); replace HB := hide (HB.out.trans (hBz.below (B := w.heap.size) HB.out.size (zA hge11 zE))); clear bx11; have bx11 := bx11n; clear bx11n; clear hOz hAz hNz hSz hBz
    go_upto_region 16 with (fail)
    refine F2.regionS [.o, .o, .o, .o, .o, .so (g12) 25 #[.bool n12a, .slice A12a l12a c12a]] [Fact.eq ?cp61_, Fact.eq ?cp62_, Fact.eq ?cp63_, Fact.eq ?cp64_, Fact.z ?kp65_ ?zp65_, Fact.z ?kps12_ ?zps12_] [61, 62, 63, 64, 65] [61, 62, 63, 64, 65, 0] (by kernel_rfl) ?sop ?sopp (by kernel_rfl) ?stp ?finp
    case sop => exact List.forall_mem_cons.2 ⟨⟨bx12, NoU.two nB nS⟩, fun x hx => by cases hx⟩
    case sopp => exact List.Pairwise.cons (fun y hy => by cases hy) (List.Pairwise.nil)
    case stp =>
     refine F2.Steps.consO rfl ?_ ?_
     ·
      intro vz wz hBz hDz hTz K hK; have HW := hBz.ext; have bx12z := hTz 5 _ _ _ _ rfl rfl (by kernel_rfl); obtain ⟨zl0, zl1, -⟩ := bx12z.two; simp only [zy, F2.Wp] at hK ⊢; go_simp; refine hK _ wz zB (Fact.eq_mk ?_); with_reducible rfl
     refine F2.Steps.consO rfl ?_ ?_
     ·
      intro vz wz hBz hDz hTz K hK; have HW := hBz.ext; have bx10z := hBz.blk bx10 (zM (Ne.symm hne12_10.out) zN); obtain ⟨zl0, zl1, -⟩ := bx10z.two; simp only [zy, F2.Wp] at hK ⊢; go_simp; refine hK _ wz zB (Fact.eq_mk ?_); with_reducible rfl
     refine F2.Steps.consO rfl ?_ ?_
     ·
      intro vz wz hBz hDz hTz K hK; have HW := hBz.ext; simp only [zy, F2.Wp] at hK ⊢; go_simp; refine hK _ wz zB (Fact.eq_mk ?_); with_reducible rfl
     refine F2.Steps.consO rfl ?_ ?_
     ·
      intro vz wz hBz hDz hTz K hK; have E63 : vz 63 = _ := hDz 2 (by kernel_rfl) rfl; have HW := hBz.ext; simp only [zy, F2.Wp] at hK ⊢; simp only [E63] at hK ⊢; go_simp
      try simp (disch := omega) only [IntWalk.i64_in]
      refine hK _ wz zB (Fact.eq_mk ?_); with_reducible rfl
     refine F2.Steps.consO rfl ?_ ?_
     ·
      intro vz wz hBz hDz hTz K hK; have E61 : vz 61 = _ := hDz 0 (by kernel_rfl) rfl; have E62 : vz 62 = _ := hDz 1 (by kernel_rfl) rfl; have E64 : vz 64 = _ := hDz 3 (by kernel_rfl) rfl; have HW := hBz.ext; simp only [zy, F2.Wp] at hK ⊢; simp only [E61, E62, E64] at hK ⊢; go_simp; refine Calls.mono (jc9 (q12a.ext HW) (q10se.ext HW).q (by omega) (by omega) (by omega) (by omega) (by omega) (by omega)) ?_; rintro e w2z ⟨hb2, uz, rfl, hf⟩
      go_wp2_with fail
      refine hK _ w2z hb2 (Fact.cast (hf) ?_); with_reducible rfl
     refine F2.Steps.consT rfl ?_ ?_
     ·
      intro vz wz hBz hDz hbz K hK; obtain ⟨zc0, zc1, zc2, zc3⟩ := hbz.two; obtain ⟨n65_, A65_, l65_, c65_, E65, q65⟩ : IntV 0 _ _ wz (vz 65) := hDz 4 (by kernel_rfl) rfl; have HW := hBz.ext; simp only [zy, F2.Wp] at hK ⊢; simp only [E65] at hK ⊢; go_simp; refine hK _ ((Far.set _ _ 0 _).trans (Far.set _ _ 1 _)) ⟨_, jab hbz, NoU.two nB nS, Fact.cast (Fact.z_mk q65) ?_⟩; with_reducible rfl
     exact F2.Steps.nil
    intro vp w16 hBz ⟨hOz, hAz, hNz, hSz⟩; have E61 : vp 61 = _ := hOz 0 (by decide) rfl; have E62 : vp 62 = _ := hOz 1 (by decide) rfl; have E63 : vp 63 = _ := hOz 2 (by decide) rfl; have E64 : vp 64 = _ := hOz 3 (by decide) rfl; obtain ⟨n65_, A65_, l65_, c65_, E65, q65⟩ : IntV 0 _ _ w16 (vp 65) := hOz 4 (by decide) rfl; obtain ⟨cs12, bx12n, hs12⟩ := hSz 5 _ _ _ (by decide) rfl; obtain ⟨n12sp_, A12sp_, l12sp_, c12sp_, E12sp, q12sp⟩ : IntV 0 _ _ w16 (.agg cs12) := hs12; injection E12sp with E12sp
    subst E12sp; simp only [Act.put, actv, fill, fC, fN, tA, cS, cZ]; simp only [E61, E62, E63, E64, E65]; clear E61 E62 E63 E64 E65; replace h0 := h0.ext hBz.ext; replace q10se := q10se.ext hBz.ext; replace q11so := q11so.ext hBz.ext; replace q12a := q12a.ext hBz.ext; replace q13sm := q13sm.ext hBz.ext; replace q14sn := q14sn.ext hBz.ext; replace q15sj := q15sj.ext hBz.ext; replace bx3 := hBz.blk bx3 (zM (Ne.symm hne12_3.out) zN); replace bx6 := hBz.blk bx6 (zM (Ne.symm hne12_6.out) zN); replace bx7 := hBz.blk bx7 (zM (Ne.symm hne12_7.out) zN); replace bx10 := hBz.blk bx10 (zM (Ne.symm hne12_10.out) zN); replace bx11 := hBz.blk bx11 (zM (Ne.symm hne12_11.out) zN); replace bx13 := hBz.blk bx13 (zM hne13_12.out zN); replace bx14 := hBz.blk bx14 (zM hne14_12.out zN); replace bx15 := hBz.blk bx15 (zM hne15_12.out zN); replace HL12 := HL12.step hBz (zA (Or.inl (by simp)) zE); replace HB := hide (HB.out.trans (hBz.below (B := w.heap.size) HB.out.size (zA hge12 zE))); clear bx12; have bx12 := bx12n; clear bx12n; clear hOz hAz hNz hSz hBz
    go_wp2_with fail
    go_roundw
    case rel => exact ⟨i + 1, by omega, by go_num, HL12, trivial, ⟨_, _, _, _, bx11, (q11so.fit (HA.out (i + 1) (by omega))).q⟩, ⟨_, _, _, _, bx12, (q12sp.fit (HB_.out (i + 1) (by omega))).q⟩, ⟨_, _, _, _, bx13, (q13sm.fit (HS.out (i + 1) (by omega)))⟩, ⟨_, _, _, _, bx14, (q14sn.fit (HT2.out (i + 1) (by omega))).q⟩⟩
    case measure => simp [intOf]; omega
   ·
    skip
    obtain rfl : i = N := by omega
    clear hlti
    go_upto_region 17 with (fail)
    refine F2.regionS [.o, .o, .o, .o, .o, .o, .al 25 #[.bool false, .slice none 0 0], .st 6] [Fact.eq ?cq66_, Fact.eq ?cq67_, Fact.eq ?cq68_, Fact.eq ?cq69_, Fact.eq ?cq70_, Fact.z ?kq71_ ?zq71_, Fact.any, Fact.z ?kqs17_ ?zqs17_] [66, 67, 68, 69, 70, 71, 17] [66, 67, 68, 69, 70, 71, 17, 0] (by kernel_rfl) ?soq ?sopq (by kernel_rfl) ?stq ?finq
    case soq => exact fun x hx => by cases hx
    case sopq => exact List.Pairwise.nil
    case stq =>
     refine F2.Steps.consO rfl ?_ ?_
     ·
      intro vz wz hBz hDz hTz K hK; have HW := hBz.ext; have bx12z := hBz.blk bx12 zN; obtain ⟨zl0, zl1, -⟩ := bx12z.two; simp only [zy, F2.Wp] at hK ⊢; go_simp; refine hK _ wz zB (Fact.eq_mk ?_); with_reducible rfl
     refine F2.Steps.consO rfl ?_ ?_
     ·
      intro vz wz hBz hDz hTz K hK; have HW := hBz.ext; have bx15z := hBz.blk bx15 zN; obtain ⟨zl0, zl1, -⟩ := bx15z.two; simp only [zy, F2.Wp] at hK ⊢; go_simp; refine hK _ wz zB (Fact.eq_mk ?_); with_reducible rfl
     refine F2.Steps.consO rfl ?_ ?_
     ·
      intro vz wz hBz hDz hTz K hK; have HW := hBz.ext; simp only [zy, F2.Wp] at hK ⊢; go_simp; refine hK _ wz zB (Fact.eq_mk ?_); with_reducible rfl
     refine F2.Steps.consO rfl ?_ ?_
     ·
      intro vz wz hBz hDz hTz K hK; have E68 : vz 68 = _ := hDz 2 (by kernel_rfl) rfl; have HW := hBz.ext; simp only [zy, F2.Wp] at hK ⊢; simp only [E68] at hK ⊢; go_simp
      try simp (disch := omega) only [IntWalk.i64_in]
      refine hK _ wz zB (Fact.eq_mk ?_); with_reducible rfl
     refine F2.Steps.consO rfl ?_ ?_
     ·
      intro vz wz hBz hDz hTz K hK; have E69 : vz 69 = _ := hDz 3 (by kernel_rfl) rfl; have HW := hBz.ext; simp only [zy, F2.Wp] at hK ⊢; simp only [E69] at hK ⊢; go_simp
      try simp (disch := omega) only [IntWalk.i64_in]
      refine hK _ wz zB (Fact.eq_mk ?_); with_reducible rfl
     refine F2.Steps.consO rfl ?_ ?_
     ·
      intro vz wz hBz hDz hTz K hK; have E66 : vz 66 = _ := hDz 0 (by kernel_rfl) rfl; have E67 : vz 67 = _ := hDz 1 (by kernel_rfl) rfl; have E70 : vz 70 = _ := hDz 4 (by kernel_rfl) rfl; have HW := hBz.ext; simp only [zy, F2.Wp] at hK ⊢; simp only [E66, E67, E70] at hK ⊢; go_simp; refine Calls.mono (jc9 (q12a.ext HW) (q15sj.ext HW).q (by omega) (by omega) (by omega) (by omega) (by omega) (by omega)) ?_; rintro e w2z ⟨hb2, uz, rfl, hf⟩
      go_wp2_with fail
      refine hK _ w2z hb2 (Fact.cast (hf) ?_); with_reducible rfl
     refine F2.Steps.consA rfl ⟨NoU.two nB nS, ?_⟩ ?_
     ·
      intro vz wz hBz K hK; simp only [zy, F2.Wp] at hK ⊢; go_simp; exact hK
     refine F2.Steps.consS rfl rfl ?_ ?_
     ·
      intro vz wz gz hBz hDz E17' hgz hbz K hK; obtain ⟨zc0, zc1, zc2, zc3⟩ := hbz.two; obtain ⟨n71_, A71_, l71_, c71_, E71, q71⟩ : IntV 0 _ _ wz (vz 71) := hDz 5 (by kernel_rfl) rfl; have E17 : vz 17 = .pointer (some ⟨gz, 0, none⟩) := E17'; have HW := hBz.ext; simp only [zy, F2.Wp] at hK ⊢; simp only [E17, E71] at hK ⊢; go_simp; refine hK _ ((Far.set _ gz 0 _).trans (Far.set _ gz 1 _)) ⟨_, jab hbz, NoU.two nB nS, Fact.cast (Fact.z_mk q71) ?_⟩; with_reducible rfl
     exact F2.Steps.nil
    intro vq w17 hBz ⟨hOz, hAz, hNz, hSz⟩; have E66 : vq 66 = _ := hOz 0 (by decide) rfl; have E67 : vq 67 = _ := hOz 1 (by decide) rfl; have E68 : vq 68 = _ := hOz 2 (by decide) rfl; have E69 : vq 69 = _ := hOz 3 (by decide) rfl; have E70 : vq 70 = _ := hOz 4 (by decide) rfl; obtain ⟨n71_, A71_, l71_, c71_, E71, q71⟩ : IntV 0 _ _ w17 (vq 71) := hOz 5 (by decide) rfl; obtain ⟨g17, cs17, E17, hg17, bx17, hs17, hz17⟩ := hAz 6 _ _ (by decide) rfl; obtain ⟨n17sq_, A17sq_, l17sq_, c17sq_, E17sq, q17sq⟩ : IntV 0 _ _ w17 (.agg cs17) := hs17 7 (by decide) rfl; injection E17sq with E17sq
    subst E17sq; simp only [Act.put, actv, fill, fC, fN, tA, cS, cZ]; simp only [E66, E67, E68, E69, E70, E71, (show vq 17 = _ from E17)]; clear E66 E67 E68 E69 E70 E71 E17; have hge17 : w.heap.size ≤ g17 := Nat.le_trans HB.out.size hg17; have hne17_3 := hide (Nat.ne_of_gt (Nat.lt_of_lt_of_le bx3.lt (show wr.heap.size ≤ g17 from hg17))); have hne17_6 := hide (Nat.ne_of_gt (Nat.lt_of_lt_of_le bx6.lt (show wr.heap.size ≤ g17 from hg17))); have hne17_7 := hide (Nat.ne_of_gt (Nat.lt_of_lt_of_le bx7.lt (show wr.heap.size ≤ g17 from hg17))); have hne17_10 := hide (Nat.ne_of_gt (Nat.lt_of_lt_of_le bx10.lt (show wr.heap.size ≤ g17 from hg17))); have hne17_11 := hide (Nat.ne_of_gt (Nat.lt_of_lt_of_le bx11.lt (show wr.heap.size ≤ g17 from hg17))); have hne17_12 := hide (Nat.ne_of_gt (Nat.lt_of_lt_of_le bx12.lt (show wr.heap.size ≤ g17 from hg17))); have hne17_13 := hide (Nat.ne_of_gt (Nat.lt_of_lt_of_le bx13.lt (show wr.heap.size ≤ g17 from hg17))); have hne17_14 := hide (Nat.ne_of_gt (Nat.lt_of_lt_of_le bx14.lt (show wr.heap.size ≤ g17 from hg17))); have hne17_15 := hide (Nat.ne_of_gt (Nat.lt_of_lt_of_le bx15.lt (show wr.heap.size ≤ g17 from hg17))); replace h0 := h0.ext hBz.ext; replace q10se := q10se.ext hBz.ext; replace q11a := q11a.ext hBz.ext; replace q12a := q12a.ext hBz.ext; replace q13a := q13a.ext hBz.ext; replace q14a := q14a.ext hBz.ext; replace q15sj := q15sj.ext hBz.ext; replace bx3 := hBz.blk bx3 zN; replace bx6 := hBz.blk bx6 zN; replace bx7 := hBz.blk bx7 zN; replace bx10 := hBz.blk bx10 zN; replace bx11 := hBz.blk bx11 zN; replace bx12 := hBz.blk bx12 zN; replace bx13 := hBz.blk bx13 zN; replace bx14 := hBz.blk bx14 zN; replace bx15 := hBz.blk bx15 zN; replace HB := hide (HB.out.trans (hBz.below (B := w.heap.size) HB.out.size zE)); clear hOz hAz hNz hSz hs17 hz17 hBz
    go_upto_region 18 with (fail)
    refine F2.region [.o, .o, .o, .o, .o, .o, .so (g6) 25 #[.bool false, .slice none 0 0], .so (g7) 25 #[.bool false, .slice none 0 0], .o] [Fact.eq ?cr72_, Fact.eq ?cr73_, Fact.eq ?cr74_, Fact.eq ?cr75_, Fact.z ?kr76_ ?zr76_, Fact.z ?kr77_ ?zr77_, Fact.z ?krs6_ ?zrs6_, Fact.z ?krs7_ ?zrs7_, Fact.eq ?cr8_] [72, 73, 74, 75, 76, 77, 8] [72, 73, 74, 75, 76, 77, 0, 0, 8] (by kernel_rfl) ?sor ?sopr (by kernel_rfl) ?str ?finr
    case sor => exact List.forall_mem_cons.2 ⟨⟨bx6, NoU.two nB nS⟩, List.forall_mem_cons.2 ⟨⟨bx7, NoU.two nB nS⟩, fun x hx => by cases hx⟩⟩
    case sopr => exact List.Pairwise.cons (by intro y hy; simp [F2.sos] at hy; have hne6_7 := hne6_7.out; first | (subst hy; simp; done) | (subst hy; simp; omega) | (rcases hy with rfl | rfl <;> simp <;> omega)) (List.Pairwise.cons (fun y hy => by cases hy) (List.Pairwise.nil))
    case str =>
     refine F2.Steps.consO rfl ?_ ?_
     ·
      intro vz wz hBz hDz hTz K hK; have HW := jaa hBz.ext; have bx13z := hBz.blk bx13.drew (zM hne13_6.out (zM hne13_7.out zN)); obtain ⟨zl0, zl1, -⟩ := bx13z.two; simp only [zy, F2.Wp] at hK ⊢; go_simp; refine hK _ wz zB (Fact.eq_mk ?_); with_reducible rfl
     refine F2.Steps.consO rfl ?_ ?_
     ·
      intro vz wz hBz hDz hTz K hK; have HW := jaa hBz.ext; have bx14z := hBz.blk bx14.drew (zM hne14_6.out (zM hne14_7.out zN)); obtain ⟨zl0, zl1, -⟩ := bx14z.two; simp only [zy, F2.Wp] at hK ⊢; go_simp; refine hK _ wz zB (Fact.eq_mk ?_); with_reducible rfl
     refine F2.Steps.consO rfl ?_ ?_
     ·
      intro vz wz hBz hDz hTz K hK; have HW := jaa hBz.ext; have bx17z := hBz.blk bx17.drew (zM hne17_6.out (zM hne17_7.out zN)); obtain ⟨zl0, zl1, -⟩ := bx17z.two; simp only [zy, F2.Wp] at hK ⊢; go_simp; refine hK _ wz zB (Fact.eq_mk ?_); with_reducible rfl
     refine F2.Steps.consO rfl ?_ ?_
     ·
      intro vz wz hBz hDz hTz K hK; have HW := jaa hBz.ext; have bx17z := hBz.blk bx17.drew (zM hne17_6.out (zM hne17_7.out zN)); obtain ⟨zl0, zl1, -⟩ := bx17z.two; simp only [zy, F2.Wp] at hK ⊢; go_simp; refine hK _ wz zB (Fact.eq_mk ?_); with_reducible rfl
     refine F2.Steps.consO rfl ?_ ?_
     ·
      intro vz wz hBz hDz hTz K hK; have E74 : vz 74 = _ := hDz 2 (by kernel_rfl) rfl; have E75 : vz 75 = _ := hDz 3 (by kernel_rfl) rfl; have HW := jaa hBz.ext; simp only [zy, F2.Wp] at hK ⊢; simp only [E74, E75] at hK ⊢; go_simp; refine Calls.mono (jkh (q17sq.ext HW).q (q17sq.ext HW).q (by omega) (by omega)) ?_; rintro e w2z ⟨hb2, uz, rfl, hf⟩
      go_wp2_with fail
      refine hK _ w2z hb2 (Fact.cast (hf) ?_); with_reducible rfl
     refine F2.Steps.consO rfl ?_ ?_
     ·
      intro vz wz hBz hDz hTz K hK; have E73 : vz 73 = _ := hDz 1 (by kernel_rfl) rfl; obtain ⟨n76_, A76_, l76_, c76_, E76, q76⟩ : IntV 0 _ _ wz (vz 76) := hDz 4 (by kernel_rfl) rfl; have HW := jaa hBz.ext; simp only [zy, F2.Wp] at hK ⊢; simp only [E73, E76] at hK ⊢; go_simp; refine Calls.mono (jkh (q14a.ext HW) q76.q (by omega) (by omega)) ?_; rintro e w2z ⟨hb2, uz, rfl, hf⟩
      go_wp2_with fail
      refine hK _ w2z hb2 (Fact.cast (hf) ?_); with_reducible rfl
     refine F2.Steps.consT rfl ?_ ?_
     ·
      intro vz wz hBz hDz hbz K hK; obtain ⟨zc0, zc1, zc2, zc3⟩ := hbz.two; have E72 : vz 72 = _ := hDz 0 (by kernel_rfl) rfl; have HW := jaa hBz.ext; simp only [zy, F2.Wp] at hK ⊢; simp only [E72] at hK ⊢; go_simp; refine hK _ ((Far.set _ _ 0 _).trans (Far.set _ _ 1 _)) ⟨_, jab hbz, NoU.two nB nS, Fact.cast (Fact.z_mk (q13a.ext HW)) ?_⟩; with_reducible rfl
     refine F2.Steps.consT rfl ?_ ?_
     ·
      intro vz wz hBz hDz hbz K hK; obtain ⟨zc0, zc1, zc2, zc3⟩ := hbz.two; obtain ⟨n77_, A77_, l77_, c77_, E77, q77⟩ : IntV 0 _ _ wz (vz 77) := hDz 5 (by kernel_rfl) rfl; have HW := jaa hBz.ext; simp only [zy, F2.Wp] at hK ⊢; simp only [E77] at hK ⊢; go_simp; refine hK _ ((Far.set _ _ 0 _).trans (Far.set _ _ 1 _)) ⟨_, jab hbz, NoU.two nB nS, Fact.cast (Fact.z_mk q77) ?_⟩; with_reducible rfl
     refine F2.Steps.consO rfl ?_ ?_
     ·
      intro vz wz hBz hDz hTz K hK; have HW := jaa hBz.ext; simp only [zy, F2.Wp] at hK ⊢; go_simp; refine hK _ wz zB (Fact.eq_mk ?_); with_reducible rfl
     exact F2.Steps.nil
    intro vr w18 hBz ⟨hOz, hAz, hNz, hSz⟩; have E72 : vr 72 = _ := hOz 0 (by decide) rfl; have E73 : vr 73 = _ := hOz 1 (by decide) rfl; have E74 : vr 74 = _ := hOz 2 (by decide) rfl; have E75 : vr 75 = _ := hOz 3 (by decide) rfl; obtain ⟨n76_, A76_, l76_, c76_, E76, q76⟩ : IntV 0 _ _ w18 (vr 76) := hOz 4 (by decide) rfl; obtain ⟨n77_, A77_, l77_, c77_, E77, q77⟩ : IntV 0 _ _ w18 (vr 77) := hOz 5 (by decide) rfl; obtain ⟨cs6, bx6n, hs6⟩ := hSz 6 _ _ _ (by decide) rfl; obtain ⟨n6sr_, A6sr_, l6sr_, c6sr_, E6sr, q6sr⟩ : IntV 0 _ _ w18 (.agg cs6) := hs6; injection E6sr with E6sr
    subst E6sr; obtain ⟨cs7, bx7n, hs7⟩ := hSz 7 _ _ _ (by decide) rfl; obtain ⟨n7sr_, A7sr_, l7sr_, c7sr_, E7sr, q7sr⟩ : IntV 0 _ _ w18 (.agg cs7) := hs7; injection E7sr with E7sr
    subst E7sr; have E8 : vr 8 = _ := hOz 8 (by decide) rfl; simp only [Act.put, actv, fill, fC, fN, tA, cS, cZ]; simp only [E72, E73, E74, E75, E76, E77, E8]; clear E72 E73 E74 E75 E76 E77 E8; replace h0 := h0.ext hBz.ext; replace q10se := q10se.ext hBz.ext; replace q11a := q11a.ext hBz.ext; replace q12a := q12a.ext hBz.ext; replace q13a := q13a.ext hBz.ext; replace q14a := q14a.ext hBz.ext; replace q15sj := q15sj.ext hBz.ext; replace q17sq := q17sq.ext hBz.ext; replace bx3 := hBz.blk bx3 (zM hne3_6.out (zM hne3_7.out zN)); replace bx10 := hBz.blk bx10 (zM hne10_6.out (zM hne10_7.out zN)); replace bx11 := hBz.blk bx11 (zM hne11_6.out (zM hne11_7.out zN)); replace bx12 := hBz.blk bx12 (zM hne12_6.out (zM hne12_7.out zN)); replace bx13 := hBz.blk bx13 (zM hne13_6.out (zM hne13_7.out zN)); replace bx14 := hBz.blk bx14 (zM hne14_6.out (zM hne14_7.out zN)); replace bx15 := hBz.blk bx15 (zM hne15_6.out (zM hne15_7.out zN)); replace bx17 := hBz.blk bx17 (zM hne17_6.out (zM hne17_7.out zN)); replace HB := hide (HB.out.trans (hBz.below (B := w.heap.size) HB.out.size (zA hge6 (zA hge7 zE)))); clear bx6; clear bx7; have bx6 := bx6n; clear bx6n; have bx7 := bx7n; clear bx7n; clear hOz hAz hNz hSz hBz
    go_wp2_with fail
    refine bodyPost_ret (jad rfl _ _ _ _ _ _ _ _ _ _ rfl bx6 rfl bx7) rfl ⟨HB.out, ?_⟩; exact VF.mk (Fact.t3_mk (Fact.z_mk (q6sr.up (by omega))) (Fact.z_mk ((q7sr.up (by omega)).cast_ (by show _ = _ + up2 _; unfold up2; rw [show (1 : Int).toNat = 1 from rfl, Int.pow_succ, Int.pow_zero]; show _ + (oB (rB (dPow q) (x0 * x0) x0) i + oB (rB (dPow q) (x0 * x0) x0) i) = _; omega))) (Fact.eq_self _ _))
end
end
end Go.Proofs.YtgbpnpemigddeaaGreat