/- hairlinelaw05.some: a dyad in a right ball. -/
import Derived.Test.YtnfbngiabdlclaaSa1
import Derived.Test.YtnfbngiabdlclaaSa2
import Derived.Test.YtnfbngiabdlclaaFree
set_option linter.unusedVariables false
set_option linter.unusedSimpArgs false
namespace Go.Proofs.Ytnfbngiabdlclaa
open Go.RowKit
open L (val dig nth)

/-- The number between: so many fifteenths of the way. -/
def someZ (x y i : Int) : Int := x + (y - x) * i / 15
set_option maxHeartbeats 4000000 in
set_option maxRecDepth 100000 in
theorem some5_calls {w : World} {k : Nat} {n0 n1 : Bool} {A0 A1 : Option Addr} {l0 l1 c0 c1 : Nat} {x y : Int} (Q0 i : Int) (hx : Q w k n0 A0 l0 c0 x) (hy : Q w k n1 A1 l1 c1 y) (hk : k ≤ 900) (hq0 : 0 ≤ Q0) (hq1 : Q0 ≤ 2048) :
    Calls Try.prog 20 #[.agg #[.bool n0, .slice A0 l0 c0, .bool n1, .slice A1 l1 c1, .int .i64 Q0], .int .i64 i] w fun e w' => Below w.heap.size w w' ∧
      RetDC (k + 4) (nM (someZ x y (bits .and .i64 i 15)) (-Q0)) (nE (someZ x y (bits .and .i64 i 15)) (-Q0)) e w' := by
  obtain ⟨W0, hW, ha, hr, hB0, hs⟩ := start2 w 27 43 #[.bool n0, .slice A0 l0 c0, .bool n1, .slice A1 l1 c1, .int .i64 Q0] #[.bool false, .slice none 0 0, .int .i64 0]
  have HB := hide hB0
  have hsz : w.heap.size + 2 ≤ W0.heap.size := by omega
  clear hs hB0
  obtain ⟨ii, HI⟩ : ∃ z, Hid (bits .and .i64 i 15 = z) := ⟨_, hide rfl⟩
  have hii : 0 ≤ ii ∧ ii ≤ 15 := by have := bits_range i 15 (by omega); rw [show (((15 : Nat) : Int)) = 15 from rfl, HI.out] at this; exact this
  have hII := HI.out
  rw [HI.out]
  obtain ⟨gp, HG⟩ : ∃ z, Hid (y - x = z) := ⟨_, hide rfl⟩
  obtain ⟨pr, HPR⟩ : ∃ z, Hid (gp * ii = z) := ⟨_, hide rfl⟩
  obtain ⟨qt, HQT⟩ : ∃ z, Hid (pr / 15 = z) := ⟨_, hide rfl⟩
  obtain ⟨rt, HRT⟩ : ∃ z, Hid (pr % 15 = z) := ⟨_, hide rfl⟩
  obtain ⟨zz, HZ⟩ : ∃ z, Hid (x + qt = z) := ⟨_, hide rfl⟩
  have HSZ : Hid (someZ x y ii = zz) := hide (by rw [← HZ.out, ← HQT.out, ← HPR.out, ← HG.out]; rfl)
  rw [HSZ.out]
  clear HSZ
  obtain ⟨mm, HM⟩ : ∃ z, Hid (nM zz (-Q0) = z) := ⟨_, hide rfl⟩
  obtain ⟨ee, HE⟩ : ∃ z, Hid (nE zz (-Q0) = z) := ⟨_, hide rfl⟩
  rw [HM.out, HE.out]
  have HLG : Hid (gp.natAbs < W ^ (k + 1)) := hide (by rw [← HG.out]; exact sub_lt1 hy.lt hx.lt)
  have HLP : Hid (pr.natAbs < W ^ (k + 2)) := hide (by rw [← HPR.out, show k + 2 = (k + 1) + 1 from rfl]; exact mul_lt HLG.out (by rw [Nat.pow_one]; unfold W; omega))
  have HLQ : Hid (qt.natAbs < W ^ (k + 2)) := hide (by have h := HLP.out; have h2 := HQT.out; omega)
  have HLR : Hid (rt.natAbs < W ^ 1) := hide (by rw [Nat.pow_one]; unfold W; have h2 := HRT.out; omega)
  have HLZ : Hid (zz.natAbs < W ^ (k + 3)) := hide (by rw [← HZ.out, show k + 3 = (k + 2) + 1 from rfl]; exact add_lt1 (Nat.lt_of_lt_of_le hx.lt (Nat.pow_le_pow_right (by unfold W; omega) (by omega))) HLQ.out)
  have HL15 : Hid ((15 : Int).natAbs < W ^ 1) := hide (by rw [Nat.pow_one]; unfold W; omega)
  have HLI : Hid (ii.natAbs < W ^ 1) := hide (by rw [Nat.pow_one]; unfold W; omega)
  have hneg : IntKind.i64.wrap (-Q0) = -Q0 := IntWalk.i64_in _ (by omega)
  obtain ⟨a0, a1, a2, a3, a4, -⟩ := ha.five
  have HS1 := hide (c_zsub (hy.at_ HB) (hx.at_ HB) (by omega) (by omega))
  rw [HG.out] at HS1
  go_enter Try.func20, Try.ntmps20
  go_upto_region 1 with (fail)
  rw [← hW]
  clear hW
  go_wp2_with fail
  refine HS1.out.mono ?_
  rintro e w1 ⟨hb, ng, Ag, lg, cg, rfl, qg⟩
  clear HS1 a0 a1 a2 a3 a4
  have ha := ha.below hb ha.lt
  have hr := hr.below hb hr.lt
  have HB := hide (HB.out.trans (hb.mono HB.out.size))
  have hsz := Nat.le_trans hsz hb.size
  clear hb
  obtain ⟨w2, hW, hg, hb, hs⟩ := start1 w1 25 #[.bool ng, .slice Ag lg cg]
  have ha := ha.below hb ha.lt
  have hr := hr.below hb hr.lt
  have HB := hide (HB.out.trans (hb.mono HB.out.size))
  have hsz := Nat.le_trans hsz hb.size
  have qg := qg.below hb
  clear hb hs
  obtain ⟨g0, g1, -, -⟩ := hg.two
  go_upto_region 2 with (fail)
  rw [← hW]
  clear hW
  refine wp_region_free [.o, .o, .o, .o, .o, .o, .o, .o, .o, .o, .o, .al 25 #[.bool false, .slice none 0 0], .al 25 #[.bool false, .slice none 0 0], .st 11, .st 12, .o] [Fact.eq ?ca15, Fact.eq ?ca16, Fact.eq ?ca17, Fact.int w2.heap.size 1 ii, Fact.int w2.heap.size (k + 2) pr, Fact.int w2.heap.size 1 15, Fact.intint w2.heap.size (k + 2) qt rt (.bool true), Fact.intint w2.heap.size (k + 2) qt rt (.bool true), Fact.int w2.heap.size (k + 2) qt, Fact.int w2.heap.size (k + 2) rt, Fact.eq (.bool true), Fact.any, Fact.any, Fact.int w2.heap.size (k + 2) qt, Fact.int w2.heap.size (k + 2) rt, Fact.eq (.bool true)] [15, 16, 17, 18, 19, 20, 21, 14, 22, 23, 24, 6, 7, 8] [15, 16, 17, 18, 19, 20, 21, 14, 22, 23, 24, 6, 7, 0, 0, 8] (by kernel_rfl) (by kernel_rfl) ?sta ?fina
  case sta =>
    refine Steps.consO rfl ?_ ?_
    · intro vz wz hBz hDz K hK
      have hgz := hg.drew.below hBz hg.lt
      have haz := ha.drew.below hBz ha.lt
      obtain ⟨g0, g1, -, -⟩ := hgz.two
      obtain ⟨a0, a1, a2, a3, a4, -⟩ := haz.five
      replace hK := hK.out
      simp only [actv, fill, Act.put, fc, List.getD_cons_zero, List.getD_cons_succ, List.foldl_cons, List.foldl_nil, List.setIfInBounds_toArray, List.set_cons_succ, List.set_cons_zero] at hK
      apply Kept.mk
      simp only [Wp, actv, fill, List.foldl_cons, List.foldl_nil, List.setIfInBounds_toArray, List.set_cons_succ, List.set_cons_zero]
      go_simp
      refine hK _ wz (Below.refl _ _) (Fact.eq_mk ?_)
      with_reducible rfl
    refine Steps.consO rfl ?_ ?_
    · intro vz wz hBz hDz K hK
      replace hK := hK.out
      simp only [actv, fill, Act.put, fc, List.getD_cons_zero, List.getD_cons_succ, List.foldl_cons, List.foldl_nil, List.setIfInBounds_toArray, List.set_cons_succ, List.set_cons_zero] at hK
      apply Kept.mk
      simp only [Wp, actv, fill, List.foldl_cons, List.foldl_nil, List.setIfInBounds_toArray, List.set_cons_succ, List.set_cons_zero]
      go_simp
      refine hK _ wz (Below.refl _ _) (Fact.eq_mk ?_)
      with_reducible rfl
    refine Steps.consO rfl ?_ ?_
    · intro vz wz hBz hDz K hK
      have E16 : vz 16 = _ := hDz 1 (by kernel_rfl) rfl
      replace hK := hK.out
      simp only [actv, fill, Act.put, fc, List.getD_cons_zero, List.getD_cons_succ, List.foldl_cons, List.foldl_nil, List.setIfInBounds_toArray, List.set_cons_succ, List.set_cons_zero] at hK
      apply Kept.mk
      simp only [Wp, actv, fill, List.foldl_cons, List.foldl_nil, List.setIfInBounds_toArray, List.set_cons_succ, List.set_cons_zero]
      simp only [E16] at hK ⊢
      go_simp
      refine hK _ wz (Below.refl _ _) (Fact.eq_mk ?_)
      with_reducible rfl
    refine Steps.consO rfl ?_ ?_
    · intro vz wz hBz hDz K hK
      have E17 : vz 17 = _ := hDz 2 (by kernel_rfl) rfl
      have HWz := hide ((Below.refl w2.heap.size w2).drew.trans hBz)
      replace hK := hK.out
      simp only [actv, fill, Act.put, fc, List.getD_cons_zero, List.getD_cons_succ, List.foldl_cons, List.foldl_nil, List.setIfInBounds_toArray, List.set_cons_succ, List.set_cons_zero] at hK
      apply Kept.mk
      simp only [Wp, actv, fill, List.foldl_cons, List.foldl_nil, List.setIfInBounds_toArray, List.set_cons_succ, List.set_cons_zero]
      simp only [E17] at hK ⊢
      go_simp
      refine Calls.mono (czof ii (by omega) (by omega)) ?_
      rintro e w2z ⟨hb2, u, d, rfl, hu, hd⟩
      go_wp2_with fail
      exact hK _ w2z hb2 (intV (hu.mono hBz.size) hd HLI.out)
    refine Steps.consO rfl ?_ ?_
    · intro vz wz hBz hDz K hK
      have E15 : vz 15 = _ := hDz 0 (by kernel_rfl) rfl
      obtain ⟨n18_, A18_, l18_, c18_, E18, q18⟩ : IntV _ _ _ wz (vz 18) := hDz 3 (by kernel_rfl) rfl
      have HWz := hide ((Below.refl w2.heap.size w2).drew.trans hBz)
      replace hK := hK.out
      simp only [actv, fill, Act.put, fc, List.getD_cons_zero, List.getD_cons_succ, List.foldl_cons, List.foldl_nil, List.setIfInBounds_toArray, List.set_cons_succ, List.set_cons_zero] at hK
      apply Kept.mk
      simp only [Wp, actv, fill, List.foldl_cons, List.foldl_nil, List.setIfInBounds_toArray, List.set_cons_succ, List.set_cons_zero]
      simp only [E15, E18] at hK ⊢
      go_simp
      refine Calls.mono (HPR.out ▸ c_zmul (qg.at_ HWz) q18.q (by omega) (by omega)) ?_
      rintro e w2z ⟨hb2, u, d, rfl, hu, hd⟩
      go_wp2_with fail
      exact hK _ w2z hb2 (intV (hu.mono hBz.size) hd HLP.out)
    refine Steps.consO rfl ?_ ?_
    · intro vz wz hBz hDz K hK
      have HWz := hide ((Below.refl w2.heap.size w2).drew.trans hBz)
      replace hK := hK.out
      simp only [actv, fill, Act.put, fc, List.getD_cons_zero, List.getD_cons_succ, List.foldl_cons, List.foldl_nil, List.setIfInBounds_toArray, List.set_cons_succ, List.set_cons_zero] at hK
      apply Kept.mk
      simp only [Wp, actv, fill, List.foldl_cons, List.foldl_nil, List.setIfInBounds_toArray, List.set_cons_succ, List.set_cons_zero]
      go_simp
      refine Calls.mono (czof 15 (by omega) (by omega)) ?_
      rintro e w2z ⟨hb2, u, d, rfl, hu, hd⟩
      go_wp2_with fail
      exact hK _ w2z hb2 (intV (hu.mono hBz.size) hd HL15.out)
    refine Steps.consO rfl ?_ ?_
    · intro vz wz hBz hDz K hK
      obtain ⟨n19_, A19_, l19_, c19_, E19, q19⟩ : IntV _ _ _ wz (vz 19) := hDz 4 (by kernel_rfl) rfl
      obtain ⟨n20_, A20_, l20_, c20_, E20, q20⟩ : IntV _ _ _ wz (vz 20) := hDz 5 (by kernel_rfl) rfl
      have HWz := hide ((Below.refl w2.heap.size w2).drew.trans hBz)
      replace hK := hK.out
      simp only [actv, fill, Act.put, fc, List.getD_cons_zero, List.getD_cons_succ, List.foldl_cons, List.foldl_nil, List.setIfInBounds_toArray, List.set_cons_succ, List.set_cons_zero] at hK
      apply Kept.mk
      simp only [Wp, actv, fill, List.foldl_cons, List.foldl_nil, List.setIfInBounds_toArray, List.set_cons_succ, List.set_cons_zero]
      simp only [E19, E20] at hK ⊢
      go_simp
      refine Calls.mono (HRT.out ▸ HQT.out ▸ c_zdivmod q19.q q20.q (by omega) (by omega) (by omega)) ?_
      rintro e w2z ⟨hb2, u, d, u', d', rfl, hu, hd, hu', hd'⟩
      go_wp2_with fail
      exact hK _ w2z hb2 (⟨_, _, rfl, intV (hu.mono hBz.size) hd HLQ.out, (intV (hu'.mono hBz.size) hd' (Nat.lt_of_lt_of_le HLR.out (Nat.pow_le_pow_right (by unfold W; omega) (by omega))))⟩)
    refine Steps.consO rfl ?_ ?_
    · intro vz wz hBz hDz K hK
      obtain ⟨x21_, y21_, E21, hx21, hy21⟩ := (show ∃ a b, vz 21 = .tuple #[a, b, _] ∧ IntV _ _ _ wz a ∧ IntV _ _ _ wz b from hDz 6 (by kernel_rfl) rfl)
      replace hK := hK.out
      simp only [actv, fill, Act.put, fc, List.getD_cons_zero, List.getD_cons_succ, List.foldl_cons, List.foldl_nil, List.setIfInBounds_toArray, List.set_cons_succ, List.set_cons_zero] at hK
      apply Kept.mk
      simp only [Wp, actv, fill, List.foldl_cons, List.foldl_nil, List.setIfInBounds_toArray, List.set_cons_succ, List.set_cons_zero]
      simp only [E21] at hK ⊢
      go_simp
      exact hK _ wz (Below.refl _ _) (⟨_, _, rfl, hx21, hy21⟩)
    refine Steps.consO rfl ?_ ?_
    · intro vz wz hBz hDz K hK
      obtain ⟨x14_, y14_, E14, hx14, hy14⟩ := (show ∃ a b, vz 14 = .tuple #[a, b, _] ∧ IntV _ _ _ wz a ∧ IntV _ _ _ wz b from hDz 7 (by kernel_rfl) rfl)
      replace hK := hK.out
      simp only [actv, fill, Act.put, fc, List.getD_cons_zero, List.getD_cons_succ, List.foldl_cons, List.foldl_nil, List.setIfInBounds_toArray, List.set_cons_succ, List.set_cons_zero] at hK
      apply Kept.mk
      simp only [Wp, actv, fill, List.foldl_cons, List.foldl_nil, List.setIfInBounds_toArray, List.set_cons_succ, List.set_cons_zero]
      simp only [E14] at hK ⊢
      go_simp
      exact hK _ wz (Below.refl _ _) (hx14)
    refine Steps.consO rfl ?_ ?_
    · intro vz wz hBz hDz K hK
      obtain ⟨x14_, y14_, E14, hx14, hy14⟩ := (show ∃ a b, vz 14 = .tuple #[a, b, _] ∧ IntV _ _ _ wz a ∧ IntV _ _ _ wz b from hDz 7 (by kernel_rfl) rfl)
      replace hK := hK.out
      simp only [actv, fill, Act.put, fc, List.getD_cons_zero, List.getD_cons_succ, List.foldl_cons, List.foldl_nil, List.setIfInBounds_toArray, List.set_cons_succ, List.set_cons_zero] at hK
      apply Kept.mk
      simp only [Wp, actv, fill, List.foldl_cons, List.foldl_nil, List.setIfInBounds_toArray, List.set_cons_succ, List.set_cons_zero]
      simp only [E14] at hK ⊢
      go_simp
      exact hK _ wz (Below.refl _ _) (hy14)
    refine Steps.consO rfl ?_ ?_
    · intro vz wz hBz hDz K hK
      obtain ⟨x14_, y14_, E14, hx14, hy14⟩ := (show ∃ a b, vz 14 = .tuple #[a, b, _] ∧ IntV _ _ _ wz a ∧ IntV _ _ _ wz b from hDz 7 (by kernel_rfl) rfl)
      replace hK := hK.out
      simp only [actv, fill, Act.put, fc, List.getD_cons_zero, List.getD_cons_succ, List.foldl_cons, List.foldl_nil, List.setIfInBounds_toArray, List.set_cons_succ, List.set_cons_zero] at hK
      apply Kept.mk
      simp only [Wp, actv, fill, List.foldl_cons, List.foldl_nil, List.setIfInBounds_toArray, List.set_cons_succ, List.set_cons_zero]
      simp only [E14] at hK ⊢
      go_simp
      exact hK _ wz (Below.refl _ _) (rfl)
    refine Steps.consA rfl ⟨NoU.two (by intro x h; cases h) (by intro x h; cases h), ?_⟩ ?_
    · intro vz wz hBz K hK
      replace hK := hK.out
      simp only [actv, fill, Act.put, fc, List.getD_cons_zero, List.getD_cons_succ, List.foldl_cons, List.foldl_nil, List.setIfInBounds_toArray, List.set_cons_succ, List.set_cons_zero] at hK
      apply Kept.mk
      simp only [Wp, actv, fill, List.foldl_cons, List.foldl_nil, List.setIfInBounds_toArray, List.set_cons_succ, List.set_cons_zero]
      go_simp
      exact hK
    refine Steps.consA rfl ⟨NoU.two (by intro x h; cases h) (by intro x h; cases h), ?_⟩ ?_
    · intro vz wz hBz K hK
      replace hK := hK.out
      simp only [actv, fill, Act.put, fc, List.getD_cons_zero, List.getD_cons_succ, List.foldl_cons, List.foldl_nil, List.setIfInBounds_toArray, List.set_cons_succ, List.set_cons_zero] at hK
      apply Kept.mk
      simp only [Wp, actv, fill, List.foldl_cons, List.foldl_nil, List.setIfInBounds_toArray, List.set_cons_succ, List.set_cons_zero]
      go_simp
      exact hK
    refine Steps.consS rfl rfl ?_ ?_
    · intro vz wz gz hBz hDz E6 hgz hbz K hK
      obtain ⟨zc0, zc1, zc2, zc3⟩ := hbz.two
      obtain ⟨n22_, A22_, l22_, c22_, E22, q22⟩ : IntV _ _ _ wz (vz 22) := hDz 8 (by kernel_rfl) rfl
      have E6' : vz 6 = .pointer (some ⟨gz, 0, none⟩) := E6
      replace hK := hK.out
      simp only [actv, fill, Act.put, fc, List.getD_cons_zero, List.getD_cons_succ, List.foldl_cons, List.foldl_nil, List.setIfInBounds_toArray, List.set_cons_succ, List.set_cons_zero] at hK
      apply Kept.mk
      simp only [Wp, actv, fill, List.foldl_cons, List.foldl_nil, List.setIfInBounds_toArray, List.set_cons_succ, List.set_cons_zero]
      simp only [E6', E22] at hK ⊢
      go_simp
      exact hK _ ((Far.set _ gz 0 _).trans (Far.set _ gz 1 _)) ⟨_, blk_two hbz, NoU.two (by intro x h; cases h) (by intro x h; cases h), ⟨_, _, _, _, rfl, q22⟩⟩
    refine Steps.consS rfl rfl ?_ ?_
    · intro vz wz gz hBz hDz E7 hgz hbz K hK
      obtain ⟨zc0, zc1, zc2, zc3⟩ := hbz.two
      obtain ⟨n23_, A23_, l23_, c23_, E23, q23⟩ : IntV _ _ _ wz (vz 23) := hDz 9 (by kernel_rfl) rfl
      have E7' : vz 7 = .pointer (some ⟨gz, 0, none⟩) := E7
      replace hK := hK.out
      simp only [actv, fill, Act.put, fc, List.getD_cons_zero, List.getD_cons_succ, List.foldl_cons, List.foldl_nil, List.setIfInBounds_toArray, List.set_cons_succ, List.set_cons_zero] at hK
      apply Kept.mk
      simp only [Wp, actv, fill, List.foldl_cons, List.foldl_nil, List.setIfInBounds_toArray, List.set_cons_succ, List.set_cons_zero]
      simp only [E7', E23] at hK ⊢
      go_simp
      exact hK _ ((Far.set _ gz 0 _).trans (Far.set _ gz 1 _)) ⟨_, blk_two hbz, NoU.two (by intro x h; cases h) (by intro x h; cases h), ⟨_, _, _, _, rfl, q23⟩⟩
    refine Steps.consO rfl ?_ ?_
    · intro vz wz hBz hDz K hK
      have E24 : vz 24 = _ := hDz 10 (by kernel_rfl) rfl
      replace hK := hK.out
      simp only [actv, fill, Act.put, fc, List.getD_cons_zero, List.getD_cons_succ, List.foldl_cons, List.foldl_nil, List.setIfInBounds_toArray, List.set_cons_succ, List.set_cons_zero] at hK
      apply Kept.mk
      simp only [Wp, actv, fill, List.foldl_cons, List.foldl_nil, List.setIfInBounds_toArray, List.set_cons_succ, List.set_cons_zero]
      simp only [E24] at hK ⊢
      go_simp
      exact hK _ wz (Below.refl _ _) (rfl)
    exact Steps.nil
  case fina =>
    intro vz wz hBz ⟨hOz, hAz, hNz⟩
    have E15 : vz 15 = _ := hOz 0 (by decide) rfl
    have E16 : vz 16 = _ := hOz 1 (by decide) rfl
    have E17 : vz 17 = _ := hOz 2 (by decide) rfl
    obtain ⟨n18_, A18_, l18_, c18_, E18, q18⟩ : IntV _ _ _ wz (vz 18) := hOz 3 (by decide) rfl
    obtain ⟨n19_, A19_, l19_, c19_, E19, q19⟩ : IntV _ _ _ wz (vz 19) := hOz 4 (by decide) rfl
    obtain ⟨n20_, A20_, l20_, c20_, E20, q20⟩ : IntV _ _ _ wz (vz 20) := hOz 5 (by decide) rfl
    obtain ⟨x21_, y21_, E21, hx21, hy21⟩ := (show ∃ a b, vz 21 = .tuple #[a, b, _] ∧ IntV _ _ _ wz a ∧ IntV _ _ _ wz b from hOz 6 (by decide) rfl)
    obtain ⟨x14_, y14_, E14, hx14, hy14⟩ := (show ∃ a b, vz 14 = .tuple #[a, b, _] ∧ IntV _ _ _ wz a ∧ IntV _ _ _ wz b from hOz 7 (by decide) rfl)
    obtain ⟨n22_, A22_, l22_, c22_, E22, q22⟩ : IntV _ _ _ wz (vz 22) := hOz 8 (by decide) rfl
    obtain ⟨n23_, A23_, l23_, c23_, E23, q23⟩ : IntV _ _ _ wz (vz 23) := hOz 9 (by decide) rfl
    have E24 : vz 24 = _ := hOz 10 (by decide) rfl
    obtain ⟨g6, cs6, E6, hg6, hb6, hs6, hz6⟩ := hAz 11 _ _ (by decide) rfl
    obtain ⟨g7, cs7, E7, hg7, hb7, hs7, hz7⟩ := hAz 12 _ _ (by decide) rfl
    obtain ⟨n6_, A6_, l6_, c6_, e6_, q6⟩ : IntV _ _ _ wz (.agg cs6) := hs6 13 (by decide) rfl
    injection e6_ with e6_
    subst e6_
    obtain ⟨n7_, A7_, l7_, c7_, e7_, q7⟩ : IntV _ _ _ wz (.agg cs7) := hs7 14 (by decide) rfl
    injection e7_ with e7_
    subst e7_
    have E8 : vz 8 = _ := hOz 15 (by decide) rfl
    have hne6_7 : ¬ g6 = g7 := fun h => hNz 11 12 _ _ _ _ (by decide) (by decide) (by decide) rfl rfl (by rw [E6, E7, h])
    simp only [actv, fill, List.foldl_cons, List.foldl_nil, List.setIfInBounds_toArray, List.set_cons_succ, List.set_cons_zero]
    simp only [E15, E16, E17, E18, E19, E20, E21, E14, E22, E23, E24, (show vz 6 = _ from E6), (show vz 7 = _ from E7), E8]
    clear hOz hAz hNz hs6 hs7 hz6 hz7 hx21 hy21 hx14 hy14
    have HWz := hide ((Below.refl w2.heap.size w2).drew.trans hBz)
    have ha := ha.below HWz.out ha.lt
    have hr := hr.below HWz.out hr.lt
    have HB := hide (HB.out.trans (HWz.out.mono HB.out.size))
    have hsz := Nat.le_trans hsz HWz.out.size
    have hg6' : w2.heap.size ≤ g6 := hg6
    clear g0 g1
    obtain ⟨a0, a1, a2, a3, a4, -⟩ := ha.five
    obtain ⟨r0, r1, r2, r3, r4, r5⟩ := hr.three
    obtain ⟨b0, b1, -, -⟩ := hb6.two
    go_upto_region 3 with (fail)
    have HD := hide HB.out.drew
    have HA := hide (c_zadd (hx.at_ HD) q6.q.drew (by omega) (by omega))
    rw [HZ.out] at HA
    have tok0 : True := trivial
    go_region_held3 (fun w' => w'.cell? ⟨w.heap.size, 0, none⟩ = some (.bool n0) ∧ w'.cell? ⟨w.heap.size, 1, none⟩ = some (.slice A0 l0 c0) ∧ w'.cell? ⟨w.heap.size, 4, none⟩ = some (.int .i64 Q0) ∧ w'.cell? ⟨g6, 0, none⟩ = some (.bool n6_) ∧ w'.cell? ⟨g6, 1, none⟩ = some (.slice A6_ l6_ c6_)) (go_keep)
      (first
        | (go_at_call 19; have _t := tok0; (with_reducible refine HA.out.mono ?_); rintro e v1 ⟨vb1, u1, d1, rfl, hu1, hd1⟩
           obtain ⟨C1, cc1, rfl⟩ := hu1.form
           have ha := ha.drew.below vb1 ha.lt
           have hr := hr.drew.below vb1 hr.lt
           have hb6 := hb6.drew.below vb1 hb6.lt
           have HD := hide (HD.out.trans (vb1.mono HD.out.size))
           obtain ⟨a0, a1, a2, a3, a4, -⟩ := ha.five
           obtain ⟨b0, b1, -, -⟩ := hb6.two
           have qz := (RetZ.qb hu1 hd1 HLZ.out).q
           have HO := hide (e_of (x := -Q0) qz (by omega) (by omega) HM.out HE.out))
        | (go_at_call 40; (with_reducible refine HO.out.mono ?_); rintro e v2 ⟨vb2, n9, A9, l9, c9, rfl, q9⟩
           have ha := ha.below vb2 ha.lt
           have hr := hr.below vb2 hr.lt
           have hb6 := hb6.below vb2 hb6.lt
           have HD := hide (HD.out.trans (vb2.mono HD.out.size))
           obtain ⟨a0, a1, a2, a3, a4, -⟩ := ha.five
           obtain ⟨b0, b1, -, -⟩ := hb6.two
           obtain ⟨r0, r1, r2, r3, r4, r5⟩ := hr.three
           have hn1 : ¬ w.heap.size + 1 = w.heap.size := by omega
           have hn2 : ¬ w.heap.size = w.heap.size + 1 := by omega
           have hn3 : ¬ g6 = w.heap.size + 1 := by omega
           have hn4 : ¬ w.heap.size + 1 = g6 := by omega))
    go_wp2_with fail
    refine bodyPost_ret (results_dyad rfl _ _ _ _ _ _ _ rfl (blk_three hr)) rfl ⟨below3 HD.out (by omega) _ _ _, _, _, _, _, rfl, (q9.ext (ext_three hr (noU_dyad _ _ _ _ _) _ _ _)).up (by omega)⟩
end Go.Proofs.Ytnfbngiabdlclaa
