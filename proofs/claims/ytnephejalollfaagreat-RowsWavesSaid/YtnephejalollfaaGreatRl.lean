/- hairlinelaw06: cut, few, equal, part, sum. -/
import Derived.Test.YtnephejalollfaaGreatRx
import Derived.Test.YtnephejalollfaaGreatLaws
set_option linter.unusedVariables false
set_option linter.unusedSimpArgs false
namespace Go.Proofs.YtnephejalollfaaGreat
open Go.RowKit
open L (val dig nth)
set_option maxHeartbeats 1000000 in
set_option maxRecDepth 100000 in
theorem cut6L_calls (w : World) (n : Bool) (A : Option Addr) (len cap : Nat) (k : Nat) (L : List Nat) (h : Nums w 0 (.slice A len cap) L) (hk : k ≤ 1000) :
    Calls Tryz.prog 6 #[.agg #[.bool n, .slice A len cap], .int .i64 k] w fun e w' => Below w.heap.size w w' ∧ ∃ A' len' cap', e = .returned (.agg #[.bool n, .slice A' len' cap']) ∧ Nums w' w.heap.size (.slice A' len' cap') (L.take k) := by
  have hlen : L.length = len := by
    obtain ⟨A', cap', h1, -⟩ := h; injection h1 with _ h1 _
    exact h1.symm
  have hcl : len ≤ cap ∧ cap ≤ 9223372036854775807 := by
    obtain ⟨A', cap', h1, h2, h3, -⟩ := h; injection h1 with _ e2 e3
    subst e3
    omega
  obtain ⟨W0, hW, hbx, hrs, hB0, hs⟩ := start2 w 24 24 #[.bool n, .slice A len cap] #[.bool false, .slice none 0 0]; have h0 := h.up hB0; obtain ⟨c0, c1, -, -⟩ := hbx.two; obtain ⟨d0, d1, d3, d4⟩ := hrs.two; have HS := hide hs; have hs2 : w.heap.size + 1 < W0.heap.size := by omega
  clear hs
  go_enter Tryz.func6, Tryz.ntmps6
  go_upto_region 1 with (fail)
  rw [← hW]; clear hW
  go_upto_if 11 with (fail)
  go_cut [5] (fun m wx => W0 = wx ∧ ∃ A' l' c', m = .slice A' l' c' ∧ Nums W0 0 (.slice A' l' c') (L.take k))
  case first =>
    by_cases hlt : (k : Int) < (len : Int)
    · have hk0 : (0 : Int) ≤ (k : Int) := by omega
      have hkc : (k : Int) ≤ (cap : Int) := by omega
      have HN := hide (Nums.first (l := L) (n := k) (by rw [hlen]; exact h0) (by omega)); clear hlen
      go_wp2_with fail
      go_meet
      exact ⟨rfl, _, _, _, rfl, HN.out⟩
    · have HN := hide (show Nums W0 0 (.slice A len cap) (L.take k) from by rw [List.take_of_length_le (by omega)]; exact h0)
      clear hlen
      go_wp2_with fail
      go_meet
      exact ⟨rfl, _, _, _, rfl, HN.out⟩
  case rest =>
    obtain ⟨rfl, A', l', c', rfl, hm⟩ := hcut; have hml : (L.take k).length ≤ k := by simp; omega
    obtain ⟨M, HM⟩ : ∃ M, Hid (L.take k = M) := ⟨_, hide rfl⟩; rw [HM.out] at hm hml; clear hlen
    go_upto_region 4 with (fail)
    go_region_held3 (fun w' => w'.cell? ⟨w.heap.size, 0, none⟩ = some (.bool n)) (go_keep)
      ((refine step_appendU _ (by rfl) _ _ (by rfl) W0.heap.size _ [] (by rfl) (OwnU.empty W0.drew (Nat.le_refl _)) 0 _ M (by rfl) ((hm.drew).alloc _) (by have := hml; simp only [List.length_nil]; omega) (by simp) ?_
        intro v' w' hown hgrow; have hB1 : Below W0.heap.size W0 w' := Below.grown (B := W0.heap.size) (((Below.refl _ _).drew).alloc (Nat.le_refl _) _) hgrow (by simp) (by intro j hj; simp only [Value.ownBlock, Option.some.injEq] at hj; exact Nat.le_of_eq hj); obtain ⟨Ao, co, hvo⟩ := hown.form; rw [hvo] at hown ⊢; have hbx1 := hbx.below hB1 (by omega); have hrs1 := hrs.below hB1 (by omega); obtain ⟨i0, i1, -, -⟩ := hbx1.two; obtain ⟨j0, j1, j3, j4⟩ := hrs1.two))
    go_wp2_with fail
    refine bodyPost_ret (results_int rfl _ _ _ _ _ _ rfl (blk_two hrs1)) rfl ⟨below2 (hB0.trans (hB1.mono hB0.size)) (by omega) _ _, ?_⟩; refine ⟨Ao, M.length, co, rfl, ?_⟩; rw [HM.out]; have hn := OwnU.nums hown (by rw [List.nil_append]; exact hm.lt); exact (nums_low2 hn hs2 _ _).mono hB0.size


theorem cut6_calls {w : World} {n : Bool} {A : Option Addr} {len cap : Nat} {L : List Nat} (k : Nat) (h : Nums w 0 (.slice A len cap) L) (hk : k ≤ 1000) :
    Calls Tryz.prog 6 #[.agg #[.bool n, .slice A len cap], .int .i64 k] w fun e w' => Below w.heap.size w w' ∧ VF (Fact.s_z k (ival n (val W (L.take k)))) e w' := by
  refine (cut6L_calls w n A len cap k L h hk).mono ?_; rintro e w' ⟨hb, A', l', c', rfl, hn⟩; exact ⟨hb, _, rfl, _, _, _, _, rfl, _, hn.mono (Nat.zero_le _), by rw [List.length_take]; omega, rfl⟩
def fewZ (q n : Int) : Int := if 200 < q ∧ 40 < n then 40 else n
set_option maxHeartbeats 4000000 in
set_option maxRecDepth 100000 in
theorem few_calls {w : World}  {q n : Int}   :
    Calls Tryz.prog 7 #[.int .i64 q, .int .i64 n] w fun e w' => Below w.heap.size w w' ∧ VF (Fact.eq (.int .i64 (fewZ q n))) e w' := by
 go_enter Tryz.func7, Tryz.ntmps7
 have HB : Hid (Below w.heap.size w w) := hide (Below.refl _ _)
 go_upto_region 0 with (fail)
 refine F2.regionS [.o] [Fact.eq ?ca4_] [4] [4] (by kernel_rfl) ?soa ?sopa (by kernel_rfl) ?sta ?fina
 case soa => exact fun x hx => by cases hx
 case sopa => exact List.Pairwise.nil
 case sta =>
  refine F2.Steps.consO rfl ?_ ?_
  ·
   intro vz wz hBz hDz hTz K hK; have HW := hBz.ext; simp only [zy, F2.Wp] at hK ⊢; go_simp; refine hK _ wz zB (Fact.eq_mk ?_); with_reducible rfl
  exact F2.Steps.nil
 intro va w1 hBz ⟨hOz, hAz, hNz, hSz⟩; have E4 : va 4 = _ := hOz 0 (by decide) rfl; simp only [Act.put, actv, fill, fC, fN, tA, cS, cZ]; simp only [E4]; clear E4; replace HB := hide (HB.out.trans (hBz.below (B := w.heap.size) HB.out.size zE)); clear hOz hAz hNz hSz hBz
 by_cases g0 : 200 < q
 ·
  by_cases g1 : 40 < n
  ·
   go_upto_region 2 with (fail)
   refine F2.regionS [.o] [Fact.eq ?cb4_] [4] [4] (by kernel_rfl) ?sob ?sopb (by kernel_rfl) ?stb ?finb
   case sob => exact fun x hx => by cases hx
   case sopb => exact List.Pairwise.nil
   case stb =>
    refine F2.Steps.consO rfl ?_ ?_
    ·
     intro vz wz hBz hDz hTz K hK; have HW := hBz.ext; simp only [zy, F2.Wp] at hK ⊢; go_simp; refine hK _ wz zB (Fact.eq_mk ?_); with_reducible rfl
    exact F2.Steps.nil
   intro vb w2 hBz ⟨hOz, hAz, hNz, hSz⟩; have E4 : vb 4 = _ := hOz 0 (by decide) rfl; simp only [Act.put, actv, fill, fC, fN, tA, cS, cZ]; simp only [E4]; clear E4; replace HB := hide (HB.out.trans (hBz.below (B := w.heap.size) HB.out.size zE)); clear hOz hAz hNz hSz hBz
   go_wp2_with fail
   go_ret
   exact ⟨HB.out, VF.mk (Fact.cast (Fact.eq_self _ _) (by unfold fewZ; rw [if_pos ⟨g0, g1⟩]; rfl))⟩
  ·
   go_upto_region 3 with (fail)
   refine F2.regionS [.o, .o] [Fact.eq ?cc11_, Fact.eq ?cc4_] [11, 4] [11, 4] (by kernel_rfl) ?soc ?sopc (by kernel_rfl) ?stc ?finc
   case soc => exact fun x hx => by cases hx
   case sopc => exact List.Pairwise.nil
   case stc =>
    refine F2.Steps.consO rfl ?_ ?_
    ·
     intro vz wz hBz hDz hTz K hK; have HW := hBz.ext; simp only [zy, F2.Wp] at hK ⊢; go_simp; refine hK _ wz zB (Fact.eq_mk ?_); with_reducible rfl
    refine F2.Steps.consO rfl ?_ ?_
    ·
     intro vz wz hBz hDz hTz K hK; have E11 : vz 11 = _ := hDz 0 (by kernel_rfl) rfl; have HW := hBz.ext; simp only [zy, F2.Wp] at hK ⊢; simp only [E11] at hK ⊢; go_simp; refine hK _ wz zB (Fact.eq_mk ?_); with_reducible rfl
    exact F2.Steps.nil
   intro vc w3 hBz ⟨hOz, hAz, hNz, hSz⟩; have E11 : vc 11 = _ := hOz 0 (by decide) rfl; have E4 : vc 4 = _ := hOz 1 (by decide) rfl; simp only [Act.put, actv, fill, fC, fN, tA, cS, cZ]; simp only [E11, E4]; clear E11 E4; replace HB := hide (HB.out.trans (hBz.below (B := w.heap.size) HB.out.size zE)); clear hOz hAz hNz hSz hBz
   go_wp2_with fail
   go_ret
   exact ⟨HB.out, VF.mk (Fact.cast (Fact.eq_self _ _) (by unfold fewZ; rw [if_neg (by omega)]; rfl))⟩
 ·
  go_upto_region 3 with (fail)
  refine F2.regionS [.o, .o] [Fact.eq ?cd11_, Fact.eq ?cd4_] [11, 4] [11, 4] (by kernel_rfl) ?sod ?sopd (by kernel_rfl) ?std ?find
  case sod => exact fun x hx => by cases hx
  case sopd => exact List.Pairwise.nil
  case std =>
   refine F2.Steps.consO rfl ?_ ?_
   ·
    intro vz wz hBz hDz hTz K hK; have HW := hBz.ext; simp only [zy, F2.Wp] at hK ⊢; go_simp; refine hK _ wz zB (Fact.eq_mk ?_); with_reducible rfl
   refine F2.Steps.consO rfl ?_ ?_
   ·
    intro vz wz hBz hDz hTz K hK; have E11 : vz 11 = _ := hDz 0 (by kernel_rfl) rfl; have HW := hBz.ext; simp only [zy, F2.Wp] at hK ⊢; simp only [E11] at hK ⊢; go_simp; refine hK _ wz zB (Fact.eq_mk ?_); with_reducible rfl
   exact F2.Steps.nil
  intro vd w4 hBz ⟨hOz, hAz, hNz, hSz⟩; have E11 : vd 11 = _ := hOz 0 (by decide) rfl; have E4 : vd 4 = _ := hOz 1 (by decide) rfl; simp only [Act.put, actv, fill, fC, fN, tA, cS, cZ]; simp only [E11, E4]; clear E11 E4; replace HB := hide (HB.out.trans (hBz.below (B := w.heap.size) HB.out.size zE)); clear hOz hAz hNz hSz hBz
  go_wp2_with fail
  go_ret
  exact ⟨HB.out, VF.mk (Fact.cast (Fact.eq_self _ _) (by unfold fewZ; rw [if_neg (by omega)]; rfl))⟩
set_option maxHeartbeats 4000000 in
set_option maxRecDepth 100000 in
theorem equal6_calls {w : World}  {k0 k1 k2 k3 : Nat} {n0 n1 n2 n3 : Bool} {A0 A1 A2 A3 : Option Addr} {l0 l1 l2 l3 c0 c1 c2 c3 : Nat} {x0 x1 x2 x3 : Int} {e : Int} (h0 : QB w 0 k0 n0 A0 l0 c0 x0) (h1 : QB w 0 k1 n1 A1 l1 c1 x1) (h2 : QB w 0 k2 n2 A2 l2 c2 x2) (h3 : QB w 0 k3 n3 A3 l3 c3 x3) (e0 : x0 = x2) (e1 : x1 = x3) :
    Calls Tryz.prog 10 #[.agg #[.bool n0, .slice A0 l0 c0], .agg #[.bool n1, .slice A1 l1 c1], .int .i64 e, .agg #[.bool n2, .slice A2 l2 c2], .agg #[.bool n3, .slice A3 l3 c3], .int .i64 e] w fun e w' => Below w.heap.size w w' ∧ VF (Fact.eq (.bool true)) e w' := by
 have E0 : Hid (decide (x0 = x2) = true) := hide (by simp [e0]); have E1 : Hid (decide (x1 = x3) = true) := hide (by simp [e1]); clear e0 e1
 go_enter Tryz.func10, Tryz.ntmps10
 have HB : Hid (Below w.heap.size w w) := hide (Below.refl _ _)
 go_upto_region 0 with (fail)
 refine F2.regionS [.al 24 #[.bool n0, .slice A0 l0 c0], .al 24 #[.bool n1, .slice A1 l1 c1], .al 24 #[.bool n2, .slice A2 l2 c2], .al 24 #[.bool n3, .slice A3 l3 c3], .o] [Fact.any, Fact.any, Fact.any, Fact.any, Fact.eq ?ca12_] [6, 7, 9, 10, 12] [6, 7, 9, 10, 12] (by kernel_rfl) ?soa ?sopa (by kernel_rfl) ?sta ?fina
 case soa => exact fun x hx => by cases hx
 case sopa => exact List.Pairwise.nil
 case sta =>
  refine F2.Steps.consA rfl ⟨NoU.two nB nS, ?_⟩ ?_
  ·
   intro vz wz hBz K hK; simp only [zy, F2.Wp] at hK ⊢; go_simp; exact hK
  refine F2.Steps.consA rfl ⟨NoU.two nB nS, ?_⟩ ?_
  ·
   intro vz wz hBz K hK; simp only [zy, F2.Wp] at hK ⊢; go_simp; exact hK
  refine F2.Steps.consA rfl ⟨NoU.two nB nS, ?_⟩ ?_
  ·
   intro vz wz hBz K hK; simp only [zy, F2.Wp] at hK ⊢; go_simp; exact hK
  refine F2.Steps.consA rfl ⟨NoU.two nB nS, ?_⟩ ?_
  ·
   intro vz wz hBz K hK; simp only [zy, F2.Wp] at hK ⊢; go_simp; exact hK
  refine F2.Steps.consO rfl ?_ ?_
  ·
   intro vz wz hBz hDz hTz K hK; have HW := hBz.ext; simp only [zy, F2.Wp] at hK ⊢; go_simp; refine hK _ wz zB (Fact.eq_mk ?_); with_reducible rfl
  exact F2.Steps.nil
 intro va w1 hBz ⟨hOz, hAz, hNz, hSz⟩; obtain ⟨g6, cs6, E6, hg6, bx6, hs6, hz6⟩ := hAz 0 _ _ (by decide) rfl; have hzz := hz6 (F2.nost (by kernel_rfl)); subst hzz; obtain ⟨g7, cs7, E7, hg7, bx7, hs7, hz7⟩ := hAz 1 _ _ (by decide) rfl; have hzz := hz7 (F2.nost (by kernel_rfl)); subst hzz; obtain ⟨g9, cs9, E9, hg9, bx9, hs9, hz9⟩ := hAz 2 _ _ (by decide) rfl; have hzz := hz9 (F2.nost (by kernel_rfl)); subst hzz; obtain ⟨g10, cs10, E10, hg10, bx10, hs10, hz10⟩ := hAz 3 _ _ (by decide) rfl; have hzz := hz10 (F2.nost (by kernel_rfl)); subst hzz; have E12 : va 12 = _ := hOz 4 (by decide) rfl; have hne6_7 : Hid (¬ g6 = g7) := hide (fun h => hNz 0 1 _ _ _ _ (by decide) (by decide) (by decide) rfl rfl (by rw [E6, E7, h])); have hne6_9 : Hid (¬ g6 = g9) := hide (fun h => hNz 0 2 _ _ _ _ (by decide) (by decide) (by decide) rfl rfl (by rw [E6, E9, h])); have hne6_10 : Hid (¬ g6 = g10) := hide (fun h => hNz 0 3 _ _ _ _ (by decide) (by decide) (by decide) rfl rfl (by rw [E6, E10, h])); have hne7_9 : Hid (¬ g7 = g9) := hide (fun h => hNz 1 2 _ _ _ _ (by decide) (by decide) (by decide) rfl rfl (by rw [E7, E9, h])); have hne7_10 : Hid (¬ g7 = g10) := hide (fun h => hNz 1 3 _ _ _ _ (by decide) (by decide) (by decide) rfl rfl (by rw [E7, E10, h])); have hne9_10 : Hid (¬ g9 = g10) := hide (fun h => hNz 2 3 _ _ _ _ (by decide) (by decide) (by decide) rfl rfl (by rw [E9, E10, h])); simp only [Act.put, actv, fill, fC, fN, tA, cS, cZ]; simp only [(show va 6 = _ from E6), (show va 7 = _ from E7), (show va 9 = _ from E9), (show va 10 = _ from E10), E12]; clear E6 E7 E9 E10 E12; have hge6 : w.heap.size ≤ g6 := Nat.le_trans HB.out.size hg6; have hge7 : w.heap.size ≤ g7 := Nat.le_trans HB.out.size hg7; have hge9 : w.heap.size ≤ g9 := Nat.le_trans HB.out.size hg9; have hge10 : w.heap.size ≤ g10 := Nat.le_trans HB.out.size hg10; replace h0 := h0.ext hBz.ext; replace h1 := h1.ext hBz.ext; replace h2 := h2.ext hBz.ext; replace h3 := h3.ext hBz.ext; replace HB := hide (HB.out.trans (hBz.below (B := w.heap.size) HB.out.size zE)); clear hOz hAz hNz hSz hs6 hz6 hs7 hz7 hs9 hz9 hs10 hz10 hBz
 go_upto_region 1 with (fail)
 refine F2.regionS [.o, .o, .o, .o] [Fact.eq ?cb15_, Fact.eq ?cb16_, Fact.eq ?cb17_, Fact.eq ?cb13_] [15, 16, 17, 13] [15, 16, 17, 13] (by kernel_rfl) ?sob ?sopb (by kernel_rfl) ?stb ?finb
 case sob => exact fun x hx => by cases hx
 case sopb => exact List.Pairwise.nil
 case stb =>
  refine F2.Steps.consO rfl ?_ ?_
  ·
   intro vz wz hBz hDz hTz K hK; have HW := hBz.ext; have bx6z := hBz.blk bx6 zN; obtain ⟨zl0, zl1, -⟩ := bx6z.two; simp only [zy, F2.Wp] at hK ⊢; go_simp; refine hK _ wz zB (Fact.eq_mk ?_); with_reducible rfl
  refine F2.Steps.consO rfl ?_ ?_
  ·
   intro vz wz hBz hDz hTz K hK; have HW := hBz.ext; have bx9z := hBz.blk bx9 zN; obtain ⟨zl0, zl1, -⟩ := bx9z.two; simp only [zy, F2.Wp] at hK ⊢; go_simp; refine hK _ wz zB (Fact.eq_mk ?_); with_reducible rfl
  refine F2.Steps.consO rfl ?_ ?_
  ·
   intro vz wz hBz hDz hTz K hK; have E15 : vz 15 = _ := hDz 0 (by kernel_rfl) rfl; have E16 : vz 16 = _ := hDz 1 (by kernel_rfl) rfl; have HW := hBz.ext; simp only [zy, F2.Wp] at hK ⊢; simp only [E15, E16] at hK ⊢; go_simp; refine Calls.mono (E0.out ▸ u_eq (h0.ext HW) (h2.ext HW)) ?_; rintro e w2z ⟨hb2, uz, rfl, hf⟩
   go_wp2_with fail
   refine hK _ w2z hb2 (Fact.cast (hf) ?_); with_reducible rfl
  refine F2.Steps.consO rfl ?_ ?_
  ·
   intro vz wz hBz hDz hTz K hK; have E17 : vz 17 = _ := hDz 2 (by kernel_rfl) rfl; have HW := hBz.ext; simp only [zy, F2.Wp] at hK ⊢; simp only [E17] at hK ⊢; go_simp; refine hK _ wz zB (Fact.eq_mk ?_); with_reducible rfl
  exact F2.Steps.nil
 intro vb w2 hBz ⟨hOz, hAz, hNz, hSz⟩; have E15 : vb 15 = _ := hOz 0 (by decide) rfl; have E16 : vb 16 = _ := hOz 1 (by decide) rfl; have E17 : vb 17 = _ := hOz 2 (by decide) rfl; have E13 : vb 13 = _ := hOz 3 (by decide) rfl; simp only [Act.put, actv, fill, fC, fN, tA, cS, cZ]; simp only [E15, E16, E17, E13]; clear E15 E16 E17 E13; replace h0 := h0.ext hBz.ext; replace h1 := h1.ext hBz.ext; replace h2 := h2.ext hBz.ext; replace h3 := h3.ext hBz.ext; replace bx6 := hBz.blk bx6 zN; replace bx7 := hBz.blk bx7 zN; replace bx9 := hBz.blk bx9 zN; replace bx10 := hBz.blk bx10 zN; replace HB := hide (HB.out.trans (hBz.below (B := w.heap.size) HB.out.size zE)); clear hOz hAz hNz hSz hBz
 go_upto_region 2 with (fail)
 refine F2.regionS [.o, .o, .o, .o] [Fact.eq ?cc18_, Fact.eq ?cc19_, Fact.eq ?cc20_, Fact.eq ?cc14_] [18, 19, 20, 14] [18, 19, 20, 14] (by kernel_rfl) ?soc ?sopc (by kernel_rfl) ?stc ?finc
 case soc => exact fun x hx => by cases hx
 case sopc => exact List.Pairwise.nil
 case stc =>
  refine F2.Steps.consO rfl ?_ ?_
  ·
   intro vz wz hBz hDz hTz K hK; have HW := hBz.ext; have bx7z := hBz.blk bx7 zN; obtain ⟨zl0, zl1, -⟩ := bx7z.two; simp only [zy, F2.Wp] at hK ⊢; go_simp; refine hK _ wz zB (Fact.eq_mk ?_); with_reducible rfl
  refine F2.Steps.consO rfl ?_ ?_
  ·
   intro vz wz hBz hDz hTz K hK; have HW := hBz.ext; have bx10z := hBz.blk bx10 zN; obtain ⟨zl0, zl1, -⟩ := bx10z.two; simp only [zy, F2.Wp] at hK ⊢; go_simp; refine hK _ wz zB (Fact.eq_mk ?_); with_reducible rfl
  refine F2.Steps.consO rfl ?_ ?_
  ·
   intro vz wz hBz hDz hTz K hK; have E18 : vz 18 = _ := hDz 0 (by kernel_rfl) rfl; have E19 : vz 19 = _ := hDz 1 (by kernel_rfl) rfl; have HW := hBz.ext; simp only [zy, F2.Wp] at hK ⊢; simp only [E18, E19] at hK ⊢; go_simp; refine Calls.mono (E1.out ▸ u_eq (h1.ext HW) (h3.ext HW)) ?_; rintro e w2z ⟨hb2, uz, rfl, hf⟩
   go_wp2_with fail
   refine hK _ w2z hb2 (Fact.cast (hf) ?_); with_reducible rfl
  refine F2.Steps.consO rfl ?_ ?_
  ·
   intro vz wz hBz hDz hTz K hK; have E20 : vz 20 = _ := hDz 2 (by kernel_rfl) rfl; have HW := hBz.ext; simp only [zy, F2.Wp] at hK ⊢; simp only [E20] at hK ⊢; go_simp; refine hK _ wz zB (Fact.eq_mk ?_); with_reducible rfl
  exact F2.Steps.nil
 intro vc w3 hBz ⟨hOz, hAz, hNz, hSz⟩; have E18 : vc 18 = _ := hOz 0 (by decide) rfl; have E19 : vc 19 = _ := hOz 1 (by decide) rfl; have E20 : vc 20 = _ := hOz 2 (by decide) rfl; have E14 : vc 14 = _ := hOz 3 (by decide) rfl; simp only [Act.put, actv, fill, fC, fN, tA, cS, cZ]; simp only [E18, E19, E20, E14]; clear E18 E19 E20 E14; replace h0 := h0.ext hBz.ext; replace h1 := h1.ext hBz.ext; replace h2 := h2.ext hBz.ext; replace h3 := h3.ext hBz.ext; replace bx6 := hBz.blk bx6 zN; replace bx7 := hBz.blk bx7 zN; replace bx9 := hBz.blk bx9 zN; replace bx10 := hBz.blk bx10 zN; replace HB := hide (HB.out.trans (hBz.below (B := w.heap.size) HB.out.size zE)); clear hOz hAz hNz hSz hBz
 go_wp2_with fail
 go_ret
 exact ⟨HB.out, VF.mk (Fact.eq_self _ _)⟩
theorem rexp_named {w : World} {k0 : Nat} {n0 : Bool} {A0 : Option Addr} {l0 c0 : Nat} {x0 q n ra rb rc : Int} (h0 : Q w k0 n0 A0 l0 c0 x0) (hk0 : k0 ≤ 40) (ha : Hid ((if mayR x0 q n 2 = true then expLo x0 q n.toNat else 0) = ra)) (hb : Hid ((if mayR x0 q n 2 = true then expHi x0 q n.toNat else 0) = rb)) (hc : Hid ((if mayR x0 q n 2 = true then (0 : Int) else 1) = rc)) :
    Calls Tryz.prog 17 #[.agg #[.bool n0, .slice A0 l0 c0], .int .i64 q, .int .i64 n] w fun e w' => Below w.heap.size w w' ∧ VF (Fact.t3 (Fact.z 340 ra) (Fact.z 340 rb) (Fact.eq (.int .i64 rc))) e w' := by
  have h := rexp_calls (q := q) (n := n) h0 hk0; rw [ha.out, hb.out, hc.out] at h; exact h
theorem ratan_named {w : World} {k0 : Nat} {n0 : Bool} {A0 : Option Addr} {l0 c0 : Nat} {x0 q n ra rb rc : Int} (h0 : Q w k0 n0 A0 l0 c0 x0) (hk0 : k0 ≤ 40) (ha : Hid ((if mayR x0 q n 1 = true then atanLo x0 q n.toNat else 0) = ra)) (hb : Hid ((if mayR x0 q n 1 = true then atanHi x0 q n.toNat else 0) = rb)) (hc : Hid ((if mayR x0 q n 1 = true then (0 : Int) else 1) = rc)) :
    Calls Tryz.prog 15 #[.agg #[.bool n0, .slice A0 l0 c0], .int .i64 q, .int .i64 n] w fun e w' => Below w.heap.size w w' ∧ VF (Fact.t3 (Fact.z 340 ra) (Fact.z 340 rb) (Fact.eq (.int .i64 rc))) e w' := by
  have h := ratan_calls (q := q) (n := n) h0 hk0; rw [ha.out, hb.out, hc.out] at h; exact h
theorem rsin_named {w : World} {k0 : Nat} {n0 : Bool} {A0 : Option Addr} {l0 c0 : Nat} {x0 q n ra rb rc : Int} (h0 : Q w k0 n0 A0 l0 c0 x0) (hk0 : k0 ≤ 40) (ha : Hid ((if mayR x0 q n 4 = true then sinLo x0 q n.toNat else 0) = ra)) (hb : Hid ((if mayR x0 q n 4 = true then sinHi x0 q n.toNat else 0) = rb)) (hc : Hid ((if mayR x0 q n 4 = true then (0 : Int) else 1) = rc)) :
    Calls Tryz.prog 8 #[.agg #[.bool n0, .slice A0 l0 c0], .int .i64 q, .int .i64 n] w fun e w' => Below w.heap.size w w' ∧ VF (Fact.t3 (Fact.z 340 ra) (Fact.z 340 rb) (Fact.eq (.int .i64 rc))) e w' := by
  have h := rsin_calls (q := q) (n := n) h0 hk0; rw [ha.out, hb.out, hc.out] at h; exact h
theorem rcos_named {w : World} {k0 : Nat} {n0 : Bool} {A0 : Option Addr} {l0 c0 : Nat} {x0 q n ra rb rc : Int} (h0 : Q w k0 n0 A0 l0 c0 x0) (hk0 : k0 ≤ 40) (ha : Hid ((if mayR x0 q n 4 = true then cosLo x0 q n.toNat else 0) = ra)) (hb : Hid ((if mayR x0 q n 4 = true then cosHi x0 q n.toNat else 0) = rb)) (hc : Hid ((if mayR x0 q n 4 = true then (0 : Int) else 1) = rc)) :
    Calls Tryz.prog 11 #[.agg #[.bool n0, .slice A0 l0 c0], .int .i64 q, .int .i64 n] w fun e w' => Below w.heap.size w w' ∧ VF (Fact.t3 (Fact.z 340 ra) (Fact.z 340 rb) (Fact.eq (.int .i64 rc))) e w' := by
  have h := rcos_calls (q := q) (n := n) h0 hk0; rw [ha.out, hb.out, hc.out] at h; exact h
end Go.Proofs.YtnephejalollfaaGreat
