/- Rows of integers that are read; hairlineref06.turned. append of integers to a row of one's own. Rows of one's own, of integers that may be elder: append, reading. -/
import Derived.Test.YtnephejalollfaaGreatRe
import Derived.Test.YtnephejalollfaaGreatFree
import Derived.Test.YtnephejalollfaaGreatBa3
import Derived.Laws.AppendOwn
section
set_option linter.unusedVariables false
set_option linter.unusedSimpArgs false
namespace Go.Proofs.YtnephejalollfaaGreat
open Go.RowKit
open L (val dig nth)
theorem Low.cell_ {X : List Nat} {w w' : World} (h : Low X w w') {g j : Nat} {v : Value} (hg : g < w.heap.size) (hX : g ∉ X) (hc : w.cell? ⟨g, j, none⟩ = some v) : w'.cell? ⟨g, j, none⟩ = some v := by
  rw [← hc]; simp only [World.cell?, h.block g hg hX]
/-- A row of integers in a block, to be read. -/
def RowR (w : World) (g k L : Nat) (a : Nat → Int) : Prop := g < w.heap.size ∧ ∀ j, j < L → ∃ n A l c, w.cell? ⟨g, j * 2, none⟩ = some (.bool n) ∧ w.cell? ⟨g, j * 2 + 1, none⟩ = some (.slice A l c) ∧ QB w 0 k n A l c (a j)
theorem RowR.low {X : List Nat} {w w' : World} {g k L : Nat} {a : Nat → Int} (h : RowR w g k L a) (hl : Low X w w') (hX : g ∉ X) : RowR w' g k L a := by
  refine ⟨Nat.lt_of_lt_of_le h.1 hl.size, fun j hj => ?_⟩; obtain ⟨n, A, l, c, h1, h2, h3⟩ := h.2 j hj; exact ⟨n, A, l, c, hl.cell_ h.1 hX h1, hl.cell_ h.1 hX h2, h3.ext hl.ext⟩
theorem tu_min {a b : Nat → Int} {i N : Nat} (h : i < 2 * N) : tu a b (min i (2 * N)) = tu a b i := by rw [Nat.min_eq_left (by omega)]
theorem tu_min1 {a b : Nat → Int} {i N : Nat} (h : i < 2 * N) : tu a b (min (i + 1) (2 * N)) = tu a b (i + 1) := by rw [Nat.min_eq_left (by omega)]
set_option maxHeartbeats 4000000 in
set_option maxRecDepth 100000 in
theorem turned_calls {w : World} {g1 g2 c1 c2 L N M : Nat} {a b : Nat → Int}  (hr1 : RowR w g1 M L a) (hr2 : RowR w g2 M L b) (hL : Hid (L = 2 * N + 1)) (hN : N ≤ 400) (hM : M ≤ 400) (HS : Hid (∀ i, i ≤ L → (tu a b i).natAbs < W ^ M)) (HT : Hid (∀ i, i ≤ L → (tu b a i).natAbs < W ^ M)) :
    Calls Tryz.prog 41 #[.slice (some ⟨g1, 0, none⟩) L c1, .slice (some ⟨g2, 0, none⟩) L c2] w fun e w' => Below w.heap.size w w' ∧ VF (Fact.t2 (Fact.z M (tu a b (2 * N))) (Fact.z M (tu b a (2 * N + 1)))) e w' := by
 have hg1 := hr1.1; have hg2 := hr2.1; have hLN : L ≤ 801 := by have := hL.out; omega
 have hLp : (0 : Int) ≤ (L : Int) := by omega
 go_enter Tryz.func41, Tryz.ntmps41
 have HB : Hid (Below w.heap.size w w) := hide (Below.refl _ _)
 go_upto_region 0 with (fail)
 refine F2.regionS [.al 24 #[.bool false, .slice none 0 0], .al 24 #[.bool false, .slice none 0 0]] [Fact.any, Fact.any] [4, 5] [4, 5] (by kernel_rfl) ?soa ?sopa (by kernel_rfl) ?sta ?fina
 case soa => exact fun x hx => by cases hx
 case sopa => exact List.Pairwise.nil
 case sta =>
  refine F2.Steps.consA rfl ⟨NoU.two nB nS, ?_⟩ ?_
  ·
   intro vz wz hBz K hK; simp only [zy, F2.Wp] at hK ⊢; go_simp; exact hK
  refine F2.Steps.consA rfl ⟨NoU.two nB nS, ?_⟩ ?_
  ·
   intro vz wz hBz K hK; simp only [zy, F2.Wp] at hK ⊢; go_simp; exact hK
  exact F2.Steps.nil
 intro va w1 hBz ⟨hOz, hAz, hNz, hSz⟩; obtain ⟨g4, cs4, E4, hg4, bx4, hs4, hz4⟩ := hAz 0 _ _ (by decide) rfl; have hzz := hz4 (F2.nost (by kernel_rfl)); subst hzz; obtain ⟨g5, cs5, E5, hg5, bx5, hs5, hz5⟩ := hAz 1 _ _ (by decide) rfl; have hzz := hz5 (F2.nost (by kernel_rfl)); subst hzz; have hne4_5 : Hid (¬ g4 = g5) := hide (fun h => hNz 0 1 _ _ _ _ (by decide) (by decide) (by decide) rfl rfl (by rw [E4, E5, h])); simp only [Act.put, actv, fill, fC, fN, tA, cS, cZ]; simp only [(show va 4 = _ from E4), (show va 5 = _ from E5)]; clear E4 E5; have hge4 : w.heap.size ≤ g4 := Nat.le_trans HB.out.size hg4; have hge5 : w.heap.size ≤ g5 := Nat.le_trans HB.out.size hg5; replace hr1 := hr1.low hBz zN; replace hr2 := hr2.low hBz zN; replace HB := hide (HB.out.trans (hBz.below (B := w.heap.size) HB.out.size zE)); clear hOz hAz hNz hSz hs4 hz4 hs5 hz5 hBz
 go_upto_region 1 with (fail)
 refine F2.regionS [.o, .al 24 #[.bool false, .slice none 0 0], .st 1] [Fact.eq ?cb9_, Fact.any, Fact.z ?kbs6_ ?zbs6_] [9, 6] [9, 6, 0] (by kernel_rfl) ?sob ?sopb (by kernel_rfl) ?stb ?finb
 case sob => exact fun x hx => by cases hx
 case sopb => exact List.Pairwise.nil
 case stb =>
  refine F2.Steps.consO rfl ?_ ?_
  ·
   intro vz wz hBz hDz hTz K hK; have HW := hBz.ext; simp only [zy, F2.Wp] at hK ⊢; go_simp; refine hK _ wz zB (Fact.eq_mk ?_); with_reducible rfl
  refine F2.Steps.consA rfl ⟨NoU.two nB nS, ?_⟩ ?_
  ·
   intro vz wz hBz K hK; simp only [zy, F2.Wp] at hK ⊢; go_simp; exact hK
  refine F2.Steps.consS rfl rfl ?_ ?_
  ·
   intro vz wz gz hBz hDz E6' hgz hbz K hK; obtain ⟨zc0, zc1, zc2, zc3⟩ := hbz.two; have E9 : vz 9 = _ := hDz 0 (by kernel_rfl) rfl; have E6 : vz 6 = .pointer (some ⟨gz, 0, none⟩) := E6'; have HW := hBz.ext; simp only [zy, F2.Wp] at hK ⊢; simp only [E6, E9] at hK ⊢; go_simp; refine hK _ ((Far.set _ gz 0 _).trans (Far.set _ gz 1 _)) ⟨_, blk_two hbz, NoU.two nB nS, Fact.cast (Fact.z_mk (QB.zero _ 0 0)) ?_⟩; with_reducible rfl
  exact F2.Steps.nil
 intro vb w2 hBz ⟨hOz, hAz, hNz, hSz⟩; have E9 : vb 9 = _ := hOz 0 (by decide) rfl; obtain ⟨g6, cs6, E6, hg6, bx6, hs6, hz6⟩ := hAz 1 _ _ (by decide) rfl; obtain ⟨n6sb_, A6sb_, l6sb_, c6sb_, E6sb, q6sb⟩ : IntV 0 _ _ w2 (.agg cs6) := hs6 2 (by decide) rfl; injection E6sb with E6sb
 subst E6sb; simp only [Act.put, actv, fill, fC, fN, tA, cS, cZ]; simp only [E9, (show vb 6 = _ from E6)]; clear E9 E6; have hge6 : w.heap.size ≤ g6 := Nat.le_trans HB.out.size hg6; have hne6_4 := hide (Nat.ne_of_gt (Nat.lt_of_lt_of_le bx4.lt (show w1.heap.size ≤ g6 from hg6))); have hne6_5 := hide (Nat.ne_of_gt (Nat.lt_of_lt_of_le bx5.lt (show w1.heap.size ≤ g6 from hg6))); replace bx4 := hBz.blk bx4 zN; replace bx5 := hBz.blk bx5 zN; replace hr1 := hr1.low hBz zN; replace hr2 := hr2.low hBz zN; replace HB := hide (HB.out.trans (hBz.below (B := w.heap.size) HB.out.size zE)); clear hOz hAz hNz hSz hs6 hz6 hBz
 go_upto_region 2 with (fail)
 refine F2.regionS [.o, .al 24 #[.bool false, .slice none 0 0], .st 1] [Fact.eq ?cc10_, Fact.any, Fact.z ?kcs7_ ?zcs7_] [10, 7] [10, 7, 0] (by kernel_rfl) ?soc ?sopc (by kernel_rfl) ?stc ?finc
 case soc => exact fun x hx => by cases hx
 case sopc => exact List.Pairwise.nil
 case stc =>
  refine F2.Steps.consO rfl ?_ ?_
  ·
   intro vz wz hBz hDz hTz K hK; have HW := hBz.ext; simp only [zy, F2.Wp] at hK ⊢; go_simp; refine hK _ wz zB (Fact.eq_mk ?_); with_reducible rfl
  refine F2.Steps.consA rfl ⟨NoU.two nB nS, ?_⟩ ?_
  ·
   intro vz wz hBz K hK; simp only [zy, F2.Wp] at hK ⊢; go_simp; exact hK
  refine F2.Steps.consS rfl rfl ?_ ?_
  ·
   intro vz wz gz hBz hDz E7' hgz hbz K hK; obtain ⟨zc0, zc1, zc2, zc3⟩ := hbz.two; have E10 : vz 10 = _ := hDz 0 (by kernel_rfl) rfl; have E7 : vz 7 = .pointer (some ⟨gz, 0, none⟩) := E7'; have HW := hBz.ext; simp only [zy, F2.Wp] at hK ⊢; simp only [E7, E10] at hK ⊢; go_simp; refine hK _ ((Far.set _ gz 0 _).trans (Far.set _ gz 1 _)) ⟨_, blk_two hbz, NoU.two nB nS, Fact.cast (Fact.z_mk (QB.zero _ 0 0)) ?_⟩; with_reducible rfl
  exact F2.Steps.nil
 intro vc w3 hBz ⟨hOz, hAz, hNz, hSz⟩; have E10 : vc 10 = _ := hOz 0 (by decide) rfl; obtain ⟨g7, cs7, E7, hg7, bx7, hs7, hz7⟩ := hAz 1 _ _ (by decide) rfl; obtain ⟨n7sc_, A7sc_, l7sc_, c7sc_, E7sc, q7sc⟩ : IntV 0 _ _ w3 (.agg cs7) := hs7 2 (by decide) rfl; injection E7sc with E7sc
 subst E7sc; simp only [Act.put, actv, fill, fC, fN, tA, cS, cZ]; simp only [E10, (show vc 7 = _ from E7)]; clear E10 E7; have hge7 : w.heap.size ≤ g7 := Nat.le_trans HB.out.size hg7; have hne7_4 := hide (Nat.ne_of_gt (Nat.lt_of_lt_of_le bx4.lt (show w2.heap.size ≤ g7 from hg7))); have hne7_5 := hide (Nat.ne_of_gt (Nat.lt_of_lt_of_le bx5.lt (show w2.heap.size ≤ g7 from hg7))); have hne7_6 := hide (Nat.ne_of_gt (Nat.lt_of_lt_of_le bx6.lt (show w2.heap.size ≤ g7 from hg7))); replace q6sb := q6sb.ext hBz.ext; replace bx4 := hBz.blk bx4 zN; replace bx5 := hBz.blk bx5 zN; replace bx6 := hBz.blk bx6 zN; replace hr1 := hr1.low hBz zN; replace hr2 := hr2.low hBz zN; replace HB := hide (HB.out.trans (hBz.below (B := w.heap.size) HB.out.size zE)); clear hOz hAz hNz hSz hs7 hz7 hBz
 go_upto_region 3 with (fail)
 refine F2.regionS [.o] [Fact.eq ?cd8_] [8] [8] (by kernel_rfl) ?sod ?sopd (by kernel_rfl) ?std ?find
 case sod => exact fun x hx => by cases hx
 case sopd => exact List.Pairwise.nil
 case std =>
  refine F2.Steps.consO rfl ?_ ?_
  ·
   intro vz wz hBz hDz hTz K hK; have HW := hBz.ext; simp only [zy, F2.Wp] at hK ⊢; go_simp; refine hK _ wz zB (Fact.eq_mk ?_); with_reducible rfl
  exact F2.Steps.nil
 intro vd w4 hBz ⟨hOz, hAz, hNz, hSz⟩; have E8 : vd 8 = _ := hOz 0 (by decide) rfl; simp only [Act.put, actv, fill, fC, fN, tA, cS, cZ]; simp only [E8]; clear E8; replace q6sb := q6sb.ext hBz.ext; replace q7sc := q7sc.ext hBz.ext; replace bx4 := hBz.blk bx4 zN; replace bx5 := hBz.blk bx5 zN; replace bx6 := hBz.blk bx6 zN; replace bx7 := hBz.blk bx7 zN; replace hr1 := hr1.low hBz zN; replace hr2 := hr2.low hBz zN; replace HB := hide (HB.out.trans (hBz.below (B := w.heap.size) HB.out.size zE)); clear hOz hAz hNz hSz hBz
 go_wp2_with fail
 go_loopw [8] (fun iv wr5 => ∃ i : Nat, i ≤ L ∧ iv = .int .i64 i ∧ Low [g6, g7] w4 wr5 ∧ True ∧ (∃ n6a A6a l6a c6a, Blk wr5 (g6) 24 #[.bool n6a, .slice A6a l6a c6a] ∧ QB wr5 0 (M) n6a A6a l6a c6a ((tu a b (min i (2 * N))))) ∧ (∃ n7a A7a l7a c7a, Blk wr5 (g7) 24 #[.bool n7a, .slice A7a l7a c7a] ∧ QB wr5 0 (M) n7a A7a l7a c7a ((tu b a i)))) (fun iv _ => L + 0 - (intOf iv).toNat)
 case atStart => exact ⟨0, by omega, rfl, Low.refl _ _, trivial, ⟨_, _, _, _, bx6, ((q6sb.up (by omega)).cast_ (by rw [Nat.zero_min]; rfl))⟩, ⟨_, _, _, _, bx7, (q7sc.up (by omega))⟩⟩
 case round =>
  obtain ⟨i, hi, rfl, HL5, hmore, ⟨n6a, A6a, l6a, c6a, bx6, q6a⟩, ⟨n7a, A7a, l7a, c7a, bx7, q7a⟩⟩ := hrel; replace bx4 := HL5.blk bx4 (zM (Ne.symm hne6_4.out) (zM (Ne.symm hne7_4.out) zN)); replace bx5 := HL5.blk bx5 (zM (Ne.symm hne6_5.out) (zM (Ne.symm hne7_5.out) zN)); replace hr1 := hr1.low HL5 (zM (Nat.ne_of_lt (Nat.lt_of_lt_of_le hg1 hge6)) (zM (Nat.ne_of_lt (Nat.lt_of_lt_of_le hg1 hge7)) zN)); replace hr2 := hr2.low HL5 (zM (Nat.ne_of_lt (Nat.lt_of_lt_of_le hg2 hge6)) (zM (Nat.ne_of_lt (Nat.lt_of_lt_of_le hg2 hge7)) zN)); replace HB := hide (HB.out.trans (HL5.below (B := w.heap.size) HB.out.size (zA hge6 (zA hge7 zE)))); have hszHL5 := HL5.size
  by_cases hlti : i < L
  ·
   have hlti' : (i : Int) < (L : Nat) := by omega
   have hsm : w.heap.size ≤ wr.heap.size := HB.out.size
   by_cases hpar : i % 2 = 0
   ·
    have hrm : Int.tmod (i : Int) 2 = 0 := by rw [Int.tmod_eq_emod_of_nonneg (by omega)]; omega
    have hpo : ¬ i % 2 = 1 := by omega
    obtain ⟨nb, Ab, lb, cb, kb0, kb1, qb⟩ := hr2.2 i (by omega)
    go_upto_region 7 with (fail)
    clear hrm; replace hpar := hide hpar; replace hpo := hide hpo; refine F2.region [.o, .o, .o, .o, .o, .o, .so (g7) 24 #[.bool n7a, .slice A7a l7a c7a]] [Fact.eq ?cf20_, Fact.eq ?cf21_, Fact.eq ?cf22_, Fact.eq ?cf23_, Fact.eq ?cf24_, Fact.z ?kf25_ ?zf25_, Fact.z ?kfs7_ ?zfs7_] [20, 21, 22, 23, 24, 25] [20, 21, 22, 23, 24, 25, 0] (by kernel_rfl) ?sof ?sopf (by kernel_rfl) ?stf ?finf
    case sof => exact List.forall_mem_cons.2 ⟨⟨bx7, NoU.two nB nS⟩, fun x hx => by cases hx⟩
    case sopf => exact List.Pairwise.cons (fun y hy => by cases hy) (List.Pairwise.nil)
    case stf =>
     refine F2.Steps.consO rfl ?_ ?_
     ·
      intro vz wz hBz hDz hTz K hK; have HW := ext_drew hBz.ext; have bx7z := hTz 6 _ _ _ _ rfl rfl (by kernel_rfl); obtain ⟨zl0, zl1, -⟩ := bx7z.two; simp only [zy, F2.Wp] at hK ⊢; go_simp; refine hK _ wz zB (Fact.eq_mk ?_); with_reducible rfl
     refine F2.Steps.consO rfl ?_ ?_
     ·
      intro vz wz hBz hDz hTz K hK; have HW := ext_drew hBz.ext; simp only [zy, F2.Wp] at hK ⊢; go_simp; refine hK _ wz zB (Fact.eq_mk ?_); with_reducible rfl
     refine F2.Steps.consO rfl ?_ ?_
     ·
      intro vz wz hBz hDz hTz K hK; have HW := ext_drew hBz.ext; simp only [zy, F2.Wp] at hK ⊢; go_simp; refine hK _ wz zB (Fact.eq_mk ?_); with_reducible rfl
     refine F2.Steps.consO rfl ?_ ?_
     ·
      intro vz wz hBz hDz hTz K hK; have E21 : vz 21 = _ := hDz 1 (by kernel_rfl) rfl; have E22 : vz 22 = _ := hDz 2 (by kernel_rfl) rfl; have HW := ext_drew hBz.ext; simp only [zy, F2.Wp] at hK ⊢; simp only [E21, E22] at hK ⊢; go_simp; refine hK _ wz zB (Fact.eq_mk ?_); with_reducible rfl
     refine F2.Steps.consO rfl ?_ ?_
     ·
      intro vz wz hBz hDz hTz K hK; have E23 : vz 23 = _ := hDz 3 (by kernel_rfl) rfl; have HW := ext_drew hBz.ext; have zl0 := hBz.cell_ hr2.1 (zM (Nat.ne_of_lt (Nat.lt_of_lt_of_le hg2 hge7)) zN) kb0; have zl1 := hBz.cell_ hr2.1 (zM (Nat.ne_of_lt (Nat.lt_of_lt_of_le hg2 hge7)) zN) kb1; simp only [zy, F2.Wp] at hK ⊢; simp only [E23] at hK ⊢; go_simp; refine hK _ wz zB (Fact.eq_mk ?_); with_reducible rfl
     refine F2.Steps.consO rfl ?_ ?_
     ·
      intro vz wz hBz hDz hTz K hK; have E20 : vz 20 = _ := hDz 0 (by kernel_rfl) rfl; have E24 : vz 24 = _ := hDz 4 (by kernel_rfl) rfl; have HW := ext_drew hBz.ext; simp only [zy, F2.Wp] at hK ⊢; simp only [E20, E24] at hK ⊢; go_simp; refine Calls.mono (u_add (q7a.ext HW).q (qb.ext HW).q (by omega) (by omega)) ?_; rintro e w2z ⟨hb2, uz, rfl, hf⟩; refine hK _ w2z hb2 (Fact.cast (hf) ?_); with_reducible rfl
     refine F2.Steps.consT rfl ?_ ?_
     ·
      intro vz wz hBz hDz hbz K hK; obtain ⟨zc0, zc1, zc2, zc3⟩ := hbz.two; obtain ⟨n25_, A25_, l25_, c25_, E25, q25⟩ : IntV 0 _ _ wz (vz 25) := hDz 5 (by kernel_rfl) rfl; have HW := ext_drew hBz.ext; simp only [zy, F2.Wp] at hK ⊢; simp only [E25] at hK ⊢; go_simp; refine hK _ ((Far.set _ _ 0 _).trans (Far.set _ _ 1 _)) ⟨_, blk_two hbz, NoU.two nB nS, Fact.cast (Fact.z_mk q25) ?_⟩; with_reducible rfl
     exact F2.Steps.nil
    intro vf w6 hBz ⟨hOz, hAz, hNz, hSz⟩; have E20 : vf 20 = _ := hOz 0 (by decide) rfl; have E21 : vf 21 = _ := hOz 1 (by decide) rfl; have E22 : vf 22 = _ := hOz 2 (by decide) rfl; have E23 : vf 23 = _ := hOz 3 (by decide) rfl; have E24 : vf 24 = _ := hOz 4 (by decide) rfl; obtain ⟨n25_, A25_, l25_, c25_, E25, q25⟩ : IntV 0 _ _ w6 (vf 25) := hOz 5 (by decide) rfl; obtain ⟨cs7, bx7n, hs7⟩ := hSz 6 _ _ _ (by decide) rfl; obtain ⟨n7sf_, A7sf_, l7sf_, c7sf_, E7sf, q7sf⟩ : IntV 0 _ _ w6 (.agg cs7) := hs7; injection E7sf with E7sf
    subst E7sf; simp only [Act.put, actv, fill, fC, fN, tA, cS, cZ]; simp only [E20, E21, E22, E23, E24, E25]; clear E20 E21 E22 E23 E24 E25; replace q6a := q6a.ext hBz.ext; replace q7a := q7a.ext hBz.ext; replace bx4 := hBz.blk bx4 (zM (Ne.symm hne7_4.out) zN); replace bx5 := hBz.blk bx5 (zM (Ne.symm hne7_5.out) zN); replace bx6 := hBz.blk bx6 (zM (Ne.symm hne7_6.out) zN); replace hr1 := hr1.low hBz (zM (Nat.ne_of_lt (Nat.lt_of_lt_of_le hg1 hge7)) zN); replace hr2 := hr2.low hBz (zM (Nat.ne_of_lt (Nat.lt_of_lt_of_le hg2 hge7)) zN); replace HL5 := HL5.step hBz (zA (Or.inl (by simp)) zE); replace HB := hide (HB.out.trans (hBz.below (B := w.heap.size) HB.out.size (zA hge7 zE))); clear bx7; have bx7 := bx7n; clear bx7n; clear hOz hAz hNz hSz hBz; clear kb0 kb1 qb
    by_cases hlast : i < 2 * N
    ·
     have hl1 : (i : Int) < (L : Int) - 1 := by have := hL.out; omega
     obtain ⟨nb, Ab, lb, cb, kb0, kb1, qb⟩ := hr1.2 i (by omega)
     go_upto_region 9 with (fail)
     clear hl1; refine F2.region [.o, .o, .o, .o, .o, .o, .so (g6) 24 #[.bool n6a, .slice A6a l6a c6a]] [Fact.eq ?cg31_, Fact.eq ?cg32_, Fact.eq ?cg33_, Fact.eq ?cg34_, Fact.eq ?cg35_, Fact.z ?kg36_ ?zg36_, Fact.z ?kgs6_ ?zgs6_] [31, 32, 33, 34, 35, 36] [31, 32, 33, 34, 35, 36, 0] (by kernel_rfl) ?sog ?sopg (by kernel_rfl) ?stg ?fing
     case sog => exact List.forall_mem_cons.2 ⟨⟨bx6, NoU.two nB nS⟩, fun x hx => by cases hx⟩
     case sopg => exact List.Pairwise.cons (fun y hy => by cases hy) (List.Pairwise.nil)
     case stg =>
      refine F2.Steps.consO rfl ?_ ?_
      ·
       intro vz wz hBz hDz hTz K hK; have HW := ext_drew hBz.ext; have bx6z := hTz 6 _ _ _ _ rfl rfl (by kernel_rfl); obtain ⟨zl0, zl1, -⟩ := bx6z.two; simp only [zy, F2.Wp] at hK ⊢; go_simp; refine hK _ wz zB (Fact.eq_mk ?_); with_reducible rfl
      refine F2.Steps.consO rfl ?_ ?_
      ·
       intro vz wz hBz hDz hTz K hK; have HW := ext_drew hBz.ext; simp only [zy, F2.Wp] at hK ⊢; go_simp; refine hK _ wz zB (Fact.eq_mk ?_); with_reducible rfl
      refine F2.Steps.consO rfl ?_ ?_
      ·
       intro vz wz hBz hDz hTz K hK; have HW := ext_drew hBz.ext; simp only [zy, F2.Wp] at hK ⊢; go_simp; refine hK _ wz zB (Fact.eq_mk ?_); with_reducible rfl
      refine F2.Steps.consO rfl ?_ ?_
      ·
       intro vz wz hBz hDz hTz K hK; have E32 : vz 32 = _ := hDz 1 (by kernel_rfl) rfl; have E33 : vz 33 = _ := hDz 2 (by kernel_rfl) rfl; have HW := ext_drew hBz.ext; simp only [zy, F2.Wp] at hK ⊢; simp only [E32, E33] at hK ⊢; go_simp; refine hK _ wz zB (Fact.eq_mk ?_); with_reducible rfl
      refine F2.Steps.consO rfl ?_ ?_
      ·
       intro vz wz hBz hDz hTz K hK; have E34 : vz 34 = _ := hDz 3 (by kernel_rfl) rfl; have HW := ext_drew hBz.ext; have zl0 := hBz.cell_ hr1.1 (zM (Nat.ne_of_lt (Nat.lt_of_lt_of_le hg1 hge6)) zN) kb0; have zl1 := hBz.cell_ hr1.1 (zM (Nat.ne_of_lt (Nat.lt_of_lt_of_le hg1 hge6)) zN) kb1; simp only [zy, F2.Wp] at hK ⊢; simp only [E34] at hK ⊢; go_simp; refine hK _ wz zB (Fact.eq_mk ?_); with_reducible rfl
      refine F2.Steps.consO rfl ?_ ?_
      ·
       intro vz wz hBz hDz hTz K hK; have E31 : vz 31 = _ := hDz 0 (by kernel_rfl) rfl; have E35 : vz 35 = _ := hDz 4 (by kernel_rfl) rfl; have HW := ext_drew hBz.ext; simp only [zy, F2.Wp] at hK ⊢; simp only [E31, E35] at hK ⊢; go_simp; refine Calls.mono (u_add (q6a.ext HW).q (qb.ext HW).q (by omega) (by omega)) ?_; rintro e w2z ⟨hb2, uz, rfl, hf⟩; refine hK _ w2z hb2 (Fact.cast (hf) ?_); with_reducible rfl
      refine F2.Steps.consT rfl ?_ ?_
      ·
       intro vz wz hBz hDz hbz K hK; obtain ⟨zc0, zc1, zc2, zc3⟩ := hbz.two; obtain ⟨n36_, A36_, l36_, c36_, E36, q36⟩ : IntV 0 _ _ wz (vz 36) := hDz 5 (by kernel_rfl) rfl; have HW := ext_drew hBz.ext; simp only [zy, F2.Wp] at hK ⊢; simp only [E36] at hK ⊢; go_simp; refine hK _ ((Far.set _ _ 0 _).trans (Far.set _ _ 1 _)) ⟨_, blk_two hbz, NoU.two nB nS, Fact.cast (Fact.z_mk q36) ?_⟩; with_reducible rfl
      exact F2.Steps.nil
     intro vg w7 hBz ⟨hOz, hAz, hNz, hSz⟩; have E31 : vg 31 = _ := hOz 0 (by decide) rfl; have E32 : vg 32 = _ := hOz 1 (by decide) rfl; have E33 : vg 33 = _ := hOz 2 (by decide) rfl; have E34 : vg 34 = _ := hOz 3 (by decide) rfl; have E35 : vg 35 = _ := hOz 4 (by decide) rfl; obtain ⟨n36_, A36_, l36_, c36_, E36, q36⟩ : IntV 0 _ _ w7 (vg 36) := hOz 5 (by decide) rfl; obtain ⟨cs6, bx6n, hs6⟩ := hSz 6 _ _ _ (by decide) rfl; obtain ⟨n6sg_, A6sg_, l6sg_, c6sg_, E6sg, q6sg⟩ : IntV 0 _ _ w7 (.agg cs6) := hs6; injection E6sg with E6sg
     subst E6sg; simp only [Act.put, actv, fill, fC, fN, tA, cS, cZ]; simp only [E31, E32, E33, E34, E35, E36]; clear E31 E32 E33 E34 E35 E36; replace q6a := q6a.ext hBz.ext; replace q7sf := q7sf.ext hBz.ext; replace bx4 := hBz.blk bx4 (zM (Ne.symm hne6_4.out) zN); replace bx5 := hBz.blk bx5 (zM (Ne.symm hne6_5.out) zN); replace bx7 := hBz.blk bx7 (zM hne7_6.out zN); replace hr1 := hr1.low hBz (zM (Nat.ne_of_lt (Nat.lt_of_lt_of_le hg1 hge6)) zN); replace hr2 := hr2.low hBz (zM (Nat.ne_of_lt (Nat.lt_of_lt_of_le hg2 hge6)) zN); replace HL5 := HL5.step hBz (zA (Or.inl (by simp)) zE); replace HB := hide (HB.out.trans (hBz.below (B := w.heap.size) HB.out.size (zA hge6 zE))); clear bx6; have bx6 := bx6n; clear bx6n; clear hOz hAz hNz hSz hBz; clear kb0 kb1 qb
     go_wp2_with fail
     go_roundw
     case rel => exact ⟨i + 1, by omega, by go_num, HL5, trivial, ⟨_, _, _, _, bx6, (by rw [tu_min1 hlast, tu_neg hpo.out]; exact ((q6sg.fit (by rw [tu_min hlast]; have h9 := HS.out (i + 1) (by omega); rw [tu_neg hpo.out] at h9; exact h9)).cast_ (by rw [tu_min hlast])))⟩, ⟨_, _, _, _, bx7, (by rw [tu_neg hpo.out]; exact (q7sf.fit (by have h9 := HT.out (i + 1) (by omega); rw [tu_neg hpo.out] at h9; exact h9)))⟩⟩
     case measure => simp [intOf]; omega
    ·
     have hl1 : ¬ (i : Int) < (L : Int) - 1 := by have := hL.out; omega
     have hi2 : i = 2 * N := by have := hL.out; omega
     replace hi2 := hide hi2
     go_wp2_with fail
     go_roundw
     case rel => exact ⟨i + 1, by omega, by go_num, HL5, trivial, ⟨_, _, _, _, bx6, (q6a.cast_ (by rw [hi2.out, Nat.min_eq_left (Nat.le_refl _), Nat.min_eq_right (by omega)]))⟩, ⟨_, _, _, _, bx7, (by rw [tu_neg hpo.out]; exact (q7sf.fit (by have h9 := HT.out (i + 1) (by omega); rw [tu_neg hpo.out] at h9; exact h9)))⟩⟩
     case measure => simp [intOf]; omega
   ·
    have hrm : ((i : Int) % 2 == 0) = false := by simp; omega
    have hpo : i % 2 = 1 := by omega
    have hlast : i < 2 * N := by have := hL.out; omega
    obtain ⟨nb, Ab, lb, cb, kb0, kb1, qb⟩ := hr1.2 i (by omega)
    go_upto_region 10 with (fail)
    clear hrm; replace hpar := hide hpar; replace hpo := hide hpo; refine F2.region [.o, .o, .o, .o, .o, .o, .so (g7) 24 #[.bool n7a, .slice A7a l7a c7a]] [Fact.eq ?ch37_, Fact.eq ?ch38_, Fact.eq ?ch39_, Fact.eq ?ch40_, Fact.eq ?ch41_, Fact.z ?kh42_ ?zh42_, Fact.z ?khs7_ ?zhs7_] [37, 38, 39, 40, 41, 42] [37, 38, 39, 40, 41, 42, 0] (by kernel_rfl) ?soh ?soph (by kernel_rfl) ?sth ?finh
    case soh => exact List.forall_mem_cons.2 ⟨⟨bx7, NoU.two nB nS⟩, fun x hx => by cases hx⟩
    case soph => exact List.Pairwise.cons (fun y hy => by cases hy) (List.Pairwise.nil)
    case sth =>
     refine F2.Steps.consO rfl ?_ ?_
     ·
      intro vz wz hBz hDz hTz K hK; have HW := ext_drew hBz.ext; have bx7z := hTz 6 _ _ _ _ rfl rfl (by kernel_rfl); obtain ⟨zl0, zl1, -⟩ := bx7z.two; simp only [zy, F2.Wp] at hK ⊢; go_simp; refine hK _ wz zB (Fact.eq_mk ?_); with_reducible rfl
     refine F2.Steps.consO rfl ?_ ?_
     ·
      intro vz wz hBz hDz hTz K hK; have HW := ext_drew hBz.ext; simp only [zy, F2.Wp] at hK ⊢; go_simp; refine hK _ wz zB (Fact.eq_mk ?_); with_reducible rfl
     refine F2.Steps.consO rfl ?_ ?_
     ·
      intro vz wz hBz hDz hTz K hK; have HW := ext_drew hBz.ext; simp only [zy, F2.Wp] at hK ⊢; go_simp; refine hK _ wz zB (Fact.eq_mk ?_); with_reducible rfl
     refine F2.Steps.consO rfl ?_ ?_
     ·
      intro vz wz hBz hDz hTz K hK; have E38 : vz 38 = _ := hDz 1 (by kernel_rfl) rfl; have E39 : vz 39 = _ := hDz 2 (by kernel_rfl) rfl; have HW := ext_drew hBz.ext; simp only [zy, F2.Wp] at hK ⊢; simp only [E38, E39] at hK ⊢; go_simp; refine hK _ wz zB (Fact.eq_mk ?_); with_reducible rfl
     refine F2.Steps.consO rfl ?_ ?_
     ·
      intro vz wz hBz hDz hTz K hK; have E40 : vz 40 = _ := hDz 3 (by kernel_rfl) rfl; have HW := ext_drew hBz.ext; have zl0 := hBz.cell_ hr1.1 (zM (Nat.ne_of_lt (Nat.lt_of_lt_of_le hg1 hge7)) zN) kb0; have zl1 := hBz.cell_ hr1.1 (zM (Nat.ne_of_lt (Nat.lt_of_lt_of_le hg1 hge7)) zN) kb1; simp only [zy, F2.Wp] at hK ⊢; simp only [E40] at hK ⊢; go_simp; refine hK _ wz zB (Fact.eq_mk ?_); with_reducible rfl
     refine F2.Steps.consO rfl ?_ ?_
     ·
      intro vz wz hBz hDz hTz K hK; have E37 : vz 37 = _ := hDz 0 (by kernel_rfl) rfl; have E41 : vz 41 = _ := hDz 4 (by kernel_rfl) rfl; have HW := ext_drew hBz.ext; simp only [zy, F2.Wp] at hK ⊢; simp only [E37, E41] at hK ⊢; go_simp; refine Calls.mono (u_sub (q7a.ext HW).q (qb.ext HW).q (by omega) (by omega)) ?_; rintro e w2z ⟨hb2, uz, rfl, hf⟩; refine hK _ w2z hb2 (Fact.cast (hf) ?_); with_reducible rfl
     refine F2.Steps.consT rfl ?_ ?_
     ·
      intro vz wz hBz hDz hbz K hK; obtain ⟨zc0, zc1, zc2, zc3⟩ := hbz.two; obtain ⟨n42_, A42_, l42_, c42_, E42, q42⟩ : IntV 0 _ _ wz (vz 42) := hDz 5 (by kernel_rfl) rfl; have HW := ext_drew hBz.ext; simp only [zy, F2.Wp] at hK ⊢; simp only [E42] at hK ⊢; go_simp; refine hK _ ((Far.set _ _ 0 _).trans (Far.set _ _ 1 _)) ⟨_, blk_two hbz, NoU.two nB nS, Fact.cast (Fact.z_mk q42) ?_⟩; with_reducible rfl
     exact F2.Steps.nil
    intro vh w8 hBz ⟨hOz, hAz, hNz, hSz⟩; have E37 : vh 37 = _ := hOz 0 (by decide) rfl; have E38 : vh 38 = _ := hOz 1 (by decide) rfl; have E39 : vh 39 = _ := hOz 2 (by decide) rfl; have E40 : vh 40 = _ := hOz 3 (by decide) rfl; have E41 : vh 41 = _ := hOz 4 (by decide) rfl; obtain ⟨n42_, A42_, l42_, c42_, E42, q42⟩ : IntV 0 _ _ w8 (vh 42) := hOz 5 (by decide) rfl; obtain ⟨cs7, bx7n, hs7⟩ := hSz 6 _ _ _ (by decide) rfl; obtain ⟨n7sh_, A7sh_, l7sh_, c7sh_, E7sh, q7sh⟩ : IntV 0 _ _ w8 (.agg cs7) := hs7; injection E7sh with E7sh
    subst E7sh; simp only [Act.put, actv, fill, fC, fN, tA, cS, cZ]; simp only [E37, E38, E39, E40, E41, E42]; clear E37 E38 E39 E40 E41 E42; replace q6a := q6a.ext hBz.ext; replace q7a := q7a.ext hBz.ext; replace bx4 := hBz.blk bx4 (zM (Ne.symm hne7_4.out) zN); replace bx5 := hBz.blk bx5 (zM (Ne.symm hne7_5.out) zN); replace bx6 := hBz.blk bx6 (zM (Ne.symm hne7_6.out) zN); replace hr1 := hr1.low hBz (zM (Nat.ne_of_lt (Nat.lt_of_lt_of_le hg1 hge7)) zN); replace hr2 := hr2.low hBz (zM (Nat.ne_of_lt (Nat.lt_of_lt_of_le hg2 hge7)) zN); replace HL5 := HL5.step hBz (zA (Or.inl (by simp)) zE); replace HB := hide (HB.out.trans (hBz.below (B := w.heap.size) HB.out.size (zA hge7 zE))); clear bx7; have bx7 := bx7n; clear bx7n; clear hOz hAz hNz hSz hBz; clear kb0 kb1 qb; obtain ⟨nb, Ab, lb, cb, kb0, kb1, qb⟩ := hr2.2 i (by omega)
    go_upto_region 11 with (fail)
    refine F2.region [.o, .o, .o, .o, .o, .o, .so (g6) 24 #[.bool n6a, .slice A6a l6a c6a]] [Fact.eq ?ci43_, Fact.eq ?ci44_, Fact.eq ?ci45_, Fact.eq ?ci46_, Fact.eq ?ci47_, Fact.z ?ki48_ ?zi48_, Fact.z ?kis6_ ?zis6_] [43, 44, 45, 46, 47, 48] [43, 44, 45, 46, 47, 48, 0] (by kernel_rfl) ?soi ?sopi (by kernel_rfl) ?sti ?fini
    case soi => exact List.forall_mem_cons.2 ⟨⟨bx6, NoU.two nB nS⟩, fun x hx => by cases hx⟩
    case sopi => exact List.Pairwise.cons (fun y hy => by cases hy) (List.Pairwise.nil)
    case sti =>
     refine F2.Steps.consO rfl ?_ ?_
     ·
      intro vz wz hBz hDz hTz K hK; have HW := ext_drew hBz.ext; have bx6z := hTz 6 _ _ _ _ rfl rfl (by kernel_rfl); obtain ⟨zl0, zl1, -⟩ := bx6z.two; simp only [zy, F2.Wp] at hK ⊢; go_simp; refine hK _ wz zB (Fact.eq_mk ?_); with_reducible rfl
     refine F2.Steps.consO rfl ?_ ?_
     ·
      intro vz wz hBz hDz hTz K hK; have HW := ext_drew hBz.ext; simp only [zy, F2.Wp] at hK ⊢; go_simp; refine hK _ wz zB (Fact.eq_mk ?_); with_reducible rfl
     refine F2.Steps.consO rfl ?_ ?_
     ·
      intro vz wz hBz hDz hTz K hK; have HW := ext_drew hBz.ext; simp only [zy, F2.Wp] at hK ⊢; go_simp; refine hK _ wz zB (Fact.eq_mk ?_); with_reducible rfl
     refine F2.Steps.consO rfl ?_ ?_
     ·
      intro vz wz hBz hDz hTz K hK; have E44 : vz 44 = _ := hDz 1 (by kernel_rfl) rfl; have E45 : vz 45 = _ := hDz 2 (by kernel_rfl) rfl; have HW := ext_drew hBz.ext; simp only [zy, F2.Wp] at hK ⊢; simp only [E44, E45] at hK ⊢; go_simp; refine hK _ wz zB (Fact.eq_mk ?_); with_reducible rfl
     refine F2.Steps.consO rfl ?_ ?_
     ·
      intro vz wz hBz hDz hTz K hK; have E46 : vz 46 = _ := hDz 3 (by kernel_rfl) rfl; have HW := ext_drew hBz.ext; have zl0 := hBz.cell_ hr2.1 (zM (Nat.ne_of_lt (Nat.lt_of_lt_of_le hg2 hge6)) zN) kb0; have zl1 := hBz.cell_ hr2.1 (zM (Nat.ne_of_lt (Nat.lt_of_lt_of_le hg2 hge6)) zN) kb1; simp only [zy, F2.Wp] at hK ⊢; simp only [E46] at hK ⊢; go_simp; refine hK _ wz zB (Fact.eq_mk ?_); with_reducible rfl
     refine F2.Steps.consO rfl ?_ ?_
     ·
      intro vz wz hBz hDz hTz K hK; have E43 : vz 43 = _ := hDz 0 (by kernel_rfl) rfl; have E47 : vz 47 = _ := hDz 4 (by kernel_rfl) rfl; have HW := ext_drew hBz.ext; simp only [zy, F2.Wp] at hK ⊢; simp only [E43, E47] at hK ⊢; go_simp; refine Calls.mono (u_sub (q6a.ext HW).q (qb.ext HW).q (by omega) (by omega)) ?_; rintro e w2z ⟨hb2, uz, rfl, hf⟩; refine hK _ w2z hb2 (Fact.cast (hf) ?_); with_reducible rfl
     refine F2.Steps.consT rfl ?_ ?_
     ·
      intro vz wz hBz hDz hbz K hK; obtain ⟨zc0, zc1, zc2, zc3⟩ := hbz.two; obtain ⟨n48_, A48_, l48_, c48_, E48, q48⟩ : IntV 0 _ _ wz (vz 48) := hDz 5 (by kernel_rfl) rfl; have HW := ext_drew hBz.ext; simp only [zy, F2.Wp] at hK ⊢; simp only [E48] at hK ⊢; go_simp; refine hK _ ((Far.set _ _ 0 _).trans (Far.set _ _ 1 _)) ⟨_, blk_two hbz, NoU.two nB nS, Fact.cast (Fact.z_mk q48) ?_⟩; with_reducible rfl
     exact F2.Steps.nil
    intro vi w9 hBz ⟨hOz, hAz, hNz, hSz⟩; have E43 : vi 43 = _ := hOz 0 (by decide) rfl; have E44 : vi 44 = _ := hOz 1 (by decide) rfl; have E45 : vi 45 = _ := hOz 2 (by decide) rfl; have E46 : vi 46 = _ := hOz 3 (by decide) rfl; have E47 : vi 47 = _ := hOz 4 (by decide) rfl; obtain ⟨n48_, A48_, l48_, c48_, E48, q48⟩ : IntV 0 _ _ w9 (vi 48) := hOz 5 (by decide) rfl; obtain ⟨cs6, bx6n, hs6⟩ := hSz 6 _ _ _ (by decide) rfl; obtain ⟨n6si_, A6si_, l6si_, c6si_, E6si, q6si⟩ : IntV 0 _ _ w9 (.agg cs6) := hs6; injection E6si with E6si
    subst E6si; simp only [Act.put, actv, fill, fC, fN, tA, cS, cZ]; simp only [E43, E44, E45, E46, E47, E48]; clear E43 E44 E45 E46 E47 E48; replace q6a := q6a.ext hBz.ext; replace q7sh := q7sh.ext hBz.ext; replace bx4 := hBz.blk bx4 (zM (Ne.symm hne6_4.out) zN); replace bx5 := hBz.blk bx5 (zM (Ne.symm hne6_5.out) zN); replace bx7 := hBz.blk bx7 (zM hne7_6.out zN); replace hr1 := hr1.low hBz (zM (Nat.ne_of_lt (Nat.lt_of_lt_of_le hg1 hge6)) zN); replace hr2 := hr2.low hBz (zM (Nat.ne_of_lt (Nat.lt_of_lt_of_le hg2 hge6)) zN); replace HL5 := HL5.step hBz (zA (Or.inl (by simp)) zE); replace HB := hide (HB.out.trans (hBz.below (B := w.heap.size) HB.out.size (zA hge6 zE))); clear bx6; have bx6 := bx6n; clear bx6n; clear hOz hAz hNz hSz hBz; clear kb0 kb1 qb
    go_wp2_with fail
    go_roundw
    case rel => exact ⟨i + 1, by omega, by go_num, HL5, trivial, ⟨_, _, _, _, bx6, (by rw [tu_min1 hlast, tu_pos hpo.out]; exact ((q6si.fit (by rw [tu_min hlast]; have h9 := HS.out (i + 1) (by omega); rw [tu_pos hpo.out] at h9; exact h9)).cast_ (by rw [tu_min hlast])))⟩, ⟨_, _, _, _, bx7, (by rw [tu_pos hpo.out]; exact (q7sh.fit (by have h9 := HT.out (i + 1) (by omega); rw [tu_pos hpo.out] at h9; exact h9)))⟩⟩
    case measure => simp [intOf]; omega
  ·
   skip
   obtain rfl : i = L := by omega
   clear hlti
   go_upto_region 12 with (fail)
   refine F2.region [.o, .o, .so (g4) 24 #[.bool false, .slice none 0 0], .so (g5) 24 #[.bool false, .slice none 0 0]] [Fact.eq ?cj49_, Fact.eq ?cj50_, Fact.z ?kjs4_ ?zjs4_, Fact.z ?kjs5_ ?zjs5_] [49, 50] [49, 50, 0, 0] (by kernel_rfl) ?soj ?sopj (by kernel_rfl) ?stj ?finj
   case soj => exact List.forall_mem_cons.2 ⟨⟨bx4, NoU.two nB nS⟩, List.forall_mem_cons.2 ⟨⟨bx5, NoU.two nB nS⟩, fun x hx => by cases hx⟩⟩
   case sopj => exact List.Pairwise.cons (by intro y hy; simp [F2.sos] at hy; have hne4_5 := hne4_5.out; first | (subst hy; simp; done) | (subst hy; simp; omega) | (rcases hy with rfl | rfl <;> simp <;> omega)) (List.Pairwise.cons (fun y hy => by cases hy) (List.Pairwise.nil))
   case stj =>
    refine F2.Steps.consO rfl ?_ ?_
    ·
     intro vz wz hBz hDz hTz K hK; have HW := ext_drew hBz.ext; have bx6z := hBz.blk bx6.drew (zM hne6_4.out (zM hne6_5.out zN)); obtain ⟨zl0, zl1, -⟩ := bx6z.two; simp only [zy, F2.Wp] at hK ⊢; go_simp; refine hK _ wz zB (Fact.eq_mk ?_); with_reducible rfl
    refine F2.Steps.consO rfl ?_ ?_
    ·
     intro vz wz hBz hDz hTz K hK; have HW := ext_drew hBz.ext; have bx7z := hBz.blk bx7.drew (zM hne7_4.out (zM hne7_5.out zN)); obtain ⟨zl0, zl1, -⟩ := bx7z.two; simp only [zy, F2.Wp] at hK ⊢; go_simp; refine hK _ wz zB (Fact.eq_mk ?_); with_reducible rfl
    refine F2.Steps.consT rfl ?_ ?_
    ·
     intro vz wz hBz hDz hbz K hK; obtain ⟨zc0, zc1, zc2, zc3⟩ := hbz.two; have E49 : vz 49 = _ := hDz 0 (by kernel_rfl) rfl; have HW := ext_drew hBz.ext; simp only [zy, F2.Wp] at hK ⊢; simp only [E49] at hK ⊢; go_simp; refine hK _ ((Far.set _ _ 0 _).trans (Far.set _ _ 1 _)) ⟨_, blk_two hbz, NoU.two nB nS, Fact.cast (Fact.z_mk (q6a.ext HW)) ?_⟩; with_reducible rfl
    refine F2.Steps.consT rfl ?_ ?_
    ·
     intro vz wz hBz hDz hbz K hK; obtain ⟨zc0, zc1, zc2, zc3⟩ := hbz.two; have E50 : vz 50 = _ := hDz 1 (by kernel_rfl) rfl; have HW := ext_drew hBz.ext; simp only [zy, F2.Wp] at hK ⊢; simp only [E50] at hK ⊢; go_simp; refine hK _ ((Far.set _ _ 0 _).trans (Far.set _ _ 1 _)) ⟨_, blk_two hbz, NoU.two nB nS, Fact.cast (Fact.z_mk (q7a.ext HW)) ?_⟩; with_reducible rfl
    exact F2.Steps.nil
   intro vj w10 hBz ⟨hOz, hAz, hNz, hSz⟩; have E49 : vj 49 = _ := hOz 0 (by decide) rfl; have E50 : vj 50 = _ := hOz 1 (by decide) rfl; obtain ⟨cs4, bx4n, hs4⟩ := hSz 2 _ _ _ (by decide) rfl; obtain ⟨n4sj_, A4sj_, l4sj_, c4sj_, E4sj, q4sj⟩ : IntV 0 _ _ w10 (.agg cs4) := hs4; injection E4sj with E4sj
   subst E4sj; obtain ⟨cs5, bx5n, hs5⟩ := hSz 3 _ _ _ (by decide) rfl; obtain ⟨n5sj_, A5sj_, l5sj_, c5sj_, E5sj, q5sj⟩ : IntV 0 _ _ w10 (.agg cs5) := hs5; injection E5sj with E5sj
   subst E5sj; simp only [Act.put, actv, fill, fC, fN, tA, cS, cZ]; simp only [E49, E50]; clear E49 E50; replace q6a := q6a.ext hBz.ext; replace q7a := q7a.ext hBz.ext; replace bx6 := hBz.blk bx6 (zM hne6_4.out (zM hne6_5.out zN)); replace bx7 := hBz.blk bx7 (zM hne7_4.out (zM hne7_5.out zN)); replace hr1 := hr1.low hBz (zM (Nat.ne_of_lt (Nat.lt_of_lt_of_le hg1 hge4)) (zM (Nat.ne_of_lt (Nat.lt_of_lt_of_le hg1 hge5)) zN)); replace hr2 := hr2.low hBz (zM (Nat.ne_of_lt (Nat.lt_of_lt_of_le hg2 hge4)) (zM (Nat.ne_of_lt (Nat.lt_of_lt_of_le hg2 hge5)) zN)); replace HB := hide (HB.out.trans (hBz.below (B := w.heap.size) HB.out.size (zA hge4 (zA hge5 zE)))); clear bx4; clear bx5; have bx4 := bx4n; clear bx4n; have bx5 := bx5n; clear bx5n; clear hOz hAz hNz hSz hBz
   go_wp2_with fail
   refine bodyPost_ret (results_int_int rfl _ _ _ _ _ _ _ _ _ _ rfl bx4 rfl bx5) rfl ⟨HB.out, ?_⟩; exact VF.mk (Fact.t2_mk (Fact.z_mk (q4sj.cast_ (by rw [hL.out, Nat.min_eq_right (by omega)]))) (Fact.z_mk (q5sj.cast_ (by rw [hL.out]))))
end Go.Proofs.YtnephejalollfaaGreat
end
section
set_option linter.unusedVariables false
set_option linter.unusedSimpArgs false
namespace Go.Proofs.YtnephejalollfaaGreat
open Go.RowKit

theorem infoI : (Tryz.prog.info? 24).map (fun i => (i.zero, i.size, i.bytes)) = some (some (.agg #[.bool false, .slice none 0 0]), 2, 32) := by kernel_rfl
/-- The slice value v is the call's own row of n integers, with these cells. -/
def IRow (w : World) (B : Nat) (v : Value) (n : Nat) (cs : List Value) : Prop := w.ownsRow B 24 2 v n cs
theorem IRow.nil (w : World) (B : Nat) : IRow w B (.slice none 0 0) 0 [] := World.ownsRow_nil w B _ 2
theorem IRow.below {w w' : World} {B n : Nat} {v : Value} {cs : List Value} (h : IRow w B v n cs) (hb : Below w.heap.size w w') : IRow w' B v n cs :=
  World.ownsRow.kept (row := none) h ⟨hb.os, hb.tape, hb.output, hb.size, fun k hk _ => hb.block k hk⟩ (by cases v.ownBlock <;> simp)
theorem IRow.grown {w w' : World} {B n : Nat} {v : Value} {cs : List Value} {r : Option Nat} (h : IRow w B v n cs) (hg : w.grownBy w' r) (hne : v.ownBlock = none ∨ v.ownBlock ≠ r) : IRow w' B v n cs :=
  World.ownsRow.kept h hg hne
theorem IRow.lt {w : World} {B n : Nat} {v : Value} {cs : List Value} (h : IRow w B v n cs) : ∀ k, v.ownBlock = some k → B ≤ k ∧ k < w.heap.size := World.ownsRow.lt h
/-- No cell of a list is a limb. -/
def NoL (l : List Value) : Prop := ∀ u ∈ l, ∀ x : Int, u ≠ .int .u64 x
theorem noU_of {cs : Array Value} (h : NoL cs.toList) : NoU cs := by
  intro i x hx; have : cs.toList[i]? = some (.int .u64 x) := by rw [Array.getElem?_toList]; exact hx
  exact h _ (List.mem_of_getElem? this) x rfl
theorem noL_of {cs : Array Value} (h : NoU cs) : NoL cs.toList := by
  intro u hu x hx; obtain ⟨i, hi, he⟩ := List.mem_iff_getElem.1 hu; refine h i x ?_; rw [← hx, ← he, ← Array.getElem?_toList, List.getElem?_eq_getElem hi]
theorem NoL.append {l m : List Value} (h : NoL l) (k : NoL m) : NoL (l ++ m) := fun u hu => (List.mem_append.1 hu).elim (h u) (k u)
theorem NoL.take {l : List Value} (h : NoL l) (n : Nat) : NoL (l.take n) := fun u hu => h u (List.mem_of_mem_take hu)
theorem NoL.drop {l : List Value} (h : NoL l) (n : Nat) : NoL (l.drop n) := fun u hu => h u (List.mem_of_mem_drop hu)
theorem noL_zero (n : Nat) : NoL (Builtin.zeroCells (Value.cells (.agg #[.bool false, .slice none 0 0])) n).toList := by
  intro u hu x hx; subst hx; obtain ⟨i, hi, he⟩ := List.mem_iff_getElem.1 hu; simp [Builtin.zeroCells, Value.cells] at he
  rcases (show i % 2 = 0 ∨ i % 2 = 1 by omega) with h | h <;> simp [h] at he
set_option maxRecDepth 100000 in
theorem appendI_run (w : World) (B : Nat) (v : Value) (n : Nat) (cs : List Value) (hown : IRow w B v n cs) (g : Nat) (x y : Value) (hx : x.oneCell' = true) (hy : y.oneCell' = true) (hb : Blk w g 24 #[x, y]) (hn : n ≤ 1000) (hB : B ≤ w.heap.size) (ty : TypeId) (hxy : NoU #[x, y]) (hbox : ∀ k, v.ownBlock = some k → BoxAt w k) :
    ∃ v' w', (Builtin.append_ #[50, 50] ty #[v, .slice (some ⟨g, 0, none⟩) 1 1]).run Tryz.prog w = .ok v' w' ∧ IRow w' B v' (n + 1) (cs ++ [x, y]) ∧ w.grownBy w' v.ownBlock ∧ (v'.ownBlock = v.ownBlock ∨ ∃ k, v'.ownBlock = some k ∧ w.heap.size ≤ k) ∧ (∀ k, v'.ownBlock = some k → BoxAt w' k) ∧ Ext w w' := by
  obtain ⟨i0, hi, hz0, hz1, hz2⟩ := info_parts infoI
  have hnews : ∀ j u, [x, y][j]? = some u → w.cell? ((⟨g, 0, none⟩ : Addr).add j) = some u := by
    intro j u hu; have hadd : (⟨g, 0, none⟩ : Addr).add j = ⟨g, j, none⟩ := by unfold Addr.add; split <;> simp_all
    rw [hadd, hb.cell]
    match j with
    | 0 => simpa using hu
    | 1 => simpa using hu
    | j + 2 => simp at hu
  have hone : ∀ u ∈ [x, y], u.oneCell' = true := by
    intro u hu; simp at hu
    rcases hu with rfl | rfl
    · exact hx
    · exact hy
  obtain ⟨v', w', h1, h2, h3, -⟩ := run_append_own (P := Tryz.prog) w B 50 ty 24 i0 _ 2 32 Tryz.underlying50 hi hz0 hz1 hz2 rfl (by omega) v n cs hown ⟨g, 0, none⟩ 1 1 [x, y] rfl hnews hone (by simp only [maxLen]; omega) (by omega) hB
  have hext : Ext w w' := ⟨h3.size, fun b hlt => by
    by_cases hr : v.ownBlock = some b
    · exact .inr (hbox b hr)
    · exact .inl (h3.block b hlt (fun e => hr e.symm))⟩
  have hxyl : NoL [x, y] := noL_of (cs := #[x, y]) hxy; have hz2' : (Value.cells (.agg #[.bool false, .slice none 0 0])) = (Value.cells (.agg #[.bool false, .slice none 0 0])) := rfl
  suffices hh : (v'.ownBlock = v.ownBlock ∨ ∃ k, v'.ownBlock = some k ∧ w.heap.size ≤ k) ∧ (∀ k, v'.ownBlock = some k → BoxAt w' k) from ⟨v', w', h1, h2, h3, hh.1, hh.2, hext⟩
  rcases hown.2 with ⟨rfl, rfl⟩ | ⟨g', cap, cur, rfl, hbg, hg, hnc, hcm, hcs, htake⟩
  · have hr := run_append_nil (P := Tryz.prog) w 50 ty 24 i0 _ Tryz.underlying50 hi hz0 ⟨g, 0, none⟩ 1 1 [x, y] (by rw [hz1]; rfl) hnews (by omega) (by omega) (by rw [hz2]; omega)
    rw [h1] at hr
    cases hr
    refine ⟨.inr ⟨w.heap.size, rfl, Nat.le_refl _⟩, fun k hk => ?_⟩; have hk' : w.heap.size = k := Option.some.inj hk; subst hk'; refine ⟨_, _, heap_alloc_new w.drew _, noU_of ?_⟩; rw [Array.toList_append]; exact hxyl.append (noL_zero _)
  · obtain ⟨cs0, t0, hb0, hn0⟩ := hbox g' rfl
    have hcur : NoL cur.toList := by
      have : cs0 = cur := by
        have h5 : w.heap[g']? = some (.cells cs0 t0 (0, 0)) := hb0; rw [hg] at h5; injection h5 with h5
        injection h5 with h5
        exact h5.symm
      exact this ▸ noL_of hn0
    by_cases hroom : n + 1 ≤ cap
    · have hfit : n * i0.size + [x, y].length ≤ cur.size := by rw [hz1, hcs]; simp; omega
      have hr := run_append_room (P := Tryz.prog) w 50 ty 24 i0 Tryz.underlying50 hi g' n cap cur hg ⟨g, 0, none⟩ 1 1 [x, y] (by rw [hz1]; rfl) hnews hone hroom hfit; rw [h1] at hr
      cases hr
      refine ⟨.inl rfl, fun k hk => ?_⟩; have hk' : g' = k := Option.some.inj hk; subst hk'; refine ⟨_, _, setRow_heap w g' cur _ _ _ hg, noU_of ?_⟩; exact ((hcur.take _).append hxyl).append (hcur.drop _)
    · have holds : ∀ j u, cs[j]? = some u → w.cell? ((⟨g', 0, none⟩ : Addr).add j) = some u := World.ownsRow.cells hown (g := g') rfl
      have hr := run_append_grow (P := Tryz.prog) w 50 ty 24 i0 _ Tryz.underlying50 hi hz0 ⟨g', 0, none⟩ n cap cs (by rw [hz1]; exact hown.1) holds ⟨g, 0, none⟩ 1 1 [x, y] (by rw [hz1]; rfl) hnews (by omega) (by omega) (growslice_fits (by omega) (by rw [hz2]; omega)); rw [h1] at hr
      cases hr
      refine ⟨.inr ⟨w.heap.size, rfl, Nat.le_refl _⟩, fun k hk => ?_⟩; have hk' : w.heap.size = k := Option.some.inj hk; subst hk'; refine ⟨_, _, heap_alloc_new w.drew _, noU_of ?_⟩; rw [Array.toList_append, Array.toList_append]; have hcsl : NoL cs := by rw [← htake]; exact hcur.take _
      exact (NoL.append (l := cs) (m := [x, y]) hcsl hxyl).append (noL_zero _)
/-- What the row's cells are. -/
theorem IRow.cells {w : World} {B n : Nat} {v : Value} {cs : List Value} (h : IRow w B v n cs) (hn : 0 < n) : ∃ g cap, v = .slice (some ⟨g, 0, none⟩) n cap ∧ B ≤ g ∧ g < w.heap.size ∧ ∀ j u, cs[j]? = some u → w.cell? ⟨g, j, none⟩ = some u := by
  rcases h.2 with ⟨-, h0⟩ | ⟨g, cap, cur, rfl, hbg, hg, hnc, hcm, hcs, htake⟩
  · omega
  · refine ⟨g, cap, rfl, hbg, (h.lt g rfl).2, fun j u hu => ?_⟩
    have := World.ownsRow.cells h (g := g) rfl j u hu; have hadd : (⟨g, 0, none⟩ : Addr).add j = ⟨g, j, none⟩ := by unfold Addr.add; split <;> simp_all
    rwa [hadd] at this
/-- A row of integers with these values. -/
def RowV (w : World) (B k : Nat) (v : Value) (zs : List Int) : Prop :=
  ∃ cs, IRow w B v zs.length cs ∧ (∀ g, v.ownBlock = some g → BoxAt w g) ∧ ∀ (j : Nat) (z : Int), zs[j]? = some z → ∃ n A l c, cs[2 * j]? = some (.bool n) ∧ cs[2 * j + 1]? = some (.slice A l c) ∧ QB w B k n A l c z
section
variable {w w' : World} {B k : Nat} {v : Value} {zs : List Int}
theorem RowV.nil (w : World) (B k : Nat) : RowV w B k (.slice none 0 0) [] := by
  refine ⟨[], IRow.nil w B, ?_, ?_⟩
  · intro g h
    cases h
  · intro j z h
    simp at h
theorem RowV.lt (h : RowV w B k v zs) : ∀ g, v.ownBlock = some g → B ≤ g ∧ g < w.heap.size := by
  obtain ⟨cs, h1, -, -⟩ := h; exact h1.lt
/-- Another row may grow, or the world. -/
theorem RowV.step (h : RowV w B k v zs) {r : Option Nat} (hg : w.grownBy w' r) (hne : v.ownBlock = none ∨ v.ownBlock ≠ r) (he : Ext w w') : RowV w' B k v zs := by
  obtain ⟨cs, h1, h2, h3⟩ := h; refine ⟨cs, h1.grown hg hne, fun g hgv => ?_, fun j z hz => ?_⟩
  · obtain ⟨cs', t, a, b⟩ := h2 g hgv
    refine ⟨cs', t, (hg.block g (h1.lt g hgv).2 (fun e => ?_)).trans a, b⟩
    rcases hne with h | h
    · rw [h] at hgv; cases hgv
    · exact h (hgv.trans e)
  · obtain ⟨n, A, l, c, a, b, d⟩ := h3 j z hz
    exact ⟨n, A, l, c, a, b, d.ext he⟩
theorem RowV.below (h : RowV w B k v zs) (hb : Below w.heap.size w w') : RowV w' B k v zs :=
  h.step (r := none) ⟨hb.os, hb.tape, hb.output, hb.size, fun k hk _ => hb.block k hk⟩ (by cases v.ownBlock <;> simp) (ext_of hb)
theorem RowV.push (h : RowV w B k v zs) {g : Nat} {n : Bool} {A : Option Addr} {l c : Nat} {z : Int} (hb : Blk w g 24 #[.bool n, .slice A l c]) (hq : QB w B k n A l c z) (hl : zs.length ≤ 1000) (hB : B ≤ w.heap.size) (ty : TypeId) :
    ∃ v' w', (Builtin.append_ #[50, 50] ty #[v, .slice (some ⟨g, 0, none⟩) 1 1]).run Tryz.prog w = .ok v' w' ∧ RowV w' B k v' (zs ++ [z]) ∧ w.grownBy w' v.ownBlock ∧ (v'.ownBlock = v.ownBlock ∨ ∃ k, v'.ownBlock = some k ∧ w.heap.size ≤ k) ∧ Ext w w' := by
  obtain ⟨cs, h1, h2, h3⟩ := h; obtain ⟨v', w', a1, a2, a3, a4, a5, a6⟩ := appendI_run w B v zs.length cs h1 g (.bool n) (.slice A l c) rfl rfl hb hl hB ty (noU_int n A l c) h2; have hlen : cs.length = 2 * zs.length := by have := h1.1; omega
  refine ⟨v', w', a1, ⟨cs ++ [.bool n, .slice A l c], by rw [List.length_append]; exact a2, a5, fun j y hy => ?_⟩, a3, a4, a6⟩
  rcases Nat.lt_or_ge j zs.length with hj | hj
  · rw [List.getElem?_append_left hj] at hy
    obtain ⟨n', A', l', c', b1, b2, b3⟩ := h3 j y hy; exact ⟨n', A', l', c', by rw [List.getElem?_append_left (by omega)]; exact b1, by rw [List.getElem?_append_left (by omega)]; exact b2, b3.ext a6⟩
  · rw [List.getElem?_append_right hj] at hy
    have hj0 : j - zs.length = 0 := by
      rcases Nat.eq_zero_or_pos (j - zs.length) with h | h
      · exact h
      · rw [List.getElem?_eq_none (by simp; omega)] at hy; cases hy
    rw [hj0] at hy; have hy' : z = y := Option.some.inj hy; subst hy'; refine ⟨n, A, l, c, ?_, ?_, hq.ext a6⟩
    · rw [List.getElem?_append_right (by omega), show 2 * j - cs.length = 0 by omega]; rfl
    · rw [List.getElem?_append_right (by omega), show 2 * j + 1 - cs.length = 1 by omega]; rfl
/-- Four of them, for 'least' and 'greatest'. -/
theorem RowV.four {z0 z1 z2 z3 : Int} (h : RowV w B k v [z0, z1, z2, z3]) : ∃ g cap n0 n1 n2 n3 A0 A1 A2 A3 l0 l1 l2 l3 c0 c1 c2 c3, v = .slice (some ⟨g, 0, none⟩) 4 cap ∧
    Ints w k B g 4 (pick n0 n1 n2 n3) (pick A0 A1 A2 A3) (pick l0 l1 l2 l3) (pick c0 c1 c2 c3) (pick z0 z1 z2 z3) := by
  obtain ⟨cs, h1, -, h3⟩ := h; obtain ⟨g, cap, hv, -, hlt, hc⟩ := h1.cells (by simp); obtain ⟨n0, A0, l0, c0, a0, b0, q0⟩ := h3 0 z0 rfl; obtain ⟨n1, A1, l1, c1, a1, b1, q1⟩ := h3 1 z1 rfl; obtain ⟨n2, A2, l2, c2, a2, b2, q2⟩ := h3 2 z2 rfl; obtain ⟨n3, A3, l3, c3, a3, b3, q3⟩ := h3 3 z3 rfl; refine ⟨g, cap, n0, n1, n2, n3, A0, A1, A2, A3, l0, l1, l2, l3, c0, c1, c2, c3, hv, hlt, fun i hi => ?_, fun i hi => ?_, fun i hi => ?_⟩
  all_goals obtain rfl | rfl | rfl | rfl : i = 0 ∨ i = 1 ∨ i = 2 ∨ i = 3 := by omega
  · exact hc _ _ a0
  · exact hc _ _ a1
  · exact hc _ _ a2
  · exact hc _ _ a3
  · exact hc _ _ b0
  · exact hc _ _ b1
  · exact hc _ _ b2
  · exact hc _ _ b3
  · exact q0
  · exact q1
  · exact q2
  · exact q3
end
end Go.Proofs.YtnephejalollfaaGreat
end
section
set_option linter.unusedVariables false
set_option linter.unusedSimpArgs false
namespace Go.Proofs.YtnephejalollfaaGreat
open Go.RowKit
open L (val dig nth)
/-- A row of one's own, of integers that may be elder. -/
def RowW (w : World) (B k : Nat) (v : Value) (zs : List Int) : Prop :=
  ∃ cs, IRow w B v zs.length cs ∧ (∀ g, v.ownBlock = some g → BoxAt w g) ∧ ∀ (j : Nat) (z : Int), zs[j]? = some z → ∃ n A l c, cs[2 * j]? = some (.bool n) ∧ cs[2 * j + 1]? = some (.slice A l c) ∧ QB w 0 k n A l c z
section
variable {w w' : World} {B k : Nat} {v : Value} {zs : List Int}
theorem RowW.nil (w : World) (B k : Nat) : RowW w B k (.slice none 0 0) [] := by
  refine ⟨[], IRow.nil w B, ?_, ?_⟩
  · intro g h
    cases h
  · intro j z h
    simp at h
theorem RowW.lt (h : RowW w B k v zs) : ∀ g, v.ownBlock = some g → B ≤ g ∧ g < w.heap.size := by
  obtain ⟨cs, h1, -, -⟩ := h; exact h1.lt
/-- Another row may grow, or the world. -/
theorem RowW.step (h : RowW w B k v zs) {r : Option Nat} (hg : w.grownBy w' r) (hne : v.ownBlock = none ∨ v.ownBlock ≠ r) (he : Ext w w') : RowW w' B k v zs := by
  obtain ⟨cs, h1, h2, h3⟩ := h; refine ⟨cs, h1.grown hg hne, fun g hgv => ?_, fun j z hz => ?_⟩
  · obtain ⟨cs', t, a, b⟩ := h2 g hgv
    refine ⟨cs', t, (hg.block g (h1.lt g hgv).2 (fun e => ?_)).trans a, b⟩
    rcases hne with h | h
    · rw [h] at hgv; cases hgv
    · exact h (hgv.trans e)
  · obtain ⟨n, A, l, c, a, b, d⟩ := h3 j z hz
    exact ⟨n, A, l, c, a, b, d.ext he⟩
theorem RowW.below (h : RowW w B k v zs) (hb : Below w.heap.size w w') : RowW w' B k v zs :=
  h.step (r := none) ⟨hb.os, hb.tape, hb.output, hb.size, fun k hk _ => hb.block k hk⟩ (by cases v.ownBlock <;> simp) (ext_of hb)
theorem RowW.push (h : RowW w B k v zs) {g : Nat} {n : Bool} {A : Option Addr} {l c : Nat} {z : Int} (hb : Blk w g 24 #[.bool n, .slice A l c]) (hq : QB w 0 k n A l c z) (hl : zs.length ≤ 1000) (hB : B ≤ w.heap.size) (ty : TypeId) :
    ∃ v' w', (Builtin.append_ #[50, 50] ty #[v, .slice (some ⟨g, 0, none⟩) 1 1]).run Tryz.prog w = .ok v' w' ∧ RowW w' B k v' (zs ++ [z]) ∧ w.grownBy w' v.ownBlock ∧ (v'.ownBlock = v.ownBlock ∨ ∃ k, v'.ownBlock = some k ∧ w.heap.size ≤ k) ∧ Ext w w' := by
  obtain ⟨cs, h1, h2, h3⟩ := h; obtain ⟨v', w', a1, a2, a3, a4, a5, a6⟩ := appendI_run w B v zs.length cs h1 g (.bool n) (.slice A l c) rfl rfl hb hl hB ty (noU_int n A l c) h2; have hlen : cs.length = 2 * zs.length := by have := h1.1; omega
  refine ⟨v', w', a1, ⟨cs ++ [.bool n, .slice A l c], by rw [List.length_append]; exact a2, a5, fun j y hy => ?_⟩, a3, a4, a6⟩
  rcases Nat.lt_or_ge j zs.length with hj | hj
  · rw [List.getElem?_append_left hj] at hy
    obtain ⟨n', A', l', c', b1, b2, b3⟩ := h3 j y hy; exact ⟨n', A', l', c', by rw [List.getElem?_append_left (by omega)]; exact b1, by rw [List.getElem?_append_left (by omega)]; exact b2, b3.ext a6⟩
  · rw [List.getElem?_append_right hj] at hy
    have hj0 : j - zs.length = 0 := by
      rcases Nat.eq_zero_or_pos (j - zs.length) with h | h
      · exact h
      · rw [List.getElem?_eq_none (by simp; omega)] at hy; cases hy
    rw [hj0] at hy; have hy' : z = y := Option.some.inj hy; subst hy'; refine ⟨n, A, l, c, ?_, ?_, hq.ext a6⟩
    · rw [List.getElem?_append_right (by omega), show 2 * j - cs.length = 0 by omega]; rfl
    · rw [List.getElem?_append_right (by omega), show 2 * j + 1 - cs.length = 1 by omega]; rfl
/-- One box was written. -/
theorem RowW.low1 (h : RowW w B k v zs) {X : List Nat} {g : Nat} (hl : Low X w w') (hX : ∀ x ∈ X, x = g) (hne : v.ownBlock ≠ some g) : RowW w' B k v zs :=
  h.step (r := some g) ⟨hl.os, hl.tape, hl.output, hl.size, fun k hk hn => hl.block k hk (fun hm => hn (by rw [hX k hm]))⟩ (Or.inr hne) hl.ext
/-- What 'append' writes, as a list of blocks. -/
theorem low_own {r : Option Nat} (hg : w.grownBy w' r) (he : Ext w w') : Low r.toList w w' :=
  ⟨hg.os, hg.tape, hg.output, hg.size, fun i hi hX => hg.block i hi (fun e => hX (by rw [← e]; simp)), he⟩
theorem RowW.far (h : RowW w B k v zs) {g : Nat} (hg : g < B) : g ∉ v.ownBlock.toList := by
  intro hm
  cases hv : v.ownBlock with
  | none => rw [hv] at hm; simp at hm
  | some x =>
    rw [hv] at hm; simp at hm; have := (h.lt x hv).1
    omega
theorem RowW.near (h : RowW w B k v zs) {b : Nat} (hb : b ≤ B) : ∀ x ∈ v.ownBlock.toList, b ≤ x := by
  intro x hm
  cases hv : v.ownBlock with
  | none => rw [hv] at hm; simp at hm
  | some y =>
    rw [hv] at hm; simp at hm; have := (h.lt y hv).1
    omega
theorem RowW.read (h : RowW w B k v zs) (hn : 0 < zs.length) : ∃ g cap, v = .slice (some ⟨g, 0, none⟩) zs.length cap ∧ RowR w g k zs.length (fun j => zs.getD j 0) := by
  obtain ⟨cs, h1, -, h3⟩ := h; obtain ⟨g, cap, hv, -, hlt, hc⟩ := h1.cells hn; refine ⟨g, cap, hv, hlt, fun j hj => ?_⟩; obtain ⟨n, A, l, c, a0, b0, q0⟩ := h3 j (zs.getD j 0) (by rw [List.getD_eq_getElem?_getD, List.getElem?_eq_getElem hj]; rfl); exact ⟨n, A, l, c, by rw [Nat.mul_comm]; exact hc _ _ a0, by rw [Nat.mul_comm]; exact hc _ _ b0, q0⟩
end
/-- The first so many values. -/
def lst (a : Nat → Int) : Nat → List Int
  | 0 => []
  | n + 1 => lst a n ++ [a n]
theorem lst_len (a : Nat → Int) : ∀ n, (lst a n).length = n
  | 0 => rfl
  | n + 1 => by rw [lst, List.length_append, lst_len a n]; rfl
theorem lst_get (a : Nat → Int) (n : Nat) : ∀ j, j < n → (lst a n).getD j 0 = a j := by
  induction n with
  | zero => intro j hj; omega
  | succ n ih =>
    intro j hj; rw [lst, List.getD_eq_getElem?_getD]
    rcases Nat.lt_or_ge j n with h | h
    · rw [List.getElem?_append_left (by rw [lst_len]; exact h), ← List.getD_eq_getElem?_getD]
      exact ih j h
    · obtain rfl : j = n := by omega
      rw [List.getElem?_append_right (by rw [lst_len]; exact Nat.le_refl _), lst_len]; simp
theorem wpList_appendW {ops : Array Oper} {rest : List Oper} {o : Oper} {a : Act} {Q : Exit → Act → World → Prop} {w : World} {B k : Nat} {v : Value} {zs : List Int} (hgd : o.guard = none) (s x : Operand)
    (ho : o.op = .call { callee := .builtin .append, args := #[s, x], argTypes := #[50, 50] })
    (hs : a.eval s = v) (h : RowW w B k v zs) {g : Nat} {n : Bool} {A : Option Addr} {l c : Nat} {z : Int} (hx : a.eval x = .slice (some ⟨g, 0, none⟩) 1 1) (hb : Blk w g 24 #[.bool n, .slice A l c]) (hq : QB w 0 k n A l c z) (hl : zs.length ≤ 1000) (hB : B ≤ w.heap.size)
    (hk : ∀ v' w', RowW w' B k v' (zs ++ [z]) → w.grownBy w' v.ownBlock → (v'.ownBlock = v.ownBlock ∨ ∃ k, v'.ownBlock = some k ∧ w.heap.size ≤ k) → Low v.ownBlock.toList w w' → wpList Tryz.prog ops Q rest (a.put o.dst v') w') : wpList Tryz.prog ops Q (o :: rest) a w :=
  wpList_plain hgd fun _ hK => by
    obtain ⟨v', w', hrun, h2, h3, h4, h5⟩ := h.push hb hq hl hB o.type; unfold Oper.wp execOp; simp only [ho, resolve, invoke, builtin, Sem.run_bind, Sem.run_pure, Result.andThen_ok, List.map_toArray, List.map_cons, List.map_nil, hs, hx, hrun]; exact hK _ _ (hk v' w' h2 h3 h4 (low_own h3 h5))
end Go.Proofs.YtnephejalollfaaGreat
end
