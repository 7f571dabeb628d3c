/- hairlineref06: wave. -/
import Derived.Test.YtnephejalollfaaGreatRh
set_option linter.unusedVariables false
set_option linter.unusedSimpArgs false
namespace Go.Proofs.YtnephejalollfaaGreat
open Go.RowKit
open L (val dig nth)
theorem RowW.ne {w : World} {B k : Nat} {v : Value} {zs : List Int} (h : RowW w B k v zs) {g : Nat} (hg : g < B) : v.ownBlock ≠ some g := fun e => by have := (h.lt g e).1; omega
theorem RowR.congr {w : World} {g k L : Nat} {a b : Nat → Int} (h : RowR w g k L a) (e : ∀ j, j < L → a j = b j) : RowR w g k L b :=
  ⟨h.1, fun j hj => by rw [← e j hj]; exact h.2 j hj⟩
def Apart (u v : Value) : Prop := ∀ g, u.ownBlock = some g → v.ownBlock = some g → False
theorem Apart.nil : Apart (.slice none 0 0) (.slice none 0 0) := fun g h => by cases h
theorem Apart.symm {u v : Value} (h : Apart u v) : Apart v u := fun g a b => h g b a
theorem Apart.or {u v : Value} (h : Apart u v) : v.ownBlock = none ∨ v.ownBlock ≠ u.ownBlock := by
  cases hv : v.ownBlock with
  | none => exact Or.inl rfl
  | some g => exact Or.inr (fun e => h g e.symm hv)
theorem Apart.grow {u v u' : Value} {n : Nat} (h : Apart u v) (ho : u'.ownBlock = u.ownBlock ∨ ∃ b, u'.ownBlock = some b ∧ n ≤ b) (hv : ∀ g, v.ownBlock = some g → g < n) : Apart u' v := by
  intro g a b
  rcases ho with ho | ⟨c, ho, hc⟩
  · exact h g (ho ▸ a) b
  · rw [ho] at a
    have e : c = g := Option.some.inj a; have := hv g b
    omega
theorem RowW.read_lst {w : World} {B k L : Nat} {v : Value} {a : Nat → Int} (h : RowW w B k v (lst a L)) (hn : 0 < L) : ∃ g cap, v = .slice (some ⟨g, 0, none⟩) L cap ∧ B ≤ g ∧ RowR w g k L a := by
  obtain ⟨g, cap, hv, hr⟩ := h.read (by rw [lst_len]; exact hn); rw [lst_len] at hv hr; exact ⟨g, cap, hv, (h.lt g (by rw [hv]; rfl)).1, hr.congr (fun j hj => lst_get a L j hj)⟩
theorem alloc_below (w : World) (o : Obj) : Below w.heap.size w (w.alloc o) := (Below.refl _ _).alloc (Nat.le_refl _) _
set_option maxHeartbeats 4000000 in
set_option maxRecDepth 100000 in
theorem waveSin_calls {w : World} {N : Nat} {k0 k1 : Nat} {n0 n1 : Bool} {A0 A1 : Option Addr} {l0 l1 c0 c1 : Nat} {x0 x1 : Int} {q : Int} (h0 : Q w k0 n0 A0 l0 c0 x0) (h1 : QB w 0 k1 n1 A1 l1 c1 x1) (hk0 : k0 ≤ 40) (hk1 : k1 ≤ 40) (hq0 : 0 ≤ q) (hq1 : q ≤ 1200) (hN : N ≤ 400) (HA : Hid (∀ i, i ≤ 2 * N + 1 → ((rA (dSin q) (x0 * x0) x1) i).natAbs < W ^ 40)) (HB_ : Hid (∀ i, i ≤ 2 * N + 1 → ((rB (dSin q) (x0 * x0) x1) i).natAbs < W ^ 40)) (HS : Hid (∀ i, i ≤ 2 * N + 1 → (tu (rA (dSin q) (x0 * x0) x1) (rB (dSin q) (x0 * x0) x1) i).natAbs < W ^ 40)) (HT : Hid (∀ i, i ≤ 2 * N + 1 → (tu (rB (dSin q) (x0 * x0) x1) (rA (dSin q) (x0 * x0) x1) i).natAbs < W ^ 40)) :
    Calls Tryz.prog 27 #[.agg #[.bool n0, .slice A0 l0 c0], .agg #[.bool n1, .slice A1 l1 c1], .bool true, .int .i64 q, .int .i64 (N : Nat)] w fun e w' => Below w.heap.size w w' ∧ VF (Fact.t2 (Fact.z 40 (tu (rA (dSin q) (x0 * x0) x1) (rB (dSin q) (x0 * x0) x1) (2 * N))) (Fact.z 40 (tu (rB (dSin q) (x0 * x0) x1) (rA (dSin q) (x0 * x0) x1) (2 * N + 1)))) e w' := by
 obtain ⟨L, hL⟩ : ∃ L, Hid (L = 2 * N + 1) := ⟨_, hide rfl⟩; have hLN : L ≤ 801 := by have := hL.out; omega
 go_enter Tryz.func27, Tryz.ntmps27
 have HB : Hid (Below w.heap.size w w) := hide (Below.refl _ _)
 go_upto_region 0 with (fail)
 refine F2.regionS [.al 24 #[.bool n0, .slice A0 l0 c0], .al 24 #[.bool n1, .slice A1 l1 c1], .al 24 #[.bool false, .slice none 0 0], .al 24 #[.bool false, .slice none 0 0]] [Fact.any, Fact.any, Fact.any, Fact.any] [5, 6, 10, 11] [5, 6, 10, 11] (by kernel_rfl) ?soa ?sopa (by kernel_rfl) ?sta ?fina
 case soa => exact fun x hx => by cases hx
 case sopa => exact List.Pairwise.nil
 case sta =>
  refine F2.Steps.consA rfl ⟨NoU.two nB nS, ?_⟩ ?_
  ·
   intro vz wz hBz K hK; simp only [zy, F2.Wp] at hK ⊢; go_simp; exact hK
  refine F2.Steps.consA rfl ⟨NoU.two nB nS, ?_⟩ ?_
  ·
   intro vz wz hBz K hK; simp only [zy, F2.Wp] at hK ⊢; go_simp; exact hK
  refine F2.Steps.consA rfl ⟨NoU.two nB nS, ?_⟩ ?_
  ·
   intro vz wz hBz K hK; simp only [zy, F2.Wp] at hK ⊢; go_simp; exact hK
  refine F2.Steps.consA rfl ⟨NoU.two nB nS, ?_⟩ ?_
  ·
   intro vz wz hBz K hK; simp only [zy, F2.Wp] at hK ⊢; go_simp; exact hK
  exact F2.Steps.nil
 intro va w1 hBz ⟨hOz, hAz, hNz, hSz⟩; obtain ⟨g5, cs5, E5, hg5, bx5, hs5, hz5⟩ := hAz 0 _ _ (by decide) rfl; have hzz := hz5 (F2.nost (by kernel_rfl)); subst hzz; obtain ⟨g6, cs6, E6, hg6, bx6, hs6, hz6⟩ := hAz 1 _ _ (by decide) rfl; have hzz := hz6 (F2.nost (by kernel_rfl)); subst hzz; obtain ⟨g10, cs10, E10, hg10, bx10, hs10, hz10⟩ := hAz 2 _ _ (by decide) rfl; have hzz := hz10 (F2.nost (by kernel_rfl)); subst hzz; obtain ⟨g11, cs11, E11, hg11, bx11, hs11, hz11⟩ := hAz 3 _ _ (by decide) rfl; have hzz := hz11 (F2.nost (by kernel_rfl)); subst hzz; have hne5_6 : Hid (¬ g5 = g6) := hide (fun h => hNz 0 1 _ _ _ _ (by decide) (by decide) (by decide) rfl rfl (by rw [E5, E6, h])); have hne5_10 : Hid (¬ g5 = g10) := hide (fun h => hNz 0 2 _ _ _ _ (by decide) (by decide) (by decide) rfl rfl (by rw [E5, E10, h])); have hne5_11 : Hid (¬ g5 = g11) := hide (fun h => hNz 0 3 _ _ _ _ (by decide) (by decide) (by decide) rfl rfl (by rw [E5, E11, h])); have hne6_10 : Hid (¬ g6 = g10) := hide (fun h => hNz 1 2 _ _ _ _ (by decide) (by decide) (by decide) rfl rfl (by rw [E6, E10, h])); have hne6_11 : Hid (¬ g6 = g11) := hide (fun h => hNz 1 3 _ _ _ _ (by decide) (by decide) (by decide) rfl rfl (by rw [E6, E11, h])); have hne10_11 : Hid (¬ g10 = g11) := hide (fun h => hNz 2 3 _ _ _ _ (by decide) (by decide) (by decide) rfl rfl (by rw [E10, E11, h])); simp only [Act.put, actv, fill, fC, fN, tA, cS, cZ]; simp only [(show va 5 = _ from E5), (show va 6 = _ from E6), (show va 10 = _ from E10), (show va 11 = _ from E11)]; clear E5 E6 E10 E11; have hge5 : w.heap.size ≤ g5 := Nat.le_trans HB.out.size hg5; have hge6 : w.heap.size ≤ g6 := Nat.le_trans HB.out.size hg6; have hge10 : w.heap.size ≤ g10 := Nat.le_trans HB.out.size hg10; have hge11 : w.heap.size ≤ g11 := Nat.le_trans HB.out.size hg11; replace h0 := h0.ext hBz.ext; replace h1 := h1.ext hBz.ext; replace HB := hide (HB.out.trans (hBz.below (B := w.heap.size) HB.out.size zE)); clear hOz hAz hNz hSz hs5 hz5 hs6 hz6 hs10 hz10 hs11 hz11 hBz
 go_upto_region 1 with (fail)
 refine F2.regionS [.o, .o, .o, .al 24 #[.bool false, .slice none 0 0], .st 3] [Fact.eq ?cb19_, Fact.eq ?cb20_, Fact.z ?kb21_ ?zb21_, Fact.any, Fact.z ?kbs12_ ?zbs12_] [19, 20, 21, 12] [19, 20, 21, 12, 0] (by kernel_rfl) ?sob ?sopb (by kernel_rfl) ?stb ?finb
 case sob => exact fun x hx => by cases hx
 case sopb => exact List.Pairwise.nil
 case stb =>
  refine F2.Steps.consO rfl ?_ ?_
  ·
   intro vz wz hBz hDz hTz K hK; have HW := hBz.ext; have bx5z := hBz.blk bx5 zN; obtain ⟨zl0, zl1, -⟩ := bx5z.two; simp only [zy, F2.Wp] at hK ⊢; go_simp; refine hK _ wz zB (Fact.eq_mk ?_); with_reducible rfl
  refine F2.Steps.consO rfl ?_ ?_
  ·
   intro vz wz hBz hDz hTz K hK; have HW := hBz.ext; have bx5z := hBz.blk bx5 zN; obtain ⟨zl0, zl1, -⟩ := bx5z.two; simp only [zy, F2.Wp] at hK ⊢; go_simp; refine hK _ wz zB (Fact.eq_mk ?_); with_reducible rfl
  refine F2.Steps.consO rfl ?_ ?_
  ·
   intro vz wz hBz hDz hTz K hK; have E19 : vz 19 = _ := hDz 0 (by kernel_rfl) rfl; have E20 : vz 20 = _ := hDz 1 (by kernel_rfl) rfl; have HW := hBz.ext; simp only [zy, F2.Wp] at hK ⊢; simp only [E19, E20] at hK ⊢; go_simp; refine Calls.mono (u_mul (h0.ext HW) (h0.ext HW) (by omega) (by omega)) ?_; rintro e w2z ⟨hb2, uz, rfl, hf⟩; refine hK _ w2z hb2 (Fact.cast (hf) ?_); with_reducible rfl
  refine F2.Steps.consA rfl ⟨NoU.two nB nS, ?_⟩ ?_
  ·
   intro vz wz hBz K hK; simp only [zy, F2.Wp] at hK ⊢; go_simp; exact hK
  refine F2.Steps.consS rfl rfl ?_ ?_
  ·
   intro vz wz gz hBz hDz E12' hgz hbz K hK; obtain ⟨zc0, zc1, zc2, zc3⟩ := hbz.two; obtain ⟨n21_, A21_, l21_, c21_, E21, q21⟩ : IntV 0 _ _ wz (vz 21) := hDz 2 (by kernel_rfl) rfl; have E12 : vz 12 = .pointer (some ⟨gz, 0, none⟩) := E12'; have HW := hBz.ext; simp only [zy, F2.Wp] at hK ⊢; simp only [E12, E21] at hK ⊢; go_simp; refine hK _ ((Far.set _ gz 0 _).trans (Far.set _ gz 1 _)) ⟨_, blk_two hbz, NoU.two nB nS, Fact.cast (Fact.z_mk q21) ?_⟩; with_reducible rfl
  exact F2.Steps.nil
 intro vb w2 hBz ⟨hOz, hAz, hNz, hSz⟩; have E19 : vb 19 = _ := hOz 0 (by decide) rfl; have E20 : vb 20 = _ := hOz 1 (by decide) rfl; obtain ⟨n21_, A21_, l21_, c21_, E21, q21⟩ : IntV 0 _ _ w2 (vb 21) := hOz 2 (by decide) rfl; obtain ⟨g12, cs12, E12, hg12, bx12, hs12, hz12⟩ := hAz 3 _ _ (by decide) rfl; obtain ⟨n12sb_, A12sb_, l12sb_, c12sb_, E12sb, q12sb⟩ : IntV 0 _ _ w2 (.agg cs12) := hs12 4 (by decide) rfl; injection E12sb with E12sb
 subst E12sb; simp only [Act.put, actv, fill, fC, fN, tA, cS, cZ]; simp only [E19, E20, E21, (show vb 12 = _ from E12)]; clear E19 E20 E21 E12; have hge12 : w.heap.size ≤ g12 := Nat.le_trans HB.out.size hg12; have hne12_5 := hide (Nat.ne_of_gt (Nat.lt_of_lt_of_le bx5.lt (show w1.heap.size ≤ g12 from hg12))); have hne12_6 := hide (Nat.ne_of_gt (Nat.lt_of_lt_of_le bx6.lt (show w1.heap.size ≤ g12 from hg12))); have hne12_10 := hide (Nat.ne_of_gt (Nat.lt_of_lt_of_le bx10.lt (show w1.heap.size ≤ g12 from hg12))); have hne12_11 := hide (Nat.ne_of_gt (Nat.lt_of_lt_of_le bx11.lt (show w1.heap.size ≤ g12 from hg12))); replace h0 := h0.ext hBz.ext; replace h1 := h1.ext hBz.ext; replace bx5 := hBz.blk bx5 zN; replace bx6 := hBz.blk bx6 zN; replace bx10 := hBz.blk bx10 zN; replace bx11 := hBz.blk bx11 zN; replace HB := hide (HB.out.trans (hBz.below (B := w.heap.size) HB.out.size zE)); clear hOz hAz hNz hSz hs12 hz12 hBz
 go_upto_region 2 with (fail)
 refine F2.regionS [.o, .al 24 #[.bool false, .slice none 0 0], .st 1] [Fact.eq ?cc22_, Fact.any, Fact.z ?kcs13_ ?zcs13_] [22, 13] [22, 13, 0] (by kernel_rfl) ?soc ?sopc (by kernel_rfl) ?stc ?finc
 case soc => exact fun x hx => by cases hx
 case sopc => exact List.Pairwise.nil
 case stc =>
  refine F2.Steps.consO rfl ?_ ?_
  ·
   intro vz wz hBz hDz hTz K hK; have HW := hBz.ext; have bx6z := hBz.blk bx6 zN; obtain ⟨zl0, zl1, -⟩ := bx6z.two; simp only [zy, F2.Wp] at hK ⊢; go_simp; refine hK _ wz zB (Fact.eq_mk ?_); with_reducible rfl
  refine F2.Steps.consA rfl ⟨NoU.two nB nS, ?_⟩ ?_
  ·
   intro vz wz hBz K hK; simp only [zy, F2.Wp] at hK ⊢; go_simp; exact hK
  refine F2.Steps.consS rfl rfl ?_ ?_
  ·
   intro vz wz gz hBz hDz E13' hgz hbz K hK; obtain ⟨zc0, zc1, zc2, zc3⟩ := hbz.two; have E22 : vz 22 = _ := hDz 0 (by kernel_rfl) rfl; have E13 : vz 13 = .pointer (some ⟨gz, 0, none⟩) := E13'; have HW := hBz.ext; simp only [zy, F2.Wp] at hK ⊢; simp only [E13, E22] at hK ⊢; go_simp; refine hK _ ((Far.set _ gz 0 _).trans (Far.set _ gz 1 _)) ⟨_, blk_two hbz, NoU.two nB nS, Fact.cast (Fact.z_mk (h1.ext HW)) ?_⟩; with_reducible rfl
  exact F2.Steps.nil
 intro vc w3 hBz ⟨hOz, hAz, hNz, hSz⟩; have E22 : vc 22 = _ := hOz 0 (by decide) rfl; obtain ⟨g13, cs13, E13, hg13, bx13, hs13, hz13⟩ := hAz 1 _ _ (by decide) rfl; obtain ⟨n13sc_, A13sc_, l13sc_, c13sc_, E13sc, q13sc⟩ : IntV 0 _ _ w3 (.agg cs13) := hs13 2 (by decide) rfl; injection E13sc with E13sc
 subst E13sc; simp only [Act.put, actv, fill, fC, fN, tA, cS, cZ]; simp only [E22, (show vc 13 = _ from E13)]; clear E22 E13; have hge13 : w.heap.size ≤ g13 := Nat.le_trans HB.out.size hg13; have hne13_5 := hide (Nat.ne_of_gt (Nat.lt_of_lt_of_le bx5.lt (show w2.heap.size ≤ g13 from hg13))); have hne13_6 := hide (Nat.ne_of_gt (Nat.lt_of_lt_of_le bx6.lt (show w2.heap.size ≤ g13 from hg13))); have hne13_10 := hide (Nat.ne_of_gt (Nat.lt_of_lt_of_le bx10.lt (show w2.heap.size ≤ g13 from hg13))); have hne13_11 := hide (Nat.ne_of_gt (Nat.lt_of_lt_of_le bx11.lt (show w2.heap.size ≤ g13 from hg13))); have hne13_12 := hide (Nat.ne_of_gt (Nat.lt_of_lt_of_le bx12.lt (show w2.heap.size ≤ g13 from hg13))); replace h0 := h0.ext hBz.ext; replace h1 := h1.ext hBz.ext; replace q12sb := q12sb.ext hBz.ext; replace bx5 := hBz.blk bx5 zN; replace bx6 := hBz.blk bx6 zN; replace bx10 := hBz.blk bx10 zN; replace bx11 := hBz.blk bx11 zN; replace bx12 := hBz.blk bx12 zN; replace HB := hide (HB.out.trans (hBz.below (B := w.heap.size) HB.out.size zE)); clear hOz hAz hNz hSz hs13 hz13 hBz
 go_upto_region 3 with (fail)
 refine F2.regionS [.o, .al 24 #[.bool false, .slice none 0 0], .st 1] [Fact.eq ?cd23_, Fact.any, Fact.z ?kds14_ ?zds14_] [23, 14] [23, 14, 0] (by kernel_rfl) ?sod ?sopd (by kernel_rfl) ?std ?find
 case sod => exact fun x hx => by cases hx
 case sopd => exact List.Pairwise.nil
 case std =>
  refine F2.Steps.consO rfl ?_ ?_
  ·
   intro vz wz hBz hDz hTz K hK; have HW := hBz.ext; have bx6z := hBz.blk bx6 zN; obtain ⟨zl0, zl1, -⟩ := bx6z.two; simp only [zy, F2.Wp] at hK ⊢; go_simp; refine hK _ wz zB (Fact.eq_mk ?_); with_reducible rfl
  refine F2.Steps.consA rfl ⟨NoU.two nB nS, ?_⟩ ?_
  ·
   intro vz wz hBz K hK; simp only [zy, F2.Wp] at hK ⊢; go_simp; exact hK
  refine F2.Steps.consS rfl rfl ?_ ?_
  ·
   intro vz wz gz hBz hDz E14' hgz hbz K hK; obtain ⟨zc0, zc1, zc2, zc3⟩ := hbz.two; have E23 : vz 23 = _ := hDz 0 (by kernel_rfl) rfl; have E14 : vz 14 = .pointer (some ⟨gz, 0, none⟩) := E14'; have HW := hBz.ext; simp only [zy, F2.Wp] at hK ⊢; simp only [E14, E23] at hK ⊢; go_simp; refine hK _ ((Far.set _ gz 0 _).trans (Far.set _ gz 1 _)) ⟨_, blk_two hbz, NoU.two nB nS, Fact.cast (Fact.z_mk (h1.ext HW)) ?_⟩; with_reducible rfl
  exact F2.Steps.nil
 intro vd w4 hBz ⟨hOz, hAz, hNz, hSz⟩; have E23 : vd 23 = _ := hOz 0 (by decide) rfl; obtain ⟨g14, cs14, E14, hg14, bx14, hs14, hz14⟩ := hAz 1 _ _ (by decide) rfl; obtain ⟨n14sd_, A14sd_, l14sd_, c14sd_, E14sd, q14sd⟩ : IntV 0 _ _ w4 (.agg cs14) := hs14 2 (by decide) rfl; injection E14sd with E14sd
 subst E14sd; simp only [Act.put, actv, fill, fC, fN, tA, cS, cZ]; simp only [E23, (show vd 14 = _ from E14)]; clear E23 E14; have hge14 : w.heap.size ≤ g14 := Nat.le_trans HB.out.size hg14; have hne14_5 := hide (Nat.ne_of_gt (Nat.lt_of_lt_of_le bx5.lt (show w3.heap.size ≤ g14 from hg14))); have hne14_6 := hide (Nat.ne_of_gt (Nat.lt_of_lt_of_le bx6.lt (show w3.heap.size ≤ g14 from hg14))); have hne14_10 := hide (Nat.ne_of_gt (Nat.lt_of_lt_of_le bx10.lt (show w3.heap.size ≤ g14 from hg14))); have hne14_11 := hide (Nat.ne_of_gt (Nat.lt_of_lt_of_le bx11.lt (show w3.heap.size ≤ g14 from hg14))); have hne14_12 := hide (Nat.ne_of_gt (Nat.lt_of_lt_of_le bx12.lt (show w3.heap.size ≤ g14 from hg14))); have hne14_13 := hide (Nat.ne_of_gt (Nat.lt_of_lt_of_le bx13.lt (show w3.heap.size ≤ g14 from hg14))); replace h0 := h0.ext hBz.ext; replace h1 := h1.ext hBz.ext; replace q12sb := q12sb.ext hBz.ext; replace q13sc := q13sc.ext hBz.ext; replace bx5 := hBz.blk bx5 zN; replace bx6 := hBz.blk bx6 zN; replace bx10 := hBz.blk bx10 zN; replace bx11 := hBz.blk bx11 zN; replace bx12 := hBz.blk bx12 zN; replace bx13 := hBz.blk bx13 zN; replace HB := hide (HB.out.trans (hBz.below (B := w.heap.size) HB.out.size zE)); clear hOz hAz hNz hSz hs14 hz14 hBz
 go_wp2_with fail
 have hl5 := bx5.lt; have hl6 := bx6.lt; have hl10 := bx10.lt; have hl11 := bx11.lt; have hl12 := bx12.lt; have hl13 := bx13.lt; have hl14 := bx14.lt; have hbL := HB.out.size
 go_loopw [15, 16, 17] (fun ra_ rb_ iv wr1 => ∃ i : Nat, i ≤ L ∧ iv = .int .i64 ((i : Int) + 1) ∧ Low [g13, g14] w4 wr1 ∧ RowW wr1 w4.heap.size 40 ra_ (lst (rA (dSin q) (x0 * x0) x1) i) ∧ RowW wr1 w4.heap.size 40 rb_ (lst (rB (dSin q) (x0 * x0) x1) i) ∧ Apart ra_ rb_ ∧ (∃ n13a A13a l13a c13a, Blk wr1 (g13) 24 #[.bool n13a, .slice A13a l13a c13a] ∧ QB wr1 0 (40) n13a A13a l13a c13a ((rA (dSin q) (x0 * x0) x1) i)) ∧ (∃ n14a A14a l14a c14a, Blk wr1 (g14) 24 #[.bool n14a, .slice A14a l14a c14a] ∧ QB wr1 0 (40) n14a A14a l14a c14a ((rB (dSin q) (x0 * x0) x1) i))) (fun _ _ iv _ => L + 1 - (intOf iv).toNat)
 case atStart => exact ⟨0, by omega, rfl, Low.refl _ _, RowW.nil _ _ _, RowW.nil _ _ _, Apart.nil, ⟨_, _, _, _, bx13, (q13sc.up (by omega))⟩, ⟨_, _, _, _, bx14, (q14sd.up (by omega))⟩⟩
 case round =>
  obtain ⟨i, hi, rfl, HL, ha, hb, hap, ⟨n13a, A13a, l13a, c13a, bx13, q13a⟩, ⟨n14a, A14a, l14a, c14a, bx14, q14a⟩⟩ := hrel; replace h0 := h0.ext HL.ext; replace h1 := h1.ext HL.ext; replace q12sb := q12sb.ext HL.ext; replace bx5 := HL.blk bx5 (zM (Ne.symm hne13_5.out) (zM (Ne.symm hne14_5.out) zN)); replace bx6 := HL.blk bx6 (zM (Ne.symm hne13_6.out) (zM (Ne.symm hne14_6.out) zN)); replace bx10 := HL.blk bx10 (zM (Ne.symm hne13_10.out) (zM (Ne.symm hne14_10.out) zN)); replace bx11 := HL.blk bx11 (zM (Ne.symm hne13_11.out) (zM (Ne.symm hne14_11.out) zN)); replace bx12 := HL.blk bx12 (zM (Ne.symm hne13_12.out) (zM (Ne.symm hne14_12.out) zN)); replace HB := hide (HB.out.trans (HL.below (B := w.heap.size) HB.out.size (zA hge13 (zA hge14 zE))))
  by_cases hlt : i < L
  ·
   have hlt' : (i : Int) + 1 ≤ 2 * (N : Int) + 1 := by have := hL.out; omega
   obtain ⟨bx5c0, bx5c1, -⟩ := bx5.two; obtain ⟨bx6c0, bx6c1, -⟩ := bx6.two; obtain ⟨bx10c0, bx10c1, -⟩ := bx10.two; obtain ⟨bx11c0, bx11c1, -⟩ := bx11.two; obtain ⟨bx12c0, bx12c1, -⟩ := bx12.two; obtain ⟨bx13c0, bx13c1, -⟩ := bx13.two; obtain ⟨bx14c0, bx14c1, -⟩ := bx14.two; have HBA := alloc_below wr (.cells #[.bool n13a, .slice A13a l13a c13a] 24); have hszA : w4.heap.size ≤ (wr.alloc (.cells #[.bool n13a, .slice A13a l13a c13a] 24)).heap.size := Nat.le_trans HL.size HBA.size
   go_upto_region 10 with (at_builtin; refine wpList_appendW rfl _ _ rfl rfl (ha.below HBA) rfl (Blk.new _ _ _) (q13a.ext (ext_of HBA)) (by rw [lst_len]; omega) hszA ?_; intro va9 w5 han hgr hown hlow)
   clear bx5c0 bx5c1 bx6c0 bx6c1 bx10c0 bx10c1 bx11c0 bx11c1 bx12c0 bx12c1 bx13c0 bx13c1 bx14c0 bx14c1; have HZ : Low u15.ownBlock.toList wr w5 := ((Low.refl u15.ownBlock.toList wr).grow HBA).step hlow (fun g hg => Or.inl hg); have hap0 : Apart u15 u16 := hap; replace hap := hap0.grow hown (fun g hg => ((hb.below HBA).lt g hg).2); replace hb := (hb.below HBA).step hgr (Apart.or hap0) hlow.ext; replace h0 := h0.ext HZ.ext; replace h1 := h1.ext HZ.ext; replace q12sb := q12sb.ext HZ.ext; replace q13a := q13a.ext HZ.ext; replace q14a := q14a.ext HZ.ext; replace bx5 := HZ.blk bx5 (ha.far hl5); replace bx6 := HZ.blk bx6 (ha.far hl6); replace bx10 := HZ.blk bx10 (ha.far hl10); replace bx11 := HZ.blk bx11 (ha.far hl11); replace bx12 := HZ.blk bx12 (ha.far hl12); replace bx13 := HZ.blk bx13 (ha.far hl13); replace bx14 := HZ.blk bx14 (ha.far hl14); replace HB := hide (HB.out.trans (HZ.below (B := w.heap.size) HB.out.size (ha.near hbL))); replace HL := HL.step HZ (fun g hg => Or.inr (ha.near (Nat.le_refl _) g hg)); clear ha HBA hszA hgr hown hlow HZ hap0; have ha := han; clear han; obtain ⟨bx5c0, bx5c1, -⟩ := bx5.two; obtain ⟨bx6c0, bx6c1, -⟩ := bx6.two; obtain ⟨bx10c0, bx10c1, -⟩ := bx10.two; obtain ⟨bx11c0, bx11c1, -⟩ := bx11.two; obtain ⟨bx12c0, bx12c1, -⟩ := bx12.two; obtain ⟨bx13c0, bx13c1, -⟩ := bx13.two; obtain ⟨bx14c0, bx14c1, -⟩ := bx14.two; have HBA := alloc_below w5 (.cells #[.bool n14a, .slice A14a l14a c14a] 24); have hszA : w4.heap.size ≤ (w5.alloc (.cells #[.bool n14a, .slice A14a l14a c14a] 24)).heap.size := Nat.le_trans HL.size HBA.size
   go_upto_region 11 with (at_builtin; refine wpList_appendW rfl _ _ rfl rfl (hb.below HBA) rfl (Blk.new _ _ _) (q14a.ext (ext_of HBA)) (by rw [lst_len]; omega) hszA ?_; intro vb10 w6 hbn hgr hown hlow)
   clear bx5c0 bx5c1 bx6c0 bx6c1 bx10c0 bx10c1 bx11c0 bx11c1 bx12c0 bx12c1 bx13c0 bx13c1 bx14c0 bx14c1; have HZ : Low u16.ownBlock.toList w5 w6 := ((Low.refl u16.ownBlock.toList w5).grow HBA).step hlow (fun g hg => Or.inl hg); have hap0 : Apart u16 va9 := hap.symm; replace hap := (hap0.grow hown (fun g hg => ((ha.below HBA).lt g hg).2)).symm; replace ha := (ha.below HBA).step hgr (Apart.or hap0) hlow.ext; replace h0 := h0.ext HZ.ext; replace h1 := h1.ext HZ.ext; replace q12sb := q12sb.ext HZ.ext; replace q13a := q13a.ext HZ.ext; replace q14a := q14a.ext HZ.ext; replace bx5 := HZ.blk bx5 (hb.far hl5); replace bx6 := HZ.blk bx6 (hb.far hl6); replace bx10 := HZ.blk bx10 (hb.far hl10); replace bx11 := HZ.blk bx11 (hb.far hl11); replace bx12 := HZ.blk bx12 (hb.far hl12); replace bx13 := HZ.blk bx13 (hb.far hl13); replace bx14 := HZ.blk bx14 (hb.far hl14); replace HB := hide (HB.out.trans (HZ.below (B := w.heap.size) HB.out.size (hb.near hbL))); replace HL := HL.step HZ (fun g hg => Or.inr (hb.near (Nat.le_refl _) g hg)); clear hb HBA hszA hgr hown hlow HZ hap0; have hb := hbn; clear hbn
   have hc1 : 1 ≤ (2 * ((i : Int) + 1) - 1) * 2 * ((i : Int) + 1) ∧ (2 * ((i : Int) + 1) - 1) * 2 * ((i : Int) + 1) ≤ 1000000000 := by
    have h1 : (1 * 2) * 1 ≤ (2 * ((i : Int) + 1) - 1) * 2 * ((i : Int) + 1) := Int.mul_le_mul (by omega) (by omega) (by omega) (by omega); have h2 : (2 * ((i : Int) + 1) - 1) * 2 * ((i : Int) + 1) ≤ 40000 * 10000 := Int.mul_le_mul (by omega) (by omega) (by omega) (by omega)
    omega
   have hs1 : 1 ≤ 2 * ((i : Int) + 1) * (2 * ((i : Int) + 1) + 1) ∧ 2 * ((i : Int) + 1) * (2 * ((i : Int) + 1) + 1) ≤ 1000000000 := by
    have h1 : 1 * 1 ≤ 2 * ((i : Int) + 1) * (2 * ((i : Int) + 1) + 1) := Int.mul_le_mul (by omega) (by omega) (by omega) (by omega); have h2 : 2 * ((i : Int) + 1) * (2 * ((i : Int) + 1) + 1) ≤ 20000 * 20001 := Int.mul_le_mul (by omega) (by omega) (by omega) (by omega)
    omega
   go_upto_region 14 with (fail)
   refine F2.regionS [.o, .o, .o, .o, .o, .o, .so (g13) 24 #[.bool n13a, .slice A13a l13a c13a]] [Fact.eq ?cg52_, Fact.eq ?cg53_, Fact.eq ?cg54_, Fact.eq ?cg55_, Fact.eq ?cg56_, Fact.z ?kg57_ ?zg57_, Fact.z ?kgs13_ ?zgs13_] [52, 53, 54, 55, 56, 57] [52, 53, 54, 55, 56, 57, 0] (by kernel_rfl) ?sog ?sopg (by kernel_rfl) ?stg ?fing
   case sog => exact List.forall_mem_cons.2 ⟨⟨bx13, NoU.two nB nS⟩, fun x hx => by cases hx⟩
   case sopg => exact List.Pairwise.cons (fun y hy => by cases hy) (List.Pairwise.nil)
   case stg =>
    refine F2.Steps.consO rfl ?_ ?_
    ·
     intro vz wz hBz hDz hTz K hK; have HW := hBz.ext; have bx13z := hTz 6 _ _ _ _ rfl rfl (by kernel_rfl); obtain ⟨zl0, zl1, -⟩ := bx13z.two; simp only [zy, F2.Wp] at hK ⊢; go_simp; refine hK _ wz zB (Fact.eq_mk ?_); with_reducible rfl
    refine F2.Steps.consO rfl ?_ ?_
    ·
     intro vz wz hBz hDz hTz K hK; have HW := hBz.ext; have bx12z := hBz.blk bx12 (zM (Ne.symm hne13_12.out) zN); obtain ⟨zl0, zl1, -⟩ := bx12z.two; simp only [zy, F2.Wp] at hK ⊢; go_simp; refine hK _ wz zB (Fact.eq_mk ?_); with_reducible rfl
    refine F2.Steps.consO rfl ?_ ?_
    ·
     intro vz wz hBz hDz hTz K hK; have HW := hBz.ext; simp only [zy, F2.Wp] at hK ⊢; go_simp; refine hK _ wz zB (Fact.eq_mk ?_); with_reducible rfl
    refine F2.Steps.consO rfl ?_ ?_
    ·
     intro vz wz hBz hDz hTz K hK; have HW := hBz.ext; simp only [zy, F2.Wp] at hK ⊢; go_simp; refine hK _ wz zB (Fact.eq_mk ?_); with_reducible rfl
    refine F2.Steps.consO rfl ?_ ?_
    ·
     intro vz wz hBz hDz hTz K hK; have E55 : vz 55 = _ := hDz 3 (by kernel_rfl) rfl; have HW := hBz.ext; simp only [zy, F2.Wp] at hK ⊢; simp only [E55] at hK ⊢; go_simp
     try simp (disch := omega) only [IntWalk.i64_in]
     refine hK _ wz zB (Fact.eq_mk ?_); with_reducible rfl
    refine F2.Steps.consO rfl ?_ ?_
    ·
     intro vz wz hBz hDz hTz K hK; have E52 : vz 52 = _ := hDz 0 (by kernel_rfl) rfl; have E53 : vz 53 = _ := hDz 1 (by kernel_rfl) rfl; have E54 : vz 54 = _ := hDz 2 (by kernel_rfl) rfl; have E56 : vz 56 = _ := hDz 4 (by kernel_rfl) rfl; have HW := hBz.ext; simp only [zy, F2.Wp] at hK ⊢; simp only [E52, E53, E54, E56] at hK ⊢; go_simp; refine Calls.mono (ddown_calls (q13a.ext HW).q (q12sb.ext HW).q (by omega) (by omega) (by omega) (by omega) (by omega) (by omega)) ?_; rintro e w2z ⟨hb2, uz, rfl, hf⟩; refine hK _ w2z hb2 (Fact.cast (hf) ?_); with_reducible rfl
    refine F2.Steps.consT rfl ?_ ?_
    ·
     intro vz wz hBz hDz hbz K hK; obtain ⟨zc0, zc1, zc2, zc3⟩ := hbz.two; obtain ⟨n57_, A57_, l57_, c57_, E57, q57⟩ : IntV 0 _ _ wz (vz 57) := hDz 5 (by kernel_rfl) rfl; have HW := hBz.ext; simp only [zy, F2.Wp] at hK ⊢; simp only [E57] at hK ⊢; go_simp; refine hK _ ((Far.set _ _ 0 _).trans (Far.set _ _ 1 _)) ⟨_, blk_two hbz, NoU.two nB nS, Fact.cast (Fact.z_mk q57) ?_⟩; with_reducible rfl
    exact F2.Steps.nil
   intro vg w7 hBz ⟨hOz, hAz, hNz, hSz⟩; have E52 : vg 52 = _ := hOz 0 (by decide) rfl; have E53 : vg 53 = _ := hOz 1 (by decide) rfl; have E54 : vg 54 = _ := hOz 2 (by decide) rfl; have E55 : vg 55 = _ := hOz 3 (by decide) rfl; have E56 : vg 56 = _ := hOz 4 (by decide) rfl; obtain ⟨n57_, A57_, l57_, c57_, E57, q57⟩ : IntV 0 _ _ w7 (vg 57) := hOz 5 (by decide) rfl; obtain ⟨cs13, bx13n, hs13⟩ := hSz 6 _ _ _ (by decide) rfl; obtain ⟨n13sg_, A13sg_, l13sg_, c13sg_, E13sg, q13sg⟩ : IntV 0 _ _ w7 (.agg cs13) := hs13; injection E13sg with E13sg
   subst E13sg; simp only [Act.put, actv, fill, fC, fN, tA, cS, cZ]; simp only [E52, E53, E54, E55, E56, E57]; clear E52 E53 E54 E55 E56 E57; replace h0 := h0.ext hBz.ext; replace h1 := h1.ext hBz.ext; replace q12sb := q12sb.ext hBz.ext; replace q13a := q13a.ext hBz.ext; replace q14a := q14a.ext hBz.ext; replace bx5 := hBz.blk bx5 (zM (Ne.symm hne13_5.out) zN); replace bx6 := hBz.blk bx6 (zM (Ne.symm hne13_6.out) zN); replace bx10 := hBz.blk bx10 (zM (Ne.symm hne13_10.out) zN); replace bx11 := hBz.blk bx11 (zM (Ne.symm hne13_11.out) zN); replace bx12 := hBz.blk bx12 (zM (Ne.symm hne13_12.out) zN); replace bx14 := hBz.blk bx14 (zM hne14_13.out zN); replace ha := ha.low1 (g := g13) hBz (zA rfl zE) (ha.ne hl13); replace hb := hb.low1 (g := g13) hBz (zA rfl zE) (hb.ne hl13); replace HL := HL.step hBz (zA (Or.inl (by simp)) zE); replace HB := hide (HB.out.trans (hBz.below (B := w.heap.size) HB.out.size (zA hge13 zE))); clear bx13; have bx13 := bx13n; clear bx13n; clear hOz hAz hNz hSz hBz
   go_upto_region 15 with (fail)
   refine F2.regionS [.o, .o, .o, .o, .o, .o, .so (g14) 24 #[.bool n14a, .slice A14a l14a c14a]] [Fact.eq ?ch58_, Fact.eq ?ch59_, Fact.eq ?ch60_, Fact.eq ?ch61_, Fact.eq ?ch62_, Fact.z ?kh63_ ?zh63_, Fact.z ?khs14_ ?zhs14_] [58, 59, 60, 61, 62, 63] [58, 59, 60, 61, 62, 63, 0] (by kernel_rfl) ?soh ?soph (by kernel_rfl) ?sth ?finh
   case soh => exact List.forall_mem_cons.2 ⟨⟨bx14, NoU.two nB nS⟩, fun x hx => by cases hx⟩
   case soph => exact List.Pairwise.cons (fun y hy => by cases hy) (List.Pairwise.nil)
   case sth =>
    refine F2.Steps.consO rfl ?_ ?_
    ·
     intro vz wz hBz hDz hTz K hK; have HW := hBz.ext; have bx14z := hTz 6 _ _ _ _ rfl rfl (by kernel_rfl); obtain ⟨zl0, zl1, -⟩ := bx14z.two; simp only [zy, F2.Wp] at hK ⊢; go_simp; refine hK _ wz zB (Fact.eq_mk ?_); with_reducible rfl
    refine F2.Steps.consO rfl ?_ ?_
    ·
     intro vz wz hBz hDz hTz K hK; have HW := hBz.ext; have bx12z := hBz.blk bx12 (zM (Ne.symm hne14_12.out) zN); obtain ⟨zl0, zl1, -⟩ := bx12z.two; simp only [zy, F2.Wp] at hK ⊢; go_simp; refine hK _ wz zB (Fact.eq_mk ?_); with_reducible rfl
    refine F2.Steps.consO rfl ?_ ?_
    ·
     intro vz wz hBz hDz hTz K hK; have HW := hBz.ext; simp only [zy, F2.Wp] at hK ⊢; go_simp; refine hK _ wz zB (Fact.eq_mk ?_); with_reducible rfl
    refine F2.Steps.consO rfl ?_ ?_
    ·
     intro vz wz hBz hDz hTz K hK; have HW := hBz.ext; simp only [zy, F2.Wp] at hK ⊢; go_simp; refine hK _ wz zB (Fact.eq_mk ?_); with_reducible rfl
    refine F2.Steps.consO rfl ?_ ?_
    ·
     intro vz wz hBz hDz hTz K hK; have E61 : vz 61 = _ := hDz 3 (by kernel_rfl) rfl; have HW := hBz.ext; simp only [zy, F2.Wp] at hK ⊢; simp only [E61] at hK ⊢; go_simp
     try simp (disch := omega) only [IntWalk.i64_in]
     refine hK _ wz zB (Fact.eq_mk ?_); with_reducible rfl
    refine F2.Steps.consO rfl ?_ ?_
    ·
     intro vz wz hBz hDz hTz K hK; have E58 : vz 58 = _ := hDz 0 (by kernel_rfl) rfl; have E59 : vz 59 = _ := hDz 1 (by kernel_rfl) rfl; have E60 : vz 60 = _ := hDz 2 (by kernel_rfl) rfl; have E62 : vz 62 = _ := hDz 4 (by kernel_rfl) rfl; have HW := hBz.ext; simp only [zy, F2.Wp] at hK ⊢; simp only [E58, E59, E60, E62] at hK ⊢; go_simp; refine Calls.mono (dup_calls (q14a.ext HW).q (q12sb.ext HW).q (by omega) (by omega) (by omega) (by omega) (by omega) (by omega)) ?_; rintro e w2z ⟨hb2, uz, rfl, hf⟩; refine hK _ w2z hb2 (Fact.cast (hf) ?_); with_reducible rfl
    refine F2.Steps.consT rfl ?_ ?_
    ·
     intro vz wz hBz hDz hbz K hK; obtain ⟨zc0, zc1, zc2, zc3⟩ := hbz.two; obtain ⟨n63_, A63_, l63_, c63_, E63, q63⟩ : IntV 0 _ _ wz (vz 63) := hDz 5 (by kernel_rfl) rfl; have HW := hBz.ext; simp only [zy, F2.Wp] at hK ⊢; simp only [E63] at hK ⊢; go_simp; refine hK _ ((Far.set _ _ 0 _).trans (Far.set _ _ 1 _)) ⟨_, blk_two hbz, NoU.two nB nS, Fact.cast (Fact.z_mk q63) ?_⟩; with_reducible rfl
    exact F2.Steps.nil
   intro vh w8 hBz ⟨hOz, hAz, hNz, hSz⟩; have E58 : vh 58 = _ := hOz 0 (by decide) rfl; have E59 : vh 59 = _ := hOz 1 (by decide) rfl; have E60 : vh 60 = _ := hOz 2 (by decide) rfl; have E61 : vh 61 = _ := hOz 3 (by decide) rfl; have E62 : vh 62 = _ := hOz 4 (by decide) rfl; obtain ⟨n63_, A63_, l63_, c63_, E63, q63⟩ : IntV 0 _ _ w8 (vh 63) := hOz 5 (by decide) rfl; obtain ⟨cs14, bx14n, hs14⟩ := hSz 6 _ _ _ (by decide) rfl; obtain ⟨n14sh_, A14sh_, l14sh_, c14sh_, E14sh, q14sh⟩ : IntV 0 _ _ w8 (.agg cs14) := hs14; injection E14sh with E14sh
   subst E14sh; simp only [Act.put, actv, fill, fC, fN, tA, cS, cZ]; simp only [E58, E59, E60, E61, E62, E63]; clear E58 E59 E60 E61 E62 E63; replace h0 := h0.ext hBz.ext; replace h1 := h1.ext hBz.ext; replace q12sb := q12sb.ext hBz.ext; replace q13sg := q13sg.ext hBz.ext; replace q14a := q14a.ext hBz.ext; replace bx5 := hBz.blk bx5 (zM (Ne.symm hne14_5.out) zN); replace bx6 := hBz.blk bx6 (zM (Ne.symm hne14_6.out) zN); replace bx10 := hBz.blk bx10 (zM (Ne.symm hne14_10.out) zN); replace bx11 := hBz.blk bx11 (zM (Ne.symm hne14_11.out) zN); replace bx12 := hBz.blk bx12 (zM (Ne.symm hne14_12.out) zN); replace bx13 := hBz.blk bx13 (zM (Ne.symm hne14_13.out) zN); replace ha := ha.low1 (g := g14) hBz (zA rfl zE) (ha.ne hl14); replace hb := hb.low1 (g := g14) hBz (zA rfl zE) (hb.ne hl14); replace HL := HL.step hBz (zA (Or.inl (by simp)) zE); replace HB := hide (HB.out.trans (hBz.below (B := w.heap.size) HB.out.size (zA hge14 zE))); clear bx14; have bx14 := bx14n; clear bx14n; clear hOz hAz hNz hSz hBz
   go_wp2_with fail
   go_roundw
   case rel => exact ⟨i + 1, by omega, by go_num, HL, ha, hb, hap, ⟨_, _, _, _, bx13, (q13sg.fit (HA.out (i + 1) (by have := hL.out; omega)))⟩, ⟨_, _, _, _, bx14, (q14sh.fit (HB_.out (i + 1) (by have := hL.out; omega)))⟩⟩
   case measure => simp [intOf]; omega
  ·
   have hge : ¬ ((i : Int) + 1 ≤ 2 * (N : Int) + 1) := by have := hL.out; omega
   have hie := hide (show i = L by omega); clear hlt; obtain ⟨g1, cp1, rfl, hB1, hr1⟩ := ha.read_lst (L := i) (by have := hL.out; have := hie.out; omega); obtain ⟨g2, cp2, rfl, hB2, hr2⟩ := hb.read_lst (L := i) (by have := hL.out; have := hie.out; omega); clear ha hb hap; replace hL : Hid (i = 2 * N + 1) := hide (hie.out.trans hL.out); clear hie
   go_upto_region 16 with (fail)
   clear hge; refine F2.regionS [.o, .o, .o, .o, .o, .so (g10) 24 #[.bool false, .slice none 0 0], .so (g11) 24 #[.bool false, .slice none 0 0]] [Fact.eq ?ci64_, Fact.eq ?ci65_, Fact.t2 (Fact.z ?ki66_p ?zi66_p) (Fact.z ?ki66_q ?zi66_q), Fact.z ?ki67_ ?zi67_, Fact.z ?ki68_ ?zi68_, Fact.z ?kis10_ ?zis10_, Fact.z ?kis11_ ?zis11_] [64, 65, 66, 67, 68] [64, 65, 66, 67, 68, 0, 0] (by kernel_rfl) ?soi ?sopi (by kernel_rfl) ?sti ?fini
   case soi => exact List.forall_mem_cons.2 ⟨⟨bx10, NoU.two nB nS⟩, List.forall_mem_cons.2 ⟨⟨bx11, NoU.two nB nS⟩, fun x hx => by cases hx⟩⟩
   case sopi => exact List.Pairwise.cons (by intro y hy; simp [F2.sos] at hy; have hne10_11 := hne10_11.out; first | (subst hy; simp; done) | (subst hy; simp; omega) | (rcases hy with rfl | rfl <;> simp <;> omega)) (List.Pairwise.cons (fun y hy => by cases hy) (List.Pairwise.nil))
   case sti =>
    refine F2.Steps.consO rfl ?_ ?_
    ·
     intro vz wz hBz hDz hTz K hK; have HW := hBz.ext; simp only [zy, F2.Wp] at hK ⊢; go_simp; refine hK _ wz zB (Fact.eq_mk ?_); with_reducible rfl
    refine F2.Steps.consO rfl ?_ ?_
    ·
     intro vz wz hBz hDz hTz K hK; have HW := hBz.ext; simp only [zy, F2.Wp] at hK ⊢; go_simp; refine hK _ wz zB (Fact.eq_mk ?_); with_reducible rfl
    refine F2.Steps.consO rfl ?_ ?_
    ·
     intro vz wz hBz hDz hTz K hK; have E64 : vz 64 = _ := hDz 0 (by kernel_rfl) rfl; have E65 : vz 65 = _ := hDz 1 (by kernel_rfl) rfl; have HW := hBz.ext; simp only [zy, F2.Wp] at hK ⊢; simp only [E64, E65] at hK ⊢; go_simp; refine Calls.mono (turned_calls   (hr1.low hBz (zM (Nat.ne_of_gt (Nat.lt_of_lt_of_le hl10 hB1)) (zM (Nat.ne_of_gt (Nat.lt_of_lt_of_le hl11 hB1)) zN))) (hr2.low hBz (zM (Nat.ne_of_gt (Nat.lt_of_lt_of_le hl10 hB2)) (zM (Nat.ne_of_gt (Nat.lt_of_lt_of_le hl11 hB2)) zN))) hL hN (by omega) (hide (fun i hi => HS.out i (by have := hL.out; omega))) (hide (fun i hi => HT.out i (by have := hL.out; omega)))) ?_; rintro e w2z ⟨hb2, uz, rfl, hf⟩; refine hK _ w2z hb2 (Fact.cast (hf) ?_); with_reducible rfl
    refine F2.Steps.consO rfl ?_ ?_
    ·
     intro vz wz hBz hDz hTz K hK; obtain ⟨x66p_, x66q_, E66, h66p, h66q⟩ : TV2 _ _ wz (vz 66) := hDz 2 (by kernel_rfl) rfl; have HW := hBz.ext; simp only [zy, F2.Wp] at hK ⊢; simp only [E66] at hK ⊢; go_simp; refine hK _ wz zB (Fact.cast (h66p) ?_); with_reducible rfl
    refine F2.Steps.consO rfl ?_ ?_
    ·
     intro vz wz hBz hDz hTz K hK; obtain ⟨x66p_, x66q_, E66, h66p, h66q⟩ : TV2 _ _ wz (vz 66) := hDz 2 (by kernel_rfl) rfl; have HW := hBz.ext; simp only [zy, F2.Wp] at hK ⊢; simp only [E66] at hK ⊢; go_simp; refine hK _ wz zB (Fact.cast (h66q) ?_); with_reducible rfl
    refine F2.Steps.consT rfl ?_ ?_
    ·
     intro vz wz hBz hDz hbz K hK; obtain ⟨zc0, zc1, zc2, zc3⟩ := hbz.two; obtain ⟨n67_, A67_, l67_, c67_, E67, q67⟩ : IntV 0 _ _ wz (vz 67) := hDz 3 (by kernel_rfl) rfl; have HW := hBz.ext; simp only [zy, F2.Wp] at hK ⊢; simp only [E67] at hK ⊢; go_simp; refine hK _ ((Far.set _ _ 0 _).trans (Far.set _ _ 1 _)) ⟨_, blk_two hbz, NoU.two nB nS, Fact.cast (Fact.z_mk q67) ?_⟩; with_reducible rfl
    refine F2.Steps.consT rfl ?_ ?_
    ·
     intro vz wz hBz hDz hbz K hK; obtain ⟨zc0, zc1, zc2, zc3⟩ := hbz.two; obtain ⟨n68_, A68_, l68_, c68_, E68, q68⟩ : IntV 0 _ _ wz (vz 68) := hDz 4 (by kernel_rfl) rfl; have HW := hBz.ext; simp only [zy, F2.Wp] at hK ⊢; simp only [E68] at hK ⊢; go_simp; refine hK _ ((Far.set _ _ 0 _).trans (Far.set _ _ 1 _)) ⟨_, blk_two hbz, NoU.two nB nS, Fact.cast (Fact.z_mk q68) ?_⟩; with_reducible rfl
    exact F2.Steps.nil
   intro vi w9 hBz ⟨hOz, hAz, hNz, hSz⟩; have E64 : vi 64 = _ := hOz 0 (by decide) rfl; have E65 : vi 65 = _ := hOz 1 (by decide) rfl; obtain ⟨x66p_, x66q_, E66, h66p, h66q⟩ : TV2 _ _ w9 (vi 66) := hOz 2 (by decide) rfl; obtain ⟨n67_, A67_, l67_, c67_, E67, q67⟩ : IntV 0 _ _ w9 (vi 67) := hOz 3 (by decide) rfl; obtain ⟨n68_, A68_, l68_, c68_, E68, q68⟩ : IntV 0 _ _ w9 (vi 68) := hOz 4 (by decide) rfl; obtain ⟨cs10, bx10n, hs10⟩ := hSz 5 _ _ _ (by decide) rfl; obtain ⟨n10si_, A10si_, l10si_, c10si_, E10si, q10si⟩ : IntV 0 _ _ w9 (.agg cs10) := hs10; injection E10si with E10si
   subst E10si; obtain ⟨cs11, bx11n, hs11⟩ := hSz 6 _ _ _ (by decide) rfl; obtain ⟨n11si_, A11si_, l11si_, c11si_, E11si, q11si⟩ : IntV 0 _ _ w9 (.agg cs11) := hs11; injection E11si with E11si
   subst E11si; simp only [Act.put, actv, fill, fC, fN, tA, cS, cZ]; simp only [E64, E65, E66, E67, E68]; clear E64 E65 E66 E67 E68; replace h0 := h0.ext hBz.ext; replace h1 := h1.ext hBz.ext; replace q12sb := q12sb.ext hBz.ext; replace q13a := q13a.ext hBz.ext; replace q14a := q14a.ext hBz.ext; replace bx5 := hBz.blk bx5 (zM hne5_10.out (zM hne5_11.out zN)); replace bx6 := hBz.blk bx6 (zM hne6_10.out (zM hne6_11.out zN)); replace bx12 := hBz.blk bx12 (zM hne12_10.out (zM hne12_11.out zN)); replace bx13 := hBz.blk bx13 (zM hne13_10.out (zM hne13_11.out zN)); replace bx14 := hBz.blk bx14 (zM hne14_10.out (zM hne14_11.out zN)); replace HB := hide (HB.out.trans (hBz.below (B := w.heap.size) HB.out.size (zA hge10 (zA hge11 zE)))); clear bx10; clear bx11; have bx10 := bx10n; clear bx10n; have bx11 := bx11n; clear bx11n; clear hOz hAz hNz hSz hBz
   go_wp2_with fail
   refine bodyPost_ret (results_int_int rfl _ _ _ _ _ _ _ _ _ _ rfl bx10 rfl bx11) rfl ⟨HB.out, ?_⟩; exact VF.mk (Fact.t2_mk (Fact.z_mk q10si) (Fact.z_mk q11si))
set_option maxHeartbeats 4000000 in
set_option maxRecDepth 100000 in
theorem waveCos_calls {w : World} {N : Nat} {k0 k1 : Nat} {n0 n1 : Bool} {A0 A1 : Option Addr} {l0 l1 c0 c1 : Nat} {x0 x1 : Int} {q : Int} (h0 : Q w k0 n0 A0 l0 c0 x0) (h1 : QB w 0 k1 n1 A1 l1 c1 x1) (hk0 : k0 ≤ 40) (hk1 : k1 ≤ 40) (hq0 : 0 ≤ q) (hq1 : q ≤ 1200) (hN : N ≤ 400) (HA : Hid (∀ i, i ≤ 2 * N + 1 → ((rA (dCos q) (x0 * x0) x1) i).natAbs < W ^ 40)) (HB_ : Hid (∀ i, i ≤ 2 * N + 1 → ((rB (dCos q) (x0 * x0) x1) i).natAbs < W ^ 40)) (HS : Hid (∀ i, i ≤ 2 * N + 1 → (tu (rA (dCos q) (x0 * x0) x1) (rB (dCos q) (x0 * x0) x1) i).natAbs < W ^ 40)) (HT : Hid (∀ i, i ≤ 2 * N + 1 → (tu (rB (dCos q) (x0 * x0) x1) (rA (dCos q) (x0 * x0) x1) i).natAbs < W ^ 40)) :
    Calls Tryz.prog 27 #[.agg #[.bool n0, .slice A0 l0 c0], .agg #[.bool n1, .slice A1 l1 c1], .bool false, .int .i64 q, .int .i64 (N : Nat)] w fun e w' => Below w.heap.size w w' ∧ VF (Fact.t2 (Fact.z 40 (tu (rA (dCos q) (x0 * x0) x1) (rB (dCos q) (x0 * x0) x1) (2 * N))) (Fact.z 40 (tu (rB (dCos q) (x0 * x0) x1) (rA (dCos q) (x0 * x0) x1) (2 * N + 1)))) e w' := by
 obtain ⟨L, hL⟩ : ∃ L, Hid (L = 2 * N + 1) := ⟨_, hide rfl⟩; have hLN : L ≤ 801 := by have := hL.out; omega
 go_enter Tryz.func27, Tryz.ntmps27
 have HB : Hid (Below w.heap.size w w) := hide (Below.refl _ _)
 go_upto_region 0 with (fail)
 refine F2.regionS [.al 24 #[.bool n0, .slice A0 l0 c0], .al 24 #[.bool n1, .slice A1 l1 c1], .al 24 #[.bool false, .slice none 0 0], .al 24 #[.bool false, .slice none 0 0]] [Fact.any, Fact.any, Fact.any, Fact.any] [5, 6, 10, 11] [5, 6, 10, 11] (by kernel_rfl) ?soa ?sopa (by kernel_rfl) ?sta ?fina
 case soa => exact fun x hx => by cases hx
 case sopa => exact List.Pairwise.nil
 case sta =>
  refine F2.Steps.consA rfl ⟨NoU.two nB nS, ?_⟩ ?_
  ·
   intro vz wz hBz K hK; simp only [zy, F2.Wp] at hK ⊢; go_simp; exact hK
  refine F2.Steps.consA rfl ⟨NoU.two nB nS, ?_⟩ ?_
  ·
   intro vz wz hBz K hK; simp only [zy, F2.Wp] at hK ⊢; go_simp; exact hK
  refine F2.Steps.consA rfl ⟨NoU.two nB nS, ?_⟩ ?_
  ·
   intro vz wz hBz K hK; simp only [zy, F2.Wp] at hK ⊢; go_simp; exact hK
  refine F2.Steps.consA rfl ⟨NoU.two nB nS, ?_⟩ ?_
  ·
   intro vz wz hBz K hK; simp only [zy, F2.Wp] at hK ⊢; go_simp; exact hK
  exact F2.Steps.nil
 intro va w1 hBz ⟨hOz, hAz, hNz, hSz⟩; obtain ⟨g5, cs5, E5, hg5, bx5, hs5, hz5⟩ := hAz 0 _ _ (by decide) rfl; have hzz := hz5 (F2.nost (by kernel_rfl)); subst hzz; obtain ⟨g6, cs6, E6, hg6, bx6, hs6, hz6⟩ := hAz 1 _ _ (by decide) rfl; have hzz := hz6 (F2.nost (by kernel_rfl)); subst hzz; obtain ⟨g10, cs10, E10, hg10, bx10, hs10, hz10⟩ := hAz 2 _ _ (by decide) rfl; have hzz := hz10 (F2.nost (by kernel_rfl)); subst hzz; obtain ⟨g11, cs11, E11, hg11, bx11, hs11, hz11⟩ := hAz 3 _ _ (by decide) rfl; have hzz := hz11 (F2.nost (by kernel_rfl)); subst hzz; have hne5_6 : Hid (¬ g5 = g6) := hide (fun h => hNz 0 1 _ _ _ _ (by decide) (by decide) (by decide) rfl rfl (by rw [E5, E6, h])); have hne5_10 : Hid (¬ g5 = g10) := hide (fun h => hNz 0 2 _ _ _ _ (by decide) (by decide) (by decide) rfl rfl (by rw [E5, E10, h])); have hne5_11 : Hid (¬ g5 = g11) := hide (fun h => hNz 0 3 _ _ _ _ (by decide) (by decide) (by decide) rfl rfl (by rw [E5, E11, h])); have hne6_10 : Hid (¬ g6 = g10) := hide (fun h => hNz 1 2 _ _ _ _ (by decide) (by decide) (by decide) rfl rfl (by rw [E6, E10, h])); have hne6_11 : Hid (¬ g6 = g11) := hide (fun h => hNz 1 3 _ _ _ _ (by decide) (by decide) (by decide) rfl rfl (by rw [E6, E11, h])); have hne10_11 : Hid (¬ g10 = g11) := hide (fun h => hNz 2 3 _ _ _ _ (by decide) (by decide) (by decide) rfl rfl (by rw [E10, E11, h])); simp only [Act.put, actv, fill, fC, fN, tA, cS, cZ]; simp only [(show va 5 = _ from E5), (show va 6 = _ from E6), (show va 10 = _ from E10), (show va 11 = _ from E11)]; clear E5 E6 E10 E11; have hge5 : w.heap.size ≤ g5 := Nat.le_trans HB.out.size hg5; have hge6 : w.heap.size ≤ g6 := Nat.le_trans HB.out.size hg6; have hge10 : w.heap.size ≤ g10 := Nat.le_trans HB.out.size hg10; have hge11 : w.heap.size ≤ g11 := Nat.le_trans HB.out.size hg11; replace h0 := h0.ext hBz.ext; replace h1 := h1.ext hBz.ext; replace HB := hide (HB.out.trans (hBz.below (B := w.heap.size) HB.out.size zE)); clear hOz hAz hNz hSz hs5 hz5 hs6 hz6 hs10 hz10 hs11 hz11 hBz
 go_upto_region 1 with (fail)
 refine F2.regionS [.o, .o, .o, .al 24 #[.bool false, .slice none 0 0], .st 3] [Fact.eq ?cb19_, Fact.eq ?cb20_, Fact.z ?kb21_ ?zb21_, Fact.any, Fact.z ?kbs12_ ?zbs12_] [19, 20, 21, 12] [19, 20, 21, 12, 0] (by kernel_rfl) ?sob ?sopb (by kernel_rfl) ?stb ?finb
 case sob => exact fun x hx => by cases hx
 case sopb => exact List.Pairwise.nil
 case stb =>
  refine F2.Steps.consO rfl ?_ ?_
  ·
   intro vz wz hBz hDz hTz K hK; have HW := hBz.ext; have bx5z := hBz.blk bx5 zN; obtain ⟨zl0, zl1, -⟩ := bx5z.two; simp only [zy, F2.Wp] at hK ⊢; go_simp; refine hK _ wz zB (Fact.eq_mk ?_); with_reducible rfl
  refine F2.Steps.consO rfl ?_ ?_
  ·
   intro vz wz hBz hDz hTz K hK; have HW := hBz.ext; have bx5z := hBz.blk bx5 zN; obtain ⟨zl0, zl1, -⟩ := bx5z.two; simp only [zy, F2.Wp] at hK ⊢; go_simp; refine hK _ wz zB (Fact.eq_mk ?_); with_reducible rfl
  refine F2.Steps.consO rfl ?_ ?_
  ·
   intro vz wz hBz hDz hTz K hK; have E19 : vz 19 = _ := hDz 0 (by kernel_rfl) rfl; have E20 : vz 20 = _ := hDz 1 (by kernel_rfl) rfl; have HW := hBz.ext; simp only [zy, F2.Wp] at hK ⊢; simp only [E19, E20] at hK ⊢; go_simp; refine Calls.mono (u_mul (h0.ext HW) (h0.ext HW) (by omega) (by omega)) ?_; rintro e w2z ⟨hb2, uz, rfl, hf⟩; refine hK _ w2z hb2 (Fact.cast (hf) ?_); with_reducible rfl
  refine F2.Steps.consA rfl ⟨NoU.two nB nS, ?_⟩ ?_
  ·
   intro vz wz hBz K hK; simp only [zy, F2.Wp] at hK ⊢; go_simp; exact hK
  refine F2.Steps.consS rfl rfl ?_ ?_
  ·
   intro vz wz gz hBz hDz E12' hgz hbz K hK; obtain ⟨zc0, zc1, zc2, zc3⟩ := hbz.two; obtain ⟨n21_, A21_, l21_, c21_, E21, q21⟩ : IntV 0 _ _ wz (vz 21) := hDz 2 (by kernel_rfl) rfl; have E12 : vz 12 = .pointer (some ⟨gz, 0, none⟩) := E12'; have HW := hBz.ext; simp only [zy, F2.Wp] at hK ⊢; simp only [E12, E21] at hK ⊢; go_simp; refine hK _ ((Far.set _ gz 0 _).trans (Far.set _ gz 1 _)) ⟨_, blk_two hbz, NoU.two nB nS, Fact.cast (Fact.z_mk q21) ?_⟩; with_reducible rfl
  exact F2.Steps.nil
 intro vb w2 hBz ⟨hOz, hAz, hNz, hSz⟩; have E19 : vb 19 = _ := hOz 0 (by decide) rfl; have E20 : vb 20 = _ := hOz 1 (by decide) rfl; obtain ⟨n21_, A21_, l21_, c21_, E21, q21⟩ : IntV 0 _ _ w2 (vb 21) := hOz 2 (by decide) rfl; obtain ⟨g12, cs12, E12, hg12, bx12, hs12, hz12⟩ := hAz 3 _ _ (by decide) rfl; obtain ⟨n12sb_, A12sb_, l12sb_, c12sb_, E12sb, q12sb⟩ : IntV 0 _ _ w2 (.agg cs12) := hs12 4 (by decide) rfl; injection E12sb with E12sb
 subst E12sb; simp only [Act.put, actv, fill, fC, fN, tA, cS, cZ]; simp only [E19, E20, E21, (show vb 12 = _ from E12)]; clear E19 E20 E21 E12; have hge12 : w.heap.size ≤ g12 := Nat.le_trans HB.out.size hg12; have hne12_5 := hide (Nat.ne_of_gt (Nat.lt_of_lt_of_le bx5.lt (show w1.heap.size ≤ g12 from hg12))); have hne12_6 := hide (Nat.ne_of_gt (Nat.lt_of_lt_of_le bx6.lt (show w1.heap.size ≤ g12 from hg12))); have hne12_10 := hide (Nat.ne_of_gt (Nat.lt_of_lt_of_le bx10.lt (show w1.heap.size ≤ g12 from hg12))); have hne12_11 := hide (Nat.ne_of_gt (Nat.lt_of_lt_of_le bx11.lt (show w1.heap.size ≤ g12 from hg12))); replace h0 := h0.ext hBz.ext; replace h1 := h1.ext hBz.ext; replace bx5 := hBz.blk bx5 zN; replace bx6 := hBz.blk bx6 zN; replace bx10 := hBz.blk bx10 zN; replace bx11 := hBz.blk bx11 zN; replace HB := hide (HB.out.trans (hBz.below (B := w.heap.size) HB.out.size zE)); clear hOz hAz hNz hSz hs12 hz12 hBz
 go_upto_region 2 with (fail)
 refine F2.regionS [.o, .al 24 #[.bool false, .slice none 0 0], .st 1] [Fact.eq ?cc22_, Fact.any, Fact.z ?kcs13_ ?zcs13_] [22, 13] [22, 13, 0] (by kernel_rfl) ?soc ?sopc (by kernel_rfl) ?stc ?finc
 case soc => exact fun x hx => by cases hx
 case sopc => exact List.Pairwise.nil
 case stc =>
  refine F2.Steps.consO rfl ?_ ?_
  ·
   intro vz wz hBz hDz hTz K hK; have HW := hBz.ext; have bx6z := hBz.blk bx6 zN; obtain ⟨zl0, zl1, -⟩ := bx6z.two; simp only [zy, F2.Wp] at hK ⊢; go_simp; refine hK _ wz zB (Fact.eq_mk ?_); with_reducible rfl
  refine F2.Steps.consA rfl ⟨NoU.two nB nS, ?_⟩ ?_
  ·
   intro vz wz hBz K hK; simp only [zy, F2.Wp] at hK ⊢; go_simp; exact hK
  refine F2.Steps.consS rfl rfl ?_ ?_
  ·
   intro vz wz gz hBz hDz E13' hgz hbz K hK; obtain ⟨zc0, zc1, zc2, zc3⟩ := hbz.two; have E22 : vz 22 = _ := hDz 0 (by kernel_rfl) rfl; have E13 : vz 13 = .pointer (some ⟨gz, 0, none⟩) := E13'; have HW := hBz.ext; simp only [zy, F2.Wp] at hK ⊢; simp only [E13, E22] at hK ⊢; go_simp; refine hK _ ((Far.set _ gz 0 _).trans (Far.set _ gz 1 _)) ⟨_, blk_two hbz, NoU.two nB nS, Fact.cast (Fact.z_mk (h1.ext HW)) ?_⟩; with_reducible rfl
  exact F2.Steps.nil
 intro vc w3 hBz ⟨hOz, hAz, hNz, hSz⟩; have E22 : vc 22 = _ := hOz 0 (by decide) rfl; obtain ⟨g13, cs13, E13, hg13, bx13, hs13, hz13⟩ := hAz 1 _ _ (by decide) rfl; obtain ⟨n13sc_, A13sc_, l13sc_, c13sc_, E13sc, q13sc⟩ : IntV 0 _ _ w3 (.agg cs13) := hs13 2 (by decide) rfl; injection E13sc with E13sc
 subst E13sc; simp only [Act.put, actv, fill, fC, fN, tA, cS, cZ]; simp only [E22, (show vc 13 = _ from E13)]; clear E22 E13; have hge13 : w.heap.size ≤ g13 := Nat.le_trans HB.out.size hg13; have hne13_5 := hide (Nat.ne_of_gt (Nat.lt_of_lt_of_le bx5.lt (show w2.heap.size ≤ g13 from hg13))); have hne13_6 := hide (Nat.ne_of_gt (Nat.lt_of_lt_of_le bx6.lt (show w2.heap.size ≤ g13 from hg13))); have hne13_10 := hide (Nat.ne_of_gt (Nat.lt_of_lt_of_le bx10.lt (show w2.heap.size ≤ g13 from hg13))); have hne13_11 := hide (Nat.ne_of_gt (Nat.lt_of_lt_of_le bx11.lt (show w2.heap.size ≤ g13 from hg13))); have hne13_12 := hide (Nat.ne_of_gt (Nat.lt_of_lt_of_le bx12.lt (show w2.heap.size ≤ g13 from hg13))); replace h0 := h0.ext hBz.ext; replace h1 := h1.ext hBz.ext; replace q12sb := q12sb.ext hBz.ext; replace bx5 := hBz.blk bx5 zN; replace bx6 := hBz.blk bx6 zN; replace bx10 := hBz.blk bx10 zN; replace bx11 := hBz.blk bx11 zN; replace bx12 := hBz.blk bx12 zN; replace HB := hide (HB.out.trans (hBz.below (B := w.heap.size) HB.out.size zE)); clear hOz hAz hNz hSz hs13 hz13 hBz
 go_upto_region 3 with (fail)
 refine F2.regionS [.o, .al 24 #[.bool false, .slice none 0 0], .st 1] [Fact.eq ?cd23_, Fact.any, Fact.z ?kds14_ ?zds14_] [23, 14] [23, 14, 0] (by kernel_rfl) ?sod ?sopd (by kernel_rfl) ?std ?find
 case sod => exact fun x hx => by cases hx
 case sopd => exact List.Pairwise.nil
 case std =>
  refine F2.Steps.consO rfl ?_ ?_
  ·
   intro vz wz hBz hDz hTz K hK; have HW := hBz.ext; have bx6z := hBz.blk bx6 zN; obtain ⟨zl0, zl1, -⟩ := bx6z.two; simp only [zy, F2.Wp] at hK ⊢; go_simp; refine hK _ wz zB (Fact.eq_mk ?_); with_reducible rfl
  refine F2.Steps.consA rfl ⟨NoU.two nB nS, ?_⟩ ?_
  ·
   intro vz wz hBz K hK; simp only [zy, F2.Wp] at hK ⊢; go_simp; exact hK
  refine F2.Steps.consS rfl rfl ?_ ?_
  ·
   intro vz wz gz hBz hDz E14' hgz hbz K hK; obtain ⟨zc0, zc1, zc2, zc3⟩ := hbz.two; have E23 : vz 23 = _ := hDz 0 (by kernel_rfl) rfl; have E14 : vz 14 = .pointer (some ⟨gz, 0, none⟩) := E14'; have HW := hBz.ext; simp only [zy, F2.Wp] at hK ⊢; simp only [E14, E23] at hK ⊢; go_simp; refine hK _ ((Far.set _ gz 0 _).trans (Far.set _ gz 1 _)) ⟨_, blk_two hbz, NoU.two nB nS, Fact.cast (Fact.z_mk (h1.ext HW)) ?_⟩; with_reducible rfl
  exact F2.Steps.nil
 intro vd w4 hBz ⟨hOz, hAz, hNz, hSz⟩; have E23 : vd 23 = _ := hOz 0 (by decide) rfl; obtain ⟨g14, cs14, E14, hg14, bx14, hs14, hz14⟩ := hAz 1 _ _ (by decide) rfl; obtain ⟨n14sd_, A14sd_, l14sd_, c14sd_, E14sd, q14sd⟩ : IntV 0 _ _ w4 (.agg cs14) := hs14 2 (by decide) rfl; injection E14sd with E14sd
 subst E14sd; simp only [Act.put, actv, fill, fC, fN, tA, cS, cZ]; simp only [E23, (show vd 14 = _ from E14)]; clear E23 E14; have hge14 : w.heap.size ≤ g14 := Nat.le_trans HB.out.size hg14; have hne14_5 := hide (Nat.ne_of_gt (Nat.lt_of_lt_of_le bx5.lt (show w3.heap.size ≤ g14 from hg14))); have hne14_6 := hide (Nat.ne_of_gt (Nat.lt_of_lt_of_le bx6.lt (show w3.heap.size ≤ g14 from hg14))); have hne14_10 := hide (Nat.ne_of_gt (Nat.lt_of_lt_of_le bx10.lt (show w3.heap.size ≤ g14 from hg14))); have hne14_11 := hide (Nat.ne_of_gt (Nat.lt_of_lt_of_le bx11.lt (show w3.heap.size ≤ g14 from hg14))); have hne14_12 := hide (Nat.ne_of_gt (Nat.lt_of_lt_of_le bx12.lt (show w3.heap.size ≤ g14 from hg14))); have hne14_13 := hide (Nat.ne_of_gt (Nat.lt_of_lt_of_le bx13.lt (show w3.heap.size ≤ g14 from hg14))); replace h0 := h0.ext hBz.ext; replace h1 := h1.ext hBz.ext; replace q12sb := q12sb.ext hBz.ext; replace q13sc := q13sc.ext hBz.ext; replace bx5 := hBz.blk bx5 zN; replace bx6 := hBz.blk bx6 zN; replace bx10 := hBz.blk bx10 zN; replace bx11 := hBz.blk bx11 zN; replace bx12 := hBz.blk bx12 zN; replace bx13 := hBz.blk bx13 zN; replace HB := hide (HB.out.trans (hBz.below (B := w.heap.size) HB.out.size zE)); clear hOz hAz hNz hSz hs14 hz14 hBz
 go_wp2_with fail
 have hl5 := bx5.lt; have hl6 := bx6.lt; have hl10 := bx10.lt; have hl11 := bx11.lt; have hl12 := bx12.lt; have hl13 := bx13.lt; have hl14 := bx14.lt; have hbL := HB.out.size
 go_loopw [15, 16, 17] (fun ra_ rb_ iv wr1 => ∃ i : Nat, i ≤ L ∧ iv = .int .i64 ((i : Int) + 1) ∧ Low [g13, g14] w4 wr1 ∧ RowW wr1 w4.heap.size 40 ra_ (lst (rA (dCos q) (x0 * x0) x1) i) ∧ RowW wr1 w4.heap.size 40 rb_ (lst (rB (dCos q) (x0 * x0) x1) i) ∧ Apart ra_ rb_ ∧ (∃ n13a A13a l13a c13a, Blk wr1 (g13) 24 #[.bool n13a, .slice A13a l13a c13a] ∧ QB wr1 0 (40) n13a A13a l13a c13a ((rA (dCos q) (x0 * x0) x1) i)) ∧ (∃ n14a A14a l14a c14a, Blk wr1 (g14) 24 #[.bool n14a, .slice A14a l14a c14a] ∧ QB wr1 0 (40) n14a A14a l14a c14a ((rB (dCos q) (x0 * x0) x1) i))) (fun _ _ iv _ => L + 1 - (intOf iv).toNat)
 case atStart => exact ⟨0, by omega, rfl, Low.refl _ _, RowW.nil _ _ _, RowW.nil _ _ _, Apart.nil, ⟨_, _, _, _, bx13, (q13sc.up (by omega))⟩, ⟨_, _, _, _, bx14, (q14sd.up (by omega))⟩⟩
 case round =>
  obtain ⟨i, hi, rfl, HL, ha, hb, hap, ⟨n13a, A13a, l13a, c13a, bx13, q13a⟩, ⟨n14a, A14a, l14a, c14a, bx14, q14a⟩⟩ := hrel; replace h0 := h0.ext HL.ext; replace h1 := h1.ext HL.ext; replace q12sb := q12sb.ext HL.ext; replace bx5 := HL.blk bx5 (zM (Ne.symm hne13_5.out) (zM (Ne.symm hne14_5.out) zN)); replace bx6 := HL.blk bx6 (zM (Ne.symm hne13_6.out) (zM (Ne.symm hne14_6.out) zN)); replace bx10 := HL.blk bx10 (zM (Ne.symm hne13_10.out) (zM (Ne.symm hne14_10.out) zN)); replace bx11 := HL.blk bx11 (zM (Ne.symm hne13_11.out) (zM (Ne.symm hne14_11.out) zN)); replace bx12 := HL.blk bx12 (zM (Ne.symm hne13_12.out) (zM (Ne.symm hne14_12.out) zN)); replace HB := hide (HB.out.trans (HL.below (B := w.heap.size) HB.out.size (zA hge13 (zA hge14 zE))))
  by_cases hlt : i < L
  ·
   have hlt' : (i : Int) + 1 ≤ 2 * (N : Int) + 1 := by have := hL.out; omega
   obtain ⟨bx5c0, bx5c1, -⟩ := bx5.two; obtain ⟨bx6c0, bx6c1, -⟩ := bx6.two; obtain ⟨bx10c0, bx10c1, -⟩ := bx10.two; obtain ⟨bx11c0, bx11c1, -⟩ := bx11.two; obtain ⟨bx12c0, bx12c1, -⟩ := bx12.two; obtain ⟨bx13c0, bx13c1, -⟩ := bx13.two; obtain ⟨bx14c0, bx14c1, -⟩ := bx14.two; have HBA := alloc_below wr (.cells #[.bool n13a, .slice A13a l13a c13a] 24); have hszA : w4.heap.size ≤ (wr.alloc (.cells #[.bool n13a, .slice A13a l13a c13a] 24)).heap.size := Nat.le_trans HL.size HBA.size
   go_upto_region 10 with (at_builtin; refine wpList_appendW rfl _ _ rfl rfl (ha.below HBA) rfl (Blk.new _ _ _) (q13a.ext (ext_of HBA)) (by rw [lst_len]; omega) hszA ?_; intro va9 w5 han hgr hown hlow)
   clear bx5c0 bx5c1 bx6c0 bx6c1 bx10c0 bx10c1 bx11c0 bx11c1 bx12c0 bx12c1 bx13c0 bx13c1 bx14c0 bx14c1; have HZ : Low u15.ownBlock.toList wr w5 := ((Low.refl u15.ownBlock.toList wr).grow HBA).step hlow (fun g hg => Or.inl hg); have hap0 : Apart u15 u16 := hap; replace hap := hap0.grow hown (fun g hg => ((hb.below HBA).lt g hg).2); replace hb := (hb.below HBA).step hgr (Apart.or hap0) hlow.ext; replace h0 := h0.ext HZ.ext; replace h1 := h1.ext HZ.ext; replace q12sb := q12sb.ext HZ.ext; replace q13a := q13a.ext HZ.ext; replace q14a := q14a.ext HZ.ext; replace bx5 := HZ.blk bx5 (ha.far hl5); replace bx6 := HZ.blk bx6 (ha.far hl6); replace bx10 := HZ.blk bx10 (ha.far hl10); replace bx11 := HZ.blk bx11 (ha.far hl11); replace bx12 := HZ.blk bx12 (ha.far hl12); replace bx13 := HZ.blk bx13 (ha.far hl13); replace bx14 := HZ.blk bx14 (ha.far hl14); replace HB := hide (HB.out.trans (HZ.below (B := w.heap.size) HB.out.size (ha.near hbL))); replace HL := HL.step HZ (fun g hg => Or.inr (ha.near (Nat.le_refl _) g hg)); clear ha HBA hszA hgr hown hlow HZ hap0; have ha := han; clear han; obtain ⟨bx5c0, bx5c1, -⟩ := bx5.two; obtain ⟨bx6c0, bx6c1, -⟩ := bx6.two; obtain ⟨bx10c0, bx10c1, -⟩ := bx10.two; obtain ⟨bx11c0, bx11c1, -⟩ := bx11.two; obtain ⟨bx12c0, bx12c1, -⟩ := bx12.two; obtain ⟨bx13c0, bx13c1, -⟩ := bx13.two; obtain ⟨bx14c0, bx14c1, -⟩ := bx14.two; have HBA := alloc_below w5 (.cells #[.bool n14a, .slice A14a l14a c14a] 24); have hszA : w4.heap.size ≤ (w5.alloc (.cells #[.bool n14a, .slice A14a l14a c14a] 24)).heap.size := Nat.le_trans HL.size HBA.size
   go_upto_region 11 with (at_builtin; refine wpList_appendW rfl _ _ rfl rfl (hb.below HBA) rfl (Blk.new _ _ _) (q14a.ext (ext_of HBA)) (by rw [lst_len]; omega) hszA ?_; intro vb10 w6 hbn hgr hown hlow)
   clear bx5c0 bx5c1 bx6c0 bx6c1 bx10c0 bx10c1 bx11c0 bx11c1 bx12c0 bx12c1 bx13c0 bx13c1 bx14c0 bx14c1; have HZ : Low u16.ownBlock.toList w5 w6 := ((Low.refl u16.ownBlock.toList w5).grow HBA).step hlow (fun g hg => Or.inl hg); have hap0 : Apart u16 va9 := hap.symm; replace hap := (hap0.grow hown (fun g hg => ((ha.below HBA).lt g hg).2)).symm; replace ha := (ha.below HBA).step hgr (Apart.or hap0) hlow.ext; replace h0 := h0.ext HZ.ext; replace h1 := h1.ext HZ.ext; replace q12sb := q12sb.ext HZ.ext; replace q13a := q13a.ext HZ.ext; replace q14a := q14a.ext HZ.ext; replace bx5 := HZ.blk bx5 (hb.far hl5); replace bx6 := HZ.blk bx6 (hb.far hl6); replace bx10 := HZ.blk bx10 (hb.far hl10); replace bx11 := HZ.blk bx11 (hb.far hl11); replace bx12 := HZ.blk bx12 (hb.far hl12); replace bx13 := HZ.blk bx13 (hb.far hl13); replace bx14 := HZ.blk bx14 (hb.far hl14); replace HB := hide (HB.out.trans (HZ.below (B := w.heap.size) HB.out.size (hb.near hbL))); replace HL := HL.step HZ (fun g hg => Or.inr (hb.near (Nat.le_refl _) g hg)); clear hb HBA hszA hgr hown hlow HZ hap0; have hb := hbn; clear hbn
   have hc1 : 1 ≤ (2 * ((i : Int) + 1) - 1) * 2 * ((i : Int) + 1) ∧ (2 * ((i : Int) + 1) - 1) * 2 * ((i : Int) + 1) ≤ 1000000000 := by
    have h1 : (1 * 2) * 1 ≤ (2 * ((i : Int) + 1) - 1) * 2 * ((i : Int) + 1) := Int.mul_le_mul (by omega) (by omega) (by omega) (by omega); have h2 : (2 * ((i : Int) + 1) - 1) * 2 * ((i : Int) + 1) ≤ 40000 * 10000 := Int.mul_le_mul (by omega) (by omega) (by omega) (by omega)
    omega
   go_upto_region 14 with (fail)
   refine F2.regionS [.o, .o, .o, .o, .o, .o, .so (g13) 24 #[.bool n13a, .slice A13a l13a c13a]] [Fact.eq ?cg52_, Fact.eq ?cg53_, Fact.eq ?cg54_, Fact.eq ?cg55_, Fact.eq ?cg56_, Fact.z ?kg57_ ?zg57_, Fact.z ?kgs13_ ?zgs13_] [52, 53, 54, 55, 56, 57] [52, 53, 54, 55, 56, 57, 0] (by kernel_rfl) ?sog ?sopg (by kernel_rfl) ?stg ?fing
   case sog => exact List.forall_mem_cons.2 ⟨⟨bx13, NoU.two nB nS⟩, fun x hx => by cases hx⟩
   case sopg => exact List.Pairwise.cons (fun y hy => by cases hy) (List.Pairwise.nil)
   case stg =>
    refine F2.Steps.consO rfl ?_ ?_
    ·
     intro vz wz hBz hDz hTz K hK; have HW := hBz.ext; have bx13z := hTz 6 _ _ _ _ rfl rfl (by kernel_rfl); obtain ⟨zl0, zl1, -⟩ := bx13z.two; simp only [zy, F2.Wp] at hK ⊢; go_simp; refine hK _ wz zB (Fact.eq_mk ?_); with_reducible rfl
    refine F2.Steps.consO rfl ?_ ?_
    ·
     intro vz wz hBz hDz hTz K hK; have HW := hBz.ext; have bx12z := hBz.blk bx12 (zM (Ne.symm hne13_12.out) zN); obtain ⟨zl0, zl1, -⟩ := bx12z.two; simp only [zy, F2.Wp] at hK ⊢; go_simp; refine hK _ wz zB (Fact.eq_mk ?_); with_reducible rfl
    refine F2.Steps.consO rfl ?_ ?_
    ·
     intro vz wz hBz hDz hTz K hK; have HW := hBz.ext; simp only [zy, F2.Wp] at hK ⊢; go_simp; refine hK _ wz zB (Fact.eq_mk ?_); with_reducible rfl
    refine F2.Steps.consO rfl ?_ ?_
    ·
     intro vz wz hBz hDz hTz K hK; have HW := hBz.ext; simp only [zy, F2.Wp] at hK ⊢; go_simp; refine hK _ wz zB (Fact.eq_mk ?_); with_reducible rfl
    refine F2.Steps.consO rfl ?_ ?_
    ·
     intro vz wz hBz hDz hTz K hK; have E55 : vz 55 = _ := hDz 3 (by kernel_rfl) rfl; have HW := hBz.ext; simp only [zy, F2.Wp] at hK ⊢; simp only [E55] at hK ⊢; go_simp
     try simp (disch := omega) only [IntWalk.i64_in]
     refine hK _ wz zB (Fact.eq_mk ?_); with_reducible rfl
    refine F2.Steps.consO rfl ?_ ?_
    ·
     intro vz wz hBz hDz hTz K hK; have E52 : vz 52 = _ := hDz 0 (by kernel_rfl) rfl; have E53 : vz 53 = _ := hDz 1 (by kernel_rfl) rfl; have E54 : vz 54 = _ := hDz 2 (by kernel_rfl) rfl; have E56 : vz 56 = _ := hDz 4 (by kernel_rfl) rfl; have HW := hBz.ext; simp only [zy, F2.Wp] at hK ⊢; simp only [E52, E53, E54, E56] at hK ⊢; go_simp; refine Calls.mono (ddown_calls (q13a.ext HW).q (q12sb.ext HW).q (by omega) (by omega) (by omega) (by omega) (by omega) (by omega)) ?_; rintro e w2z ⟨hb2, uz, rfl, hf⟩; refine hK _ w2z hb2 (Fact.cast (hf) ?_); with_reducible rfl
    refine F2.Steps.consT rfl ?_ ?_
    ·
     intro vz wz hBz hDz hbz K hK; obtain ⟨zc0, zc1, zc2, zc3⟩ := hbz.two; obtain ⟨n57_, A57_, l57_, c57_, E57, q57⟩ : IntV 0 _ _ wz (vz 57) := hDz 5 (by kernel_rfl) rfl; have HW := hBz.ext; simp only [zy, F2.Wp] at hK ⊢; simp only [E57] at hK ⊢; go_simp; refine hK _ ((Far.set _ _ 0 _).trans (Far.set _ _ 1 _)) ⟨_, blk_two hbz, NoU.two nB nS, Fact.cast (Fact.z_mk q57) ?_⟩; with_reducible rfl
    exact F2.Steps.nil
   intro vg w7 hBz ⟨hOz, hAz, hNz, hSz⟩; have E52 : vg 52 = _ := hOz 0 (by decide) rfl; have E53 : vg 53 = _ := hOz 1 (by decide) rfl; have E54 : vg 54 = _ := hOz 2 (by decide) rfl; have E55 : vg 55 = _ := hOz 3 (by decide) rfl; have E56 : vg 56 = _ := hOz 4 (by decide) rfl; obtain ⟨n57_, A57_, l57_, c57_, E57, q57⟩ : IntV 0 _ _ w7 (vg 57) := hOz 5 (by decide) rfl; obtain ⟨cs13, bx13n, hs13⟩ := hSz 6 _ _ _ (by decide) rfl; obtain ⟨n13sg_, A13sg_, l13sg_, c13sg_, E13sg, q13sg⟩ : IntV 0 _ _ w7 (.agg cs13) := hs13; injection E13sg with E13sg
   subst E13sg; simp only [Act.put, actv, fill, fC, fN, tA, cS, cZ]; simp only [E52, E53, E54, E55, E56, E57]; clear E52 E53 E54 E55 E56 E57; replace h0 := h0.ext hBz.ext; replace h1 := h1.ext hBz.ext; replace q12sb := q12sb.ext hBz.ext; replace q13a := q13a.ext hBz.ext; replace q14a := q14a.ext hBz.ext; replace bx5 := hBz.blk bx5 (zM (Ne.symm hne13_5.out) zN); replace bx6 := hBz.blk bx6 (zM (Ne.symm hne13_6.out) zN); replace bx10 := hBz.blk bx10 (zM (Ne.symm hne13_10.out) zN); replace bx11 := hBz.blk bx11 (zM (Ne.symm hne13_11.out) zN); replace bx12 := hBz.blk bx12 (zM (Ne.symm hne13_12.out) zN); replace bx14 := hBz.blk bx14 (zM hne14_13.out zN); replace ha := ha.low1 (g := g13) hBz (zA rfl zE) (ha.ne hl13); replace hb := hb.low1 (g := g13) hBz (zA rfl zE) (hb.ne hl13); replace HL := HL.step hBz (zA (Or.inl (by simp)) zE); replace HB := hide (HB.out.trans (hBz.below (B := w.heap.size) HB.out.size (zA hge13 zE))); clear bx13; have bx13 := bx13n; clear bx13n; clear hOz hAz hNz hSz hBz
   go_upto_region 15 with (fail)
   refine F2.regionS [.o, .o, .o, .o, .o, .o, .so (g14) 24 #[.bool n14a, .slice A14a l14a c14a]] [Fact.eq ?ch58_, Fact.eq ?ch59_, Fact.eq ?ch60_, Fact.eq ?ch61_, Fact.eq ?ch62_, Fact.z ?kh63_ ?zh63_, Fact.z ?khs14_ ?zhs14_] [58, 59, 60, 61, 62, 63] [58, 59, 60, 61, 62, 63, 0] (by kernel_rfl) ?soh ?soph (by kernel_rfl) ?sth ?finh
   case soh => exact List.forall_mem_cons.2 ⟨⟨bx14, NoU.two nB nS⟩, fun x hx => by cases hx⟩
   case soph => exact List.Pairwise.cons (fun y hy => by cases hy) (List.Pairwise.nil)
   case sth =>
    refine F2.Steps.consO rfl ?_ ?_
    ·
     intro vz wz hBz hDz hTz K hK; have HW := hBz.ext; have bx14z := hTz 6 _ _ _ _ rfl rfl (by kernel_rfl); obtain ⟨zl0, zl1, -⟩ := bx14z.two; simp only [zy, F2.Wp] at hK ⊢; go_simp; refine hK _ wz zB (Fact.eq_mk ?_); with_reducible rfl
    refine F2.Steps.consO rfl ?_ ?_
    ·
     intro vz wz hBz hDz hTz K hK; have HW := hBz.ext; have bx12z := hBz.blk bx12 (zM (Ne.symm hne14_12.out) zN); obtain ⟨zl0, zl1, -⟩ := bx12z.two; simp only [zy, F2.Wp] at hK ⊢; go_simp; refine hK _ wz zB (Fact.eq_mk ?_); with_reducible rfl
    refine F2.Steps.consO rfl ?_ ?_
    ·
     intro vz wz hBz hDz hTz K hK; have HW := hBz.ext; simp only [zy, F2.Wp] at hK ⊢; go_simp; refine hK _ wz zB (Fact.eq_mk ?_); with_reducible rfl
    refine F2.Steps.consO rfl ?_ ?_
    ·
     intro vz wz hBz hDz hTz K hK; have HW := hBz.ext; simp only [zy, F2.Wp] at hK ⊢; go_simp; refine hK _ wz zB (Fact.eq_mk ?_); with_reducible rfl
    refine F2.Steps.consO rfl ?_ ?_
    ·
     intro vz wz hBz hDz hTz K hK; have E61 : vz 61 = _ := hDz 3 (by kernel_rfl) rfl; have HW := hBz.ext; simp only [zy, F2.Wp] at hK ⊢; simp only [E61] at hK ⊢; go_simp
     try simp (disch := omega) only [IntWalk.i64_in]
     refine hK _ wz zB (Fact.eq_mk ?_); with_reducible rfl
    refine F2.Steps.consO rfl ?_ ?_
    ·
     intro vz wz hBz hDz hTz K hK; have E58 : vz 58 = _ := hDz 0 (by kernel_rfl) rfl; have E59 : vz 59 = _ := hDz 1 (by kernel_rfl) rfl; have E60 : vz 60 = _ := hDz 2 (by kernel_rfl) rfl; have E62 : vz 62 = _ := hDz 4 (by kernel_rfl) rfl; have HW := hBz.ext; simp only [zy, F2.Wp] at hK ⊢; simp only [E58, E59, E60, E62] at hK ⊢; go_simp; refine Calls.mono (dup_calls (q14a.ext HW).q (q12sb.ext HW).q (by omega) (by omega) (by omega) (by omega) (by omega) (by omega)) ?_; rintro e w2z ⟨hb2, uz, rfl, hf⟩; refine hK _ w2z hb2 (Fact.cast (hf) ?_); with_reducible rfl
    refine F2.Steps.consT rfl ?_ ?_
    ·
     intro vz wz hBz hDz hbz K hK; obtain ⟨zc0, zc1, zc2, zc3⟩ := hbz.two; obtain ⟨n63_, A63_, l63_, c63_, E63, q63⟩ : IntV 0 _ _ wz (vz 63) := hDz 5 (by kernel_rfl) rfl; have HW := hBz.ext; simp only [zy, F2.Wp] at hK ⊢; simp only [E63] at hK ⊢; go_simp; refine hK _ ((Far.set _ _ 0 _).trans (Far.set _ _ 1 _)) ⟨_, blk_two hbz, NoU.two nB nS, Fact.cast (Fact.z_mk q63) ?_⟩; with_reducible rfl
    exact F2.Steps.nil
   intro vh w8 hBz ⟨hOz, hAz, hNz, hSz⟩; have E58 : vh 58 = _ := hOz 0 (by decide) rfl; have E59 : vh 59 = _ := hOz 1 (by decide) rfl; have E60 : vh 60 = _ := hOz 2 (by decide) rfl; have E61 : vh 61 = _ := hOz 3 (by decide) rfl; have E62 : vh 62 = _ := hOz 4 (by decide) rfl; obtain ⟨n63_, A63_, l63_, c63_, E63, q63⟩ : IntV 0 _ _ w8 (vh 63) := hOz 5 (by decide) rfl; obtain ⟨cs14, bx14n, hs14⟩ := hSz 6 _ _ _ (by decide) rfl; obtain ⟨n14sh_, A14sh_, l14sh_, c14sh_, E14sh, q14sh⟩ : IntV 0 _ _ w8 (.agg cs14) := hs14; injection E14sh with E14sh
   subst E14sh; simp only [Act.put, actv, fill, fC, fN, tA, cS, cZ]; simp only [E58, E59, E60, E61, E62, E63]; clear E58 E59 E60 E61 E62 E63; replace h0 := h0.ext hBz.ext; replace h1 := h1.ext hBz.ext; replace q12sb := q12sb.ext hBz.ext; replace q13sg := q13sg.ext hBz.ext; replace q14a := q14a.ext hBz.ext; replace bx5 := hBz.blk bx5 (zM (Ne.symm hne14_5.out) zN); replace bx6 := hBz.blk bx6 (zM (Ne.symm hne14_6.out) zN); replace bx10 := hBz.blk bx10 (zM (Ne.symm hne14_10.out) zN); replace bx11 := hBz.blk bx11 (zM (Ne.symm hne14_11.out) zN); replace bx12 := hBz.blk bx12 (zM (Ne.symm hne14_12.out) zN); replace bx13 := hBz.blk bx13 (zM (Ne.symm hne14_13.out) zN); replace ha := ha.low1 (g := g14) hBz (zA rfl zE) (ha.ne hl14); replace hb := hb.low1 (g := g14) hBz (zA rfl zE) (hb.ne hl14); replace HL := HL.step hBz (zA (Or.inl (by simp)) zE); replace HB := hide (HB.out.trans (hBz.below (B := w.heap.size) HB.out.size (zA hge14 zE))); clear bx14; have bx14 := bx14n; clear bx14n; clear hOz hAz hNz hSz hBz
   go_wp2_with fail
   go_roundw
   case rel => exact ⟨i + 1, by omega, by go_num, HL, ha, hb, hap, ⟨_, _, _, _, bx13, (q13sg.fit (HA.out (i + 1) (by have := hL.out; omega)))⟩, ⟨_, _, _, _, bx14, (q14sh.fit (HB_.out (i + 1) (by have := hL.out; omega)))⟩⟩
   case measure => simp [intOf]; omega
  ·
   have hge : ¬ ((i : Int) + 1 ≤ 2 * (N : Int) + 1) := by have := hL.out; omega
   have hie := hide (show i = L by omega); clear hlt; obtain ⟨g1, cp1, rfl, hB1, hr1⟩ := ha.read_lst (L := i) (by have := hL.out; have := hie.out; omega); obtain ⟨g2, cp2, rfl, hB2, hr2⟩ := hb.read_lst (L := i) (by have := hL.out; have := hie.out; omega); clear ha hb hap; replace hL : Hid (i = 2 * N + 1) := hide (hie.out.trans hL.out); clear hie
   go_upto_region 16 with (fail)
   clear hge; refine F2.regionS [.o, .o, .o, .o, .o, .so (g10) 24 #[.bool false, .slice none 0 0], .so (g11) 24 #[.bool false, .slice none 0 0]] [Fact.eq ?ci64_, Fact.eq ?ci65_, Fact.t2 (Fact.z ?ki66_p ?zi66_p) (Fact.z ?ki66_q ?zi66_q), Fact.z ?ki67_ ?zi67_, Fact.z ?ki68_ ?zi68_, Fact.z ?kis10_ ?zis10_, Fact.z ?kis11_ ?zis11_] [64, 65, 66, 67, 68] [64, 65, 66, 67, 68, 0, 0] (by kernel_rfl) ?soi ?sopi (by kernel_rfl) ?sti ?fini
   case soi => exact List.forall_mem_cons.2 ⟨⟨bx10, NoU.two nB nS⟩, List.forall_mem_cons.2 ⟨⟨bx11, NoU.two nB nS⟩, fun x hx => by cases hx⟩⟩
   case sopi => exact List.Pairwise.cons (by intro y hy; simp [F2.sos] at hy; have hne10_11 := hne10_11.out; first | (subst hy; simp; done) | (subst hy; simp; omega) | (rcases hy with rfl | rfl <;> simp <;> omega)) (List.Pairwise.cons (fun y hy => by cases hy) (List.Pairwise.nil))
   case sti =>
    refine F2.Steps.consO rfl ?_ ?_
    ·
     intro vz wz hBz hDz hTz K hK; have HW := hBz.ext; simp only [zy, F2.Wp] at hK ⊢; go_simp; refine hK _ wz zB (Fact.eq_mk ?_); with_reducible rfl
    refine F2.Steps.consO rfl ?_ ?_
    ·
     intro vz wz hBz hDz hTz K hK; have HW := hBz.ext; simp only [zy, F2.Wp] at hK ⊢; go_simp; refine hK _ wz zB (Fact.eq_mk ?_); with_reducible rfl
    refine F2.Steps.consO rfl ?_ ?_
    ·
     intro vz wz hBz hDz hTz K hK; have E64 : vz 64 = _ := hDz 0 (by kernel_rfl) rfl; have E65 : vz 65 = _ := hDz 1 (by kernel_rfl) rfl; have HW := hBz.ext; simp only [zy, F2.Wp] at hK ⊢; simp only [E64, E65] at hK ⊢; go_simp; refine Calls.mono (turned_calls   (hr1.low hBz (zM (Nat.ne_of_gt (Nat.lt_of_lt_of_le hl10 hB1)) (zM (Nat.ne_of_gt (Nat.lt_of_lt_of_le hl11 hB1)) zN))) (hr2.low hBz (zM (Nat.ne_of_gt (Nat.lt_of_lt_of_le hl10 hB2)) (zM (Nat.ne_of_gt (Nat.lt_of_lt_of_le hl11 hB2)) zN))) hL hN (by omega) (hide (fun i hi => HS.out i (by have := hL.out; omega))) (hide (fun i hi => HT.out i (by have := hL.out; omega)))) ?_; rintro e w2z ⟨hb2, uz, rfl, hf⟩; refine hK _ w2z hb2 (Fact.cast (hf) ?_); with_reducible rfl
    refine F2.Steps.consO rfl ?_ ?_
    ·
     intro vz wz hBz hDz hTz K hK; obtain ⟨x66p_, x66q_, E66, h66p, h66q⟩ : TV2 _ _ wz (vz 66) := hDz 2 (by kernel_rfl) rfl; have HW := hBz.ext; simp only [zy, F2.Wp] at hK ⊢; simp only [E66] at hK ⊢; go_simp; refine hK _ wz zB (Fact.cast (h66p) ?_); with_reducible rfl
    refine F2.Steps.consO rfl ?_ ?_
    ·
     intro vz wz hBz hDz hTz K hK; obtain ⟨x66p_, x66q_, E66, h66p, h66q⟩ : TV2 _ _ wz (vz 66) := hDz 2 (by kernel_rfl) rfl; have HW := hBz.ext; simp only [zy, F2.Wp] at hK ⊢; simp only [E66] at hK ⊢; go_simp; refine hK _ wz zB (Fact.cast (h66q) ?_); with_reducible rfl
    refine F2.Steps.consT rfl ?_ ?_
    ·
     intro vz wz hBz hDz hbz K hK; obtain ⟨zc0, zc1, zc2, zc3⟩ := hbz.two; obtain ⟨n67_, A67_, l67_, c67_, E67, q67⟩ : IntV 0 _ _ wz (vz 67) := hDz 3 (by kernel_rfl) rfl; have HW := hBz.ext; simp only [zy, F2.Wp] at hK ⊢; simp only [E67] at hK ⊢; go_simp; refine hK _ ((Far.set _ _ 0 _).trans (Far.set _ _ 1 _)) ⟨_, blk_two hbz, NoU.two nB nS, Fact.cast (Fact.z_mk q67) ?_⟩; with_reducible rfl
    refine F2.Steps.consT rfl ?_ ?_
    ·
     intro vz wz hBz hDz hbz K hK; obtain ⟨zc0, zc1, zc2, zc3⟩ := hbz.two; obtain ⟨n68_, A68_, l68_, c68_, E68, q68⟩ : IntV 0 _ _ wz (vz 68) := hDz 4 (by kernel_rfl) rfl; have HW := hBz.ext; simp only [zy, F2.Wp] at hK ⊢; simp only [E68] at hK ⊢; go_simp; refine hK _ ((Far.set _ _ 0 _).trans (Far.set _ _ 1 _)) ⟨_, blk_two hbz, NoU.two nB nS, Fact.cast (Fact.z_mk q68) ?_⟩; with_reducible rfl
    exact F2.Steps.nil
   intro vi w9 hBz ⟨hOz, hAz, hNz, hSz⟩; have E64 : vi 64 = _ := hOz 0 (by decide) rfl; have E65 : vi 65 = _ := hOz 1 (by decide) rfl; obtain ⟨x66p_, x66q_, E66, h66p, h66q⟩ : TV2 _ _ w9 (vi 66) := hOz 2 (by decide) rfl; obtain ⟨n67_, A67_, l67_, c67_, E67, q67⟩ : IntV 0 _ _ w9 (vi 67) := hOz 3 (by decide) rfl; obtain ⟨n68_, A68_, l68_, c68_, E68, q68⟩ : IntV 0 _ _ w9 (vi 68) := hOz 4 (by decide) rfl; obtain ⟨cs10, bx10n, hs10⟩ := hSz 5 _ _ _ (by decide) rfl; obtain ⟨n10si_, A10si_, l10si_, c10si_, E10si, q10si⟩ : IntV 0 _ _ w9 (.agg cs10) := hs10; injection E10si with E10si
   subst E10si; obtain ⟨cs11, bx11n, hs11⟩ := hSz 6 _ _ _ (by decide) rfl; obtain ⟨n11si_, A11si_, l11si_, c11si_, E11si, q11si⟩ : IntV 0 _ _ w9 (.agg cs11) := hs11; injection E11si with E11si
   subst E11si; simp only [Act.put, actv, fill, fC, fN, tA, cS, cZ]; simp only [E64, E65, E66, E67, E68]; clear E64 E65 E66 E67 E68; replace h0 := h0.ext hBz.ext; replace h1 := h1.ext hBz.ext; replace q12sb := q12sb.ext hBz.ext; replace q13a := q13a.ext hBz.ext; replace q14a := q14a.ext hBz.ext; replace bx5 := hBz.blk bx5 (zM hne5_10.out (zM hne5_11.out zN)); replace bx6 := hBz.blk bx6 (zM hne6_10.out (zM hne6_11.out zN)); replace bx12 := hBz.blk bx12 (zM hne12_10.out (zM hne12_11.out zN)); replace bx13 := hBz.blk bx13 (zM hne13_10.out (zM hne13_11.out zN)); replace bx14 := hBz.blk bx14 (zM hne14_10.out (zM hne14_11.out zN)); replace HB := hide (HB.out.trans (hBz.below (B := w.heap.size) HB.out.size (zA hge10 (zA hge11 zE)))); clear bx10; clear bx11; have bx10 := bx10n; clear bx10n; have bx11 := bx11n; clear bx11n; clear hOz hAz hNz hSz hBz
   go_wp2_with fail
   refine bodyPost_ret (results_int_int rfl _ _ _ _ _ _ _ _ _ _ rfl bx10 rfl bx11) rfl ⟨HB.out, ?_⟩; exact VF.mk (Fact.t2_mk (Fact.z_mk q10si) (Fact.z_mk q11si))
end Go.Proofs.YtnephejalollfaaGreat
