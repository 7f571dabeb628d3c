/- rows: the five sums. rows: Atanh and Atan. -/
import Derived.Test.YtnephejalollfaaGreatRt
import Derived.Test.YtnephejalollfaaGreatRu
import Derived.Test.YtnephejalollfaaGreatRv
section
set_option linter.unusedVariables false
set_option linter.unusedSimpArgs false
namespace Go.Proofs.YtnephejalollfaaGreat
open Go.RowKit
open L (val dig nth)
theorem hmfR (fn : Fn) (first cap : Array Value) (w : World) : (Instr.makeFunc fn first cap).run Tryz.prog w = .ok (.func fn first cap) w := rfl
theorem mayR_true {x q n y : Int} (h : mayR x q n y = true) : (0 ≤ q ∧ q ≤ 1200) ∧ (1 ≤ n ∧ n ≤ 400) ∧ 0 ≤ x ∧ x * 2 ≤ y * 2 ^ q.toNat := by
  unfold mayR at h; simp only [Bool.and_eq_true, decide_eq_true_eq] at h; obtain ⟨h1, h2, h3, h4, h5, h6⟩ := h; exact ⟨⟨h1, h2⟩, ⟨h3, h4⟩, h5, h6⟩
/-! What the five rows answer. -/
def up2 (x : Int) : Int := x * 2 ^ (1 : Int).toNat
def expLo (t q : Int) (n : Nat) : Int := su (rA (dExp q) t (1 * 2 ^ q.toNat)) n
def expHi (t q : Int) (n : Nat) : Int := su (rB (dExp q) t (1 * 2 ^ q.toNat)) n + up2 (rB (dExp q) t (1 * 2 ^ q.toNat) n)
def atanhLo (t q : Int) (n : Nat) : Int := su (oA (rA (dPow q) (t * t) t)) n
def atanhHi (t q : Int) (n : Nat) : Int := su (oB (rB (dPow q) (t * t) t)) n + up2 (oB (rB (dPow q) (t * t) t) n)
def atanLo (t q : Int) (n : Nat) : Int := tu (oA (rA (dPow q) (t * t) t)) (oB (rB (dPow q) (t * t) t)) (2 * n)
def atanHi (t q : Int) (n : Nat) : Int := tu (oB (rB (dPow q) (t * t) t)) (oA (rA (dPow q) (t * t) t)) (2 * n) + oB (rB (dPow q) (t * t) t) (2 * n)
def sinLo (t q : Int) (n : Nat) : Int := tu (rA (dSin q) (t * t) t) (rB (dSin q) (t * t) t) (2 * n)
def sinHi (t q : Int) (n : Nat) : Int := tu (rB (dSin q) (t * t) t) (rA (dSin q) (t * t) t) (2 * n) + rB (dSin q) (t * t) t (2 * n)
def cosLo (t q : Int) (n : Nat) : Int := tu (rA (dCos q) (t * t) (1 * 2 ^ q.toNat)) (rB (dCos q) (t * t) (1 * 2 ^ q.toNat)) (2 * n)
def cosHi (t q : Int) (n : Nat) : Int := tu (rB (dCos q) (t * t) (1 * 2 ^ q.toNat)) (rA (dCos q) (t * t) (1 * 2 ^ q.toNat)) (2 * n) + rB (dCos q) (t * t) (1 * 2 ^ q.toNat) (2 * n)
set_option maxHeartbeats 4000000 in
set_option maxRecDepth 100000 in
theorem rexp_calls {w : World}  {k0 : Nat} {n0 : Bool} {A0 : Option Addr} {l0 c0 : Nat} {x0 : Int} {q n : Int} (h0 : Q w k0 n0 A0 l0 c0 x0) (hk0 : k0 ≤ 40) :
    Calls Tryz.prog 17 #[.agg #[.bool n0, .slice A0 l0 c0], .int .i64 q, .int .i64 n] w fun e w' => Below w.heap.size w w' ∧ VF (Fact.t3 (Fact.z 340 (if mayR x0 q n 2 = true then expLo x0 q n.toNat else 0)) (Fact.z 340 (if mayR x0 q n 2 = true then expHi x0 q n.toNat else 0)) (Fact.eq (.int .i64 (if mayR x0 q n 2 = true then 0 else 1)))) e w' := by
 obtain ⟨mm, HM⟩ : ∃ m, Hid (mayR x0 q n 2 = m) := ⟨_, hide rfl⟩; rw [HM.out]
 go_enter Tryz.func17, Tryz.ntmps17
 have HB : Hid (Below w.heap.size w w) := hide (Below.refl _ _)
 go_upto_region 0 with (fail)
 refine F2.regionS [.al 24 #[.bool n0, .slice A0 l0 c0], .al 3 #[.int .i64 q], .al 24 #[.bool false, .slice none 0 0], .al 24 #[.bool false, .slice none 0 0], .o] [Fact.any, Fact.any, Fact.any, Fact.any, Fact.eq ?ca8_] [3, 4, 6, 7, 8] [3, 4, 6, 7, 8] (by kernel_rfl) ?soa ?sopa (by kernel_rfl) ?sta ?fina
 case soa => exact fun x hx => by cases hx
 case sopa => exact List.Pairwise.nil
 case sta =>
  refine F2.Steps.consA rfl ⟨NoU.two nB nS, ?_⟩ ?_
  ·
   intro vz wz hBz K hK; simp only [zy, F2.Wp] at hK ⊢; go_simp; exact hK
  refine F2.Steps.consA rfl ⟨NoU.one nI, ?_⟩ ?_
  ·
   intro vz wz hBz K hK; simp only [zy, F2.Wp] at hK ⊢; go_simp; exact hK
  refine F2.Steps.consA rfl ⟨NoU.two nB nS, ?_⟩ ?_
  ·
   intro vz wz hBz K hK; simp only [zy, F2.Wp] at hK ⊢; go_simp; exact hK
  refine F2.Steps.consA rfl ⟨NoU.two nB nS, ?_⟩ ?_
  ·
   intro vz wz hBz K hK; simp only [zy, F2.Wp] at hK ⊢; go_simp; exact hK
  refine F2.Steps.consO rfl ?_ ?_
  ·
   intro vz wz hBz hDz hTz K hK; have HW := hBz.ext; simp only [zy, F2.Wp] at hK ⊢; go_simp; refine hK _ wz zB (Fact.eq_mk ?_); with_reducible rfl
  exact F2.Steps.nil
 intro va w1 hBz ⟨hOz, hAz, hNz, hSz⟩; obtain ⟨g3, cs3, E3, hg3, bx3, hs3, hz3⟩ := hAz 0 _ _ (by decide) rfl; have hzz := hz3 (F2.nost (by kernel_rfl)); subst hzz; obtain ⟨g4, cs4, E4, hg4, bx4, hs4, hz4⟩ := hAz 1 _ _ (by decide) rfl; have hzz := hz4 (F2.nost (by kernel_rfl)); subst hzz; obtain ⟨g6, cs6, E6, hg6, bx6, hs6, hz6⟩ := hAz 2 _ _ (by decide) rfl; have hzz := hz6 (F2.nost (by kernel_rfl)); subst hzz; obtain ⟨g7, cs7, E7, hg7, bx7, hs7, hz7⟩ := hAz 3 _ _ (by decide) rfl; have hzz := hz7 (F2.nost (by kernel_rfl)); subst hzz; have E8 : va 8 = _ := hOz 4 (by decide) rfl; have hne3_4 : Hid (¬ g3 = g4) := hide (fun h => hNz 0 1 _ _ _ _ (by decide) (by decide) (by decide) rfl rfl (by rw [E3, E4, h])); have hne3_6 : Hid (¬ g3 = g6) := hide (fun h => hNz 0 2 _ _ _ _ (by decide) (by decide) (by decide) rfl rfl (by rw [E3, E6, h])); have hne3_7 : Hid (¬ g3 = g7) := hide (fun h => hNz 0 3 _ _ _ _ (by decide) (by decide) (by decide) rfl rfl (by rw [E3, E7, h])); have hne4_6 : Hid (¬ g4 = g6) := hide (fun h => hNz 1 2 _ _ _ _ (by decide) (by decide) (by decide) rfl rfl (by rw [E4, E6, h])); have hne4_7 : Hid (¬ g4 = g7) := hide (fun h => hNz 1 3 _ _ _ _ (by decide) (by decide) (by decide) rfl rfl (by rw [E4, E7, h])); have hne6_7 : Hid (¬ g6 = g7) := hide (fun h => hNz 2 3 _ _ _ _ (by decide) (by decide) (by decide) rfl rfl (by rw [E6, E7, h])); simp only [Act.put, actv, fill, fC, fN, tA, cS, cZ]; simp only [(show va 3 = _ from E3), (show va 4 = _ from E4), (show va 6 = _ from E6), (show va 7 = _ from E7), E8]; clear E3 E4 E6 E7 E8; have hge3 : w.heap.size ≤ g3 := Nat.le_trans HB.out.size hg3; have hge4 : w.heap.size ≤ g4 := Nat.le_trans HB.out.size hg4; have hge6 : w.heap.size ≤ g6 := Nat.le_trans HB.out.size hg6; have hge7 : w.heap.size ≤ g7 := Nat.le_trans HB.out.size hg7; replace h0 := h0.ext hBz.ext; replace HB := hide (HB.out.trans (hBz.below (B := w.heap.size) HB.out.size zE)); clear hOz hAz hNz hSz hs3 hz3 hs4 hz4 hs6 hz6 hs7 hz7 hBz
 go_upto_region 1 with (fail)
 refine F2.regionS [.o, .o, .o, .o, .o] [Fact.eq ?cb9_, Fact.eq ?cb10_, Fact.eq ?cb11_, Fact.eq ?cb12_, Fact.eq ?cb13_] [9, 10, 11, 12, 13] [9, 10, 11, 12, 13] (by kernel_rfl) ?sob ?sopb (by kernel_rfl) ?stb ?finb
 case sob => exact fun x hx => by cases hx
 case sopb => exact List.Pairwise.nil
 case stb =>
  refine F2.Steps.consO rfl ?_ ?_
  ·
   intro vz wz hBz hDz hTz K hK; have HW := hBz.ext; have bx3z := hBz.blk bx3 zN; obtain ⟨zl0, zl1, -⟩ := bx3z.two; simp only [zy, F2.Wp] at hK ⊢; go_simp; refine hK _ wz zB (Fact.eq_mk ?_); with_reducible rfl
  refine F2.Steps.consO rfl ?_ ?_
  ·
   intro vz wz hBz hDz hTz K hK; have HW := hBz.ext; have bx4z := hBz.blk bx4 zN; obtain ⟨zl0, -⟩ := bx4z.one; simp only [zy, F2.Wp] at hK ⊢; go_simp; refine hK _ wz zB (Fact.eq_mk ?_); with_reducible rfl
  refine F2.Steps.consO rfl ?_ ?_
  ·
   intro vz wz hBz hDz hTz K hK; have HW := hBz.ext; simp only [zy, F2.Wp] at hK ⊢; go_simp; refine hK _ wz zB (Fact.eq_mk ?_); with_reducible rfl
  refine F2.Steps.consO rfl ?_ ?_
  ·
   intro vz wz hBz hDz hTz K hK; have E9 : vz 9 = _ := hDz 0 (by kernel_rfl) rfl; have E10 : vz 10 = _ := hDz 1 (by kernel_rfl) rfl; have E11 : vz 11 = _ := hDz 2 (by kernel_rfl) rfl; have HW := hBz.ext; simp only [zy, F2.Wp] at hK ⊢; simp only [E9, E10, E11] at hK ⊢; go_simp; refine Calls.mono (HM.out ▸ rmay_calls (h0.ext HW) (by omega) (by omega) (by omega)) ?_; rintro e w2z ⟨hb2, uz, rfl, hf⟩
   go_wp2_with fail
   refine hK _ w2z hb2 (Fact.cast (hf) ?_); with_reducible rfl
  refine F2.Steps.consO rfl ?_ ?_
  ·
   intro vz wz hBz hDz hTz K hK; have E12 : vz 12 = _ := hDz 3 (by kernel_rfl) rfl; have HW := hBz.ext; simp only [zy, F2.Wp] at hK ⊢; simp only [E12] at hK ⊢; go_simp; refine hK _ wz zB (Fact.eq_mk ?_); with_reducible rfl
  exact F2.Steps.nil
 intro vb w2 hBz ⟨hOz, hAz, hNz, hSz⟩; have E9 : vb 9 = _ := hOz 0 (by decide) rfl; have E10 : vb 10 = _ := hOz 1 (by decide) rfl; have E11 : vb 11 = _ := hOz 2 (by decide) rfl; have E12 : vb 12 = _ := hOz 3 (by decide) rfl; have E13 : vb 13 = _ := hOz 4 (by decide) rfl; simp only [Act.put, actv, fill, fC, fN, tA, cS, cZ]; simp only [E9, E10, E11, E12, E13]; clear E9 E10 E11 E12 E13; replace h0 := h0.ext hBz.ext; replace bx3 := hBz.blk bx3 zN; replace bx4 := hBz.blk bx4 zN; replace bx6 := hBz.blk bx6 zN; replace bx7 := hBz.blk bx7 zN; replace HB := hide (HB.out.trans (hBz.below (B := w.heap.size) HB.out.size zE)); clear hOz hAz hNz hSz hBz
 cases mm with
 | false =>
  go_upto_region 2 with (fail)
  refine F2.regionS [.o, .o, .so (g6) 24 #[.bool false, .slice none 0 0], .so (g7) 24 #[.bool false, .slice none 0 0], .o] [Fact.eq ?cc14_, Fact.eq ?cc15_, Fact.z ?kcs6_ ?zcs6_, Fact.z ?kcs7_ ?zcs7_, Fact.eq ?cc8_] [14, 15, 8] [14, 15, 0, 0, 8] (by kernel_rfl) ?soc ?sopc (by kernel_rfl) ?stc ?finc
  case soc => exact List.forall_mem_cons.2 ⟨⟨bx6, NoU.two nB nS⟩, List.forall_mem_cons.2 ⟨⟨bx7, NoU.two nB nS⟩, fun x hx => by cases hx⟩⟩
  case sopc => exact List.Pairwise.cons (by intro y hy; simp [F2.sos] at hy; have hne6_7 := hne6_7.out; first | (subst hy; simp; done) | (subst hy; simp; omega) | (rcases hy with rfl | rfl <;> simp <;> omega)) (List.Pairwise.cons (fun y hy => by cases hy) (List.Pairwise.nil))
  case stc =>
   refine F2.Steps.consO rfl ?_ ?_
   ·
    intro vz wz hBz hDz hTz K hK; have HW := hBz.ext; simp only [zy, F2.Wp] at hK ⊢; go_simp; refine hK _ wz zB (Fact.eq_mk ?_); with_reducible rfl
   refine F2.Steps.consO rfl ?_ ?_
   ·
    intro vz wz hBz hDz hTz K hK; have HW := hBz.ext; simp only [zy, F2.Wp] at hK ⊢; go_simp; refine hK _ wz zB (Fact.eq_mk ?_); with_reducible rfl
   refine F2.Steps.consT rfl ?_ ?_
   ·
    intro vz wz hBz hDz hbz K hK; obtain ⟨zc0, zc1, zc2, zc3⟩ := hbz.two; have E14 : vz 14 = _ := hDz 0 (by kernel_rfl) rfl; have HW := hBz.ext; simp only [zy, F2.Wp] at hK ⊢; simp only [E14] at hK ⊢; go_simp; refine hK _ ((Far.set _ _ 0 _).trans (Far.set _ _ 1 _)) ⟨_, blk_two hbz, NoU.two nB nS, Fact.cast (Fact.z_mk (QB.zero _ 0 0)) ?_⟩; with_reducible rfl
   refine F2.Steps.consT rfl ?_ ?_
   ·
    intro vz wz hBz hDz hbz K hK; obtain ⟨zc0, zc1, zc2, zc3⟩ := hbz.two; have E15 : vz 15 = _ := hDz 1 (by kernel_rfl) rfl; have HW := hBz.ext; simp only [zy, F2.Wp] at hK ⊢; simp only [E15] at hK ⊢; go_simp; refine hK _ ((Far.set _ _ 0 _).trans (Far.set _ _ 1 _)) ⟨_, blk_two hbz, NoU.two nB nS, Fact.cast (Fact.z_mk (QB.zero _ 0 0)) ?_⟩; with_reducible rfl
   refine F2.Steps.consO rfl ?_ ?_
   ·
    intro vz wz hBz hDz hTz K hK; have HW := hBz.ext; simp only [zy, F2.Wp] at hK ⊢; go_simp; refine hK _ wz zB (Fact.eq_mk ?_); with_reducible rfl
   exact F2.Steps.nil
  intro vc w3 hBz ⟨hOz, hAz, hNz, hSz⟩; have E14 : vc 14 = _ := hOz 0 (by decide) rfl; have E15 : vc 15 = _ := hOz 1 (by decide) rfl; obtain ⟨cs6, bx6n, hs6⟩ := hSz 2 _ _ _ (by decide) rfl; obtain ⟨n6sc_, A6sc_, l6sc_, c6sc_, E6sc, q6sc⟩ : IntV 0 _ _ w3 (.agg cs6) := hs6; injection E6sc with E6sc
  subst E6sc; obtain ⟨cs7, bx7n, hs7⟩ := hSz 3 _ _ _ (by decide) rfl; obtain ⟨n7sc_, A7sc_, l7sc_, c7sc_, E7sc, q7sc⟩ : IntV 0 _ _ w3 (.agg cs7) := hs7; injection E7sc with E7sc
  subst E7sc; have E8 : vc 8 = _ := hOz 4 (by decide) rfl; simp only [Act.put, actv, fill, fC, fN, tA, cS, cZ]; simp only [E14, E15, E8]; clear E14 E15 E8; replace h0 := h0.ext hBz.ext; replace bx3 := hBz.blk bx3 (zM hne3_6.out (zM hne3_7.out zN)); replace bx4 := hBz.blk bx4 (zM hne4_6.out (zM hne4_7.out zN)); replace HB := hide (HB.out.trans (hBz.below (B := w.heap.size) HB.out.size (zA hge6 (zA hge7 zE)))); clear bx6; clear bx7; have bx6 := bx6n; clear bx6n; have bx7 := bx7n; clear bx7n; clear hOz hAz hNz hSz hBz
  go_wp2_with fail
  refine bodyPost_ret (results_int_int_tmp rfl _ _ _ _ _ _ _ _ _ _ rfl bx6 rfl bx7) rfl ⟨HB.out, ?_⟩; exact VF.mk (Fact.t3_mk (Fact.z_mk (q6sc.up (by omega))) (Fact.z_mk (q7sc.up (by omega))) (Fact.eq_self _ _))
 | true =>
  obtain ⟨hq, hn, ht0, hT⟩ := mayR_true HM.out; have HT := hide hT; clear hT; obtain ⟨N, rfl⟩ : ∃ N : Nat, n = (N : Int) := ⟨n.toNat, by omega⟩; have HL := hide (lim_exp (q := q) ht0 HT.out); have HX := hide (one_le hq.2); have HA : Hid (∀ i, i ≤ 2 * N → (sq (lo_exp1 x0 q) (1 * 2 ^ q.toNat) i).natAbs < W ^ 40) := hide (fun i hi => HL.out.la HX.out i (by omega)); have HB_ : Hid (∀ i, i ≤ 2 * N → (sq (hi_exp1 x0 q) (1 * 2 ^ q.toNat) i).natAbs < W ^ 40) := hide (fun i hi => HL.out.lb HX.out i (by omega)); have HS : Hid (∀ i, i ≤ 2 * N → (su (fun y => whole y (sq (lo_exp1 x0 q) (1 * 2 ^ q.toNat) y)) i).natAbs < W ^ 40) := hide (fun i hi => HL.out.sa HX.out i (by omega)); have HT2 : Hid (∀ i, i ≤ 2 * N → (su (fun y => whole y (sq (hi_exp1 x0 q) (1 * 2 ^ q.toNat) y)) i).natAbs < W ^ 40) := hide (fun i hi => HL.out.sb HX.out i (by omega)); clear HL HX
  go_upto_region 3 with (fail)
  refine F2.regionS [.o, .o, .o, .o, .o, .o, .o, .o, .so (g6) 24 #[.bool false, .slice none 0 0], .so (g7) 24 #[.bool false, .slice none 0 0], .o] [Fact.eq ?cd16_, Fact.eq ?cd17_, Fact.s_yy ?kd18_a ?zd18_a ?kd18_b ?zd18_b, Fact.eq ?cd19_, Fact.t3 (Fact.z ?kd20_p ?zd20_p) (Fact.z ?kd20_q ?zd20_q) (Fact.eq ?cd20_r), Fact.z ?kd21_ ?zd21_, Fact.z ?kd22_ ?zd22_, Fact.eq ?cd23_, Fact.z ?kds6_ ?zds6_, Fact.z ?kds7_ ?zds7_, Fact.eq ?cd8_] [16, 17, 18, 19, 20, 21, 22, 23, 8] [16, 17, 18, 19, 20, 21, 22, 23, 0, 0, 8] (by kernel_rfl) ?sod ?sopd (by kernel_rfl) ?std ?find
  case sod => exact List.forall_mem_cons.2 ⟨⟨bx6, NoU.two nB nS⟩, List.forall_mem_cons.2 ⟨⟨bx7, NoU.two nB nS⟩, fun x hx => by cases hx⟩⟩
  case sopd => exact List.Pairwise.cons (by intro y hy; simp [F2.sos] at hy; have hne6_7 := hne6_7.out; first | (subst hy; simp; done) | (subst hy; simp; omega) | (rcases hy with rfl | rfl <;> simp <;> omega)) (List.Pairwise.cons (fun y hy => by cases hy) (List.Pairwise.nil))
  case std =>
   refine F2.Steps.consO rfl ?_ ?_
   ·
    intro vz wz hBz hDz hTz K hK; have HW := hBz.ext; simp only [zy, F2.Wp] at hK ⊢; go_simp; refine hK _ wz zB (Fact.eq_mk ?_); with_reducible rfl
   refine F2.Steps.consO rfl ?_ ?_
   ·
    intro vz wz hBz hDz hTz K hK; have HW := hBz.ext; have bx4z := hBz.blk bx4 (zM hne4_6.out (zM hne4_7.out zN)); obtain ⟨zl0, -⟩ := bx4z.one; simp only [zy, F2.Wp] at hK ⊢; go_simp; refine hK _ wz zB (Fact.eq_mk ?_); with_reducible rfl
   refine F2.Steps.consO rfl ?_ ?_
   ·
    intro vz wz hBz hDz hTz K hK; have E17 : vz 17 = _ := hDz 1 (by kernel_rfl) rfl; have HW := hBz.ext; simp only [zy, F2.Wp] at hK ⊢; simp only [E17] at hK ⊢; go_simp; refine Calls.mono (rone_calls  (by omega) (by omega)) ?_; rintro e w2z ⟨hb2, uz, rfl, hf⟩
    go_wp2_with fail
    refine hK _ w2z hb2 (Fact.cast (hf) ?_); with_reducible rfl
   refine F2.Steps.consO rfl ?_ ?_
   ·
    intro vz wz hBz hDz hTz K hK; have HW := hBz.ext; simp only [zy, F2.Wp] at hK ⊢; go_simp
    try simp only [hmfR]
    refine hK _ wz zB (Fact.eq_mk ?_); with_reducible rfl
   refine F2.Steps.consO rfl ?_ ?_
   ·
    intro vz wz hBz hDz hTz K hK; have E16 : vz 16 = _ := hDz 0 (by kernel_rfl) rfl; obtain ⟨n18a_, A18a_, l18a_, c18a_, n18b_, A18b_, l18b_, c18b_, E18, q18a, q18b⟩ : SV_yy _ _ _ _ wz (vz 18) := hDz 2 (by kernel_rfl) rfl; have E19 : vz 19 = _ := hDz 3 (by kernel_rfl) rfl; have HW := hBz.ext; simp only [zy, F2.Wp] at hK ⊢; simp only [E16, E18, E19] at hK ⊢; go_simp; refine Calls.mono (rising_exp1_calls (M := 40) q18a.q q18b.q  (h0.ext HW) (hBz.blk bx3 (zM hne3_6.out (zM hne3_7.out zN))) (hBz.blk bx4 (zM hne4_6.out (zM hne4_7.out zN))) (by omega) (by omega) (by omega) (by omega) (by omega) (by omega) (by omega) (by omega) (by omega) HA HB_ HS HT2) ?_; rintro e w2z ⟨hb2, uz, rfl, hf⟩
    go_wp2_with fail
    refine hK _ w2z hb2 (Fact.cast (hf) ?_); with_reducible rfl
   refine F2.Steps.consO rfl ?_ ?_
   ·
    intro vz wz hBz hDz hTz K hK; obtain ⟨x20p_, x20q_, x20r_, E20, h20p, h20q, h20r⟩ : TV3 _ _ _ wz (vz 20) := hDz 4 (by kernel_rfl) rfl; obtain rfl := Fact.eq_of h20r; have HW := hBz.ext; simp only [zy, F2.Wp] at hK ⊢; simp only [E20] at hK ⊢; go_simp; refine hK _ wz zB (Fact.cast (h20p) ?_); with_reducible rfl
   refine F2.Steps.consO rfl ?_ ?_
   ·
    intro vz wz hBz hDz hTz K hK; obtain ⟨x20p_, x20q_, x20r_, E20, h20p, h20q, h20r⟩ : TV3 _ _ _ wz (vz 20) := hDz 4 (by kernel_rfl) rfl; obtain rfl := Fact.eq_of h20r; have HW := hBz.ext; simp only [zy, F2.Wp] at hK ⊢; simp only [E20] at hK ⊢; go_simp; refine hK _ wz zB (Fact.cast (h20q) ?_); with_reducible rfl
   refine F2.Steps.consO rfl ?_ ?_
   ·
    intro vz wz hBz hDz hTz K hK; obtain ⟨x20p_, x20q_, x20r_, E20, h20p, h20q, h20r⟩ : TV3 _ _ _ wz (vz 20) := hDz 4 (by kernel_rfl) rfl; obtain rfl := Fact.eq_of h20r; have HW := hBz.ext; simp only [zy, F2.Wp] at hK ⊢; simp only [E20] at hK ⊢; go_simp; refine hK _ wz zB (Fact.eq_mk ?_); with_reducible rfl
   refine F2.Steps.consT rfl ?_ ?_
   ·
    intro vz wz hBz hDz hbz K hK; obtain ⟨zc0, zc1, zc2, zc3⟩ := hbz.two; obtain ⟨n21_, A21_, l21_, c21_, E21, q21⟩ : IntV 0 _ _ wz (vz 21) := hDz 5 (by kernel_rfl) rfl; have HW := hBz.ext; simp only [zy, F2.Wp] at hK ⊢; simp only [E21] at hK ⊢; go_simp; refine hK _ ((Far.set _ _ 0 _).trans (Far.set _ _ 1 _)) ⟨_, blk_two hbz, NoU.two nB nS, Fact.cast (Fact.z_mk q21) ?_⟩; with_reducible rfl
   refine F2.Steps.consT rfl ?_ ?_
   ·
    intro vz wz hBz hDz hbz K hK; obtain ⟨zc0, zc1, zc2, zc3⟩ := hbz.two; obtain ⟨n22_, A22_, l22_, c22_, E22, q22⟩ : IntV 0 _ _ wz (vz 22) := hDz 6 (by kernel_rfl) rfl; have HW := hBz.ext; simp only [zy, F2.Wp] at hK ⊢; simp only [E22] at hK ⊢; go_simp; refine hK _ ((Far.set _ _ 0 _).trans (Far.set _ _ 1 _)) ⟨_, blk_two hbz, NoU.two nB nS, Fact.cast (Fact.z_mk q22) ?_⟩; with_reducible rfl
   refine F2.Steps.consO rfl ?_ ?_
   ·
    intro vz wz hBz hDz hTz K hK; have E23 : vz 23 = _ := hDz 7 (by kernel_rfl) rfl; have HW := hBz.ext; simp only [zy, F2.Wp] at hK ⊢; simp only [E23] at hK ⊢; go_simp; refine hK _ wz zB (Fact.eq_mk ?_); with_reducible rfl
   exact F2.Steps.nil
  intro vd w4 hBz ⟨hOz, hAz, hNz, hSz⟩; have E16 : vd 16 = _ := hOz 0 (by decide) rfl; have E17 : vd 17 = _ := hOz 1 (by decide) rfl; obtain ⟨n18a_, A18a_, l18a_, c18a_, n18b_, A18b_, l18b_, c18b_, E18, q18a, q18b⟩ : SV_yy _ _ _ _ w4 (vd 18) := hOz 2 (by decide) rfl; have E19 : vd 19 = _ := hOz 3 (by decide) rfl; obtain ⟨x20p_, x20q_, x20r_, E20, h20p, h20q, h20r⟩ : TV3 _ _ _ w4 (vd 20) := hOz 4 (by decide) rfl; obtain rfl := Fact.eq_of h20r; obtain ⟨n21_, A21_, l21_, c21_, E21, q21⟩ : IntV 0 _ _ w4 (vd 21) := hOz 5 (by decide) rfl; obtain ⟨n22_, A22_, l22_, c22_, E22, q22⟩ : IntV 0 _ _ w4 (vd 22) := hOz 6 (by decide) rfl; have E23 : vd 23 = _ := hOz 7 (by decide) rfl; obtain ⟨cs6, bx6n, hs6⟩ := hSz 8 _ _ _ (by decide) rfl; obtain ⟨n6sd_, A6sd_, l6sd_, c6sd_, E6sd, q6sd⟩ : IntV 0 _ _ w4 (.agg cs6) := hs6; injection E6sd with E6sd
  subst E6sd; obtain ⟨cs7, bx7n, hs7⟩ := hSz 9 _ _ _ (by decide) rfl; obtain ⟨n7sd_, A7sd_, l7sd_, c7sd_, E7sd, q7sd⟩ : IntV 0 _ _ w4 (.agg cs7) := hs7; injection E7sd with E7sd
  subst E7sd; have E8 : vd 8 = _ := hOz 10 (by decide) rfl; simp only [Act.put, actv, fill, fC, fN, tA, cS, cZ]; simp only [E16, E17, E18, E19, E20, E21, E22, E23, E8]; clear E16 E17 E18 E19 E20 E21 E22 E23 E8; replace h0 := h0.ext hBz.ext; replace bx3 := hBz.blk bx3 (zM hne3_6.out (zM hne3_7.out zN)); replace bx4 := hBz.blk bx4 (zM hne4_6.out (zM hne4_7.out zN)); replace HB := hide (HB.out.trans (hBz.below (B := w.heap.size) HB.out.size (zA hge6 (zA hge7 zE)))); clear bx6; clear bx7; have bx6 := bx6n; clear bx6n; have bx7 := bx7n; clear bx7n; clear hOz hAz hNz hSz hBz
  go_wp2_with fail
  refine bodyPost_ret (results_int_int_tmp rfl _ _ _ _ _ _ _ _ _ _ rfl bx6 rfl bx7) rfl ⟨HB.out, ?_⟩; exact VF.mk (Fact.t3_mk (Fact.z_mk (q6sd.up (by omega))) (Fact.z_mk (q7sd.up (by omega))) (Fact.eq_self _ _))
set_option maxHeartbeats 4000000 in
set_option maxRecDepth 100000 in
theorem rsin_calls {w : World}  {k0 : Nat} {n0 : Bool} {A0 : Option Addr} {l0 c0 : Nat} {x0 : Int} {q n : Int} (h0 : Q w k0 n0 A0 l0 c0 x0) (hk0 : k0 ≤ 40) :
    Calls Tryz.prog 8 #[.agg #[.bool n0, .slice A0 l0 c0], .int .i64 q, .int .i64 n] w fun e w' => Below w.heap.size w w' ∧ VF (Fact.t3 (Fact.z 340 (if mayR x0 q n 4 = true then sinLo x0 q n.toNat else 0)) (Fact.z 340 (if mayR x0 q n 4 = true then sinHi x0 q n.toNat else 0)) (Fact.eq (.int .i64 (if mayR x0 q n 4 = true then 0 else 1)))) e w' := by
 obtain ⟨mm, HM⟩ : ∃ m, Hid (mayR x0 q n 4 = m) := ⟨_, hide rfl⟩; rw [HM.out]
 go_enter Tryz.func8, Tryz.ntmps8
 have HB : Hid (Below w.heap.size w w) := hide (Below.refl _ _)
 go_upto_region 0 with (fail)
 refine F2.regionS [.al 24 #[.bool n0, .slice A0 l0 c0], .al 3 #[.int .i64 q], .al 24 #[.bool false, .slice none 0 0], .al 24 #[.bool false, .slice none 0 0], .o] [Fact.any, Fact.any, Fact.any, Fact.any, Fact.eq ?ca8_] [3, 4, 6, 7, 8] [3, 4, 6, 7, 8] (by kernel_rfl) ?soa ?sopa (by kernel_rfl) ?sta ?fina
 case soa => exact fun x hx => by cases hx
 case sopa => exact List.Pairwise.nil
 case sta =>
  refine F2.Steps.consA rfl ⟨NoU.two nB nS, ?_⟩ ?_
  ·
   intro vz wz hBz K hK; simp only [zy, F2.Wp] at hK ⊢; go_simp; exact hK
  refine F2.Steps.consA rfl ⟨NoU.one nI, ?_⟩ ?_
  ·
   intro vz wz hBz K hK; simp only [zy, F2.Wp] at hK ⊢; go_simp; exact hK
  refine F2.Steps.consA rfl ⟨NoU.two nB nS, ?_⟩ ?_
  ·
   intro vz wz hBz K hK; simp only [zy, F2.Wp] at hK ⊢; go_simp; exact hK
  refine F2.Steps.consA rfl ⟨NoU.two nB nS, ?_⟩ ?_
  ·
   intro vz wz hBz K hK; simp only [zy, F2.Wp] at hK ⊢; go_simp; exact hK
  refine F2.Steps.consO rfl ?_ ?_
  ·
   intro vz wz hBz hDz hTz K hK; have HW := hBz.ext; simp only [zy, F2.Wp] at hK ⊢; go_simp; refine hK _ wz zB (Fact.eq_mk ?_); with_reducible rfl
  exact F2.Steps.nil
 intro va w1 hBz ⟨hOz, hAz, hNz, hSz⟩; obtain ⟨g3, cs3, E3, hg3, bx3, hs3, hz3⟩ := hAz 0 _ _ (by decide) rfl; have hzz := hz3 (F2.nost (by kernel_rfl)); subst hzz; obtain ⟨g4, cs4, E4, hg4, bx4, hs4, hz4⟩ := hAz 1 _ _ (by decide) rfl; have hzz := hz4 (F2.nost (by kernel_rfl)); subst hzz; obtain ⟨g6, cs6, E6, hg6, bx6, hs6, hz6⟩ := hAz 2 _ _ (by decide) rfl; have hzz := hz6 (F2.nost (by kernel_rfl)); subst hzz; obtain ⟨g7, cs7, E7, hg7, bx7, hs7, hz7⟩ := hAz 3 _ _ (by decide) rfl; have hzz := hz7 (F2.nost (by kernel_rfl)); subst hzz; have E8 : va 8 = _ := hOz 4 (by decide) rfl; have hne3_4 : Hid (¬ g3 = g4) := hide (fun h => hNz 0 1 _ _ _ _ (by decide) (by decide) (by decide) rfl rfl (by rw [E3, E4, h])); have hne3_6 : Hid (¬ g3 = g6) := hide (fun h => hNz 0 2 _ _ _ _ (by decide) (by decide) (by decide) rfl rfl (by rw [E3, E6, h])); have hne3_7 : Hid (¬ g3 = g7) := hide (fun h => hNz 0 3 _ _ _ _ (by decide) (by decide) (by decide) rfl rfl (by rw [E3, E7, h])); have hne4_6 : Hid (¬ g4 = g6) := hide (fun h => hNz 1 2 _ _ _ _ (by decide) (by decide) (by decide) rfl rfl (by rw [E4, E6, h])); have hne4_7 : Hid (¬ g4 = g7) := hide (fun h => hNz 1 3 _ _ _ _ (by decide) (by decide) (by decide) rfl rfl (by rw [E4, E7, h])); have hne6_7 : Hid (¬ g6 = g7) := hide (fun h => hNz 2 3 _ _ _ _ (by decide) (by decide) (by decide) rfl rfl (by rw [E6, E7, h])); simp only [Act.put, actv, fill, fC, fN, tA, cS, cZ]; simp only [(show va 3 = _ from E3), (show va 4 = _ from E4), (show va 6 = _ from E6), (show va 7 = _ from E7), E8]; clear E3 E4 E6 E7 E8; have hge3 : w.heap.size ≤ g3 := Nat.le_trans HB.out.size hg3; have hge4 : w.heap.size ≤ g4 := Nat.le_trans HB.out.size hg4; have hge6 : w.heap.size ≤ g6 := Nat.le_trans HB.out.size hg6; have hge7 : w.heap.size ≤ g7 := Nat.le_trans HB.out.size hg7; replace h0 := h0.ext hBz.ext; replace HB := hide (HB.out.trans (hBz.below (B := w.heap.size) HB.out.size zE)); clear hOz hAz hNz hSz hs3 hz3 hs4 hz4 hs6 hz6 hs7 hz7 hBz
 go_upto_region 1 with (fail)
 refine F2.regionS [.o, .o, .o, .o, .o] [Fact.eq ?cb10_, Fact.eq ?cb11_, Fact.eq ?cb12_, Fact.eq ?cb13_, Fact.eq ?cb14_] [10, 11, 12, 13, 14] [10, 11, 12, 13, 14] (by kernel_rfl) ?sob ?sopb (by kernel_rfl) ?stb ?finb
 case sob => exact fun x hx => by cases hx
 case sopb => exact List.Pairwise.nil
 case stb =>
  refine F2.Steps.consO rfl ?_ ?_
  ·
   intro vz wz hBz hDz hTz K hK; have HW := hBz.ext; have bx3z := hBz.blk bx3 zN; obtain ⟨zl0, zl1, -⟩ := bx3z.two; simp only [zy, F2.Wp] at hK ⊢; go_simp; refine hK _ wz zB (Fact.eq_mk ?_); with_reducible rfl
  refine F2.Steps.consO rfl ?_ ?_
  ·
   intro vz wz hBz hDz hTz K hK; have HW := hBz.ext; have bx4z := hBz.blk bx4 zN; obtain ⟨zl0, -⟩ := bx4z.one; simp only [zy, F2.Wp] at hK ⊢; go_simp; refine hK _ wz zB (Fact.eq_mk ?_); with_reducible rfl
  refine F2.Steps.consO rfl ?_ ?_
  ·
   intro vz wz hBz hDz hTz K hK; have HW := hBz.ext; simp only [zy, F2.Wp] at hK ⊢; go_simp; refine hK _ wz zB (Fact.eq_mk ?_); with_reducible rfl
  refine F2.Steps.consO rfl ?_ ?_
  ·
   intro vz wz hBz hDz hTz K hK; have E10 : vz 10 = _ := hDz 0 (by kernel_rfl) rfl; have E11 : vz 11 = _ := hDz 1 (by kernel_rfl) rfl; have E12 : vz 12 = _ := hDz 2 (by kernel_rfl) rfl; have HW := hBz.ext; simp only [zy, F2.Wp] at hK ⊢; simp only [E10, E11, E12] at hK ⊢; go_simp; refine Calls.mono (HM.out ▸ rmay_calls (h0.ext HW) (by omega) (by omega) (by omega)) ?_; rintro e w2z ⟨hb2, uz, rfl, hf⟩
   go_wp2_with fail
   refine hK _ w2z hb2 (Fact.cast (hf) ?_); with_reducible rfl
  refine F2.Steps.consO rfl ?_ ?_
  ·
   intro vz wz hBz hDz hTz K hK; have E13 : vz 13 = _ := hDz 3 (by kernel_rfl) rfl; have HW := hBz.ext; simp only [zy, F2.Wp] at hK ⊢; simp only [E13] at hK ⊢; go_simp; refine hK _ wz zB (Fact.eq_mk ?_); with_reducible rfl
  exact F2.Steps.nil
 intro vb w2 hBz ⟨hOz, hAz, hNz, hSz⟩; have E10 : vb 10 = _ := hOz 0 (by decide) rfl; have E11 : vb 11 = _ := hOz 1 (by decide) rfl; have E12 : vb 12 = _ := hOz 2 (by decide) rfl; have E13 : vb 13 = _ := hOz 3 (by decide) rfl; have E14 : vb 14 = _ := hOz 4 (by decide) rfl; simp only [Act.put, actv, fill, fC, fN, tA, cS, cZ]; simp only [E10, E11, E12, E13, E14]; clear E10 E11 E12 E13 E14; replace h0 := h0.ext hBz.ext; replace bx3 := hBz.blk bx3 zN; replace bx4 := hBz.blk bx4 zN; replace bx6 := hBz.blk bx6 zN; replace bx7 := hBz.blk bx7 zN; replace HB := hide (HB.out.trans (hBz.below (B := w.heap.size) HB.out.size zE)); clear hOz hAz hNz hSz hBz
 cases mm with
 | false =>
  go_upto_region 2 with (fail)
  refine F2.regionS [.o, .o, .so (g6) 24 #[.bool false, .slice none 0 0], .so (g7) 24 #[.bool false, .slice none 0 0], .o] [Fact.eq ?cc15_, Fact.eq ?cc16_, Fact.z ?kcs6_ ?zcs6_, Fact.z ?kcs7_ ?zcs7_, Fact.eq ?cc8_] [15, 16, 8] [15, 16, 0, 0, 8] (by kernel_rfl) ?soc ?sopc (by kernel_rfl) ?stc ?finc
  case soc => exact List.forall_mem_cons.2 ⟨⟨bx6, NoU.two nB nS⟩, List.forall_mem_cons.2 ⟨⟨bx7, NoU.two nB nS⟩, fun x hx => by cases hx⟩⟩
  case sopc => exact List.Pairwise.cons (by intro y hy; simp [F2.sos] at hy; have hne6_7 := hne6_7.out; first | (subst hy; simp; done) | (subst hy; simp; omega) | (rcases hy with rfl | rfl <;> simp <;> omega)) (List.Pairwise.cons (fun y hy => by cases hy) (List.Pairwise.nil))
  case stc =>
   refine F2.Steps.consO rfl ?_ ?_
   ·
    intro vz wz hBz hDz hTz K hK; have HW := hBz.ext; simp only [zy, F2.Wp] at hK ⊢; go_simp; refine hK _ wz zB (Fact.eq_mk ?_); with_reducible rfl
   refine F2.Steps.consO rfl ?_ ?_
   ·
    intro vz wz hBz hDz hTz K hK; have HW := hBz.ext; simp only [zy, F2.Wp] at hK ⊢; go_simp; refine hK _ wz zB (Fact.eq_mk ?_); with_reducible rfl
   refine F2.Steps.consT rfl ?_ ?_
   ·
    intro vz wz hBz hDz hbz K hK; obtain ⟨zc0, zc1, zc2, zc3⟩ := hbz.two; have E15 : vz 15 = _ := hDz 0 (by kernel_rfl) rfl; have HW := hBz.ext; simp only [zy, F2.Wp] at hK ⊢; simp only [E15] at hK ⊢; go_simp; refine hK _ ((Far.set _ _ 0 _).trans (Far.set _ _ 1 _)) ⟨_, blk_two hbz, NoU.two nB nS, Fact.cast (Fact.z_mk (QB.zero _ 0 0)) ?_⟩; with_reducible rfl
   refine F2.Steps.consT rfl ?_ ?_
   ·
    intro vz wz hBz hDz hbz K hK; obtain ⟨zc0, zc1, zc2, zc3⟩ := hbz.two; have E16 : vz 16 = _ := hDz 1 (by kernel_rfl) rfl; have HW := hBz.ext; simp only [zy, F2.Wp] at hK ⊢; simp only [E16] at hK ⊢; go_simp; refine hK _ ((Far.set _ _ 0 _).trans (Far.set _ _ 1 _)) ⟨_, blk_two hbz, NoU.two nB nS, Fact.cast (Fact.z_mk (QB.zero _ 0 0)) ?_⟩; with_reducible rfl
   refine F2.Steps.consO rfl ?_ ?_
   ·
    intro vz wz hBz hDz hTz K hK; have HW := hBz.ext; simp only [zy, F2.Wp] at hK ⊢; go_simp; refine hK _ wz zB (Fact.eq_mk ?_); with_reducible rfl
   exact F2.Steps.nil
  intro vc w3 hBz ⟨hOz, hAz, hNz, hSz⟩; have E15 : vc 15 = _ := hOz 0 (by decide) rfl; have E16 : vc 16 = _ := hOz 1 (by decide) rfl; obtain ⟨cs6, bx6n, hs6⟩ := hSz 2 _ _ _ (by decide) rfl; obtain ⟨n6sc_, A6sc_, l6sc_, c6sc_, E6sc, q6sc⟩ : IntV 0 _ _ w3 (.agg cs6) := hs6; injection E6sc with E6sc
  subst E6sc; obtain ⟨cs7, bx7n, hs7⟩ := hSz 3 _ _ _ (by decide) rfl; obtain ⟨n7sc_, A7sc_, l7sc_, c7sc_, E7sc, q7sc⟩ : IntV 0 _ _ w3 (.agg cs7) := hs7; injection E7sc with E7sc
  subst E7sc; have E8 : vc 8 = _ := hOz 4 (by decide) rfl; simp only [Act.put, actv, fill, fC, fN, tA, cS, cZ]; simp only [E15, E16, E8]; clear E15 E16 E8; replace h0 := h0.ext hBz.ext; replace bx3 := hBz.blk bx3 (zM hne3_6.out (zM hne3_7.out zN)); replace bx4 := hBz.blk bx4 (zM hne4_6.out (zM hne4_7.out zN)); replace HB := hide (HB.out.trans (hBz.below (B := w.heap.size) HB.out.size (zA hge6 (zA hge7 zE)))); clear bx6; clear bx7; have bx6 := bx6n; clear bx6n; have bx7 := bx7n; clear bx7n; clear hOz hAz hNz hSz hBz
  go_wp2_with fail
  refine bodyPost_ret (results_int_int_tmp rfl _ _ _ _ _ _ _ _ _ _ rfl bx6 rfl bx7) rfl ⟨HB.out, ?_⟩; exact VF.mk (Fact.t3_mk (Fact.z_mk (q6sc.up (by omega))) (Fact.z_mk (q7sc.up (by omega))) (Fact.eq_self _ _))
 | true =>
  obtain ⟨hq, hn, ht0, hT⟩ := mayR_true HM.out; have HT := hide hT; clear hT; obtain ⟨N, rfl⟩ : ∃ N : Nat, n = (N : Int) := ⟨n.toNat, by omega⟩; have HL := hide (lim_sin (q := q) hq.1 ht0 HT.out); have HX := hide (first_le hq.2 (by omega) HT.out); have HA : Hid (∀ i, i ≤ 2 * N → (sq (lo_sin1 (x0 * x0) q) (x0) i).natAbs < W ^ 40) := hide (fun i hi => HL.out.la HX.out i (by omega)); have HB_ : Hid (∀ i, i ≤ 2 * N → (sq (hi_sin1 (x0 * x0) q) (x0) i).natAbs < W ^ 40) := hide (fun i hi => HL.out.lb HX.out i (by omega)); have HS : Hid (∀ i, i ≤ 2 * N → (tu (fun y => whole y (sq (lo_sin1 (x0 * x0) q) (x0) y)) (fun y => whole y (sq (hi_sin1 (x0 * x0) q) (x0) y)) i).natAbs < W ^ 40) := hide (fun i hi => HL.out.ta HX.out i (by omega)); have HT2 : Hid (∀ i, i ≤ 2 * N → (tu (fun y => whole y (sq (hi_sin1 (x0 * x0) q) (x0) y)) (fun y => whole y (sq (lo_sin1 (x0 * x0) q) (x0) y)) i).natAbs < W ^ 40) := hide (fun i hi => HL.out.tb HX.out i (by omega)); clear HL HX
  go_upto_region 3 with (fail)
  refine F2.regionS [.o, .o, .o, .al 24 #[.bool false, .slice none 0 0], .st 3] [Fact.eq ?cd17_, Fact.eq ?cd18_, Fact.z ?kd19_ ?zd19_, Fact.any, Fact.z ?kds9_ ?zds9_] [17, 18, 19, 9] [17, 18, 19, 9, 0] (by kernel_rfl) ?sod ?sopd (by kernel_rfl) ?std ?find
  case sod => exact fun x hx => by cases hx
  case sopd => exact List.Pairwise.nil
  case std =>
   refine F2.Steps.consO rfl ?_ ?_
   ·
    intro vz wz hBz hDz hTz K hK; have HW := hBz.ext; have bx3z := hBz.blk bx3 zN; obtain ⟨zl0, zl1, -⟩ := bx3z.two; simp only [zy, F2.Wp] at hK ⊢; go_simp; refine hK _ wz zB (Fact.eq_mk ?_); with_reducible rfl
   refine F2.Steps.consO rfl ?_ ?_
   ·
    intro vz wz hBz hDz hTz K hK; have HW := hBz.ext; have bx3z := hBz.blk bx3 zN; obtain ⟨zl0, zl1, -⟩ := bx3z.two; simp only [zy, F2.Wp] at hK ⊢; go_simp; refine hK _ wz zB (Fact.eq_mk ?_); with_reducible rfl
   refine F2.Steps.consO rfl ?_ ?_
   ·
    intro vz wz hBz hDz hTz K hK; have E17 : vz 17 = _ := hDz 0 (by kernel_rfl) rfl; have E18 : vz 18 = _ := hDz 1 (by kernel_rfl) rfl; have HW := hBz.ext; simp only [zy, F2.Wp] at hK ⊢; simp only [E17, E18] at hK ⊢; go_simp; refine Calls.mono (v_mul (h0.ext HW) (h0.ext HW) (by omega) (by omega)) ?_; rintro e w2z ⟨hb2, uz, rfl, hf⟩
    go_wp2_with fail
    refine hK _ w2z hb2 (Fact.cast (hf) ?_); with_reducible rfl
   refine F2.Steps.consA rfl ⟨NoU.two nB nS, ?_⟩ ?_
   ·
    intro vz wz hBz K hK; simp only [zy, F2.Wp] at hK ⊢; go_simp; exact hK
   refine F2.Steps.consS rfl rfl ?_ ?_
   ·
    intro vz wz gz hBz hDz E9' hgz hbz K hK; obtain ⟨zc0, zc1, zc2, zc3⟩ := hbz.two; obtain ⟨n19_, A19_, l19_, c19_, E19, q19⟩ : IntV 0 _ _ wz (vz 19) := hDz 2 (by kernel_rfl) rfl; have E9 : vz 9 = .pointer (some ⟨gz, 0, none⟩) := E9'; have HW := hBz.ext; simp only [zy, F2.Wp] at hK ⊢; simp only [E9, E19] at hK ⊢; go_simp; refine hK _ ((Far.set _ gz 0 _).trans (Far.set _ gz 1 _)) ⟨_, blk_two hbz, NoU.two nB nS, Fact.cast (Fact.z_mk q19) ?_⟩; with_reducible rfl
   exact F2.Steps.nil
  intro vd w4 hBz ⟨hOz, hAz, hNz, hSz⟩; have E17 : vd 17 = _ := hOz 0 (by decide) rfl; have E18 : vd 18 = _ := hOz 1 (by decide) rfl; obtain ⟨n19_, A19_, l19_, c19_, E19, q19⟩ : IntV 0 _ _ w4 (vd 19) := hOz 2 (by decide) rfl; obtain ⟨g9, cs9, E9, hg9, bx9, hs9, hz9⟩ := hAz 3 _ _ (by decide) rfl; obtain ⟨n9sd_, A9sd_, l9sd_, c9sd_, E9sd, q9sd⟩ : IntV 0 _ _ w4 (.agg cs9) := hs9 4 (by decide) rfl; injection E9sd with E9sd
  subst E9sd; simp only [Act.put, actv, fill, fC, fN, tA, cS, cZ]; simp only [E17, E18, E19, (show vd 9 = _ from E9)]; clear E17 E18 E19 E9; have hge9 : w.heap.size ≤ g9 := Nat.le_trans HB.out.size hg9; have hne9_3 := hide (Nat.ne_of_gt (Nat.lt_of_lt_of_le bx3.lt (show w2.heap.size ≤ g9 from hg9))); have hne9_4 := hide (Nat.ne_of_gt (Nat.lt_of_lt_of_le bx4.lt (show w2.heap.size ≤ g9 from hg9))); have hne9_6 := hide (Nat.ne_of_gt (Nat.lt_of_lt_of_le bx6.lt (show w2.heap.size ≤ g9 from hg9))); have hne9_7 := hide (Nat.ne_of_gt (Nat.lt_of_lt_of_le bx7.lt (show w2.heap.size ≤ g9 from hg9))); replace h0 := h0.ext hBz.ext; replace bx3 := hBz.blk bx3 zN; replace bx4 := hBz.blk bx4 zN; replace bx6 := hBz.blk bx6 zN; replace bx7 := hBz.blk bx7 zN; replace HB := hide (HB.out.trans (hBz.below (B := w.heap.size) HB.out.size zE)); clear hOz hAz hNz hSz hs9 hz9 hBz
  go_upto_region 4 with (fail)
  refine F2.regionS [.o, .o, .o, .o, .o, .o, .o, .o, .o, .so (g6) 24 #[.bool false, .slice none 0 0], .so (g7) 24 #[.bool false, .slice none 0 0], .o] [Fact.eq ?ce20_, Fact.eq ?ce21_, Fact.eq ?ce22_, Fact.s_zz ?ke23_a ?ze23_a ?ke23_b ?ze23_b, Fact.eq ?ce24_, Fact.t3 (Fact.z ?ke25_p ?ze25_p) (Fact.z ?ke25_q ?ze25_q) (Fact.eq ?ce25_r), Fact.z ?ke26_ ?ze26_, Fact.z ?ke27_ ?ze27_, Fact.eq ?ce28_, Fact.z ?kes6_ ?zes6_, Fact.z ?kes7_ ?zes7_, Fact.eq ?ce8_] [20, 21, 22, 23, 24, 25, 26, 27, 28, 8] [20, 21, 22, 23, 24, 25, 26, 27, 28, 0, 0, 8] (by kernel_rfl) ?soe ?sope (by kernel_rfl) ?ste ?fine
  case soe => exact List.forall_mem_cons.2 ⟨⟨bx6, NoU.two nB nS⟩, List.forall_mem_cons.2 ⟨⟨bx7, NoU.two nB nS⟩, fun x hx => by cases hx⟩⟩
  case sope => exact List.Pairwise.cons (by intro y hy; simp [F2.sos] at hy; have hne6_7 := hne6_7.out; first | (subst hy; simp; done) | (subst hy; simp; omega) | (rcases hy with rfl | rfl <;> simp <;> omega)) (List.Pairwise.cons (fun y hy => by cases hy) (List.Pairwise.nil))
  case ste =>
   refine F2.Steps.consO rfl ?_ ?_
   ·
    intro vz wz hBz hDz hTz K hK; have HW := hBz.ext; simp only [zy, F2.Wp] at hK ⊢; go_simp; refine hK _ wz zB (Fact.eq_mk ?_); with_reducible rfl
   refine F2.Steps.consO rfl ?_ ?_
   ·
    intro vz wz hBz hDz hTz K hK; have HW := hBz.ext; have bx3z := hBz.blk bx3 (zM hne3_6.out (zM hne3_7.out zN)); obtain ⟨zl0, zl1, -⟩ := bx3z.two; simp only [zy, F2.Wp] at hK ⊢; go_simp; refine hK _ wz zB (Fact.eq_mk ?_); with_reducible rfl
   refine F2.Steps.consO rfl ?_ ?_
   ·
    intro vz wz hBz hDz hTz K hK; have HW := hBz.ext; have bx3z := hBz.blk bx3 (zM hne3_6.out (zM hne3_7.out zN)); obtain ⟨zl0, zl1, -⟩ := bx3z.two; simp only [zy, F2.Wp] at hK ⊢; go_simp; refine hK _ wz zB (Fact.eq_mk ?_); with_reducible rfl
   refine F2.Steps.consO rfl ?_ ?_
   ·
    intro vz wz hBz hDz hTz K hK; have E21 : vz 21 = _ := hDz 1 (by kernel_rfl) rfl; have E22 : vz 22 = _ := hDz 2 (by kernel_rfl) rfl; have HW := hBz.ext; simp only [zy, F2.Wp] at hK ⊢; simp only [E21, E22] at hK ⊢; go_simp; refine hK _ wz zB (Fact.cast (Fact.s_zz_mk (h0.ext HW) (h0.ext HW)) ?_); with_reducible rfl
   refine F2.Steps.consO rfl ?_ ?_
   ·
    intro vz wz hBz hDz hTz K hK; have HW := hBz.ext; simp only [zy, F2.Wp] at hK ⊢; go_simp
    try simp only [hmfR]
    refine hK _ wz zB (Fact.eq_mk ?_); with_reducible rfl
   refine F2.Steps.consO rfl ?_ ?_
   ·
    intro vz wz hBz hDz hTz K hK; have E20 : vz 20 = _ := hDz 0 (by kernel_rfl) rfl; obtain ⟨n23a_, A23a_, l23a_, c23a_, n23b_, A23b_, l23b_, c23b_, E23, q23a, q23b⟩ : SV_zz _ _ _ _ wz (vz 23) := hDz 3 (by kernel_rfl) rfl; have E24 : vz 24 = _ := hDz 4 (by kernel_rfl) rfl; have HW := hBz.ext; simp only [zy, F2.Wp] at hK ⊢; simp only [E20, E23, E24] at hK ⊢; go_simp; refine Calls.mono (turning_sin1_calls (M := 40) q23a q23b  (q9sd.ext HW).q (hBz.blk bx9 (zM hne9_6.out (zM hne9_7.out zN))) (hBz.blk bx4 (zM hne4_6.out (zM hne4_7.out zN))) (by omega) (by omega) (by omega) (by omega) (by omega) (by omega) (by omega) (by omega) (by omega) HA HB_ HS HT2) ?_; rintro e w2z ⟨hb2, uz, rfl, hf⟩
    go_wp2_with fail
    refine hK _ w2z hb2 (Fact.cast (hf) ?_); with_reducible rfl
   refine F2.Steps.consO rfl ?_ ?_
   ·
    intro vz wz hBz hDz hTz K hK; obtain ⟨x25p_, x25q_, x25r_, E25, h25p, h25q, h25r⟩ : TV3 _ _ _ wz (vz 25) := hDz 5 (by kernel_rfl) rfl; obtain rfl := Fact.eq_of h25r; have HW := hBz.ext; simp only [zy, F2.Wp] at hK ⊢; simp only [E25] at hK ⊢; go_simp; refine hK _ wz zB (Fact.cast (h25p) ?_); with_reducible rfl
   refine F2.Steps.consO rfl ?_ ?_
   ·
    intro vz wz hBz hDz hTz K hK; obtain ⟨x25p_, x25q_, x25r_, E25, h25p, h25q, h25r⟩ : TV3 _ _ _ wz (vz 25) := hDz 5 (by kernel_rfl) rfl; obtain rfl := Fact.eq_of h25r; have HW := hBz.ext; simp only [zy, F2.Wp] at hK ⊢; simp only [E25] at hK ⊢; go_simp; refine hK _ wz zB (Fact.cast (h25q) ?_); with_reducible rfl
   refine F2.Steps.consO rfl ?_ ?_
   ·
    intro vz wz hBz hDz hTz K hK; obtain ⟨x25p_, x25q_, x25r_, E25, h25p, h25q, h25r⟩ : TV3 _ _ _ wz (vz 25) := hDz 5 (by kernel_rfl) rfl; obtain rfl := Fact.eq_of h25r; have HW := hBz.ext; simp only [zy, F2.Wp] at hK ⊢; simp only [E25] at hK ⊢; go_simp; refine hK _ wz zB (Fact.eq_mk ?_); with_reducible rfl
   refine F2.Steps.consT rfl ?_ ?_
   ·
    intro vz wz hBz hDz hbz K hK; obtain ⟨zc0, zc1, zc2, zc3⟩ := hbz.two; obtain ⟨n26_, A26_, l26_, c26_, E26, q26⟩ : IntV 0 _ _ wz (vz 26) := hDz 6 (by kernel_rfl) rfl; have HW := hBz.ext; simp only [zy, F2.Wp] at hK ⊢; simp only [E26] at hK ⊢; go_simp; refine hK _ ((Far.set _ _ 0 _).trans (Far.set _ _ 1 _)) ⟨_, blk_two hbz, NoU.two nB nS, Fact.cast (Fact.z_mk q26) ?_⟩; with_reducible rfl
   refine F2.Steps.consT rfl ?_ ?_
   ·
    intro vz wz hBz hDz hbz K hK; obtain ⟨zc0, zc1, zc2, zc3⟩ := hbz.two; obtain ⟨n27_, A27_, l27_, c27_, E27, q27⟩ : IntV 0 _ _ wz (vz 27) := hDz 7 (by kernel_rfl) rfl; have HW := hBz.ext; simp only [zy, F2.Wp] at hK ⊢; simp only [E27] at hK ⊢; go_simp; refine hK _ ((Far.set _ _ 0 _).trans (Far.set _ _ 1 _)) ⟨_, blk_two hbz, NoU.two nB nS, Fact.cast (Fact.z_mk q27) ?_⟩; with_reducible rfl
   refine F2.Steps.consO rfl ?_ ?_
   ·
    intro vz wz hBz hDz hTz K hK; have E28 : vz 28 = _ := hDz 8 (by kernel_rfl) rfl; have HW := hBz.ext; simp only [zy, F2.Wp] at hK ⊢; simp only [E28] at hK ⊢; go_simp; refine hK _ wz zB (Fact.eq_mk ?_); with_reducible rfl
   exact F2.Steps.nil
  intro ve w5 hBz ⟨hOz, hAz, hNz, hSz⟩; have E20 : ve 20 = _ := hOz 0 (by decide) rfl; have E21 : ve 21 = _ := hOz 1 (by decide) rfl; have E22 : ve 22 = _ := hOz 2 (by decide) rfl; obtain ⟨n23a_, A23a_, l23a_, c23a_, n23b_, A23b_, l23b_, c23b_, E23, q23a, q23b⟩ : SV_zz _ _ _ _ w5 (ve 23) := hOz 3 (by decide) rfl; have E24 : ve 24 = _ := hOz 4 (by decide) rfl; obtain ⟨x25p_, x25q_, x25r_, E25, h25p, h25q, h25r⟩ : TV3 _ _ _ w5 (ve 25) := hOz 5 (by decide) rfl; obtain rfl := Fact.eq_of h25r; obtain ⟨n26_, A26_, l26_, c26_, E26, q26⟩ : IntV 0 _ _ w5 (ve 26) := hOz 6 (by decide) rfl; obtain ⟨n27_, A27_, l27_, c27_, E27, q27⟩ : IntV 0 _ _ w5 (ve 27) := hOz 7 (by decide) rfl; have E28 : ve 28 = _ := hOz 8 (by decide) rfl; obtain ⟨cs6, bx6n, hs6⟩ := hSz 9 _ _ _ (by decide) rfl; obtain ⟨n6se_, A6se_, l6se_, c6se_, E6se, q6se⟩ : IntV 0 _ _ w5 (.agg cs6) := hs6; injection E6se with E6se
  subst E6se; obtain ⟨cs7, bx7n, hs7⟩ := hSz 10 _ _ _ (by decide) rfl; obtain ⟨n7se_, A7se_, l7se_, c7se_, E7se, q7se⟩ : IntV 0 _ _ w5 (.agg cs7) := hs7; injection E7se with E7se
  subst E7se; have E8 : ve 8 = _ := hOz 11 (by decide) rfl; simp only [Act.put, actv, fill, fC, fN, tA, cS, cZ]; simp only [E20, E21, E22, E23, E24, E25, E26, E27, E28, E8]; clear E20 E21 E22 E23 E24 E25 E26 E27 E28 E8; replace h0 := h0.ext hBz.ext; replace q9sd := q9sd.ext hBz.ext; replace bx3 := hBz.blk bx3 (zM hne3_6.out (zM hne3_7.out zN)); replace bx4 := hBz.blk bx4 (zM hne4_6.out (zM hne4_7.out zN)); replace bx9 := hBz.blk bx9 (zM hne9_6.out (zM hne9_7.out zN)); replace HB := hide (HB.out.trans (hBz.below (B := w.heap.size) HB.out.size (zA hge6 (zA hge7 zE)))); clear bx6; clear bx7; have bx6 := bx6n; clear bx6n; have bx7 := bx7n; clear bx7n; clear hOz hAz hNz hSz hBz
  go_wp2_with fail
  refine bodyPost_ret (results_int_int_tmp rfl _ _ _ _ _ _ _ _ _ _ rfl bx6 rfl bx7) rfl ⟨HB.out, ?_⟩; exact VF.mk (Fact.t3_mk (Fact.z_mk (q6se.up (by omega))) (Fact.z_mk (q7se.up (by omega))) (Fact.eq_self _ _))
set_option maxHeartbeats 4000000 in
set_option maxRecDepth 100000 in
theorem rcos_calls {w : World}  {k0 : Nat} {n0 : Bool} {A0 : Option Addr} {l0 c0 : Nat} {x0 : Int} {q n : Int} (h0 : Q w k0 n0 A0 l0 c0 x0) (hk0 : k0 ≤ 40) :
    Calls Tryz.prog 11 #[.agg #[.bool n0, .slice A0 l0 c0], .int .i64 q, .int .i64 n] w fun e w' => Below w.heap.size w w' ∧ VF (Fact.t3 (Fact.z 340 (if mayR x0 q n 4 = true then cosLo x0 q n.toNat else 0)) (Fact.z 340 (if mayR x0 q n 4 = true then cosHi x0 q n.toNat else 0)) (Fact.eq (.int .i64 (if mayR x0 q n 4 = true then 0 else 1)))) e w' := by
 obtain ⟨mm, HM⟩ : ∃ m, Hid (mayR x0 q n 4 = m) := ⟨_, hide rfl⟩; rw [HM.out]
 go_enter Tryz.func11, Tryz.ntmps11
 have HB : Hid (Below w.heap.size w w) := hide (Below.refl _ _)
 go_upto_region 0 with (fail)
 refine F2.regionS [.al 24 #[.bool n0, .slice A0 l0 c0], .al 3 #[.int .i64 q], .al 24 #[.bool false, .slice none 0 0], .al 24 #[.bool false, .slice none 0 0], .o] [Fact.any, Fact.any, Fact.any, Fact.any, Fact.eq ?ca8_] [3, 4, 6, 7, 8] [3, 4, 6, 7, 8] (by kernel_rfl) ?soa ?sopa (by kernel_rfl) ?sta ?fina
 case soa => exact fun x hx => by cases hx
 case sopa => exact List.Pairwise.nil
 case sta =>
  refine F2.Steps.consA rfl ⟨NoU.two nB nS, ?_⟩ ?_
  ·
   intro vz wz hBz K hK; simp only [zy, F2.Wp] at hK ⊢; go_simp; exact hK
  refine F2.Steps.consA rfl ⟨NoU.one nI, ?_⟩ ?_
  ·
   intro vz wz hBz K hK; simp only [zy, F2.Wp] at hK ⊢; go_simp; exact hK
  refine F2.Steps.consA rfl ⟨NoU.two nB nS, ?_⟩ ?_
  ·
   intro vz wz hBz K hK; simp only [zy, F2.Wp] at hK ⊢; go_simp; exact hK
  refine F2.Steps.consA rfl ⟨NoU.two nB nS, ?_⟩ ?_
  ·
   intro vz wz hBz K hK; simp only [zy, F2.Wp] at hK ⊢; go_simp; exact hK
  refine F2.Steps.consO rfl ?_ ?_
  ·
   intro vz wz hBz hDz hTz K hK; have HW := hBz.ext; simp only [zy, F2.Wp] at hK ⊢; go_simp; refine hK _ wz zB (Fact.eq_mk ?_); with_reducible rfl
  exact F2.Steps.nil
 intro va w1 hBz ⟨hOz, hAz, hNz, hSz⟩; obtain ⟨g3, cs3, E3, hg3, bx3, hs3, hz3⟩ := hAz 0 _ _ (by decide) rfl; have hzz := hz3 (F2.nost (by kernel_rfl)); subst hzz; obtain ⟨g4, cs4, E4, hg4, bx4, hs4, hz4⟩ := hAz 1 _ _ (by decide) rfl; have hzz := hz4 (F2.nost (by kernel_rfl)); subst hzz; obtain ⟨g6, cs6, E6, hg6, bx6, hs6, hz6⟩ := hAz 2 _ _ (by decide) rfl; have hzz := hz6 (F2.nost (by kernel_rfl)); subst hzz; obtain ⟨g7, cs7, E7, hg7, bx7, hs7, hz7⟩ := hAz 3 _ _ (by decide) rfl; have hzz := hz7 (F2.nost (by kernel_rfl)); subst hzz; have E8 : va 8 = _ := hOz 4 (by decide) rfl; have hne3_4 : Hid (¬ g3 = g4) := hide (fun h => hNz 0 1 _ _ _ _ (by decide) (by decide) (by decide) rfl rfl (by rw [E3, E4, h])); have hne3_6 : Hid (¬ g3 = g6) := hide (fun h => hNz 0 2 _ _ _ _ (by decide) (by decide) (by decide) rfl rfl (by rw [E3, E6, h])); have hne3_7 : Hid (¬ g3 = g7) := hide (fun h => hNz 0 3 _ _ _ _ (by decide) (by decide) (by decide) rfl rfl (by rw [E3, E7, h])); have hne4_6 : Hid (¬ g4 = g6) := hide (fun h => hNz 1 2 _ _ _ _ (by decide) (by decide) (by decide) rfl rfl (by rw [E4, E6, h])); have hne4_7 : Hid (¬ g4 = g7) := hide (fun h => hNz 1 3 _ _ _ _ (by decide) (by decide) (by decide) rfl rfl (by rw [E4, E7, h])); have hne6_7 : Hid (¬ g6 = g7) := hide (fun h => hNz 2 3 _ _ _ _ (by decide) (by decide) (by decide) rfl rfl (by rw [E6, E7, h])); simp only [Act.put, actv, fill, fC, fN, tA, cS, cZ]; simp only [(show va 3 = _ from E3), (show va 4 = _ from E4), (show va 6 = _ from E6), (show va 7 = _ from E7), E8]; clear E3 E4 E6 E7 E8; have hge3 : w.heap.size ≤ g3 := Nat.le_trans HB.out.size hg3; have hge4 : w.heap.size ≤ g4 := Nat.le_trans HB.out.size hg4; have hge6 : w.heap.size ≤ g6 := Nat.le_trans HB.out.size hg6; have hge7 : w.heap.size ≤ g7 := Nat.le_trans HB.out.size hg7; replace h0 := h0.ext hBz.ext; replace HB := hide (HB.out.trans (hBz.below (B := w.heap.size) HB.out.size zE)); clear hOz hAz hNz hSz hs3 hz3 hs4 hz4 hs6 hz6 hs7 hz7 hBz
 go_upto_region 1 with (fail)
 refine F2.regionS [.o, .o, .o, .o, .o] [Fact.eq ?cb10_, Fact.eq ?cb11_, Fact.eq ?cb12_, Fact.eq ?cb13_, Fact.eq ?cb14_] [10, 11, 12, 13, 14] [10, 11, 12, 13, 14] (by kernel_rfl) ?sob ?sopb (by kernel_rfl) ?stb ?finb
 case sob => exact fun x hx => by cases hx
 case sopb => exact List.Pairwise.nil
 case stb =>
  refine F2.Steps.consO rfl ?_ ?_
  ·
   intro vz wz hBz hDz hTz K hK; have HW := hBz.ext; have bx3z := hBz.blk bx3 zN; obtain ⟨zl0, zl1, -⟩ := bx3z.two; simp only [zy, F2.Wp] at hK ⊢; go_simp; refine hK _ wz zB (Fact.eq_mk ?_); with_reducible rfl
  refine F2.Steps.consO rfl ?_ ?_
  ·
   intro vz wz hBz hDz hTz K hK; have HW := hBz.ext; have bx4z := hBz.blk bx4 zN; obtain ⟨zl0, -⟩ := bx4z.one; simp only [zy, F2.Wp] at hK ⊢; go_simp; refine hK _ wz zB (Fact.eq_mk ?_); with_reducible rfl
  refine F2.Steps.consO rfl ?_ ?_
  ·
   intro vz wz hBz hDz hTz K hK; have HW := hBz.ext; simp only [zy, F2.Wp] at hK ⊢; go_simp; refine hK _ wz zB (Fact.eq_mk ?_); with_reducible rfl
  refine F2.Steps.consO rfl ?_ ?_
  ·
   intro vz wz hBz hDz hTz K hK; have E10 : vz 10 = _ := hDz 0 (by kernel_rfl) rfl; have E11 : vz 11 = _ := hDz 1 (by kernel_rfl) rfl; have E12 : vz 12 = _ := hDz 2 (by kernel_rfl) rfl; have HW := hBz.ext; simp only [zy, F2.Wp] at hK ⊢; simp only [E10, E11, E12] at hK ⊢; go_simp; refine Calls.mono (HM.out ▸ rmay_calls (h0.ext HW) (by omega) (by omega) (by omega)) ?_; rintro e w2z ⟨hb2, uz, rfl, hf⟩
   go_wp2_with fail
   refine hK _ w2z hb2 (Fact.cast (hf) ?_); with_reducible rfl
  refine F2.Steps.consO rfl ?_ ?_
  ·
   intro vz wz hBz hDz hTz K hK; have E13 : vz 13 = _ := hDz 3 (by kernel_rfl) rfl; have HW := hBz.ext; simp only [zy, F2.Wp] at hK ⊢; simp only [E13] at hK ⊢; go_simp; refine hK _ wz zB (Fact.eq_mk ?_); with_reducible rfl
  exact F2.Steps.nil
 intro vb w2 hBz ⟨hOz, hAz, hNz, hSz⟩; have E10 : vb 10 = _ := hOz 0 (by decide) rfl; have E11 : vb 11 = _ := hOz 1 (by decide) rfl; have E12 : vb 12 = _ := hOz 2 (by decide) rfl; have E13 : vb 13 = _ := hOz 3 (by decide) rfl; have E14 : vb 14 = _ := hOz 4 (by decide) rfl; simp only [Act.put, actv, fill, fC, fN, tA, cS, cZ]; simp only [E10, E11, E12, E13, E14]; clear E10 E11 E12 E13 E14; replace h0 := h0.ext hBz.ext; replace bx3 := hBz.blk bx3 zN; replace bx4 := hBz.blk bx4 zN; replace bx6 := hBz.blk bx6 zN; replace bx7 := hBz.blk bx7 zN; replace HB := hide (HB.out.trans (hBz.below (B := w.heap.size) HB.out.size zE)); clear hOz hAz hNz hSz hBz
 cases mm with
 | false =>
  go_upto_region 2 with (fail)
  refine F2.regionS [.o, .o, .so (g6) 24 #[.bool false, .slice none 0 0], .so (g7) 24 #[.bool false, .slice none 0 0], .o] [Fact.eq ?cc15_, Fact.eq ?cc16_, Fact.z ?kcs6_ ?zcs6_, Fact.z ?kcs7_ ?zcs7_, Fact.eq ?cc8_] [15, 16, 8] [15, 16, 0, 0, 8] (by kernel_rfl) ?soc ?sopc (by kernel_rfl) ?stc ?finc
  case soc => exact List.forall_mem_cons.2 ⟨⟨bx6, NoU.two nB nS⟩, List.forall_mem_cons.2 ⟨⟨bx7, NoU.two nB nS⟩, fun x hx => by cases hx⟩⟩
  case sopc => exact List.Pairwise.cons (by intro y hy; simp [F2.sos] at hy; have hne6_7 := hne6_7.out; first | (subst hy; simp; done) | (subst hy; simp; omega) | (rcases hy with rfl | rfl <;> simp <;> omega)) (List.Pairwise.cons (fun y hy => by cases hy) (List.Pairwise.nil))
  case stc =>
   refine F2.Steps.consO rfl ?_ ?_
   ·
    intro vz wz hBz hDz hTz K hK; have HW := hBz.ext; simp only [zy, F2.Wp] at hK ⊢; go_simp; refine hK _ wz zB (Fact.eq_mk ?_); with_reducible rfl
   refine F2.Steps.consO rfl ?_ ?_
   ·
    intro vz wz hBz hDz hTz K hK; have HW := hBz.ext; simp only [zy, F2.Wp] at hK ⊢; go_simp; refine hK _ wz zB (Fact.eq_mk ?_); with_reducible rfl
   refine F2.Steps.consT rfl ?_ ?_
   ·
    intro vz wz hBz hDz hbz K hK; obtain ⟨zc0, zc1, zc2, zc3⟩ := hbz.two; have E15 : vz 15 = _ := hDz 0 (by kernel_rfl) rfl; have HW := hBz.ext; simp only [zy, F2.Wp] at hK ⊢; simp only [E15] at hK ⊢; go_simp; refine hK _ ((Far.set _ _ 0 _).trans (Far.set _ _ 1 _)) ⟨_, blk_two hbz, NoU.two nB nS, Fact.cast (Fact.z_mk (QB.zero _ 0 0)) ?_⟩; with_reducible rfl
   refine F2.Steps.consT rfl ?_ ?_
   ·
    intro vz wz hBz hDz hbz K hK; obtain ⟨zc0, zc1, zc2, zc3⟩ := hbz.two; have E16 : vz 16 = _ := hDz 1 (by kernel_rfl) rfl; have HW := hBz.ext; simp only [zy, F2.Wp] at hK ⊢; simp only [E16] at hK ⊢; go_simp; refine hK _ ((Far.set _ _ 0 _).trans (Far.set _ _ 1 _)) ⟨_, blk_two hbz, NoU.two nB nS, Fact.cast (Fact.z_mk (QB.zero _ 0 0)) ?_⟩; with_reducible rfl
   refine F2.Steps.consO rfl ?_ ?_
   ·
    intro vz wz hBz hDz hTz K hK; have HW := hBz.ext; simp only [zy, F2.Wp] at hK ⊢; go_simp; refine hK _ wz zB (Fact.eq_mk ?_); with_reducible rfl
   exact F2.Steps.nil
  intro vc w3 hBz ⟨hOz, hAz, hNz, hSz⟩; have E15 : vc 15 = _ := hOz 0 (by decide) rfl; have E16 : vc 16 = _ := hOz 1 (by decide) rfl; obtain ⟨cs6, bx6n, hs6⟩ := hSz 2 _ _ _ (by decide) rfl; obtain ⟨n6sc_, A6sc_, l6sc_, c6sc_, E6sc, q6sc⟩ : IntV 0 _ _ w3 (.agg cs6) := hs6; injection E6sc with E6sc
  subst E6sc; obtain ⟨cs7, bx7n, hs7⟩ := hSz 3 _ _ _ (by decide) rfl; obtain ⟨n7sc_, A7sc_, l7sc_, c7sc_, E7sc, q7sc⟩ : IntV 0 _ _ w3 (.agg cs7) := hs7; injection E7sc with E7sc
  subst E7sc; have E8 : vc 8 = _ := hOz 4 (by decide) rfl; simp only [Act.put, actv, fill, fC, fN, tA, cS, cZ]; simp only [E15, E16, E8]; clear E15 E16 E8; replace h0 := h0.ext hBz.ext; replace bx3 := hBz.blk bx3 (zM hne3_6.out (zM hne3_7.out zN)); replace bx4 := hBz.blk bx4 (zM hne4_6.out (zM hne4_7.out zN)); replace HB := hide (HB.out.trans (hBz.below (B := w.heap.size) HB.out.size (zA hge6 (zA hge7 zE)))); clear bx6; clear bx7; have bx6 := bx6n; clear bx6n; have bx7 := bx7n; clear bx7n; clear hOz hAz hNz hSz hBz
  go_wp2_with fail
  refine bodyPost_ret (results_int_int_tmp rfl _ _ _ _ _ _ _ _ _ _ rfl bx6 rfl bx7) rfl ⟨HB.out, ?_⟩; exact VF.mk (Fact.t3_mk (Fact.z_mk (q6sc.up (by omega))) (Fact.z_mk (q7sc.up (by omega))) (Fact.eq_self _ _))
 | true =>
  obtain ⟨hq, hn, ht0, hT⟩ := mayR_true HM.out; have HT := hide hT; clear hT; obtain ⟨N, rfl⟩ : ∃ N : Nat, n = (N : Int) := ⟨n.toNat, by omega⟩; have HL := hide (lim_cos (q := q) hq.1 ht0 HT.out); have HX := hide (one_le hq.2); have HA : Hid (∀ i, i ≤ 2 * N → (sq (lo_cos1 (x0 * x0) q) (1 * 2 ^ q.toNat) i).natAbs < W ^ 40) := hide (fun i hi => HL.out.la HX.out i (by omega)); have HB_ : Hid (∀ i, i ≤ 2 * N → (sq (hi_cos1 (x0 * x0) q) (1 * 2 ^ q.toNat) i).natAbs < W ^ 40) := hide (fun i hi => HL.out.lb HX.out i (by omega)); have HS : Hid (∀ i, i ≤ 2 * N → (tu (fun y => whole y (sq (lo_cos1 (x0 * x0) q) (1 * 2 ^ q.toNat) y)) (fun y => whole y (sq (hi_cos1 (x0 * x0) q) (1 * 2 ^ q.toNat) y)) i).natAbs < W ^ 40) := hide (fun i hi => HL.out.ta HX.out i (by omega)); have HT2 : Hid (∀ i, i ≤ 2 * N → (tu (fun y => whole y (sq (hi_cos1 (x0 * x0) q) (1 * 2 ^ q.toNat) y)) (fun y => whole y (sq (lo_cos1 (x0 * x0) q) (1 * 2 ^ q.toNat) y)) i).natAbs < W ^ 40) := hide (fun i hi => HL.out.tb HX.out i (by omega)); clear HL HX
  go_upto_region 3 with (fail)
  refine F2.regionS [.o, .o, .o, .al 24 #[.bool false, .slice none 0 0], .st 3] [Fact.eq ?cd17_, Fact.eq ?cd18_, Fact.z ?kd19_ ?zd19_, Fact.any, Fact.z ?kds9_ ?zds9_] [17, 18, 19, 9] [17, 18, 19, 9, 0] (by kernel_rfl) ?sod ?sopd (by kernel_rfl) ?std ?find
  case sod => exact fun x hx => by cases hx
  case sopd => exact List.Pairwise.nil
  case std =>
   refine F2.Steps.consO rfl ?_ ?_
   ·
    intro vz wz hBz hDz hTz K hK; have HW := hBz.ext; have bx3z := hBz.blk bx3 zN; obtain ⟨zl0, zl1, -⟩ := bx3z.two; simp only [zy, F2.Wp] at hK ⊢; go_simp; refine hK _ wz zB (Fact.eq_mk ?_); with_reducible rfl
   refine F2.Steps.consO rfl ?_ ?_
   ·
    intro vz wz hBz hDz hTz K hK; have HW := hBz.ext; have bx3z := hBz.blk bx3 zN; obtain ⟨zl0, zl1, -⟩ := bx3z.two; simp only [zy, F2.Wp] at hK ⊢; go_simp; refine hK _ wz zB (Fact.eq_mk ?_); with_reducible rfl
   refine F2.Steps.consO rfl ?_ ?_
   ·
    intro vz wz hBz hDz hTz K hK; have E17 : vz 17 = _ := hDz 0 (by kernel_rfl) rfl; have E18 : vz 18 = _ := hDz 1 (by kernel_rfl) rfl; have HW := hBz.ext; simp only [zy, F2.Wp] at hK ⊢; simp only [E17, E18] at hK ⊢; go_simp; refine Calls.mono (v_mul (h0.ext HW) (h0.ext HW) (by omega) (by omega)) ?_; rintro e w2z ⟨hb2, uz, rfl, hf⟩
    go_wp2_with fail
    refine hK _ w2z hb2 (Fact.cast (hf) ?_); with_reducible rfl
   refine F2.Steps.consA rfl ⟨NoU.two nB nS, ?_⟩ ?_
   ·
    intro vz wz hBz K hK; simp only [zy, F2.Wp] at hK ⊢; go_simp; exact hK
   refine F2.Steps.consS rfl rfl ?_ ?_
   ·
    intro vz wz gz hBz hDz E9' hgz hbz K hK; obtain ⟨zc0, zc1, zc2, zc3⟩ := hbz.two; obtain ⟨n19_, A19_, l19_, c19_, E19, q19⟩ : IntV 0 _ _ wz (vz 19) := hDz 2 (by kernel_rfl) rfl; have E9 : vz 9 = .pointer (some ⟨gz, 0, none⟩) := E9'; have HW := hBz.ext; simp only [zy, F2.Wp] at hK ⊢; simp only [E9, E19] at hK ⊢; go_simp; refine hK _ ((Far.set _ gz 0 _).trans (Far.set _ gz 1 _)) ⟨_, blk_two hbz, NoU.two nB nS, Fact.cast (Fact.z_mk q19) ?_⟩; with_reducible rfl
   exact F2.Steps.nil
  intro vd w4 hBz ⟨hOz, hAz, hNz, hSz⟩; have E17 : vd 17 = _ := hOz 0 (by decide) rfl; have E18 : vd 18 = _ := hOz 1 (by decide) rfl; obtain ⟨n19_, A19_, l19_, c19_, E19, q19⟩ : IntV 0 _ _ w4 (vd 19) := hOz 2 (by decide) rfl; obtain ⟨g9, cs9, E9, hg9, bx9, hs9, hz9⟩ := hAz 3 _ _ (by decide) rfl; obtain ⟨n9sd_, A9sd_, l9sd_, c9sd_, E9sd, q9sd⟩ : IntV 0 _ _ w4 (.agg cs9) := hs9 4 (by decide) rfl; injection E9sd with E9sd
  subst E9sd; simp only [Act.put, actv, fill, fC, fN, tA, cS, cZ]; simp only [E17, E18, E19, (show vd 9 = _ from E9)]; clear E17 E18 E19 E9; have hge9 : w.heap.size ≤ g9 := Nat.le_trans HB.out.size hg9; have hne9_3 := hide (Nat.ne_of_gt (Nat.lt_of_lt_of_le bx3.lt (show w2.heap.size ≤ g9 from hg9))); have hne9_4 := hide (Nat.ne_of_gt (Nat.lt_of_lt_of_le bx4.lt (show w2.heap.size ≤ g9 from hg9))); have hne9_6 := hide (Nat.ne_of_gt (Nat.lt_of_lt_of_le bx6.lt (show w2.heap.size ≤ g9 from hg9))); have hne9_7 := hide (Nat.ne_of_gt (Nat.lt_of_lt_of_le bx7.lt (show w2.heap.size ≤ g9 from hg9))); replace h0 := h0.ext hBz.ext; replace bx3 := hBz.blk bx3 zN; replace bx4 := hBz.blk bx4 zN; replace bx6 := hBz.blk bx6 zN; replace bx7 := hBz.blk bx7 zN; replace HB := hide (HB.out.trans (hBz.below (B := w.heap.size) HB.out.size zE)); clear hOz hAz hNz hSz hs9 hz9 hBz
  go_upto_region 4 with (fail)
  refine F2.regionS [.o, .o, .o, .o, .o, .o, .o, .o, .so (g6) 24 #[.bool false, .slice none 0 0], .so (g7) 24 #[.bool false, .slice none 0 0], .o] [Fact.eq ?ce20_, Fact.eq ?ce21_, Fact.s_yy ?ke22_a ?ze22_a ?ke22_b ?ze22_b, Fact.eq ?ce23_, Fact.t3 (Fact.z ?ke24_p ?ze24_p) (Fact.z ?ke24_q ?ze24_q) (Fact.eq ?ce24_r), Fact.z ?ke25_ ?ze25_, Fact.z ?ke26_ ?ze26_, Fact.eq ?ce27_, Fact.z ?kes6_ ?zes6_, Fact.z ?kes7_ ?zes7_, Fact.eq ?ce8_] [20, 21, 22, 23, 24, 25, 26, 27, 8] [20, 21, 22, 23, 24, 25, 26, 27, 0, 0, 8] (by kernel_rfl) ?soe ?sope (by kernel_rfl) ?ste ?fine
  case soe => exact List.forall_mem_cons.2 ⟨⟨bx6, NoU.two nB nS⟩, List.forall_mem_cons.2 ⟨⟨bx7, NoU.two nB nS⟩, fun x hx => by cases hx⟩⟩
  case sope => exact List.Pairwise.cons (by intro y hy; simp [F2.sos] at hy; have hne6_7 := hne6_7.out; first | (subst hy; simp; done) | (subst hy; simp; omega) | (rcases hy with rfl | rfl <;> simp <;> omega)) (List.Pairwise.cons (fun y hy => by cases hy) (List.Pairwise.nil))
  case ste =>
   refine F2.Steps.consO rfl ?_ ?_
   ·
    intro vz wz hBz hDz hTz K hK; have HW := hBz.ext; simp only [zy, F2.Wp] at hK ⊢; go_simp; refine hK _ wz zB (Fact.eq_mk ?_); with_reducible rfl
   refine F2.Steps.consO rfl ?_ ?_
   ·
    intro vz wz hBz hDz hTz K hK; have HW := hBz.ext; have bx4z := hBz.blk bx4 (zM hne4_6.out (zM hne4_7.out zN)); obtain ⟨zl0, -⟩ := bx4z.one; simp only [zy, F2.Wp] at hK ⊢; go_simp; refine hK _ wz zB (Fact.eq_mk ?_); with_reducible rfl
   refine F2.Steps.consO rfl ?_ ?_
   ·
    intro vz wz hBz hDz hTz K hK; have E21 : vz 21 = _ := hDz 1 (by kernel_rfl) rfl; have HW := hBz.ext; simp only [zy, F2.Wp] at hK ⊢; simp only [E21] at hK ⊢; go_simp; refine Calls.mono (rone_calls  (by omega) (by omega)) ?_; rintro e w2z ⟨hb2, uz, rfl, hf⟩
    go_wp2_with fail
    refine hK _ w2z hb2 (Fact.cast (hf) ?_); with_reducible rfl
   refine F2.Steps.consO rfl ?_ ?_
   ·
    intro vz wz hBz hDz hTz K hK; have HW := hBz.ext; simp only [zy, F2.Wp] at hK ⊢; go_simp
    try simp only [hmfR]
    refine hK _ wz zB (Fact.eq_mk ?_); with_reducible rfl
   refine F2.Steps.consO rfl ?_ ?_
   ·
    intro vz wz hBz hDz hTz K hK; have E20 : vz 20 = _ := hDz 0 (by kernel_rfl) rfl; obtain ⟨n22a_, A22a_, l22a_, c22a_, n22b_, A22b_, l22b_, c22b_, E22, q22a, q22b⟩ : SV_yy _ _ _ _ wz (vz 22) := hDz 2 (by kernel_rfl) rfl; have E23 : vz 23 = _ := hDz 3 (by kernel_rfl) rfl; have HW := hBz.ext; simp only [zy, F2.Wp] at hK ⊢; simp only [E20, E22, E23] at hK ⊢; go_simp; refine Calls.mono (turning_cos1_calls (M := 40) q22a.q q22b.q  (q9sd.ext HW).q (hBz.blk bx9 (zM hne9_6.out (zM hne9_7.out zN))) (hBz.blk bx4 (zM hne4_6.out (zM hne4_7.out zN))) (by omega) (by omega) (by omega) (by omega) (by omega) (by omega) (by omega) (by omega) (by omega) HA HB_ HS HT2) ?_; rintro e w2z ⟨hb2, uz, rfl, hf⟩
    go_wp2_with fail
    refine hK _ w2z hb2 (Fact.cast (hf) ?_); with_reducible rfl
   refine F2.Steps.consO rfl ?_ ?_
   ·
    intro vz wz hBz hDz hTz K hK; obtain ⟨x24p_, x24q_, x24r_, E24, h24p, h24q, h24r⟩ : TV3 _ _ _ wz (vz 24) := hDz 4 (by kernel_rfl) rfl; obtain rfl := Fact.eq_of h24r; have HW := hBz.ext; simp only [zy, F2.Wp] at hK ⊢; simp only [E24] at hK ⊢; go_simp; refine hK _ wz zB (Fact.cast (h24p) ?_); with_reducible rfl
   refine F2.Steps.consO rfl ?_ ?_
   ·
    intro vz wz hBz hDz hTz K hK; obtain ⟨x24p_, x24q_, x24r_, E24, h24p, h24q, h24r⟩ : TV3 _ _ _ wz (vz 24) := hDz 4 (by kernel_rfl) rfl; obtain rfl := Fact.eq_of h24r; have HW := hBz.ext; simp only [zy, F2.Wp] at hK ⊢; simp only [E24] at hK ⊢; go_simp; refine hK _ wz zB (Fact.cast (h24q) ?_); with_reducible rfl
   refine F2.Steps.consO rfl ?_ ?_
   ·
    intro vz wz hBz hDz hTz K hK; obtain ⟨x24p_, x24q_, x24r_, E24, h24p, h24q, h24r⟩ : TV3 _ _ _ wz (vz 24) := hDz 4 (by kernel_rfl) rfl; obtain rfl := Fact.eq_of h24r; have HW := hBz.ext; simp only [zy, F2.Wp] at hK ⊢; simp only [E24] at hK ⊢; go_simp; refine hK _ wz zB (Fact.eq_mk ?_); with_reducible rfl
   refine F2.Steps.consT rfl ?_ ?_
   ·
    intro vz wz hBz hDz hbz K hK; obtain ⟨zc0, zc1, zc2, zc3⟩ := hbz.two; obtain ⟨n25_, A25_, l25_, c25_, E25, q25⟩ : IntV 0 _ _ wz (vz 25) := hDz 5 (by kernel_rfl) rfl; have HW := hBz.ext; simp only [zy, F2.Wp] at hK ⊢; simp only [E25] at hK ⊢; go_simp; refine hK _ ((Far.set _ _ 0 _).trans (Far.set _ _ 1 _)) ⟨_, blk_two hbz, NoU.two nB nS, Fact.cast (Fact.z_mk q25) ?_⟩; with_reducible rfl
   refine F2.Steps.consT rfl ?_ ?_
   ·
    intro vz wz hBz hDz hbz K hK; obtain ⟨zc0, zc1, zc2, zc3⟩ := hbz.two; obtain ⟨n26_, A26_, l26_, c26_, E26, q26⟩ : IntV 0 _ _ wz (vz 26) := hDz 6 (by kernel_rfl) rfl; have HW := hBz.ext; simp only [zy, F2.Wp] at hK ⊢; simp only [E26] at hK ⊢; go_simp; refine hK _ ((Far.set _ _ 0 _).trans (Far.set _ _ 1 _)) ⟨_, blk_two hbz, NoU.two nB nS, Fact.cast (Fact.z_mk q26) ?_⟩; with_reducible rfl
   refine F2.Steps.consO rfl ?_ ?_
   ·
    intro vz wz hBz hDz hTz K hK; have E27 : vz 27 = _ := hDz 7 (by kernel_rfl) rfl; have HW := hBz.ext; simp only [zy, F2.Wp] at hK ⊢; simp only [E27] at hK ⊢; go_simp; refine hK _ wz zB (Fact.eq_mk ?_); with_reducible rfl
   exact F2.Steps.nil
  intro ve w5 hBz ⟨hOz, hAz, hNz, hSz⟩; have E20 : ve 20 = _ := hOz 0 (by decide) rfl; have E21 : ve 21 = _ := hOz 1 (by decide) rfl; obtain ⟨n22a_, A22a_, l22a_, c22a_, n22b_, A22b_, l22b_, c22b_, E22, q22a, q22b⟩ : SV_yy _ _ _ _ w5 (ve 22) := hOz 2 (by decide) rfl; have E23 : ve 23 = _ := hOz 3 (by decide) rfl; obtain ⟨x24p_, x24q_, x24r_, E24, h24p, h24q, h24r⟩ : TV3 _ _ _ w5 (ve 24) := hOz 4 (by decide) rfl; obtain rfl := Fact.eq_of h24r; obtain ⟨n25_, A25_, l25_, c25_, E25, q25⟩ : IntV 0 _ _ w5 (ve 25) := hOz 5 (by decide) rfl; obtain ⟨n26_, A26_, l26_, c26_, E26, q26⟩ : IntV 0 _ _ w5 (ve 26) := hOz 6 (by decide) rfl; have E27 : ve 27 = _ := hOz 7 (by decide) rfl; obtain ⟨cs6, bx6n, hs6⟩ := hSz 8 _ _ _ (by decide) rfl; obtain ⟨n6se_, A6se_, l6se_, c6se_, E6se, q6se⟩ : IntV 0 _ _ w5 (.agg cs6) := hs6; injection E6se with E6se
  subst E6se; obtain ⟨cs7, bx7n, hs7⟩ := hSz 9 _ _ _ (by decide) rfl; obtain ⟨n7se_, A7se_, l7se_, c7se_, E7se, q7se⟩ : IntV 0 _ _ w5 (.agg cs7) := hs7; injection E7se with E7se
  subst E7se; have E8 : ve 8 = _ := hOz 10 (by decide) rfl; simp only [Act.put, actv, fill, fC, fN, tA, cS, cZ]; simp only [E20, E21, E22, E23, E24, E25, E26, E27, E8]; clear E20 E21 E22 E23 E24 E25 E26 E27 E8; replace h0 := h0.ext hBz.ext; replace q9sd := q9sd.ext hBz.ext; replace bx3 := hBz.blk bx3 (zM hne3_6.out (zM hne3_7.out zN)); replace bx4 := hBz.blk bx4 (zM hne4_6.out (zM hne4_7.out zN)); replace bx9 := hBz.blk bx9 (zM hne9_6.out (zM hne9_7.out zN)); replace HB := hide (HB.out.trans (hBz.below (B := w.heap.size) HB.out.size (zA hge6 (zA hge7 zE)))); clear bx6; clear bx7; have bx6 := bx6n; clear bx6n; have bx7 := bx7n; clear bx7n; clear hOz hAz hNz hSz hBz
  go_wp2_with fail
  refine bodyPost_ret (results_int_int_tmp rfl _ _ _ _ _ _ _ _ _ _ rfl bx6 rfl bx7) rfl ⟨HB.out, ?_⟩; exact VF.mk (Fact.t3_mk (Fact.z_mk (q6se.up (by omega))) (Fact.z_mk (q7se.up (by omega))) (Fact.eq_self _ _))
end Go.Proofs.YtnephejalollfaaGreat
end
section
set_option linter.unusedVariables false
set_option linter.unusedSimpArgs false
namespace Go.Proofs.YtnephejalollfaaGreat
open Go.RowKit
open L (val dig nth)
/-- A closure of two boxes: an integer and a number. -/
def CapV (F : Fn) (k : Nat) (T q : Int) (w : World) (u : Value) : Prop := ∃ g p m B j d, u = .func F #[] #[.pointer (some ⟨g, 0, none⟩), .pointer (some ⟨p, 0, none⟩)] ∧ Blk w g 24 #[.bool m, .slice B j d] ∧ QB w 0 k m B j d T ∧ Blk w p 3 #[.int .i64 q]
theorem CapV.below {F : Fn} {k : Nat} {T q : Int} {w w' : World} {u : Value} (h : CapV F k T q w u) (hb : Below w.heap.size w w') : CapV F k T q w' u := by
  obtain ⟨g, p, m, B, j, d, h1, h2, h3, h4⟩ := h; exact ⟨g, p, m, B, j, d, h1, h2.below hb h2.lt, h3.ext (ext_of hb), h4.below hb h4.lt⟩
def F4.FactW.cap (F : Fn) (k : Nat) (T q : Int) : F4.FactW := ⟨CapV F k T q, fun h hb => h.below hb⟩
set_option maxHeartbeats 4000000 in
set_option maxRecDepth 100000 in
theorem rpowers_calls {w : World}  {k0 : Nat} {n0 : Bool} {A0 : Option Addr} {l0 c0 : Nat} {x0 : Int} {q : Int} (h0 : Q w k0 n0 A0 l0 c0 x0) (hk0 : k0 ≤ 4000) :
    Calls Tryz.prog 35 #[.agg #[.bool n0, .slice A0 l0 c0], .int .i64 q] w fun e w' => Below w.heap.size w w' ∧ ∃ u, e = .returned u ∧ CapV (.func 62) (k0 + k0) (x0 * x0) q w' u := by
 go_enter Tryz.func35, Tryz.ntmps35
 have HB : Hid (Below w.heap.size w w) := hide (Below.refl _ _)
 go_upto_region 0 with (fail)
 refine F2.regionS [.al 24 #[.bool n0, .slice A0 l0 c0], .al 3 #[.int .i64 q], .o] [Fact.any, Fact.any, Fact.eq ?ca4_] [2, 3, 4] [2, 3, 4] (by kernel_rfl) ?soa ?sopa (by kernel_rfl) ?sta ?fina
 case soa => exact fun x hx => by cases hx
 case sopa => exact List.Pairwise.nil
 case sta =>
  refine F2.Steps.consA rfl ⟨NoU.two nB nS, ?_⟩ ?_
  ·
   intro vz wz hBz K hK; simp only [zy, F2.Wp] at hK ⊢; go_simp; exact hK
  refine F2.Steps.consA rfl ⟨NoU.one nI, ?_⟩ ?_
  ·
   intro vz wz hBz K hK; simp only [zy, F2.Wp] at hK ⊢; go_simp; exact hK
  refine F2.Steps.consO rfl ?_ ?_
  ·
   intro vz wz hBz hDz hTz K hK; have HW := hBz.ext; simp only [zy, F2.Wp] at hK ⊢; go_simp; refine hK _ wz zB (Fact.eq_mk ?_); with_reducible rfl
  exact F2.Steps.nil
 intro va w1 hBz ⟨hOz, hAz, hNz, hSz⟩; obtain ⟨g2, cs2, E2, hg2, bx2, hs2, hz2⟩ := hAz 0 _ _ (by decide) rfl; have hzz := hz2 (F2.nost (by kernel_rfl)); subst hzz; obtain ⟨g3, cs3, E3, hg3, bx3, hs3, hz3⟩ := hAz 1 _ _ (by decide) rfl; have hzz := hz3 (F2.nost (by kernel_rfl)); subst hzz; have E4 : va 4 = _ := hOz 2 (by decide) rfl; have hne2_3 : Hid (¬ g2 = g3) := hide (fun h => hNz 0 1 _ _ _ _ (by decide) (by decide) (by decide) rfl rfl (by rw [E2, E3, h])); simp only [Act.put, actv, fill, fC, fN, tA, cS, cZ]; simp only [(show va 2 = _ from E2), (show va 3 = _ from E3), E4]; clear E2 E3 E4; have hge2 : w.heap.size ≤ g2 := Nat.le_trans HB.out.size hg2; have hge3 : w.heap.size ≤ g3 := Nat.le_trans HB.out.size hg3; replace h0 := h0.ext hBz.ext; replace HB := hide (HB.out.trans (hBz.below (B := w.heap.size) HB.out.size zE)); clear hOz hAz hNz hSz hs2 hz2 hs3 hz3 hBz
 go_upto_region 1 with (fail)
 refine F2.regionS [.o, .o, .o, .al 24 #[.bool false, .slice none 0 0], .st 3] [Fact.eq ?cb6_, Fact.eq ?cb7_, Fact.z ?kb8_ ?zb8_, Fact.any, Fact.z ?kbs5_ ?zbs5_] [6, 7, 8, 5] [6, 7, 8, 5, 0] (by kernel_rfl) ?sob ?sopb (by kernel_rfl) ?stb ?finb
 case sob => exact fun x hx => by cases hx
 case sopb => exact List.Pairwise.nil
 case stb =>
  refine F2.Steps.consO rfl ?_ ?_
  ·
   intro vz wz hBz hDz hTz K hK; have HW := hBz.ext; have bx2z := hBz.blk bx2 zN; obtain ⟨zl0, zl1, -⟩ := bx2z.two; simp only [zy, F2.Wp] at hK ⊢; go_simp; refine hK _ wz zB (Fact.eq_mk ?_); with_reducible rfl
  refine F2.Steps.consO rfl ?_ ?_
  ·
   intro vz wz hBz hDz hTz K hK; have HW := hBz.ext; have bx2z := hBz.blk bx2 zN; obtain ⟨zl0, zl1, -⟩ := bx2z.two; simp only [zy, F2.Wp] at hK ⊢; go_simp; refine hK _ wz zB (Fact.eq_mk ?_); with_reducible rfl
  refine F2.Steps.consO rfl ?_ ?_
  ·
   intro vz wz hBz hDz hTz K hK; have E6 : vz 6 = _ := hDz 0 (by kernel_rfl) rfl; have E7 : vz 7 = _ := hDz 1 (by kernel_rfl) rfl; have HW := hBz.ext; simp only [zy, F2.Wp] at hK ⊢; simp only [E6, E7] at hK ⊢; go_simp; refine Calls.mono (v_mul (h0.ext HW) (h0.ext HW) (by omega) (by omega)) ?_; rintro e w2z ⟨hb2, uz, rfl, hf⟩
   go_wp2_with fail
   refine hK _ w2z hb2 (Fact.cast (hf) ?_); with_reducible rfl
  refine F2.Steps.consA rfl ⟨NoU.two nB nS, ?_⟩ ?_
  ·
   intro vz wz hBz K hK; simp only [zy, F2.Wp] at hK ⊢; go_simp; exact hK
  refine F2.Steps.consS rfl rfl ?_ ?_
  ·
   intro vz wz gz hBz hDz E5' hgz hbz K hK; obtain ⟨zc0, zc1, zc2, zc3⟩ := hbz.two; obtain ⟨n8_, A8_, l8_, c8_, E8, q8⟩ : IntV 0 _ _ wz (vz 8) := hDz 2 (by kernel_rfl) rfl; have E5 : vz 5 = .pointer (some ⟨gz, 0, none⟩) := E5'; have HW := hBz.ext; simp only [zy, F2.Wp] at hK ⊢; simp only [E5, E8] at hK ⊢; go_simp; refine hK _ ((Far.set _ gz 0 _).trans (Far.set _ gz 1 _)) ⟨_, blk_two hbz, NoU.two nB nS, Fact.cast (Fact.z_mk q8) ?_⟩; with_reducible rfl
  exact F2.Steps.nil
 intro vb w2 hBz ⟨hOz, hAz, hNz, hSz⟩; have E6 : vb 6 = _ := hOz 0 (by decide) rfl; have E7 : vb 7 = _ := hOz 1 (by decide) rfl; obtain ⟨n8_, A8_, l8_, c8_, E8, q8⟩ : IntV 0 _ _ w2 (vb 8) := hOz 2 (by decide) rfl; obtain ⟨g5, cs5, E5, hg5, bx5, hs5, hz5⟩ := hAz 3 _ _ (by decide) rfl; obtain ⟨n5sb_, A5sb_, l5sb_, c5sb_, E5sb, q5sb⟩ : IntV 0 _ _ w2 (.agg cs5) := hs5 4 (by decide) rfl; injection E5sb with E5sb
 subst E5sb; simp only [Act.put, actv, fill, fC, fN, tA, cS, cZ]; simp only [E6, E7, E8, (show vb 5 = _ from E5)]; clear E6 E7 E8 E5; have hge5 : w.heap.size ≤ g5 := Nat.le_trans HB.out.size hg5; have hne5_2 := hide (Nat.ne_of_gt (Nat.lt_of_lt_of_le bx2.lt (show w1.heap.size ≤ g5 from hg5))); have hne5_3 := hide (Nat.ne_of_gt (Nat.lt_of_lt_of_le bx3.lt (show w1.heap.size ≤ g5 from hg5))); replace h0 := h0.ext hBz.ext; replace bx2 := hBz.blk bx2 zN; replace bx3 := hBz.blk bx3 zN; replace HB := hide (HB.out.trans (hBz.below (B := w.heap.size) HB.out.size zE)); clear hOz hAz hNz hSz hs5 hz5 hBz
 go_upto_region 2 with (fail)
 refine F2.regionS [.o, .o] [Fact.eq ?cc9_, Fact.eq ?cc4_] [9, 4] [9, 4] (by kernel_rfl) ?soc ?sopc (by kernel_rfl) ?stc ?finc
 case soc => exact fun x hx => by cases hx
 case sopc => exact List.Pairwise.nil
 case stc =>
  refine F2.Steps.consO rfl ?_ ?_
  ·
   intro vz wz hBz hDz hTz K hK; have HW := hBz.ext; simp only [zy, F2.Wp] at hK ⊢; go_simp
   try simp only [hmfR]
   refine hK _ wz zB (Fact.eq_mk ?_); with_reducible rfl
  refine F2.Steps.consO rfl ?_ ?_
  ·
   intro vz wz hBz hDz hTz K hK; have E9 : vz 9 = _ := hDz 0 (by kernel_rfl) rfl; have HW := hBz.ext; simp only [zy, F2.Wp] at hK ⊢; simp only [E9] at hK ⊢; go_simp; refine hK _ wz zB (Fact.eq_mk ?_); with_reducible rfl
  exact F2.Steps.nil
 intro vc w3 hBz ⟨hOz, hAz, hNz, hSz⟩; have E9 : vc 9 = _ := hOz 0 (by decide) rfl; have E4 : vc 4 = _ := hOz 1 (by decide) rfl; simp only [Act.put, actv, fill, fC, fN, tA, cS, cZ]; simp only [E9, E4]; clear E9 E4; replace h0 := h0.ext hBz.ext; replace q5sb := q5sb.ext hBz.ext; replace bx2 := hBz.blk bx2 zN; replace bx3 := hBz.blk bx3 zN; replace bx5 := hBz.blk bx5 zN; replace HB := hide (HB.out.trans (hBz.below (B := w.heap.size) HB.out.size zE)); clear hOz hAz hNz hSz hBz
 go_wp2_with fail
 go_ret
 exact ⟨HB.out, _, rfl, _, _, _, _, _, _, rfl, bx5, q5sb, bx3⟩
set_option maxHeartbeats 4000000 in
set_option maxRecDepth 100000 in
theorem ratan_calls {w : World}  {k0 : Nat} {n0 : Bool} {A0 : Option Addr} {l0 c0 : Nat} {x0 : Int} {q n : Int} (h0 : Q w k0 n0 A0 l0 c0 x0) (hk0 : k0 ≤ 40) :
    Calls Tryz.prog 15 #[.agg #[.bool n0, .slice A0 l0 c0], .int .i64 q, .int .i64 n] w fun e w' => Below w.heap.size w w' ∧ VF (Fact.t3 (Fact.z 340 (if mayR x0 q n 1 = true then atanLo x0 q n.toNat else 0)) (Fact.z 340 (if mayR x0 q n 1 = true then atanHi x0 q n.toNat else 0)) (Fact.eq (.int .i64 (if mayR x0 q n 1 = true then 0 else 1)))) e w' := by
 obtain ⟨mm, HM⟩ : ∃ m, Hid (mayR x0 q n 1 = m) := ⟨_, hide rfl⟩; rw [HM.out]
 go_enter Tryz.func15, Tryz.ntmps15
 have HB : Hid (Below w.heap.size w w) := hide (Below.refl _ _)
 go_upto_region 0 with (fail)
 refine F2.regionS [.al 24 #[.bool n0, .slice A0 l0 c0], .al 24 #[.bool false, .slice none 0 0], .al 24 #[.bool false, .slice none 0 0], .o] [Fact.any, Fact.any, Fact.any, Fact.eq ?ca8_] [3, 6, 7, 8] [3, 6, 7, 8] (by kernel_rfl) ?soa ?sopa (by kernel_rfl) ?sta ?fina
 case soa => exact fun x hx => by cases hx
 case sopa => exact List.Pairwise.nil
 case sta =>
  refine F2.Steps.consA rfl ⟨NoU.two nB nS, ?_⟩ ?_
  ·
   intro vz wz hBz K hK; simp only [zy, F2.Wp] at hK ⊢; go_simp; exact hK
  refine F2.Steps.consA rfl ⟨NoU.two nB nS, ?_⟩ ?_
  ·
   intro vz wz hBz K hK; simp only [zy, F2.Wp] at hK ⊢; go_simp; exact hK
  refine F2.Steps.consA rfl ⟨NoU.two nB nS, ?_⟩ ?_
  ·
   intro vz wz hBz K hK; simp only [zy, F2.Wp] at hK ⊢; go_simp; exact hK
  refine F2.Steps.consO rfl ?_ ?_
  ·
   intro vz wz hBz hDz hTz K hK; have HW := hBz.ext; simp only [zy, F2.Wp] at hK ⊢; go_simp; refine hK _ wz zB (Fact.eq_mk ?_); with_reducible rfl
  exact F2.Steps.nil
 intro va w1 hBz ⟨hOz, hAz, hNz, hSz⟩; obtain ⟨g3, cs3, E3, hg3, bx3, hs3, hz3⟩ := hAz 0 _ _ (by decide) rfl; have hzz := hz3 (F2.nost (by kernel_rfl)); subst hzz; obtain ⟨g6, cs6, E6, hg6, bx6, hs6, hz6⟩ := hAz 1 _ _ (by decide) rfl; have hzz := hz6 (F2.nost (by kernel_rfl)); subst hzz; obtain ⟨g7, cs7, E7, hg7, bx7, hs7, hz7⟩ := hAz 2 _ _ (by decide) rfl; have hzz := hz7 (F2.nost (by kernel_rfl)); subst hzz; have E8 : va 8 = _ := hOz 3 (by decide) rfl; have hne3_6 : Hid (¬ g3 = g6) := hide (fun h => hNz 0 1 _ _ _ _ (by decide) (by decide) (by decide) rfl rfl (by rw [E3, E6, h])); have hne3_7 : Hid (¬ g3 = g7) := hide (fun h => hNz 0 2 _ _ _ _ (by decide) (by decide) (by decide) rfl rfl (by rw [E3, E7, h])); have hne6_7 : Hid (¬ g6 = g7) := hide (fun h => hNz 1 2 _ _ _ _ (by decide) (by decide) (by decide) rfl rfl (by rw [E6, E7, h])); simp only [Act.put, actv, fill, fC, fN, tA, cS, cZ]; simp only [(show va 3 = _ from E3), (show va 6 = _ from E6), (show va 7 = _ from E7), E8]; clear E3 E6 E7 E8; have hge3 : w.heap.size ≤ g3 := Nat.le_trans HB.out.size hg3; have hge6 : w.heap.size ≤ g6 := Nat.le_trans HB.out.size hg6; have hge7 : w.heap.size ≤ g7 := Nat.le_trans HB.out.size hg7; replace h0 := h0.ext hBz.ext; replace HB := hide (HB.out.trans (hBz.below (B := w.heap.size) HB.out.size zE)); clear hOz hAz hNz hSz hs3 hz3 hs6 hz6 hs7 hz7 hBz
 go_upto_region 1 with (fail)
 refine F2.regionS [.o, .o, .o, .o, .o] [Fact.eq ?cb9_, Fact.eq ?cb10_, Fact.eq ?cb11_, Fact.eq ?cb12_, Fact.eq ?cb13_] [9, 10, 11, 12, 13] [9, 10, 11, 12, 13] (by kernel_rfl) ?sob ?sopb (by kernel_rfl) ?stb ?finb
 case sob => exact fun x hx => by cases hx
 case sopb => exact List.Pairwise.nil
 case stb =>
  refine F2.Steps.consO rfl ?_ ?_
  ·
   intro vz wz hBz hDz hTz K hK; have HW := hBz.ext; have bx3z := hBz.blk bx3 zN; obtain ⟨zl0, zl1, -⟩ := bx3z.two; simp only [zy, F2.Wp] at hK ⊢; go_simp; refine hK _ wz zB (Fact.eq_mk ?_); with_reducible rfl
  refine F2.Steps.consO rfl ?_ ?_
  ·
   intro vz wz hBz hDz hTz K hK; have HW := hBz.ext; simp only [zy, F2.Wp] at hK ⊢; go_simp; refine hK _ wz zB (Fact.eq_mk ?_); with_reducible rfl
  refine F2.Steps.consO rfl ?_ ?_
  ·
   intro vz wz hBz hDz hTz K hK; have HW := hBz.ext; simp only [zy, F2.Wp] at hK ⊢; go_simp; refine hK _ wz zB (Fact.eq_mk ?_); with_reducible rfl
  refine F2.Steps.consO rfl ?_ ?_
  ·
   intro vz wz hBz hDz hTz K hK; have E9 : vz 9 = _ := hDz 0 (by kernel_rfl) rfl; have E10 : vz 10 = _ := hDz 1 (by kernel_rfl) rfl; have E11 : vz 11 = _ := hDz 2 (by kernel_rfl) rfl; have HW := hBz.ext; simp only [zy, F2.Wp] at hK ⊢; simp only [E9, E10, E11] at hK ⊢; go_simp; refine Calls.mono (HM.out ▸ rmay_calls (h0.ext HW) (by omega) (by omega) (by omega)) ?_; rintro e w2z ⟨hb2, uz, rfl, hf⟩
   go_wp2_with fail
   refine hK _ w2z hb2 (Fact.cast (hf) ?_); with_reducible rfl
  refine F2.Steps.consO rfl ?_ ?_
  ·
   intro vz wz hBz hDz hTz K hK; have E12 : vz 12 = _ := hDz 3 (by kernel_rfl) rfl; have HW := hBz.ext; simp only [zy, F2.Wp] at hK ⊢; simp only [E12] at hK ⊢; go_simp; refine hK _ wz zB (Fact.eq_mk ?_); with_reducible rfl
  exact F2.Steps.nil
 intro vb w2 hBz ⟨hOz, hAz, hNz, hSz⟩; have E9 : vb 9 = _ := hOz 0 (by decide) rfl; have E10 : vb 10 = _ := hOz 1 (by decide) rfl; have E11 : vb 11 = _ := hOz 2 (by decide) rfl; have E12 : vb 12 = _ := hOz 3 (by decide) rfl; have E13 : vb 13 = _ := hOz 4 (by decide) rfl; simp only [Act.put, actv, fill, fC, fN, tA, cS, cZ]; simp only [E9, E10, E11, E12, E13]; clear E9 E10 E11 E12 E13; replace h0 := h0.ext hBz.ext; replace bx3 := hBz.blk bx3 zN; replace bx6 := hBz.blk bx6 zN; replace bx7 := hBz.blk bx7 zN; replace HB := hide (HB.out.trans (hBz.below (B := w.heap.size) HB.out.size zE)); clear hOz hAz hNz hSz hBz
 cases mm with
 | false =>
  go_upto_region 2 with (fail)
  refine F2.regionS [.o, .o, .so (g6) 24 #[.bool false, .slice none 0 0], .so (g7) 24 #[.bool false, .slice none 0 0], .o] [Fact.eq ?cc14_, Fact.eq ?cc15_, Fact.z ?kcs6_ ?zcs6_, Fact.z ?kcs7_ ?zcs7_, Fact.eq ?cc8_] [14, 15, 8] [14, 15, 0, 0, 8] (by kernel_rfl) ?soc ?sopc (by kernel_rfl) ?stc ?finc
  case soc => exact List.forall_mem_cons.2 ⟨⟨bx6, NoU.two nB nS⟩, List.forall_mem_cons.2 ⟨⟨bx7, NoU.two nB nS⟩, fun x hx => by cases hx⟩⟩
  case sopc => exact List.Pairwise.cons (by intro y hy; simp [F2.sos] at hy; have hne6_7 := hne6_7.out; first | (subst hy; simp; done) | (subst hy; simp; omega) | (rcases hy with rfl | rfl <;> simp <;> omega)) (List.Pairwise.cons (fun y hy => by cases hy) (List.Pairwise.nil))
  case stc =>
   refine F2.Steps.consO rfl ?_ ?_
   ·
    intro vz wz hBz hDz hTz K hK; have HW := hBz.ext; simp only [zy, F2.Wp] at hK ⊢; go_simp; refine hK _ wz zB (Fact.eq_mk ?_); with_reducible rfl
   refine F2.Steps.consO rfl ?_ ?_
   ·
    intro vz wz hBz hDz hTz K hK; have HW := hBz.ext; simp only [zy, F2.Wp] at hK ⊢; go_simp; refine hK _ wz zB (Fact.eq_mk ?_); with_reducible rfl
   refine F2.Steps.consT rfl ?_ ?_
   ·
    intro vz wz hBz hDz hbz K hK; obtain ⟨zc0, zc1, zc2, zc3⟩ := hbz.two; have E14 : vz 14 = _ := hDz 0 (by kernel_rfl) rfl; have HW := hBz.ext; simp only [zy, F2.Wp] at hK ⊢; simp only [E14] at hK ⊢; go_simp; refine hK _ ((Far.set _ _ 0 _).trans (Far.set _ _ 1 _)) ⟨_, blk_two hbz, NoU.two nB nS, Fact.cast (Fact.z_mk (QB.zero _ 0 0)) ?_⟩; with_reducible rfl
   refine F2.Steps.consT rfl ?_ ?_
   ·
    intro vz wz hBz hDz hbz K hK; obtain ⟨zc0, zc1, zc2, zc3⟩ := hbz.two; have E15 : vz 15 = _ := hDz 1 (by kernel_rfl) rfl; have HW := hBz.ext; simp only [zy, F2.Wp] at hK ⊢; simp only [E15] at hK ⊢; go_simp; refine hK _ ((Far.set _ _ 0 _).trans (Far.set _ _ 1 _)) ⟨_, blk_two hbz, NoU.two nB nS, Fact.cast (Fact.z_mk (QB.zero _ 0 0)) ?_⟩; with_reducible rfl
   refine F2.Steps.consO rfl ?_ ?_
   ·
    intro vz wz hBz hDz hTz K hK; have HW := hBz.ext; simp only [zy, F2.Wp] at hK ⊢; go_simp; refine hK _ wz zB (Fact.eq_mk ?_); with_reducible rfl
   exact F2.Steps.nil
  intro vc w3 hBz ⟨hOz, hAz, hNz, hSz⟩; have E14 : vc 14 = _ := hOz 0 (by decide) rfl; have E15 : vc 15 = _ := hOz 1 (by decide) rfl; obtain ⟨cs6, bx6n, hs6⟩ := hSz 2 _ _ _ (by decide) rfl; obtain ⟨n6sc_, A6sc_, l6sc_, c6sc_, E6sc, q6sc⟩ : IntV 0 _ _ w3 (.agg cs6) := hs6; injection E6sc with E6sc
  subst E6sc; obtain ⟨cs7, bx7n, hs7⟩ := hSz 3 _ _ _ (by decide) rfl; obtain ⟨n7sc_, A7sc_, l7sc_, c7sc_, E7sc, q7sc⟩ : IntV 0 _ _ w3 (.agg cs7) := hs7; injection E7sc with E7sc
  subst E7sc; have E8 : vc 8 = _ := hOz 4 (by decide) rfl; simp only [Act.put, actv, fill, fC, fN, tA, cS, cZ]; simp only [E14, E15, E8]; clear E14 E15 E8; replace h0 := h0.ext hBz.ext; replace bx3 := hBz.blk bx3 (zM hne3_6.out (zM hne3_7.out zN)); replace HB := hide (HB.out.trans (hBz.below (B := w.heap.size) HB.out.size (zA hge6 (zA hge7 zE)))); clear bx6; clear bx7; have bx6 := bx6n; clear bx6n; have bx7 := bx7n; clear bx7n; clear hOz hAz hNz hSz hBz
  go_wp2_with fail
  refine bodyPost_ret (results_int_int_tmp rfl _ _ _ _ _ _ _ _ _ _ rfl bx6 rfl bx7) rfl ⟨HB.out, ?_⟩; exact VF.mk (Fact.t3_mk (Fact.z_mk (q6sc.up (by omega))) (Fact.z_mk (q7sc.up (by omega))) (Fact.eq_self _ _))
 | true =>
  obtain ⟨hq, hn, ht0, hT⟩ := mayR_true HM.out; have HT := hide hT; clear hT; obtain ⟨N, rfl⟩ : ∃ N : Nat, n = (N : Int) := ⟨n.toNat, by omega⟩; have HL := hide (lim_odd (q := q) hq.1 ht0 HT.out); have HX := hide (first_le hq.2 (by omega) HT.out); have HL0 := hide (lim_pow (q := q) hq.1 ht0 HT.out); have HA : Hid (∀ i, i ≤ 2 * N → (sq (lo_powers1 (x0 * x0) q) (x0) i).natAbs < W ^ 40) := hide (fun i hi => HL0.out.la HX.out i (by omega)); have HB_ : Hid (∀ i, i ≤ 2 * N → (sq (hi_powers1 (x0 * x0) q) (x0) i).natAbs < W ^ 40) := hide (fun i hi => HL0.out.lb HX.out i (by omega)); have HS : Hid (∀ i, i ≤ 2 * N → (tu (fun y => oddLo y (sq (lo_powers1 (x0 * x0) q) (x0) y)) (fun y => oddHi y (sq (hi_powers1 (x0 * x0) q) (x0) y)) i).natAbs < W ^ 40) := hide (fun i hi => HL.out.ta HX.out i (by omega)); have HT2 : Hid (∀ i, i ≤ 2 * N → (tu (fun y => oddHi y (sq (hi_powers1 (x0 * x0) q) (x0) y)) (fun y => oddLo y (sq (lo_powers1 (x0 * x0) q) (x0) y)) i).natAbs < W ^ 40) := hide (fun i hi => HL.out.tb HX.out i (by omega)); clear HL HX HL0
  go_upto_region 3 with (fail)
  refine F4.region [true, true, true, true, true, true, true, true] [.of (Fact.eq (.int .i64 (N : Nat))), .of (Fact.eq (.agg #[.bool n0, .slice A0 l0 c0])), .of (Fact.eq (.agg #[.bool n0, .slice A0 l0 c0])), .of (Fact.s_zz k0 x0 k0 x0), .of (Fact.eq (.agg #[.bool n0, .slice A0 l0 c0])), .of (Fact.eq (.int .i64 q)), .cap (.func 62) (k0 + k0) (x0 * x0) q, .of (Fact.t3 (Fact.z 40 (tu (fun y => oddLo y (sq (lo_powers1 (x0 * x0) q) x0 y)) (fun y => oddHi y (sq (hi_powers1 (x0 * x0) q) x0 y)) (2 * N))) (Fact.z 340 (tu (fun y => oddHi y (sq (hi_powers1 (x0 * x0) q) x0 y)) (fun y => oddLo y (sq (lo_powers1 (x0 * x0) q) x0 y)) (2 * N) + oddHi (2 * N) (sq (hi_powers1 (x0 * x0) q) x0 (2 * N)))) (Fact.eq (.int .i64 0)))] [16, 17, 18, 19, 20, 21, 22, 23] [16, 17, 18, 19, 20, 21, 22, 23] 6 (by kernel_rfl) (by kernel_rfl) (by kernel_rfl) (by kernel_rfl) (by decide) (by kernel_rfl) ?st1 ?fin1
  case st1 =>
   refine F4.Steps.yes ?_ ?_
   ·
    intro vz wz hBz hDz K hK; have HW := ext_drew (ext_of hBz); replace hK := hK.out; simp only [actv, fill, Act.put, F4.fw, sZ, sS, fC, fN, tA, cS, cZ] at hK; apply Kept.mk; simp only [F2.Wp, Act.put, actv, fill, fC, fN, tA, cS, cZ]; go_simp; exact hK _ wz (Below.refl _ _) rfl
   refine F4.Steps.yes ?_ ?_
   ·
    intro vz wz hBz hDz K hK; have HW := ext_drew (ext_of hBz); have bx3z := bx3.drew.below hBz bx3.drew.lt; obtain ⟨zl0, zl1, -⟩ := bx3z.two; replace hK := hK.out; simp only [actv, fill, Act.put, F4.fw, sZ, sS, fC, fN, tA, cS, cZ] at hK; apply Kept.mk; simp only [F2.Wp, Act.put, actv, fill, fC, fN, tA, cS, cZ]; go_simp; exact hK _ wz (Below.refl _ _) rfl
   refine F4.Steps.yes ?_ ?_
   ·
    intro vz wz hBz hDz K hK; have HW := ext_drew (ext_of hBz); have bx3z := bx3.drew.below hBz bx3.drew.lt; obtain ⟨zl0, zl1, -⟩ := bx3z.two; replace hK := hK.out; simp only [actv, fill, Act.put, F4.fw, sZ, sS, fC, fN, tA, cS, cZ] at hK; apply Kept.mk; simp only [F2.Wp, Act.put, actv, fill, fC, fN, tA, cS, cZ]; go_simp; exact hK _ wz (Below.refl _ _) rfl
   refine F4.Steps.yes ?_ ?_
   ·
    intro vz wz hBz hDz K hK; have E17 : vz 17 = _ := hDz 1 (by kernel_rfl) rfl; have E18 : vz 18 = _ := hDz 2 (by kernel_rfl) rfl; have HW := ext_drew (ext_of hBz); replace hK := hK.out; simp only [actv, fill, Act.put, F4.fw, sZ, sS, fC, fN, tA, cS, cZ] at hK; apply Kept.mk; simp only [F2.Wp, Act.put, actv, fill, fC, fN, tA, cS, cZ]; simp only [E17, E18] at hK ⊢; go_simp; exact hK _ wz zB (Fact.s_zz_mk (h0.ext HW) (h0.ext HW))
   refine F4.Steps.yes ?_ ?_
   ·
    intro vz wz hBz hDz K hK; have HW := ext_drew (ext_of hBz); have bx3z := bx3.drew.below hBz bx3.drew.lt; obtain ⟨zl0, zl1, -⟩ := bx3z.two; replace hK := hK.out; simp only [actv, fill, Act.put, F4.fw, sZ, sS, fC, fN, tA, cS, cZ] at hK; apply Kept.mk; simp only [F2.Wp, Act.put, actv, fill, fC, fN, tA, cS, cZ]; go_simp; exact hK _ wz (Below.refl _ _) rfl
   refine F4.Steps.yes ?_ ?_
   ·
    intro vz wz hBz hDz K hK; have HW := ext_drew (ext_of hBz); replace hK := hK.out; simp only [actv, fill, Act.put, F4.fw, sZ, sS, fC, fN, tA, cS, cZ] at hK; apply Kept.mk; simp only [F2.Wp, Act.put, actv, fill, fC, fN, tA, cS, cZ]; go_simp; exact hK _ wz (Below.refl _ _) rfl
   refine F4.Steps.yes ?_ ?_
   ·
    intro vz wz hBz hDz K hK; have E20 : vz 20 = _ := hDz 4 (by kernel_rfl) rfl; have E21 : vz 21 = _ := hDz 5 (by kernel_rfl) rfl; have HW := ext_drew (ext_of hBz); replace hK := hK.out; simp only [actv, fill, Act.put, F4.fw, sZ, sS, fC, fN, tA, cS, cZ] at hK; apply Kept.mk; simp only [F2.Wp, Act.put, actv, fill, fC, fN, tA, cS, cZ]; simp only [E20, E21] at hK ⊢; go_simp; refine Calls.mono (rpowers_calls (h0.ext HW) (by omega)) ?_; rintro e w2z ⟨hb2, uz, rfl, hf⟩
    go_wp2_with fail
    exact hK _ w2z hb2 hf
   refine F4.Steps.yes ?_ ?_
   ·
    intro vz wz hBz hDz K hK; have E16 : vz 16 = _ := hDz 0 (by kernel_rfl) rfl; obtain ⟨n19a_, A19a_, l19a_, c19a_, n19b_, A19b_, l19b_, c19b_, E19, q19a, q19b⟩ : SV_zz _ _ _ _ wz (vz 19) := hDz 3 (by kernel_rfl) rfl; obtain ⟨g22, p22, m22, B22, j22, d22, E22, hbg, hqg, hbp⟩ : CapV _ _ _ _ wz (vz 22) := hDz 6 (by kernel_rfl) rfl; have HW := ext_drew (ext_of hBz); replace hK := hK.out; simp only [actv, fill, Act.put, F4.fw, sZ, sS, fC, fN, tA, cS, cZ] at hK; apply Kept.mk; simp only [F2.Wp, Act.put, actv, fill, fC, fN, tA, cS, cZ]; simp only [E16, E19, E22] at hK ⊢; go_simp; refine Calls.mono (turning_powers1_calls (M := 40) q19a q19b hqg.q hbg hbp (by omega) (by omega) (by omega) (by omega) (by omega) (by omega) (by omega) (by omega) (by omega) HA HB_ HS HT2) ?_; rintro e w2z ⟨hb2, uz, rfl, hf⟩
    go_wp2_with fail
    exact hK _ w2z hb2 hf
   refine F4.Steps.no (by kernel_rfl) ?_; refine F4.Steps.no (by kernel_rfl) ?_; refine F4.Steps.no (by kernel_rfl) ?_; refine F4.Steps.no (by kernel_rfl) ?_; refine F4.Steps.no (by kernel_rfl) ?_; refine F4.Steps.no (by kernel_rfl) ?_; exact F4.Steps.nil
  case fin1 =>
   intro v1 w4 fu hB1 hO1; have E16 : v1 16 = _ := hO1 0 (by decide) rfl; have E17 : v1 17 = _ := hO1 1 (by decide) rfl; have E18 : v1 18 = _ := hO1 2 (by decide) rfl; obtain ⟨n19a_, A19a_, l19a_, c19a_, n19b_, A19b_, l19b_, c19b_, E19, -, -⟩ : SV_zz _ _ _ _ w4 (v1 19) := hO1 3 (by decide) rfl; have E20 : v1 20 = _ := hO1 4 (by decide) rfl; have E21 : v1 21 = _ := hO1 5 (by decide) rfl; obtain ⟨g22, p22, m22, B22, j22, d22, E22, -, -, -⟩ : CapV _ _ _ _ w4 (v1 22) := hO1 6 (by decide) rfl; obtain ⟨x23p_, x23q_, x23r_, E23, h23p, h23q, h23r⟩ : TV3 _ _ _ w4 (v1 23) := hO1 7 (by decide) rfl; obtain rfl := Fact.eq_of h23r; obtain ⟨n230_, A230_, l230_, c230_, rfl, q230⟩ : IntV 0 _ _ w4 x23p_ := h23p; obtain ⟨n231_, A231_, l231_, c231_, rfl, q231⟩ : IntV 0 _ _ w4 x23q_ := h23q; simp only [Act.put, actv, fill, fC, fN, tA, cS, cZ]; simp only [E16, E17, E18, E19, E20, E21, E22, E23]; clear E16 E17 E18 E19 E20 E21 E22 E23 hO1; have HW := ext_of hB1; replace h0 := h0.ext HW; replace bx3 := bx3.below hB1 bx3.lt; replace bx6 := bx6.below hB1 bx6.lt; replace bx7 := bx7.below hB1 bx7.lt; replace HB := hide (HB.out.trans (hB1.mono HB.out.size)); clear HW hB1 HA HB_ HS HT2; refine F2.rest (Ks := [.l, .l, .l, .l, .l, .l, .l, .l, .o, .o, .o, .so (g6) 24 #[.bool false, .slice none 0 0], .so (g7) 24 #[.bool false, .slice none 0 0], .o]) (Fs := [Fact.any, Fact.any, Fact.any, Fact.any, Fact.any, Fact.any, Fact.any, Fact.any, Fact.eq ?ce24_, Fact.eq ?ce25_, Fact.eq ?ce26_, Fact.z ?kes6_ ?zes6_, Fact.z ?kes7_ ?zes7_, Fact.eq ?ce8_]) (ds := [24, 25, 26, 8]) (ix := [16, 17, 18, 19, 20, 21, 22, 23, 24, 25, 26, 0, 0, 8]) ?soe ?sope (by kernel_rfl) (by intro i hi; match i, hi with | 0, _ => rfl | 1, _ => rfl | 2, _ => rfl | 3, _ => rfl | 4, _ => rfl | 5, _ => rfl | 6, _ => rfl | 7, _ => rfl | 8, h => cases h | 9, h => cases h | 10, h => cases h | 11, h => cases h | 12, h => cases h | 13, h => cases h | n + 14, h => simp [F2.kd, F2.isL] at h) ?ste ?fine _ (Nat.le_trans (Nat.le_of_eq (by kernel_rfl)) (Nat.le_add_left 6 _))
   case soe => exact List.forall_mem_cons.2 ⟨⟨bx6, NoU.two nB nS⟩, List.forall_mem_cons.2 ⟨⟨bx7, NoU.two nB nS⟩, fun x hx => by cases hx⟩⟩
   case sope => exact List.Pairwise.cons (by intro y hy; simp [F2.sos] at hy; have hne6_7 := hne6_7.out; first | (subst hy; simp; done) | (subst hy; simp; omega) | (rcases hy with rfl | rfl <;> simp <;> omega)) (List.Pairwise.cons (fun y hy => by cases hy) (List.Pairwise.nil))
   case ste =>
    refine F2.StepsL.skip (by kernel_rfl) ?_; refine F2.StepsL.skip (by kernel_rfl) ?_; refine F2.StepsL.skip (by kernel_rfl) ?_; refine F2.StepsL.skip (by kernel_rfl) ?_; refine F2.StepsL.skip (by kernel_rfl) ?_; refine F2.StepsL.skip (by kernel_rfl) ?_; refine F2.StepsL.skip (by kernel_rfl) ?_; refine F2.StepsL.skip (by kernel_rfl) ?_; refine F2.StepsL.consO rfl ?_ ?_
    ·
     intro vz wz hBz hDz hTz K hK; have HW := hBz.ext; simp only [zy, F2.Wp] at hK ⊢; go_simp; refine hK _ wz zB (Fact.eq_mk ?_); with_reducible rfl
    refine F2.StepsL.consO rfl ?_ ?_
    ·
     intro vz wz hBz hDz hTz K hK; have HW := hBz.ext; simp only [zy, F2.Wp] at hK ⊢; go_simp; refine hK _ wz zB (Fact.eq_mk ?_); with_reducible rfl
    refine F2.StepsL.consO rfl ?_ ?_
    ·
     intro vz wz hBz hDz hTz K hK; have HW := hBz.ext; simp only [zy, F2.Wp] at hK ⊢; go_simp; refine hK _ wz zB (Fact.eq_mk ?_); with_reducible rfl
    refine F2.StepsL.consT rfl ?_ ?_
    ·
     intro vz wz hBz hDz hbz K hK; obtain ⟨zc0, zc1, zc2, zc3⟩ := hbz.two; have E24 : vz 24 = _ := hDz 8 (by kernel_rfl) rfl; have HW := hBz.ext; simp only [zy, F2.Wp] at hK ⊢; simp only [E24] at hK ⊢; go_simp; refine hK _ ((Far.set _ _ 0 _).trans (Far.set _ _ 1 _)) ⟨_, blk_two hbz, NoU.two nB nS, Fact.cast (Fact.z_mk (q230.ext HW)) ?_⟩; with_reducible rfl
    refine F2.StepsL.consT rfl ?_ ?_
    ·
     intro vz wz hBz hDz hbz K hK; obtain ⟨zc0, zc1, zc2, zc3⟩ := hbz.two; have E25 : vz 25 = _ := hDz 9 (by kernel_rfl) rfl; have HW := hBz.ext; simp only [zy, F2.Wp] at hK ⊢; simp only [E25] at hK ⊢; go_simp; refine hK _ ((Far.set _ _ 0 _).trans (Far.set _ _ 1 _)) ⟨_, blk_two hbz, NoU.two nB nS, Fact.cast (Fact.z_mk (q231.ext HW)) ?_⟩; with_reducible rfl
    refine F2.StepsL.consO rfl ?_ ?_
    ·
     intro vz wz hBz hDz hTz K hK; have E26 : vz 26 = _ := hDz 10 (by kernel_rfl) rfl; have HW := hBz.ext; simp only [zy, F2.Wp] at hK ⊢; simp only [E26] at hK ⊢; go_simp; refine hK _ wz zB (Fact.eq_mk ?_); with_reducible rfl
    exact F2.StepsL.nil
   intro ve w5 hBz ⟨hOz, hAz, hNz, hSz⟩; have E24 : ve 24 = _ := hOz 8 (by decide) rfl; have E25 : ve 25 = _ := hOz 9 (by decide) rfl; have E26 : ve 26 = _ := hOz 10 (by decide) rfl; obtain ⟨cs6, bx6n, hs6⟩ := hSz 11 _ _ _ (by decide) rfl; obtain ⟨n6se_, A6se_, l6se_, c6se_, E6se, q6se⟩ : IntV 0 _ _ w5 (.agg cs6) := hs6; injection E6se with E6se
   subst E6se; obtain ⟨cs7, bx7n, hs7⟩ := hSz 12 _ _ _ (by decide) rfl; obtain ⟨n7se_, A7se_, l7se_, c7se_, E7se, q7se⟩ : IntV 0 _ _ w5 (.agg cs7) := hs7; injection E7se with E7se
   subst E7se; have E8 : ve 8 = _ := hOz 13 (by decide) rfl; simp only [Act.put, actv, fill, fC, fN, tA, cS, cZ]; simp only [E24, E25, E26, E8]; clear E24 E25 E26 E8; replace h0 := h0.ext hBz.ext; replace bx3 := hBz.blk bx3 (zM hne3_6.out (zM hne3_7.out zN)); replace HB := hide (HB.out.trans (hBz.below (B := w.heap.size) HB.out.size (zA hge6 (zA hge7 zE)))); clear bx6; clear bx7; have bx6 := bx6n; clear bx6n; have bx7 := bx7n; clear bx7n; clear hOz hAz hNz hSz hBz
   go_wp2_with fail
   refine bodyPost_ret (results_int_int_tmp rfl _ _ _ _ _ _ _ _ _ _ rfl bx6 rfl bx7) rfl ⟨HB.out, ?_⟩; exact VF.mk (Fact.t3_mk (Fact.z_mk (q6se.up (by omega))) (Fact.z_mk (q7se.up (by omega))) (Fact.eq_self _ _))
end Go.Proofs.YtnephejalollfaaGreat
end
