/-
  hairlinelaw04.BitsOrder returns true for any two patterns. Conditions: none.
-/
import Derived.Test.YtnkembnachhicaaRows
import Derived.Test.YtnkembnachhicaaOrd
import Derived.ProofKit
import Derived.OpenShut
import Derived.Deep.DeepCutAuto
namespace Go.Proofs.Ytnkembnachhicaa.bitsOrder
open Go.ChangeShapes Go.WideShapes Go.ChangeAt Go.RowKit
set_option linter.unusedVariables false
set_option linter.unusedSimpArgs false

theorem own : ownKnob Try.prog.godebug = none := by kernel_rfl
theorem laidOut : laidOutB Try.prog = true := by kernel_rfl

set_option maxHeartbeats 4000000 in
set_option maxRecDepth 100000 in
theorem walk_nat (a0 b0 a b : Nat) (hra : a0 % 9218868437227405312 = a) (hrb : b0 % 9218868437227405312 = b) (w : World) :
    Calls Try.prog 13 #[.int .u64 (a0 : Nat), .int .u64 (b0 : Nat)] w fun e w' => e = .returned (.bool true) ∧ Below w.heap.size w w' := by
  have ha : a < 9218868437227405312 := by omega
  have hb : b < 9218868437227405312 := by omega
  have ha' : (a0 : Int) % 9218868437227405312 = (a : Int) := by omega
  have hb' : (b0 : Int) % 9218868437227405312 = (b : Int) := by omega
  clear hra hrb
  go_enter Try.func13, Try.ntmps13
  go_wp2_with fail
  refine (shown4_calls w).mono ?_
  rintro e w0 ⟨hb0, rfl⟩
  have HP := c_value (w := w0) a (by unfold W; omega)
  rw [lo_vX ha] at HP
  obtain ⟨za, HZA⟩ : ∃ z, Hid (vM a = z) := ⟨_, hide rfl⟩
  obtain ⟨xa, HXA⟩ : ∃ z, Hid (vE a = z) := ⟨_, hide rfl⟩
  have hxa := vE_bd a (lo_fld ha).2.1
  rw [HZA.out, HXA.out] at HP
  rw [HXA.out] at hxa
  go_wp2_with fail
  refine HP.mono ?_
  rintro e w1 ⟨hb1, n1, A1, len1, cap1, rfl, hq1⟩
  clear HP
  obtain ⟨w2, hW, hbx2, hB2, hs2⟩ := start1 w1 26 #[.bool n1, .slice A1 len1 cap1, .int .i64 xa]
  have hq2 := hq1.below hB2
  have s0 := hb0.size
  have s1 := hb1.size
  have hs2' : w1.heap.size < w2.heap.size := by omega
  have HB2 := hide ((hb0.trans (hb1.mono hb0.size)).trans (hB2.mono (by omega)))
  clear hs2
  go_upto_region 5 with (fail)
  rw [← hW]
  clear hW
  have HP := c_value (w := w2) b (by unfold W; omega)
  rw [lo_vX hb] at HP
  obtain ⟨zb, HZB⟩ : ∃ z, Hid (vM b = z) := ⟨_, hide rfl⟩
  obtain ⟨xb, HXB⟩ : ∃ z, Hid (vE b = z) := ⟨_, hide rfl⟩
  have hxb := vE_bd b (lo_fld hb).2.1
  rw [HZB.out, HXB.out] at HP
  rw [HXB.out] at hxb
  go_wp2_with fail
  refine HP.mono ?_
  rintro e w3 ⟨hb3, n3, A3, len3, cap3, rfl, hq3⟩
  clear HP
  have hq2 := hq2.below hb3
  have hbx3 := hbx2.below hb3 hs2'
  have s3 := hb3.size
  obtain ⟨w4, hW, hby4, hB4, hs4⟩ := start1 w3 26 #[.bool n3, .slice A3 len3 cap3, .int .i64 xb]
  have hq2 := hq2.below hB4
  have hq3 := hq3.below hB4
  have hbx4 := hbx3.below hB4 (by omega)
  have hs4' : w3.heap.size < w4.heap.size := by omega
  have HB4 := hide ((HB2.out.trans (hb3.mono (by omega))).trans (hB4.mono (by omega)))
  clear hs4
  go_upto_region 6 with (fail)
  rw [← hW]
  clear hW
  go_upto_if 40 with (fail)
  go_cut [10] (fun c wx => w4 = wx ∧ c = .int .i64 (cmpN a b))
  case first =>
    rcases Nat.lt_trichotomy a b with h | h | h
    · have HC := hide (cmpN_lt h)
      go_wp2_with fail
      go_meet
      exact ⟨rfl, by rw [HC.out]⟩
    · have HC := hide (cmpN_eq h)
      have h1 : ¬ a < b := by omega
      have h2 : ¬ b < a := by omega
      clear h
      go_wp2_with fail
      go_meet
      exact ⟨rfl, by rw [HC.out]⟩
    · have HC := hide (cmpN_gt h)
      have h1 : ¬ a < b := by omega
      go_wp2_with fail
      go_meet
      exact ⟨rfl, by rw [HC.out]⟩
  case rest =>
    obtain ⟨rfl, rfl⟩ := hcut
    obtain ⟨c, HC⟩ : ∃ c, Hid (cmpN a b = c) := ⟨_, hide rfl⟩
    rw [HC.out]
    have HP := binade_calls w4 a (by unfold W; omega)
    obtain ⟨m, HM⟩ : ∃ m, Hid (bnE a = m) := ⟨_, hide rfl⟩
    obtain ⟨h, HH⟩ : ∃ m, Hid (bnX a = m) := ⟨_, hide rfl⟩
    have hlb := lo_bin ha
    rw [HM.out, HH.out] at HP hlb
    have HLB := hide hlb
    clear hlb
    go_wp2_with fail
    refine HP.mono ?_
    rintro e w5 ⟨rfl, rfl⟩
    clear HP
    go_upto_if 50 with (fail)
    go_cut [11] (fun c wx => w4 = wx ∧ c = .int .i64 (nn a))
    case first =>
      rcases HLB.out with ⟨e1, e2⟩ | ⟨e1, e2⟩
      · have HE := hide e2
        have h1 : (h != 0) = false := by rw [e1]; rfl
        clear e1 e2
        go_wp2_with fail
        go_meet
        exact ⟨rfl, by rw [HE.out]⟩
      · have HE := hide e2
        have h1 : (h != 0) = true := by rw [e1]; rfl
        clear e1 e2
        go_wp2_with fail
        go_meet
        exact ⟨rfl, by rw [HE.out]⟩
    case rest =>
      obtain ⟨rfl, rfl⟩ := hcut
      have hnn := nn_bd ha
      obtain ⟨k, HK⟩ : ∃ c, Hid (nn a = c) := ⟨_, hide rfl⟩
      rw [HK.out] at hnn ⊢
      have hww : IntKind.u64.wrap ((a : Int) + 1) = (a : Int) + 1 := by rw [IntKind.wrap_u64]; omega
      have HP := c_value (w := w4) (a + 1) (by unfold W; omega)
      rw [show ((a + 1 : Nat) : Int) = (a : Int) + 1 from by omega] at HP
      obtain ⟨zc, HZC⟩ : ∃ z, Hid (vM (a + 1) = z) := ⟨_, hide rfl⟩
      obtain ⟨xc, HXC⟩ : ∃ z, Hid (vE (a + 1) = z) := ⟨_, hide rfl⟩
      obtain ⟨ec, HEC⟩ : ∃ z, Hid (vX (a + 1) = z) := ⟨_, hide rfl⟩
      rw [HZC.out, HXC.out, HEC.out] at HP
      have hxc : -1074 ≤ xc ∧ xc ≤ 1024 := by
        by_cases hl : a + 1 = 9218868437227405312
        · have := top_value.2.1
          rw [← hl, HXC.out] at this
          omega
        · rw [← HXC.out]; exact vE_bd _ (lo_fld (by omega)).2.1
      go_wp2_with fail
      refine HP.mono ?_
      rintro e w6 ⟨hb6, n6, A6, len6, cap6, rfl, hq6⟩
      clear HP
      have s4 := hB4.size
      have s6 := hb6.size
      have hq2 := hq2.below hb6
      have hq3 := hq3.below hb6
      have hbx6 := hbx4.below hb6 (by omega)
      have hby6 := hby4.below hb6 hs4'
      obtain ⟨w7, hW, hbz7, hB7, hs7⟩ := start1 w6 26 #[.bool n6, .slice A6 len6 cap6, .int .i64 xc]
      have hq2 := hq2.below hB7
      have hq3 := hq3.below hB7
      have hq6 := hq6.below hB7
      have hbx7 := hbx6.below hB7 (by omega)
      have hby7 := hby6.below hB7 (by omega)
      have hs7' : w6.heap.size < w7.heap.size := by omega
      have HB7 := hide ((HB4.out.trans (hb6.mono (by omega))).trans (hB7.mono (by omega)))
      clear hs7
      go_upto_region 17 with (fail)
      rw [← hW]
      clear hW
      have HP := c_sub (x := xc) (y := xa) hq6 hq2 (by omega) (by omega) (by omega) (by omega) (by omega) (by omega) 4000 (Nat.le_refl _)
      obtain ⟨zs, HZS⟩ : ∃ z, Hid (pM (av 4000 zc xc - av 4000 za xa) = z) := ⟨_, hide rfl⟩
      obtain ⟨xs, HXS⟩ : ∃ z, Hid (pE (av 4000 zc xc - av 4000 za xa) (-(4000 : Nat)) = z) := ⟨_, hide rfl⟩
      rw [HZS.out, HXS.out] at HP
      obtain ⟨c0, c1, c2, -, -, -⟩ := hbx7.three
      obtain ⟨d0, d1, d2, -, -, -⟩ := hbz7.three
      go_wp2_with fail
      refine HP.mono ?_
      rintro e w8 ⟨hb8, n8, A8, len8, cap8, rfl, hq8⟩
      clear HP c0 c1 c2 d0 d1 d2
      have s8 := hb8.size
      have hq2 := hq2.below hb8
      have hq3 := hq3.below hb8
      have hbx8 := hbx7.below hb8 (by omega)
      have hby8 := hby7.below hb8 (by omega)
      obtain ⟨w9, hW, hbs9, hB9, hs9⟩ := start1 w8 26 #[.bool n8, .slice A8 len8 cap8, .int .i64 xs]
      have hq2 := hq2.below hB9
      have hq3 := hq3.below hB9
      have hq8 := hq8.below hB9
      have hbx9 := hbx8.below hB9 (by omega)
      have hby9 := hby8.below hB9 (by omega)
      have hs9' : w8.heap.size < w9.heap.size := by omega
      have HB9 := hide ((HB7.out.trans (hb8.mono (by omega))).trans (hB9.mono (by omega)))
      clear hs9
      go_upto_region 18 with (fail)
      rw [← hW]
      clear hW
      obtain ⟨c0, c1, c2, -, -, -⟩ := hbx9.three
      obtain ⟨d0, d1, d2, -, -, -⟩ := hby9.three
      obtain ⟨f0, f1, f2, -, -, -⟩ := hbs9.three
      have HC1 : ∀ w', Q w' 1 n1 A1 len1 cap1 za → Q w' 1 n3 A3 len3 cap3 zb → Calls Try.prog 40 #[.agg #[.bool n1, .slice A1 len1 cap1, .int .i64 xa], .agg #[.bool n3, .slice A3 len3 cap3, .int .i64 xb]] w' fun e w'' => Below w'.heap.size w' w'' ∧ e = .returned (.int .i64 c) := by
        intro w' i1 i2
        have := c_cmp (x := xa) (y := xb) i1 i2 (by omega) (by omega) (by omega) (by omega) (by omega) (by omega) 4000 (Nat.le_refl _)
        rwa [← HZA.out, ← HXA.out, ← HZB.out, ← HXB.out, lo_cmp 4000 (Nat.le_refl _) ha hb, HC.out, HXA.out, HXB.out] at this
      have HC1 := hide HC1
      have e4 : (c == c) = true := by rw [beq_iff_eq]
      by_cases hl : a + 1 = 9218868437227405312
      · have e1 : ((a : Int) == 9218868437227405311) = true := by rw [beq_iff_eq]; omega
        obtain rfl : ec = 1 := by rw [← HEC.out, hl]; exact top_value.2.2
        clear hl
        go_upto_region 19 with (fail)
        refine wp_region_noPanic ?_
        refine wp_region_held_drew (S := fun w' => w'.cell? ⟨w1.heap.size, 0, none⟩ = some (.bool n1) ∧ w'.cell? ⟨w1.heap.size, 1, none⟩ = some (.slice A1 len1 cap1) ∧ w'.cell? ⟨w1.heap.size, 2, none⟩ = some (.int .i64 xa) ∧ w'.cell? ⟨w3.heap.size, 0, none⟩ = some (.bool n3) ∧ w'.cell? ⟨w3.heap.size, 1, none⟩ = some (.slice A3 len3 cap3) ∧ w'.cell? ⟨w3.heap.size, 2, none⟩ = some (.int .i64 xb) ∧ w'.cell? ⟨w8.heap.size, 0, none⟩ = some (.bool n8) ∧ w'.cell? ⟨w8.heap.size, 1, none⟩ = some (.slice A8 len8 cap8) ∧ w'.cell? ⟨w8.heap.size, 2, none⟩ = some (.int .i64 xs)) (by kernel_rfl) ?_ (fun hHeld0 => ?_)
        · (try dsimp only); go_keep
        refine wpAnyH_take (i := 0) (v := ?vp0) rfl (by kernel_rfl) (by kernel_rfl) (by kernel_rfl) (fun _ _ _ h => h) (Or.inl ⟨by rfl, ?hp0⟩) hHeld0 ?_
        case hp0 => (intro w hSw; (try dsimp only at hSw); go_simp; try with_reducible rfl)
        (try simp only [List.getElem_toArray, List.getElem_cons_succ, List.getElem_cons_zero, Act.put, List.setIfInBounds_toArray, List.set_cons_zero, List.set_cons_succ])
        refine wpAnyH_take (i := 1) (v := ?vp1) rfl (by kernel_rfl) (by kernel_rfl) (by kernel_rfl) (fun _ _ _ h => h) (Or.inl ⟨by rfl, ?hp1⟩) hHeld0 ?_
        case hp1 => (intro w hSw; (try dsimp only at hSw); go_simp; try with_reducible rfl)
        (try simp only [List.getElem_toArray, List.getElem_cons_succ, List.getElem_cons_zero, Act.put, List.setIfInBounds_toArray, List.set_cons_zero, List.set_cons_succ])
        refine wpAnyH_take (i := 2) (v := ?vp2) rfl (by kernel_rfl) (by kernel_rfl) (by kernel_rfl) (fun _ _ _ h => h) (Or.inl ⟨by rfl, ?hp2⟩) hHeld0 ?_
        case hp2 => (intro w hSw; (try dsimp only at hSw); go_simp; try with_reducible rfl)
        (try simp only [List.getElem_toArray, List.getElem_cons_succ, List.getElem_cons_zero, Act.put, List.setIfInBounds_toArray, List.set_cons_zero, List.set_cons_succ])
        refine wpAnyH_take (i := 3) (v := ?vp3) rfl (by kernel_rfl) (by kernel_rfl) (by kernel_rfl) (fun _ _ _ h => h) (Or.inl ⟨by rfl, ?hp3⟩) hHeld0 ?_
        case hp3 => (intro w hSw; (try dsimp only at hSw); go_simp; try with_reducible rfl)
        (try simp only [List.getElem_toArray, List.getElem_cons_succ, List.getElem_cons_zero, Act.put, List.setIfInBounds_toArray, List.set_cons_zero, List.set_cons_succ])
        refine wpAnyH_take (i := 5) (v := ?vp5) rfl (by kernel_rfl) (by kernel_rfl) (by kernel_rfl) (fun _ _ _ h => h) (Or.inl ⟨by rfl, ?hp5⟩) hHeld0 ?_
        case hp5 => (intro w hSw; (try dsimp only at hSw); go_simp; try with_reducible rfl)
        (try simp only [List.getElem_toArray, List.getElem_cons_succ, List.getElem_cons_zero, Act.put, List.setIfInBounds_toArray, List.set_cons_zero, List.set_cons_succ])
        refine wpAnyH_ready (rs := [4]) (by kernel_rfl) (by simp) ?_
        refine AllReadyH.cons rfl (fun K hK => ?_) AllReadyH.nil
        go_simp
        refine (HC1.out _ hq2.drew hq3.drew).mono ?_
        rintro e w10 ⟨hb10, rfl⟩
        have hbx10 := hbx9.drew.below hb10 hbx9.lt
        have hby10 := hby9.drew.below hb10 hby9.lt
        have hbs10 := hbs9.drew.below hb10 hbs9.lt
        have hq10 := hq8.drew.below hb10
        have s10 := hb10.size
        obtain ⟨i0, i1, i2, -, -, -⟩ := hbx10.three
        obtain ⟨j0, j1, j2, -, -, -⟩ := hby10.three
        obtain ⟨k0, k1, k2, -, -, -⟩ := hbs10.three
        go_wp2_with fail
        refine hK.out _ _ ?_ (fun hHeld1 => ?_)
        · (try dsimp only); go_keep
        clear hK K hHeld0
        (try simp only [List.getElem_toArray, List.getElem_cons_succ, List.getElem_cons_zero, Act.put, List.setIfInBounds_toArray, List.set_cons_zero, List.set_cons_succ])
        refine wpAnyH_take (i := 6) (v := ?vp6) rfl (by kernel_rfl) (by kernel_rfl) (by kernel_rfl) (fun _ _ _ h => h) (Or.inl ⟨by rfl, ?hp6⟩) hHeld1 ?_
        case hp6 => (intro w hSw; (try dsimp only at hSw); go_simp; try with_reducible rfl)
        (try simp only [List.getElem_toArray, List.getElem_cons_succ, List.getElem_cons_zero, Act.put, List.setIfInBounds_toArray, List.set_cons_zero, List.set_cons_succ])
        refine wpAnyH_take (i := 7) (v := ?vp7) rfl (by kernel_rfl) (by kernel_rfl) (by kernel_rfl) (fun _ _ _ h => h) (Or.inl ⟨by rfl, ?hp7⟩) hHeld1 ?_
        case hp7 => (intro w hSw; (try dsimp only at hSw); go_simp; try with_reducible rfl)
        (try simp only [List.getElem_toArray, List.getElem_cons_succ, List.getElem_cons_zero, Act.put, List.setIfInBounds_toArray, List.set_cons_zero, List.set_cons_succ])
        refine wpAnyH_take (i := 8) (v := ?vp8) rfl (by kernel_rfl) (by kernel_rfl) (by kernel_rfl) (fun _ _ _ h => h) (Or.inl ⟨by rfl, ?hp8⟩) hHeld1 ?_
        case hp8 => (intro w hSw; (try dsimp only at hSw); go_simp; try with_reducible rfl)
        (try simp only [List.getElem_toArray, List.getElem_cons_succ, List.getElem_cons_zero, Act.put, List.setIfInBounds_toArray, List.set_cons_zero, List.set_cons_succ])
        refine wpAnyH_take (i := 9) (v := ?vp9) rfl (by kernel_rfl) (by kernel_rfl) (by kernel_rfl) (fun _ _ _ h => h) (Or.inl ⟨by rfl, ?hp9⟩) hHeld1 ?_
        case hp9 => (intro w hSw; (try dsimp only at hSw); go_simp; try with_reducible rfl)
        (try simp only [List.getElem_toArray, List.getElem_cons_succ, List.getElem_cons_zero, Act.put, List.setIfInBounds_toArray, List.set_cons_zero, List.set_cons_succ])
        refine wpAnyH_take (i := 10) (v := ?vp10) rfl (by kernel_rfl) (by kernel_rfl) (by kernel_rfl) (fun _ _ _ h => h) (Or.inl ⟨by rfl, ?hp10⟩) hHeld1 ?_
        case hp10 => (intro w hSw; (try dsimp only at hSw); go_simp; try with_reducible rfl)
        (try simp only [List.getElem_toArray, List.getElem_cons_succ, List.getElem_cons_zero, Act.put, List.setIfInBounds_toArray, List.set_cons_zero, List.set_cons_succ])
        refine wpAnyH_take (i := 11) (v := ?vp11) rfl (by kernel_rfl) (by kernel_rfl) (by kernel_rfl) (fun _ _ _ h => h) (Or.inl ⟨by rfl, ?hp11⟩) hHeld1 ?_
        case hp11 => (intro w hSw; (try dsimp only at hSw); go_simp; try with_reducible rfl)
        (try simp only [List.getElem_toArray, List.getElem_cons_succ, List.getElem_cons_zero, Act.put, List.setIfInBounds_toArray, List.set_cons_zero, List.set_cons_succ])
        refine wpAnyH_take (i := 12) (v := ?vp12) rfl (by kernel_rfl) (by kernel_rfl) (by kernel_rfl) (fun _ _ _ h => h) (Or.inl ⟨by rfl, ?hp12⟩) hHeld1 ?_
        case hp12 => (intro w hSw; (try dsimp only at hSw); go_simp; try with_reducible rfl)
        (try simp only [List.getElem_toArray, List.getElem_cons_succ, List.getElem_cons_zero, Act.put, List.setIfInBounds_toArray, List.set_cons_zero, List.set_cons_succ])
        refine wpAnyH_take (i := 13) (v := ?vp13) rfl (by kernel_rfl) (by kernel_rfl) (by kernel_rfl) (fun _ _ _ h => h) (Or.inl ⟨by rfl, ?hp13⟩) hHeld1 ?_
        case hp13 => (intro w hSw; (try dsimp only at hSw); go_simp; try with_reducible rfl)
        (try simp only [List.getElem_toArray, List.getElem_cons_succ, List.getElem_cons_zero, Act.put, List.setIfInBounds_toArray, List.set_cons_zero, List.set_cons_succ])
        refine wpAnyH_take (i := 14) (v := ?vp14) rfl (by kernel_rfl) (by kernel_rfl) (by kernel_rfl) (fun _ _ _ h => h) (Or.inl ⟨by rfl, ?hp14⟩) hHeld1 ?_
        case hp14 => (intro w hSw; (try dsimp only at hSw); go_simp; try with_reducible rfl)
        (try simp only [List.getElem_toArray, List.getElem_cons_succ, List.getElem_cons_zero, Act.put, List.setIfInBounds_toArray, List.set_cons_zero, List.set_cons_succ])
        refine wpAnyH_take (i := 15) (v := undef) rfl (by kernel_rfl) (by kernel_rfl) (by kernel_rfl) (fun _ _ _ h => h) (Or.inr ⟨by rfl, rfl⟩) hHeld1 ?_
        (try simp only [List.getElem_toArray, List.getElem_cons_succ, List.getElem_cons_zero, Act.put, List.setIfInBounds_toArray, List.set_cons_zero, List.set_cons_succ])
        refine wpAnyH_take (i := 16) (v := undef) rfl (by kernel_rfl) (by kernel_rfl) (by kernel_rfl) (fun _ _ _ h => h) (Or.inr ⟨by rfl, rfl⟩) hHeld1 ?_
        (try simp only [List.getElem_toArray, List.getElem_cons_succ, List.getElem_cons_zero, Act.put, List.setIfInBounds_toArray, List.set_cons_zero, List.set_cons_succ])
        refine wpAnyH_take (i := 17) (v := undef) rfl (by kernel_rfl) (by kernel_rfl) (by kernel_rfl) (fun _ _ _ h => h) (Or.inr ⟨by rfl, rfl⟩) hHeld1 ?_
        (try simp only [List.getElem_toArray, List.getElem_cons_succ, List.getElem_cons_zero, Act.put, List.setIfInBounds_toArray, List.set_cons_zero, List.set_cons_succ])
        refine wpAnyH_take (i := 18) (v := undef) rfl (by kernel_rfl) (by kernel_rfl) (by kernel_rfl) (fun _ _ _ h => h) (Or.inr ⟨by rfl, rfl⟩) hHeld1 ?_
        (try simp only [List.getElem_toArray, List.getElem_cons_succ, List.getElem_cons_zero, Act.put, List.setIfInBounds_toArray, List.set_cons_zero, List.set_cons_succ])
        refine wpAnyH_take (i := 20) (v := undef) rfl (by kernel_rfl) (by kernel_rfl) (by kernel_rfl) (fun _ _ _ h => h) (Or.inr ⟨by rfl, rfl⟩) hHeld1 ?_
        (try simp only [List.getElem_toArray, List.getElem_cons_succ, List.getElem_cons_zero, Act.put, List.setIfInBounds_toArray, List.set_cons_zero, List.set_cons_succ])
        refine wpAnyH_take (i := 21) (v := undef) rfl (by kernel_rfl) (by kernel_rfl) (by kernel_rfl) (fun _ _ _ h => h) (Or.inr ⟨by rfl, rfl⟩) hHeld1 ?_
        (try simp only [List.getElem_toArray, List.getElem_cons_succ, List.getElem_cons_zero, Act.put, List.setIfInBounds_toArray, List.set_cons_zero, List.set_cons_succ])
        refine wpAnyH_ready (rs := [19]) (by kernel_rfl) (by simp) ?_
        refine AllReadyH.cons rfl (fun K hK => ?_) AllReadyH.nil
        go_simp
        refine hK.out _ _ ?_ (fun hHeld2 => ?_)
        · (try dsimp only); go_keep
        clear hK K hHeld1
        (try simp only [List.getElem_toArray, List.getElem_cons_succ, List.getElem_cons_zero, Act.put, List.setIfInBounds_toArray, List.set_cons_zero, List.set_cons_succ])
        refine wpAnyH_ready (rs := [22]) (by kernel_rfl) (by simp) ?_
        refine AllReadyH.cons rfl (fun K hK => ?_) AllReadyH.nil
        go_simp
        refine hK.out _ _ ?_ (fun hHeld3 => ?_)
        · (try dsimp only); go_keep
        clear hK K hHeld2
        (try simp only [List.getElem_toArray, List.getElem_cons_succ, List.getElem_cons_zero, Act.put, List.setIfInBounds_toArray, List.set_cons_zero, List.set_cons_succ])
        refine wpAnyH_ready (rs := [23]) (by kernel_rfl) (by simp) ?_
        refine AllReadyH.cons rfl (fun K hK => ?_) AllReadyH.nil
        go_simp
        refine hK.out _ _ ?_ (fun hHeld4 => ?_)
        · (try dsimp only); go_keep
        clear hK K hHeld3
        (try simp only [List.getElem_toArray, List.getElem_cons_succ, List.getElem_cons_zero, Act.put, List.setIfInBounds_toArray, List.set_cons_zero, List.set_cons_succ])
        refine wpAnyH_ready (rs := [24]) (by kernel_rfl) (by simp) ?_
        refine AllReadyH.cons rfl (fun K hK => ?_) AllReadyH.nil
        go_simp
        refine hK.out _ _ ?_ (fun hHeld5 => ?_)
        · (try dsimp only); go_keep
        clear hK K hHeld4
        (try simp only [List.getElem_toArray, List.getElem_cons_succ, List.getElem_cons_zero, Act.put, List.setIfInBounds_toArray, List.set_cons_zero, List.set_cons_succ])
        refine wpAnyH_take (i := 25) (v := undef) rfl (by kernel_rfl) (by kernel_rfl) (by kernel_rfl) (fun _ _ _ h => h) (Or.inr ⟨by rfl, rfl⟩) hHeld5 ?_
        (try simp only [List.getElem_toArray, List.getElem_cons_succ, List.getElem_cons_zero, Act.put, List.setIfInBounds_toArray, List.set_cons_zero, List.set_cons_succ])
        refine wpAnyH_take (i := 26) (v := ?vp26) rfl (by kernel_rfl) (by kernel_rfl) (by kernel_rfl) (fun _ _ _ h => h) (Or.inl ⟨by rfl, ?hp26⟩) hHeld5 ?_
        case hp26 => (intro w hSw; (try dsimp only at hSw); go_simp; try with_reducible rfl)
        (try simp only [List.getElem_toArray, List.getElem_cons_succ, List.getElem_cons_zero, Act.put, List.setIfInBounds_toArray, List.set_cons_zero, List.set_cons_succ])
        refine wpAnyH_take (i := 27) (v := ?vp27) rfl (by kernel_rfl) (by kernel_rfl) (by kernel_rfl) (fun _ _ _ h => h) (Or.inl ⟨by rfl, ?hp27⟩) hHeld5 ?_
        case hp27 => (intro w hSw; (try dsimp only at hSw); go_simp; try with_reducible rfl)
        (try simp only [List.getElem_toArray, List.getElem_cons_succ, List.getElem_cons_zero, Act.put, List.setIfInBounds_toArray, List.set_cons_zero, List.set_cons_succ])
        refine wpAnyH_take (i := 28) (v := ?vp28) rfl (by kernel_rfl) (by kernel_rfl) (by kernel_rfl) (fun _ _ _ h => h) (Or.inl ⟨by rfl, ?hp28⟩) hHeld5 ?_
        case hp28 => (intro w hSw; (try dsimp only at hSw); go_simp; try with_reducible rfl)
        (try simp only [List.getElem_toArray, List.getElem_cons_succ, List.getElem_cons_zero, Act.put, List.setIfInBounds_toArray, List.set_cons_zero, List.set_cons_succ])
        refine wpAnyH_done (by kernel_rfl) ?_ _
        refine NoPanic.normal ?_
        go_wp2_with fail
        go_ret
        exact ⟨rfl, HB9.out.drew.trans (hb10.mono HB9.out.size)⟩
      · have e1 : ((a : Int) == 9218868437227405311) = false := by rw [beq_eq_false_iff_ne]; omega
        obtain rfl : ec = 0 := by rw [← HEC.out]; exact lo_vX (by omega)
        have hd := lo_diff (a := a) (by omega)
        rw [HZC.out, HXC.out, HZA.out, HXA.out, HZS.out, HXS.out, HK.out] at hd
        obtain ⟨rfl, rfl⟩ := hd
        have hwk : IntKind.i64.wrap (k - 52) = k - 52 := IntWalk.i64_in _ (by omega)
        have HNO : Hid (nM 1 (k - 52) = 1 ∧ nE 1 (k - 52) = k - 52) := hide ⟨nM_odd (by omega) (by omega) rfl, nE_odd (by omega) (by omega) rfl⟩
        have HK2 : ∀ (m2 : Bool) (A' : Option Addr) (l2 a2 : Nat) (w5 : World), Q w5 (1 + 1 + 126) n8 A8 len8 cap8 1 → Q w5 1 m2 A' l2 a2 1 → Calls Try.prog 40 #[.agg #[.bool n8, .slice A8 len8 cap8, .int .i64 (k - 52)], .agg #[.bool m2, .slice A' l2 a2, .int .i64 (k - 52)]] w5 fun e w' => Below w5.heap.size w5 w' ∧ e = .returned (.int .i64 0) := by
          intro m2 A' l2 a2 w5 i1 i2
          have := c_cmp (x := k - 52) (y := k - 52) i1 i2 (by omega) (by omega) (by omega) (by omega) (by omega) (by omega) 4000 (Nat.le_refl _)
          rwa [cmpZ_self] at this
        have HK2 := hide HK2
        clear hl
        go_upto_region 19 with (fail)
        refine wp_region_noPanic ?_
        refine wp_region_held_drew (S := fun w' => w'.cell? ⟨w1.heap.size, 0, none⟩ = some (.bool n1) ∧ w'.cell? ⟨w1.heap.size, 1, none⟩ = some (.slice A1 len1 cap1) ∧ w'.cell? ⟨w1.heap.size, 2, none⟩ = some (.int .i64 xa) ∧ w'.cell? ⟨w3.heap.size, 0, none⟩ = some (.bool n3) ∧ w'.cell? ⟨w3.heap.size, 1, none⟩ = some (.slice A3 len3 cap3) ∧ w'.cell? ⟨w3.heap.size, 2, none⟩ = some (.int .i64 xb) ∧ w'.cell? ⟨w8.heap.size, 0, none⟩ = some (.bool n8) ∧ w'.cell? ⟨w8.heap.size, 1, none⟩ = some (.slice A8 len8 cap8) ∧ w'.cell? ⟨w8.heap.size, 2, none⟩ = some (.int .i64 (k - 52))) (by kernel_rfl) ?_ (fun hHeld0 => ?_)
        · (try dsimp only); go_keep
        refine wpAnyH_take (i := 0) (v := ?vq0) rfl (by kernel_rfl) (by kernel_rfl) (by kernel_rfl) (fun _ _ _ h => h) (Or.inl ⟨by rfl, ?hq0⟩) hHeld0 ?_
        case hq0 => (intro w hSw; (try dsimp only at hSw); go_simp; try with_reducible rfl)
        (try simp only [List.getElem_toArray, List.getElem_cons_succ, List.getElem_cons_zero, Act.put, List.setIfInBounds_toArray, List.set_cons_zero, List.set_cons_succ])
        refine wpAnyH_take (i := 1) (v := ?vq1) rfl (by kernel_rfl) (by kernel_rfl) (by kernel_rfl) (fun _ _ _ h => h) (Or.inl ⟨by rfl, ?hq1⟩) hHeld0 ?_
        case hq1 => (intro w hSw; (try dsimp only at hSw); go_simp; try with_reducible rfl)
        (try simp only [List.getElem_toArray, List.getElem_cons_succ, List.getElem_cons_zero, Act.put, List.setIfInBounds_toArray, List.set_cons_zero, List.set_cons_succ])
        refine wpAnyH_take (i := 2) (v := ?vq2) rfl (by kernel_rfl) (by kernel_rfl) (by kernel_rfl) (fun _ _ _ h => h) (Or.inl ⟨by rfl, ?hq2⟩) hHeld0 ?_
        case hq2 => (intro w hSw; (try dsimp only at hSw); go_simp; try with_reducible rfl)
        (try simp only [List.getElem_toArray, List.getElem_cons_succ, List.getElem_cons_zero, Act.put, List.setIfInBounds_toArray, List.set_cons_zero, List.set_cons_succ])
        refine wpAnyH_take (i := 3) (v := ?vq3) rfl (by kernel_rfl) (by kernel_rfl) (by kernel_rfl) (fun _ _ _ h => h) (Or.inl ⟨by rfl, ?hq3⟩) hHeld0 ?_
        case hq3 => (intro w hSw; (try dsimp only at hSw); go_simp; try with_reducible rfl)
        (try simp only [List.getElem_toArray, List.getElem_cons_succ, List.getElem_cons_zero, Act.put, List.setIfInBounds_toArray, List.set_cons_zero, List.set_cons_succ])
        refine wpAnyH_take (i := 5) (v := ?vq5) rfl (by kernel_rfl) (by kernel_rfl) (by kernel_rfl) (fun _ _ _ h => h) (Or.inl ⟨by rfl, ?hq5⟩) hHeld0 ?_
        case hq5 => (intro w hSw; (try dsimp only at hSw); go_simp; try with_reducible rfl)
        (try simp only [List.getElem_toArray, List.getElem_cons_succ, List.getElem_cons_zero, Act.put, List.setIfInBounds_toArray, List.set_cons_zero, List.set_cons_succ])
        refine wpAnyH_ready (rs := [4]) (by kernel_rfl) (by simp) ?_
        refine AllReadyH.cons rfl (fun K hK => ?_) AllReadyH.nil
        go_simp
        refine (HC1.out _ hq2.drew hq3.drew).mono ?_
        rintro e w10 ⟨hb10, rfl⟩
        have hbx10 := hbx9.drew.below hb10 hbx9.lt
        have hby10 := hby9.drew.below hb10 hby9.lt
        have hbs10 := hbs9.drew.below hb10 hbs9.lt
        have hq10 := hq8.drew.below hb10
        have s10 := hb10.size
        obtain ⟨i0, i1, i2, -, -, -⟩ := hbx10.three
        obtain ⟨j0, j1, j2, -, -, -⟩ := hby10.three
        obtain ⟨k0, k1, k2, -, -, -⟩ := hbs10.three
        go_wp2_with fail
        refine hK.out _ _ ?_ (fun hHeld1 => ?_)
        · (try dsimp only); go_keep
        clear hK K hHeld0
        (try simp only [List.getElem_toArray, List.getElem_cons_succ, List.getElem_cons_zero, Act.put, List.setIfInBounds_toArray, List.set_cons_zero, List.set_cons_succ])
        refine wpAnyH_take (i := 6) (v := ?vq6) rfl (by kernel_rfl) (by kernel_rfl) (by kernel_rfl) (fun _ _ _ h => h) (Or.inl ⟨by rfl, ?hq6⟩) hHeld1 ?_
        case hq6 => (intro w hSw; (try dsimp only at hSw); go_simp; try with_reducible rfl)
        (try simp only [List.getElem_toArray, List.getElem_cons_succ, List.getElem_cons_zero, Act.put, List.setIfInBounds_toArray, List.set_cons_zero, List.set_cons_succ])
        refine wpAnyH_take (i := 7) (v := ?vq7) rfl (by kernel_rfl) (by kernel_rfl) (by kernel_rfl) (fun _ _ _ h => h) (Or.inl ⟨by rfl, ?hq7⟩) hHeld1 ?_
        case hq7 => (intro w hSw; (try dsimp only at hSw); go_simp; try with_reducible rfl)
        (try simp only [List.getElem_toArray, List.getElem_cons_succ, List.getElem_cons_zero, Act.put, List.setIfInBounds_toArray, List.set_cons_zero, List.set_cons_succ])
        refine wpAnyH_take (i := 8) (v := ?vq8) rfl (by kernel_rfl) (by kernel_rfl) (by kernel_rfl) (fun _ _ _ h => h) (Or.inl ⟨by rfl, ?hq8⟩) hHeld1 ?_
        case hq8 => (intro w hSw; (try dsimp only at hSw); go_simp; try with_reducible rfl)
        (try simp only [List.getElem_toArray, List.getElem_cons_succ, List.getElem_cons_zero, Act.put, List.setIfInBounds_toArray, List.set_cons_zero, List.set_cons_succ])
        refine wpAnyH_take (i := 9) (v := ?vq9) rfl (by kernel_rfl) (by kernel_rfl) (by kernel_rfl) (fun _ _ _ h => h) (Or.inl ⟨by rfl, ?hq9⟩) hHeld1 ?_
        case hq9 => (intro w hSw; (try dsimp only at hSw); go_simp; try with_reducible rfl)
        (try simp only [List.getElem_toArray, List.getElem_cons_succ, List.getElem_cons_zero, Act.put, List.setIfInBounds_toArray, List.set_cons_zero, List.set_cons_succ])
        refine wpAnyH_take (i := 10) (v := ?vq10) rfl (by kernel_rfl) (by kernel_rfl) (by kernel_rfl) (fun _ _ _ h => h) (Or.inl ⟨by rfl, ?hq10⟩) hHeld1 ?_
        case hq10 => (intro w hSw; (try dsimp only at hSw); go_simp; try with_reducible rfl)
        (try simp only [List.getElem_toArray, List.getElem_cons_succ, List.getElem_cons_zero, Act.put, List.setIfInBounds_toArray, List.set_cons_zero, List.set_cons_succ])
        refine wpAnyH_take (i := 11) (v := undef) rfl (by kernel_rfl) (by kernel_rfl) (by kernel_rfl) (fun _ _ _ h => h) (Or.inr ⟨by rfl, rfl⟩) hHeld1 ?_
        (try simp only [List.getElem_toArray, List.getElem_cons_succ, List.getElem_cons_zero, Act.put, List.setIfInBounds_toArray, List.set_cons_zero, List.set_cons_succ])
        refine wpAnyH_take (i := 12) (v := undef) rfl (by kernel_rfl) (by kernel_rfl) (by kernel_rfl) (fun _ _ _ h => h) (Or.inr ⟨by rfl, rfl⟩) hHeld1 ?_
        (try simp only [List.getElem_toArray, List.getElem_cons_succ, List.getElem_cons_zero, Act.put, List.setIfInBounds_toArray, List.set_cons_zero, List.set_cons_succ])
        refine wpAnyH_take (i := 13) (v := ?vq13) rfl (by kernel_rfl) (by kernel_rfl) (by kernel_rfl) (fun _ _ _ h => h) (Or.inl ⟨by rfl, ?hq13⟩) hHeld1 ?_
        case hq13 => (intro w hSw; (try dsimp only at hSw); go_simp; try with_reducible rfl)
        (try simp only [List.getElem_toArray, List.getElem_cons_succ, List.getElem_cons_zero, Act.put, List.setIfInBounds_toArray, List.set_cons_zero, List.set_cons_succ])
        refine wpAnyH_take (i := 14) (v := ?vq14) rfl (by kernel_rfl) (by kernel_rfl) (by kernel_rfl) (fun _ _ _ h => h) (Or.inl ⟨by rfl, ?hq14⟩) hHeld1 ?_
        case hq14 => (intro w hSw; (try dsimp only at hSw); go_simp; try with_reducible rfl)
        (try simp only [List.getElem_toArray, List.getElem_cons_succ, List.getElem_cons_zero, Act.put, List.setIfInBounds_toArray, List.set_cons_zero, List.set_cons_succ])
        refine wpAnyH_take (i := 15) (v := ?vq15) rfl (by kernel_rfl) (by kernel_rfl) (by kernel_rfl) (fun _ _ _ h => h) (Or.inl ⟨by rfl, ?hq15⟩) hHeld1 ?_
        case hq15 => (intro w hSw; (try dsimp only at hSw); go_simp; try with_reducible rfl)
        (try simp only [List.getElem_toArray, List.getElem_cons_succ, List.getElem_cons_zero, Act.put, List.setIfInBounds_toArray, List.set_cons_zero, List.set_cons_succ])
        refine wpAnyH_take (i := 16) (v := ?vq16) rfl (by kernel_rfl) (by kernel_rfl) (by kernel_rfl) (fun _ _ _ h => h) (Or.inl ⟨by rfl, ?hq16⟩) hHeld1 ?_
        case hq16 => (intro w hSw; (try dsimp only at hSw); go_simp; try with_reducible rfl)
        (try simp only [List.getElem_toArray, List.getElem_cons_succ, List.getElem_cons_zero, Act.put, List.setIfInBounds_toArray, List.set_cons_zero, List.set_cons_succ])
        refine wpAnyH_take (i := 17) (v := ?vq17) rfl (by kernel_rfl) (by kernel_rfl) (by kernel_rfl) (fun _ _ _ h => h) (Or.inl ⟨by rfl, ?hq17⟩) hHeld1 ?_
        case hq17 => (intro w hSw; (try dsimp only at hSw); go_simp; try with_reducible rfl)
        (try simp only [List.getElem_toArray, List.getElem_cons_succ, List.getElem_cons_zero, Act.put, List.setIfInBounds_toArray, List.set_cons_zero, List.set_cons_succ])
        refine wpAnyH_take (i := 18) (v := ?vq18) rfl (by kernel_rfl) (by kernel_rfl) (by kernel_rfl) (fun _ _ _ h => h) (Or.inl ⟨by rfl, ?hq18⟩) hHeld1 ?_
        case hq18 => (intro w hSw; (try dsimp only at hSw); go_simp; try with_reducible rfl)
        (try simp only [List.getElem_toArray, List.getElem_cons_succ, List.getElem_cons_zero, Act.put, List.setIfInBounds_toArray, List.set_cons_zero, List.set_cons_succ])
        refine wpAnyH_take (i := 20) (v := ?vq20) rfl (by kernel_rfl) (by kernel_rfl) (by kernel_rfl) (fun _ _ _ h => h) (Or.inl ⟨by rfl, ?hq20⟩) hHeld1 ?_
        case hq20 => (intro w hSw; (try dsimp only at hSw); go_simp; try with_reducible rfl)
        (try simp only [List.getElem_toArray, List.getElem_cons_succ, List.getElem_cons_zero, Act.put, List.setIfInBounds_toArray, List.set_cons_zero, List.set_cons_succ])
        refine wpAnyH_take (i := 21) (v := ?vq21) rfl (by kernel_rfl) (by kernel_rfl) (by kernel_rfl) (fun _ _ _ h => h) (Or.inl ⟨by rfl, ?hq21⟩) hHeld1 ?_
        case hq21 => (intro w hSw; (try dsimp only at hSw); go_simp; try with_reducible rfl)
        (try simp only [List.getElem_toArray, List.getElem_cons_succ, List.getElem_cons_zero, Act.put, List.setIfInBounds_toArray, List.set_cons_zero, List.set_cons_succ])
        refine wpAnyH_ready (rs := [19]) (by kernel_rfl) (by simp) ?_
        refine AllReadyH.cons rfl (fun K hK => ?_) AllReadyH.nil
        go_simp
        refine (c_zof 1 (by omega) (by omega)).mono ?_
        rintro e w11 ⟨hb11, n11, A11, len11, cap11, rfl, hq11⟩
        have hbx11 := hbx10.below hb11 hbx10.lt
        have hby11 := hby10.below hb11 hby10.lt
        have hbs11 := hbs10.below hb11 hbs10.lt
        have hq12 := hq10.below hb11
        have s11 := hb11.size
        obtain ⟨i0, i1, i2, -, -, -⟩ := hbx11.three
        obtain ⟨j0, j1, j2, -, -, -⟩ := hby11.three
        obtain ⟨k0, k1, k2, -, -, -⟩ := hbs11.three
        have HP5 := hide (c_of (x := k - 52) hq11 (by omega) (by omega) (by omega))
        go_wp2_with fail
        refine hK.out _ _ ?_ (fun hHeld2 => ?_)
        · (try dsimp only); go_keep
        clear hK K hHeld1
        (try simp only [List.getElem_toArray, List.getElem_cons_succ, List.getElem_cons_zero, Act.put, List.setIfInBounds_toArray, List.set_cons_zero, List.set_cons_succ])
        refine wpAnyH_ready (rs := [22]) (by kernel_rfl) (by simp) ?_
        refine AllReadyH.cons rfl (fun K hK => ?_) AllReadyH.nil
        go_simp
        refine HP5.out.mono ?_
        rintro e w13 ⟨hb13, n13, A13, len13, cap13, rfl, hq13⟩
        have hbx13 := hbx11.below hb13 hbx11.lt
        have hby13 := hby11.below hb13 hby11.lt
        have hbs13 := hbs11.below hb13 hbs11.lt
        have hq14 := hq12.below hb13
        have s13 := hb13.size
        obtain ⟨i0, i1, i2, -, -, -⟩ := hbx13.three
        obtain ⟨j0, j1, j2, -, -, -⟩ := hby13.three
        obtain ⟨k0, k1, k2, -, -, -⟩ := hbs13.three
        rw [HNO.out.1] at hq13
        rw [HNO.out.2]
        have HP6 := hide (HK2.out _ _ _ _ _ hq14 hq13)
        go_wp2_with fail
        refine hK.out _ _ ?_ (fun hHeld3 => ?_)
        · (try dsimp only); go_keep
        clear hK K hHeld2
        (try simp only [List.getElem_toArray, List.getElem_cons_succ, List.getElem_cons_zero, Act.put, List.setIfInBounds_toArray, List.set_cons_zero, List.set_cons_succ])
        refine wpAnyH_ready (rs := [23]) (by kernel_rfl) (by simp) ?_
        refine AllReadyH.cons rfl (fun K hK => ?_) AllReadyH.nil
        go_simp
        refine HP6.out.mono ?_
        rintro e w15 ⟨hb15, rfl⟩
        have hbx15 := hbx13.below hb15 hbx13.lt
        have hby15 := hby13.below hb15 hby13.lt
        have hbs15 := hbs13.below hb15 hbs13.lt
        obtain ⟨i0, i1, i2, -, -, -⟩ := hbx15.three
        obtain ⟨j0, j1, j2, -, -, -⟩ := hby15.three
        obtain ⟨k0, k1, k2, -, -, -⟩ := hbs15.three
        go_wp2_with fail
        refine hK.out _ _ ?_ (fun hHeld4 => ?_)
        · (try dsimp only); go_keep
        clear hK K hHeld3
        (try simp only [List.getElem_toArray, List.getElem_cons_succ, List.getElem_cons_zero, Act.put, List.setIfInBounds_toArray, List.set_cons_zero, List.set_cons_succ])
        refine wpAnyH_take (i := 24) (v := ?vq24) rfl (by kernel_rfl) (by kernel_rfl) (by kernel_rfl) (fun _ _ _ h => h) (Or.inl ⟨by rfl, ?hq24⟩) hHeld4 ?_
        case hq24 => (intro w hSw; (try dsimp only at hSw); go_simp; try with_reducible rfl)
        (try simp only [List.getElem_toArray, List.getElem_cons_succ, List.getElem_cons_zero, Act.put, List.setIfInBounds_toArray, List.set_cons_zero, List.set_cons_succ])
        refine wpAnyH_take (i := 25) (v := ?vq25) rfl (by kernel_rfl) (by kernel_rfl) (by kernel_rfl) (fun _ _ _ h => h) (Or.inl ⟨by rfl, ?hq25⟩) hHeld4 ?_
        case hq25 => (intro w hSw; (try dsimp only at hSw); go_simp; try with_reducible rfl)
        (try simp only [List.getElem_toArray, List.getElem_cons_succ, List.getElem_cons_zero, Act.put, List.setIfInBounds_toArray, List.set_cons_zero, List.set_cons_succ])
        refine wpAnyH_take (i := 26) (v := ?vq26) rfl (by kernel_rfl) (by kernel_rfl) (by kernel_rfl) (fun _ _ _ h => h) (Or.inl ⟨by rfl, ?hq26⟩) hHeld4 ?_
        case hq26 => (intro w hSw; (try dsimp only at hSw); go_simp; try with_reducible rfl)
        (try simp only [List.getElem_toArray, List.getElem_cons_succ, List.getElem_cons_zero, Act.put, List.setIfInBounds_toArray, List.set_cons_zero, List.set_cons_succ])
        refine wpAnyH_take (i := 27) (v := ?vq27) rfl (by kernel_rfl) (by kernel_rfl) (by kernel_rfl) (fun _ _ _ h => h) (Or.inl ⟨by rfl, ?hq27⟩) hHeld4 ?_
        case hq27 => (intro w hSw; (try dsimp only at hSw); go_simp; try with_reducible rfl)
        (try simp only [List.getElem_toArray, List.getElem_cons_succ, List.getElem_cons_zero, Act.put, List.setIfInBounds_toArray, List.set_cons_zero, List.set_cons_succ])
        refine wpAnyH_take (i := 28) (v := ?vq28) rfl (by kernel_rfl) (by kernel_rfl) (by kernel_rfl) (fun _ _ _ h => h) (Or.inl ⟨by rfl, ?hq28⟩) hHeld4 ?_
        case hq28 => (intro w hSw; (try dsimp only at hSw); go_simp; try with_reducible rfl)
        (try simp only [List.getElem_toArray, List.getElem_cons_succ, List.getElem_cons_zero, Act.put, List.setIfInBounds_toArray, List.set_cons_zero, List.set_cons_succ])
        refine wpAnyH_done (by kernel_rfl) ?_ _
        refine NoPanic.normal ?_
        go_wp2_with fail
        go_ret
        exact ⟨rfl, ((HB9.out.drew.trans (hb10.mono HB9.out.size)).trans (hb11.mono (by simp at s10; have := HB9.out.size; omega))).trans ((hb13.mono (by simp at s10; have := HB9.out.size; omega)).trans (hb15.mono (by simp at s10; have := HB9.out.size; omega)))⟩

theorem walk (a0 : Int) (w0 : (Lit.int .u64 a0).wf = true) (a1 : Int) (w1 : (Lit.int .u64 a1).wf = true) (w : World) :
    Calls Try.prog 13 #[.int .u64 a0, .int .u64 a1] w fun e w' => e = .returned (.bool true) ∧ Below w.heap.size w w' := by
  have h0 := bounds_u64 w0
  have h1 := bounds_u64 w1
  obtain ⟨a, rfl⟩ : ∃ b : Nat, a0 = b := ⟨a0.toNat, by omega⟩
  obtain ⟨b, rfl⟩ : ∃ b : Nat, a1 = b := ⟨a1.toNat, by omega⟩
  exact walk_nat a b _ _ rfl rfl w

/-! ### the row -/
set_option maxRecDepth 100000 in
theorem lifted (os : Os) (started : os.Started) (H : Type) (enc : TypeId × Value → H) :
    ReturnsInHanded {} Try.checked os 13 .any (Rows.bitsOrderSpec.pre6 enc Try.prog Try.f13 Rows.bitsOrderRow.domain false) (Rows.bitsOrderSpec.post enc Try.prog Try.f13 false true false false) := by
  refine returnsInHanded_of_change (C := Try.checked) own started (by kernel_rfl) Try.func13
    (ChangeSpec.witness6 (enc := enc) (C := Try.checked) false ⟨#[], #[.int .u64 0, .int .u64 0], []⟩ 8 (by kernel_rfl) (by kernel_rfl) (by kernel_rfl) (by kernel_rfl)) ?_
  intro W base args ds gs before hval0 hW hcnd _
  have hval : ∀ (j : Nat) t v, Try.f13.params[j]? = some t → args[j]? = some v → Value.okWide Try.prog W .any base t v := hval0
  have hW' := hW
  obtain ⟨p, q, hA0, hV, rfl, hfz, hnd⟩ := hW
  have hA : DataW.TrodAll enc Try.prog W 0 (fun _ => true) true Try.f13.params.toList args.toList ds p := hA0
  rw [Try.params13] at hA hval
  obtain ⟨v0, vs0, d0, ds0, p0, q0, hargs, rfl, rfl, h0, r0⟩ := trodAll_cons hA
  obtain ⟨v1, vs1, d1, ds1, p1, q1, rfl, rfl, rfl, h1, r1⟩ := trodAll_cons r0
  obtain ⟨rfl, rfl, rfl⟩ := trodAll_nil r1
  obtain rfl : args = #[v0, v1] := by cases args; simp_all
  obtain ⟨rfl, rfl⟩ := trodVars_none hV
  obtain ⟨a0, rfl, rfl, rfl, w0⟩ := open_int Try.underlying32 (hval 0 32 v0 rfl rfl) h0
  obtain ⟨a1, rfl, rfl, rfl, w1⟩ := open_int Try.underlying32 (hval 1 32 v1 rfl rfl) h1
  clear hA0 hval0
  refine (walk a0 w0 a1 w1 W).mono fun e W' ⟨he, bel⟩ => ?_
  subst he
  exact ⟨_, rfl, _, _, _, [], _, [], hW', trodAll_mk1 (shut_bool Try.underlying4 _), (trodAll_cons_mk (shut_int Try.underlying32 w0) (trodAll_cons_mk (shut_int Try.underlying32 w1) trodAll_mk0)), rfl, bel.frame _, fun h => by cases h⟩

theorem over : Rows.bitsOrderRow.holds Try.pinned (OpenSpec.ofChange Rows.bitsOrderSpec) :=
  OpenClaim.holds_of_wide 13 Try.f13 rfl rfl rfl rfl rfl rfl rfl ⟨rfl, rfl, rfl, rfl, rfl⟩ rfl rfl rfl rfl rfl (by kernel_rfl) Try.func13 (by kernel_rfl)
    (of_decide_eq_true (by kernel_rfl)) (by unfold Func.isWrapper; first | (rw [if_pos (by decide +kernel)]; kernel_rfl) | (rw [if_neg (by decide +kernel)]; exact ⟨rfl, rfl⟩))
    (fun os started H enc _ => lifted os started H enc)

theorem proved : Rows.BitsOrderSaid := over
#print axioms proved
end Go.Proofs.Ytnkembnachhicaa.bitsOrder
