/- hairlinelaw05: limbs, cut, equal; the document's Equal. -/
import Derived.Test.YtnfbngiabdlclaaGreatSh5
import Derived.Test.YtnfbngiabdlclaaGreatRb2
set_option linter.unusedVariables false
set_option linter.unusedSimpArgs false
namespace Go.Proofs.YtnfbngiabdlclaaGreat
open Go.RowKit
open L (val dig nth)

set_option maxHeartbeats 1000000 in
set_option maxRecDepth 100000 in
theorem limbs5_calls (w : World) (n : Bool) (A : Option Addr) (len cap : Nat) (k : Nat) (L : List Nat) (h : Nums w 0 (.slice A len cap) L) (hk : k ≤ 1000) :
    Calls Tryz.prog 16 #[.agg #[.bool n, .slice A len cap], .int .i64 k] w fun e w' => Below w.heap.size w w' ∧ ∃ A' len' cap', e = .returned (.agg #[.bool n, .slice A' len' cap']) ∧ Nums w' w.heap.size (.slice A' len' cap') (L.take k) := by
  have hlen : L.length = len := by
    obtain ⟨A', cap', h1, -⟩ := h
    injection h1 with _ h1 _
    exact h1.symm
  have hcl : len ≤ cap ∧ cap ≤ 9223372036854775807 := by
    obtain ⟨A', cap', h1, h2, h3, -⟩ := h
    injection h1 with _ e2 e3
    subst e3
    omega
  obtain ⟨W0, hW, hbx, hrs, hB0, hs⟩ := start2 w 25 25 #[.bool n, .slice A len cap] #[.bool false, .slice none 0 0]
  have h0 := h.up hB0
  obtain ⟨c0, c1, -, -⟩ := hbx.two
  obtain ⟨d0, d1, d3, d4⟩ := hrs.two
  have HS := hide hs
  have hs2 : w.heap.size + 1 < W0.heap.size := by omega
  clear hs
  go_enter Tryz.func16, Tryz.ntmps16
  go_upto_region 1 with (fail)
  rw [← hW]
  clear hW
  go_upto_if 11 with (fail)
  go_cut [5] (fun m wx => W0 = wx ∧ ∃ A' l' c', m = .slice A' l' c' ∧ Nums W0 0 (.slice A' l' c') (L.take k))
  case first =>
    by_cases hlt : (k : Int) < (len : Int)
    · have hk0 : (0 : Int) ≤ (k : Int) := by omega
      have hkc : (k : Int) ≤ (cap : Int) := by omega
      have HN := hide (Nums.first (l := L) (n := k) (by rw [hlen]; exact h0) (by omega))
      clear hlen
      go_wp2_with fail
      go_meet
      exact ⟨rfl, _, _, _, rfl, HN.out⟩
    · have HN := hide (show Nums W0 0 (.slice A len cap) (L.take k) from by rw [List.take_of_length_le (by omega)]; exact h0)
      clear hlen
      go_wp2_with fail
      go_meet
      exact ⟨rfl, _, _, _, rfl, HN.out⟩
  case rest =>
    obtain ⟨rfl, A', l', c', rfl, hm⟩ := hcut
    have hml : (L.take k).length ≤ k := by simp; omega
    obtain ⟨M, HM⟩ : ∃ M, Hid (L.take k = M) := ⟨_, hide rfl⟩
    rw [HM.out] at hm hml
    clear hlen
    go_upto_region 4 with (fail)
    go_region_held3 (fun w' => w'.cell? ⟨w.heap.size, 0, none⟩ = some (.bool n)) (go_keep)
      ((refine step_appendU _ (by rfl) _ _ (by rfl) W0.heap.size _ [] (by rfl) (OwnU.empty W0.drew (Nat.le_refl _)) 0 _ M (by rfl) ((hm.drew).alloc _) (by have := hml; simp only [List.length_nil]; omega) (by simp) ?_
        intro v' w' hown hgrow
        have hB1 : Below W0.heap.size W0 w' := Below.grown (B := W0.heap.size) (((Below.refl _ _).drew).alloc (Nat.le_refl _) _) hgrow (by simp) (by intro j hj; simp only [Value.ownBlock, Option.some.injEq] at hj; exact Nat.le_of_eq hj)
        obtain ⟨Ao, co, hvo⟩ := hown.form
        rw [hvo] at hown ⊢
        have hbx1 := hbx.below hB1 (by omega)
        have hrs1 := hrs.below hB1 (by omega)
        obtain ⟨i0, i1, -, -⟩ := hbx1.two
        obtain ⟨j0, j1, j3, j4⟩ := hrs1.two))
    go_wp2_with fail
    refine bodyPost_ret (results_int rfl _ _ _ _ _ _ rfl (blk_two hrs1)) rfl ⟨below2 (hB0.trans (hB1.mono hB0.size)) (by omega) _ _, ?_⟩
    refine ⟨Ao, M.length, co, rfl, ?_⟩
    rw [HM.out]
    have hn := OwnU.nums hown (by rw [List.nil_append]; exact hm.lt)
    exact (nums_low2 hn hs2 _ _).mono hB0.size


/-- Numbers cut, in a slice of one's own. -/
theorem nums_len {w : World} {A : Option Addr} {len cap : Nat} {l : List Nat} {B : Nat} (h : Nums w B (.slice A len cap) l) : len = l.length := h.len_.1
set_option maxHeartbeats 1000000 in
set_option maxRecDepth 100000 in
theorem cut5_calls (w : World) (n0 n1 : Bool) (A0 A1 : Option Addr) (l0 l1 c0 c1 : Nat) (q : Int) (k : Nat) (L0 L1 : List Nat) (h0 : Nums w 0 (.slice A0 l0 c0) L0) (h1 : Nums w 0 (.slice A1 l1 c1) L1) (hk : k ≤ 1000) :
    Calls Tryz.prog 15 #[.agg #[.bool n0, .slice A0 l0 c0, .bool n1, .slice A1 l1 c1, .int .i64 q], .int .i64 k] w fun e w' => Below w.heap.size w w' ∧
      ∃ C j i C' j' i', e = .returned (.agg #[.bool n0, .slice C j i, .bool n1, .slice C' j' i', .int .i64 q]) ∧ Nums w' w.heap.size (.slice C j i) (L0.take k) ∧ Nums w' w.heap.size (.slice C' j' i') (L1.take k) := by
  obtain ⟨W0, hW, ha, hrs, hB0, hs⟩ := start2 w 27 27 #[.bool n0, .slice A0 l0 c0, .bool n1, .slice A1 l1 c1, .int .i64 q] #[.bool false, .slice none 0 0, .bool false, .slice none 0 0, .int .i64 0]
  have HB0 := hide hB0.drew
  have hs2 : w.heap.size + 2 ≤ W0.heap.size := by omega
  clear hs hB0
  obtain ⟨a0, a1, a2, a3, a4, -⟩ := ha.five
  have HL1 := hide (limbs5_calls W0.drew n0 A0 l0 c0 k L0 (h0.below HB0.out) hk)
  obtain ⟨M0, HM0⟩ : ∃ l, Hid (L0.take k = l) := ⟨_, hide rfl⟩
  obtain ⟨M1, HM1⟩ : ∃ l, Hid (L1.take k = l) := ⟨_, hide rfl⟩
  rw [HM0.out] at HL1 ⊢
  rw [HM1.out]
  go_enter Tryz.func15, Tryz.ntmps15
  go_upto_region 1 with (fail)
  rw [← hW]
  clear hW
  go_region_held3 (fun w' => w'.cell? ⟨w.heap.size, 0, none⟩ = some (.bool n0) ∧ w'.cell? ⟨w.heap.size, 1, none⟩ = some (.slice A0 l0 c0) ∧ w'.cell? ⟨w.heap.size, 2, none⟩ = some (.bool n1) ∧ w'.cell? ⟨w.heap.size, 3, none⟩ = some (.slice A1 l1 c1) ∧ w'.cell? ⟨w.heap.size, 4, none⟩ = some (.int .i64 q)) (go_keep)
    (first
      | (go_at_call 16; (with_reducible refine HL1.out.mono ?_); rintro e v1 ⟨vb1, C1, j1, i1, rfl, hn1⟩
         have ha := ha.drew.below vb1 ha.lt
         have hrs := hrs.drew.below vb1 hrs.lt
         have HV1 := hide (HB0.out.trans (vb1.mono HB0.out.size))
         have vs1 := vb1.size
         obtain ⟨a0, a1, a2, a3, a4, -⟩ := ha.five
         have HL2 := hide (limbs5_calls v1 n1 A1 l1 c1 k L1 (h1.below HV1.out) hk)
         rw [HM1.out] at HL2)
      | (go_at_call 16; (with_reducible refine HL2.out.mono ?_); rintro e v2 ⟨vb2, C2, j2, i2, rfl, hn2⟩
         have ha := ha.below vb2 ha.lt
         have hrs := hrs.below vb2 hrs.lt
         have hn1 := hn1.below vb2
         have HV2 := hide (HV1.out.trans (vb2.mono HV1.out.size))
         obtain ⟨a0, a1, a2, a3, a4, -⟩ := ha.five
         obtain ⟨r0, r1, r2, r3, r4, r5, r6, r7, r8, r9⟩ := hrs.five
         have hne1 : ¬ w.heap.size + 1 = w.heap.size := by omega
         have hne2 : ¬ w.heap.size = w.heap.size + 1 := by omega))
  go_wp2_with fail
  have m1 := hn1.mono (show w.heap.size + 2 ≤ _ from hs2)
  have m2 := hn2.mono (show w.heap.size + 2 ≤ _ from Nat.le_trans hs2 vs1)
  obtain ⟨W2, hW2, bl, -, kb, -, -, kn⟩ := set5_all hrs (.bool n0) (.slice C1 j1 i1) (.bool n1) (.slice C2 j2 i2) (.int .i64 q)
  rw [← hW2]
  refine bodyPost_ret (results_ball rfl _ _ _ _ _ _ _ _ _ rfl bl) rfl ⟨kb _ _ HV2.out (by omega), _, _, _, _, _, _, rfl, (kn _ _ _ (by omega) m1).mono (by omega), (kn _ _ _ (by omega) m2).mono (by omega)⟩

set_option maxRecDepth 100000 in
theorem eqB_calls {w : World} {k k' : Nat} {n0 n1 m0 m1 : Bool} {A0 A1 B0 B1 : Option Addr} {l0 l1 j0 j1 c0 c1 d0 d1 : Nat} {x y : Int} (q : Int) (hx0 : QC w k n0 A0 l0 c0 x) (hx1 : QC w k n1 A1 l1 c1 y) (hy0 : QC w k' m0 B0 j0 d0 x) (hy1 : QC w k' m1 B1 j1 d1 y) :
    Calls Tryz.prog 13 #[.agg #[.bool n0, .slice A0 l0 c0, .bool n1, .slice A1 l1 c1, .int .i64 q], .agg #[.bool m0, .slice B0 j0 d0, .bool m1, .slice B1 j1 d1, .int .i64 q]] w fun e w' =>
      Below w.heap.size w w' ∧ e = .returned (.bool true) := by
  obtain ⟨W0, hW, ha, hb, hB0, hs⟩ := start2 w 27 27 #[.bool n0, .slice A0 l0 c0, .bool n1, .slice A1 l1 c1, .int .i64 q] #[.bool m0, .slice B0 j0 d0, .bool m1, .slice B1 j1 d1, .int .i64 q]
  have HB0 := hide hB0
  clear hs hB0
  obtain ⟨a0, a1, a2, a3, a4, -⟩ := ha.five
  obtain ⟨b0, b1, b2, b3, b4, -⟩ := hb.five
  have HE := hide (eqI_calls (hx0.below HB0.out) (hy0.below HB0.out))
  rw [decide_eq_true (rfl : x = x)] at HE
  have e1 : (q == q) = true := by rw [beq_iff_eq]
  go_enter Tryz.func13, Tryz.ntmps13
  go_upto_region 1 with (fail)
  rw [← hW]
  clear hW
  go_wp2_with fail
  refine HE.out.mono ?_
  rintro e w1 ⟨hb1, rfl⟩
  have ha := ha.below hb1 ha.lt
  have hb := hb.below hb1 hb.lt
  have HB1 := hide (HB0.out.trans (hb1.mono HB0.out.size))
  obtain ⟨a0, a1, a2, a3, a4, -⟩ := ha.five
  obtain ⟨b0, b1, b2, b3, b4, -⟩ := hb.five
  have HE2 := hide (eqI_calls (hx1.below HB1.out) (hy1.below HB1.out))
  rw [decide_eq_true (rfl : y = y)] at HE2
  go_wp2_with fail
  refine HE2.out.mono ?_
  rintro e w2 ⟨hb2, rfl⟩
  have ha := ha.below hb2 ha.lt
  have hb := hb.below hb2 hb.lt
  have HB2 := hide (HB1.out.trans (hb2.mono HB1.out.size))
  obtain ⟨a0, a1, a2, a3, a4, -⟩ := ha.five
  obtain ⟨b0, b1, b2, b3, b4, -⟩ := hb.five
  go_wp2_with fail
  go_ret
  exact ⟨HB2.out, rfl⟩

set_option maxRecDepth 100000 in
theorem equal5_calls {w : World} {k k' : Nat} {n0 n1 m0 m1 : Bool} {A0 A1 B0 B1 : Option Addr} {l0 l1 j0 j1 c0 c1 d0 d1 : Nat} {x y : Int} (q err : Int) (hx0 : QC w k n0 A0 l0 c0 x) (hx1 : QC w k n1 A1 l1 c1 y) (hy0 : QC w k' m0 B0 j0 d0 x) (hy1 : QC w k' m1 B1 j1 d1 y) :
    Calls Tryz.prog 19 #[.agg #[.bool n0, .slice A0 l0 c0, .bool n1, .slice A1 l1 c1, .int .i64 q], .int .i64 err, .agg #[.bool m0, .slice B0 j0 d0, .bool m1, .slice B1 j1 d1, .int .i64 q], .int .i64 err] w fun e w' =>
      Below w.heap.size w w' ∧ e = .returned (.bool true) := by
  obtain ⟨W0, hW, ha, hb, hB0, hs⟩ := start2 w 27 27 #[.bool n0, .slice A0 l0 c0, .bool n1, .slice A1 l1 c1, .int .i64 q] #[.bool m0, .slice B0 j0 d0, .bool m1, .slice B1 j1 d1, .int .i64 q]
  have HB0 := hide hB0
  clear hs hB0
  obtain ⟨a0, a1, a2, a3, a4, -⟩ := ha.five
  obtain ⟨b0, b1, b2, b3, b4, -⟩ := hb.five
  have HE := hide (eqB_calls q (hx0.below HB0.out) (hx1.below HB0.out) (hy0.below HB0.out) (hy1.below HB0.out))
  have e1 : (err == err) = true := by rw [beq_iff_eq]
  go_enter Tryz.func19, Tryz.ntmps19
  go_upto_region 1 with (fail)
  rw [← hW]
  clear hW
  go_wp2_with fail
  refine HE.out.mono ?_
  rintro e w1 ⟨hb1, rfl⟩
  have HB1 := hide (HB0.out.trans (hb1.mono HB0.out.size))
  go_wp2_with fail
  go_ret
  exact ⟨HB1.out, rfl⟩
end Go.Proofs.YtnfbngiabdlclaaGreat
