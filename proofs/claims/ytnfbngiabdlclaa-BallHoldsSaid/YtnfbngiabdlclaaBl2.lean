/- ball.Has, and the document's. -/
import Derived.Test.YtnfbngiabdlclaaBl1
set_option linter.unusedVariables false
set_option linter.unusedSimpArgs false
namespace Go.Proofs.Ytnfbngiabdlclaa
open Go.RowKit
open L (val dig nth)

/-- Does a dyad lie in a ball? -/
def hasB (x y q z e : Int) : Bool := rightB x y q && decide (x ≤ vFloor 4000 (av 4000 z e) (nearZ q)) && decide (vCeil 4000 (av 4000 z e) (nearZ q) ≤ y)

set_option maxHeartbeats 2000000 in
set_option maxRecDepth 100000 in
theorem has_calls {w : World} {k : Nat} {n0 n1 m : Bool} {A0 A1 B : Option Addr} {l0 l1 j c0 c1 d : Nat} {x y z e0 : Int} (Q0 : Int) (hx : Q w k n0 A0 l0 c0 x) (hy : Q w k n1 A1 l1 c1 y) (hz : Q w k m B j d z) (hk : k ≤ 1000) (hx0 : -9223372036854775808 ≤ e0) (hx1 : e0 ≤ 9223372036854775807) :
    Calls Try.prog 24 #[.agg #[.bool n0, .slice A0 l0 c0, .bool n1, .slice A1 l1 c1, .int .i64 Q0], .agg #[.bool m, .slice B j d, .int .i64 e0]] w fun e w' => Below w.heap.size w w' ∧ e = .returned (.bool (hasB x y Q0 z e0)) := by
  obtain ⟨W0, hW, ha, hb, hB0, hs⟩ := start2 w 27 43 #[.bool n0, .slice A0 l0 c0, .bool n1, .slice A1 l1 c1, .int .i64 Q0] #[.bool m, .slice B j d, .int .i64 e0]
  have HB0 := hide hB0
  clear hs hB0
  obtain ⟨ra, HRA⟩ : ∃ b, Hid (rightB x y Q0 = b) := ⟨_, hide rfl⟩
  obtain ⟨fl, HFL⟩ : ∃ t, Hid (vFloor 4000 (av 4000 z e0) (nearZ Q0) = t) := ⟨_, hide rfl⟩
  obtain ⟨ce, HCE⟩ : ∃ t, Hid (vCeil 4000 (av 4000 z e0) (nearZ Q0) = t) := ⟨_, hide rfl⟩
  obtain ⟨f1, HF1⟩ : ∃ b, Hid (decide (x ≤ fl) = b) := ⟨_, hide rfl⟩
  obtain ⟨f2, HF2⟩ : ∃ b, Hid (decide (ce ≤ y) = b) := ⟨_, hide rfl⟩
  obtain ⟨g1, HG1⟩ : ∃ t, Hid (cmpZ x fl = t) := ⟨_, hide rfl⟩
  obtain ⟨g2, HG2⟩ : ∃ t, Hid (cmpZ ce y = t) := ⟨_, hide rfl⟩
  have hg1 : decide (g1 ≤ 0) = f1 := by rw [← HG1.out, cmpZ_dec]; exact HF1.out
  have hg2 : decide (g2 ≤ 0) = f2 := by rw [← HG2.out, cmpZ_dec]; exact HF2.out
  obtain ⟨r, HR⟩ : ∃ b, Hid (hasB x y Q0 z e0 = b) := ⟨_, hide rfl⟩
  have HRR : Hid (r = (ra && f1 && f2)) := hide (by rw [← HR.out, ← HRA.out, ← HF1.out, ← HF2.out, ← HFL.out, ← HCE.out]; rfl)
  rw [HR.out]
  have HQA : Hid (ra = true → 0 ≤ Q0 ∧ Q0 ≤ 2048) := hide (fun h => rightB_q (HRA.out.trans h))
  have HLF : Hid (fl.natAbs < W ^ (k + 125)) := hide (by rw [← HFL.out]; exact vFloor_lt (x := e0) hz.lt (Nat.le_refl 4000) Q0)
  have HLC : Hid (ce.natAbs < W ^ (k + 125)) := hide (by rw [← HCE.out]; exact vCeil_lt (x := e0) hz.lt (Nat.le_refl 4000) Q0)
  obtain ⟨a0, a1, a2, a3, a4, -⟩ := ha.five
  obtain ⟨b0, b1, b2, -⟩ := hb.three
  have HBd := hide HB0.out.drew
  have HR1 := hide (right_calls Q0 (hx.at_ HBd) (hy.at_ HBd) (by omega) (by omega))
  rw [HRA.out] at HR1
  cases ra with
  | false =>
    have hr : r = false := by rw [HRR.out]; rfl
    subst hr
    go_enter Try.func24, Try.ntmps24
    go_upto_region 1 with (fail)
    rw [← hW]
    clear hW
    refine wp_region_noPanic ?_
    refine wp_region_held_drew (S := fun w' => w'.cell? ⟨w.heap.size, 0, none⟩ = some (.bool n0) ∧ w'.cell? ⟨w.heap.size, 1, none⟩ = some (.slice A0 l0 c0) ∧ w'.cell? ⟨w.heap.size, 2, none⟩ = some (.bool n1) ∧ w'.cell? ⟨w.heap.size, 3, none⟩ = some (.slice A1 l1 c1) ∧ w'.cell? ⟨w.heap.size, 4, none⟩ = some (.int .i64 Q0) ∧ w'.cell? ⟨w.heap.size + 1, 0, none⟩ = some (.bool m) ∧ w'.cell? ⟨w.heap.size + 1, 1, none⟩ = some (.slice B j d) ∧ w'.cell? ⟨w.heap.size + 1, 2, none⟩ = some (.int .i64 e0)) (by kernel_rfl) ?_ (fun hHeld0 => ?_)
    · (try dsimp only); go_keep
    refine wpAnyH_take (i := 0) (v := ?vra0) rfl (by kernel_rfl) (by kernel_rfl) (by kernel_rfl) (fun _ _ _ h => h) (Or.inl ⟨by rfl, ?hra0⟩) hHeld0 ?_
    case hra0 => (intro w hSw; (try dsimp only at hSw); go_simp; try with_reducible rfl)
    (try simp only [List.getElem_toArray, List.getElem_cons_succ, List.getElem_cons_zero, Act.put, List.setIfInBounds_toArray, List.set_cons_zero, List.set_cons_succ])
    refine wpAnyH_ready (rs := [1]) (by kernel_rfl) (by simp) ?_
    refine AllReadyH.cons rfl (fun K hK => ?_) AllReadyH.nil
    go_simp
    refine HR1.out.mono ?_
    rintro e v1 ⟨vb, rfl⟩
    have ha := ha.drew.below vb ha.lt
    have hb := hb.drew.below vb hb.lt
    have HV1 := hide (HBd.out.trans (vb.mono HBd.out.size))
    obtain ⟨a0, a1, a2, a3, a4, -⟩ := ha.five
    obtain ⟨b0, b1, b2, -⟩ := hb.three
    go_wp2_with fail
    refine hK.out _ _ ?_ (fun hHeld1 => ?_)
    · (try dsimp only); go_keep
    clear hK K hHeld0
    (try simp only [List.getElem_toArray, List.getElem_cons_succ, List.getElem_cons_zero, Act.put, List.setIfInBounds_toArray, List.set_cons_zero, List.set_cons_succ])
    refine wpAnyH_take (i := 2) (v := ?vra2) rfl (by kernel_rfl) (by kernel_rfl) (by kernel_rfl) (fun _ _ _ h => h) (Or.inl ⟨by rfl, ?hra2⟩) hHeld1 ?_
    case hra2 => (intro w hSw; (try dsimp only at hSw); go_simp; try with_reducible rfl)
    (try simp only [List.getElem_toArray, List.getElem_cons_succ, List.getElem_cons_zero, Act.put, List.setIfInBounds_toArray, List.set_cons_zero, List.set_cons_succ])
    refine wpAnyH_take (i := 3) (v := undef) rfl (by kernel_rfl) (by kernel_rfl) (by kernel_rfl) (fun _ _ _ h => h) (Or.inr ⟨by rfl, rfl⟩) hHeld1 ?_
    (try simp only [List.getElem_toArray, List.getElem_cons_succ, List.getElem_cons_zero, Act.put, List.setIfInBounds_toArray, List.set_cons_zero, List.set_cons_succ])
    refine wpAnyH_take (i := 4) (v := undef) rfl (by kernel_rfl) (by kernel_rfl) (by kernel_rfl) (fun _ _ _ h => h) (Or.inr ⟨by rfl, rfl⟩) hHeld1 ?_
    (try simp only [List.getElem_toArray, List.getElem_cons_succ, List.getElem_cons_zero, Act.put, List.setIfInBounds_toArray, List.set_cons_zero, List.set_cons_succ])
    refine wpAnyH_take (i := 5) (v := undef) rfl (by kernel_rfl) (by kernel_rfl) (by kernel_rfl) (fun _ _ _ h => h) (Or.inr ⟨by rfl, rfl⟩) hHeld1 ?_
    (try simp only [List.getElem_toArray, List.getElem_cons_succ, List.getElem_cons_zero, Act.put, List.setIfInBounds_toArray, List.set_cons_zero, List.set_cons_succ])
    refine wpAnyH_take (i := 6) (v := undef) rfl (by kernel_rfl) (by kernel_rfl) (by kernel_rfl) (fun _ _ _ h => h) (Or.inr ⟨by rfl, rfl⟩) hHeld1 ?_
    (try simp only [List.getElem_toArray, List.getElem_cons_succ, List.getElem_cons_zero, Act.put, List.setIfInBounds_toArray, List.set_cons_zero, List.set_cons_succ])
    refine wpAnyH_take (i := 7) (v := undef) rfl (by kernel_rfl) (by kernel_rfl) (by kernel_rfl) (fun _ _ _ h => h) (Or.inr ⟨by rfl, rfl⟩) hHeld1 ?_
    (try simp only [List.getElem_toArray, List.getElem_cons_succ, List.getElem_cons_zero, Act.put, List.setIfInBounds_toArray, List.set_cons_zero, List.set_cons_succ])
    refine wpAnyH_ready (rs := [8]) (by kernel_rfl) (by simp) ?_
    refine AllReadyH.cons rfl (fun K hK => ?_) AllReadyH.nil
    go_simp
    refine hK.out _ _ ?_ (fun hHeld2 => ?_)
    · (try dsimp only); go_keep
    clear hK K hHeld1
    (try simp only [List.getElem_toArray, List.getElem_cons_succ, List.getElem_cons_zero, Act.put, List.setIfInBounds_toArray, List.set_cons_zero, List.set_cons_succ])
    refine wpAnyH_ready (rs := [9]) (by kernel_rfl) (by simp) ?_
    refine AllReadyH.cons rfl (fun K hK => ?_) AllReadyH.nil
    go_simp
    refine hK.out _ _ ?_ (fun hHeld3 => ?_)
    · (try dsimp only); go_keep
    clear hK K hHeld2
    (try simp only [List.getElem_toArray, List.getElem_cons_succ, List.getElem_cons_zero, Act.put, List.setIfInBounds_toArray, List.set_cons_zero, List.set_cons_succ])
    refine wpAnyH_ready (rs := [10]) (by kernel_rfl) (by simp) ?_
    refine AllReadyH.cons rfl (fun K hK => ?_) AllReadyH.nil
    go_simp
    refine hK.out _ _ ?_ (fun hHeld4 => ?_)
    · (try dsimp only); go_keep
    clear hK K hHeld3
    (try simp only [List.getElem_toArray, List.getElem_cons_succ, List.getElem_cons_zero, Act.put, List.setIfInBounds_toArray, List.set_cons_zero, List.set_cons_succ])
    refine wpAnyH_take (i := 11) (v := ?vra11) rfl (by kernel_rfl) (by kernel_rfl) (by kernel_rfl) (fun _ _ _ h => h) (Or.inl ⟨by rfl, ?hra11⟩) hHeld4 ?_
    case hra11 => (intro w hSw; (try dsimp only at hSw); go_simp; try with_reducible rfl)
    (try simp only [List.getElem_toArray, List.getElem_cons_succ, List.getElem_cons_zero, Act.put, List.setIfInBounds_toArray, List.set_cons_zero, List.set_cons_succ])
    refine wpAnyH_take (i := 12) (v := ?vra12) rfl (by kernel_rfl) (by kernel_rfl) (by kernel_rfl) (fun _ _ _ h => h) (Or.inl ⟨by rfl, ?hra12⟩) hHeld4 ?_
    case hra12 => (intro w hSw; (try dsimp only at hSw); go_simp; try with_reducible rfl)
    (try simp only [List.getElem_toArray, List.getElem_cons_succ, List.getElem_cons_zero, Act.put, List.setIfInBounds_toArray, List.set_cons_zero, List.set_cons_succ])
    refine wpAnyH_take (i := 13) (v := undef) rfl (by kernel_rfl) (by kernel_rfl) (by kernel_rfl) (fun _ _ _ h => h) (Or.inr ⟨by rfl, rfl⟩) hHeld4 ?_
    (try simp only [List.getElem_toArray, List.getElem_cons_succ, List.getElem_cons_zero, Act.put, List.setIfInBounds_toArray, List.set_cons_zero, List.set_cons_succ])
    refine wpAnyH_take (i := 14) (v := undef) rfl (by kernel_rfl) (by kernel_rfl) (by kernel_rfl) (fun _ _ _ h => h) (Or.inr ⟨by rfl, rfl⟩) hHeld4 ?_
    (try simp only [List.getElem_toArray, List.getElem_cons_succ, List.getElem_cons_zero, Act.put, List.setIfInBounds_toArray, List.set_cons_zero, List.set_cons_succ])
    refine wpAnyH_take (i := 15) (v := undef) rfl (by kernel_rfl) (by kernel_rfl) (by kernel_rfl) (fun _ _ _ h => h) (Or.inr ⟨by rfl, rfl⟩) hHeld4 ?_
    (try simp only [List.getElem_toArray, List.getElem_cons_succ, List.getElem_cons_zero, Act.put, List.setIfInBounds_toArray, List.set_cons_zero, List.set_cons_succ])
    refine wpAnyH_take (i := 17) (v := undef) rfl (by kernel_rfl) (by kernel_rfl) (by kernel_rfl) (fun _ _ _ h => h) (Or.inr ⟨by rfl, rfl⟩) hHeld4 ?_
    (try simp only [List.getElem_toArray, List.getElem_cons_succ, List.getElem_cons_zero, Act.put, List.setIfInBounds_toArray, List.set_cons_zero, List.set_cons_succ])
    refine wpAnyH_take (i := 18) (v := undef) rfl (by kernel_rfl) (by kernel_rfl) (by kernel_rfl) (fun _ _ _ h => h) (Or.inr ⟨by rfl, rfl⟩) hHeld4 ?_
    (try simp only [List.getElem_toArray, List.getElem_cons_succ, List.getElem_cons_zero, Act.put, List.setIfInBounds_toArray, List.set_cons_zero, List.set_cons_succ])
    refine wpAnyH_ready (rs := [16]) (by kernel_rfl) (by simp) ?_
    refine AllReadyH.cons rfl (fun K hK => ?_) AllReadyH.nil
    go_simp
    refine hK.out _ _ ?_ (fun hHeld5 => ?_)
    · (try dsimp only); go_keep
    clear hK K hHeld4
    (try simp only [List.getElem_toArray, List.getElem_cons_succ, List.getElem_cons_zero, Act.put, List.setIfInBounds_toArray, List.set_cons_zero, List.set_cons_succ])
    refine wpAnyH_ready (rs := [19]) (by kernel_rfl) (by simp) ?_
    refine AllReadyH.cons rfl (fun K hK => ?_) AllReadyH.nil
    go_simp
    refine hK.out _ _ ?_ (fun hHeld6 => ?_)
    · (try dsimp only); go_keep
    clear hK K hHeld5
    (try simp only [List.getElem_toArray, List.getElem_cons_succ, List.getElem_cons_zero, Act.put, List.setIfInBounds_toArray, List.set_cons_zero, List.set_cons_succ])
    refine wpAnyH_ready (rs := [20]) (by kernel_rfl) (by simp) ?_
    refine AllReadyH.cons rfl (fun K hK => ?_) AllReadyH.nil
    go_simp
    refine hK.out _ _ ?_ (fun hHeld7 => ?_)
    · (try dsimp only); go_keep
    clear hK K hHeld6
    (try simp only [List.getElem_toArray, List.getElem_cons_succ, List.getElem_cons_zero, Act.put, List.setIfInBounds_toArray, List.set_cons_zero, List.set_cons_succ])
    refine wpAnyH_take (i := 21) (v := ?vra21) rfl (by kernel_rfl) (by kernel_rfl) (by kernel_rfl) (fun _ _ _ h => h) (Or.inl ⟨by rfl, ?hra21⟩) hHeld7 ?_
    case hra21 => (intro w hSw; (try dsimp only at hSw); go_simp; try with_reducible rfl)
    (try simp only [List.getElem_toArray, List.getElem_cons_succ, List.getElem_cons_zero, Act.put, List.setIfInBounds_toArray, List.set_cons_zero, List.set_cons_succ])
    refine wpAnyH_take (i := 22) (v := ?vra22) rfl (by kernel_rfl) (by kernel_rfl) (by kernel_rfl) (fun _ _ _ h => h) (Or.inl ⟨by rfl, ?hra22⟩) hHeld7 ?_
    case hra22 => (intro w hSw; (try dsimp only at hSw); go_simp; try with_reducible rfl)
    (try simp only [List.getElem_toArray, List.getElem_cons_succ, List.getElem_cons_zero, Act.put, List.setIfInBounds_toArray, List.set_cons_zero, List.set_cons_succ])
    refine wpAnyH_done (by kernel_rfl) ?_ _
    refine NoPanic.normal ?_
    all_goals go_wp2_with fail
    all_goals go_ret
    all_goals exact ⟨HV1.out, by first | rfl | rw [hg2]⟩
  | true =>
    cases f1 with
    | false =>
      have hr : r = false := by rw [HRR.out]; rfl
      subst hr
      go_enter Try.func24, Try.ntmps24
      go_upto_region 1 with (fail)
      rw [← hW]
      clear hW
      refine wp_region_noPanic ?_
      refine wp_region_held_drew (S := fun w' => w'.cell? ⟨w.heap.size, 0, none⟩ = some (.bool n0) ∧ w'.cell? ⟨w.heap.size, 1, none⟩ = some (.slice A0 l0 c0) ∧ w'.cell? ⟨w.heap.size, 2, none⟩ = some (.bool n1) ∧ w'.cell? ⟨w.heap.size, 3, none⟩ = some (.slice A1 l1 c1) ∧ w'.cell? ⟨w.heap.size, 4, none⟩ = some (.int .i64 Q0) ∧ w'.cell? ⟨w.heap.size + 1, 0, none⟩ = some (.bool m) ∧ w'.cell? ⟨w.heap.size + 1, 1, none⟩ = some (.slice B j d) ∧ w'.cell? ⟨w.heap.size + 1, 2, none⟩ = some (.int .i64 e0)) (by kernel_rfl) ?_ (fun hHeld0 => ?_)
      · (try dsimp only); go_keep
      refine wpAnyH_take (i := 0) (v := ?vrb0) rfl (by kernel_rfl) (by kernel_rfl) (by kernel_rfl) (fun _ _ _ h => h) (Or.inl ⟨by rfl, ?hrb0⟩) hHeld0 ?_
      case hrb0 => (intro w hSw; (try dsimp only at hSw); go_simp; try with_reducible rfl)
      (try simp only [List.getElem_toArray, List.getElem_cons_succ, List.getElem_cons_zero, Act.put, List.setIfInBounds_toArray, List.set_cons_zero, List.set_cons_succ])
      refine wpAnyH_ready (rs := [1]) (by kernel_rfl) (by simp) ?_
      refine AllReadyH.cons rfl (fun K hK => ?_) AllReadyH.nil
      go_simp
      refine HR1.out.mono ?_
      rintro e v1 ⟨vb, rfl⟩
      have ha := ha.drew.below vb ha.lt
      have hb := hb.drew.below vb hb.lt
      have HV1 := hide (HBd.out.trans (vb.mono HBd.out.size))
      obtain ⟨a0, a1, a2, a3, a4, -⟩ := ha.five
      obtain ⟨b0, b1, b2, -⟩ := hb.three
      have HC1 := hide (floor_ret Q0 (hz.at_ HV1) hk hx0 hx1)
      rw [HFL.out] at HC1
      go_wp2_with fail
      refine hK.out _ _ ?_ (fun hHeld1 => ?_)
      · (try dsimp only); go_keep
      clear hK K hHeld0
      (try simp only [List.getElem_toArray, List.getElem_cons_succ, List.getElem_cons_zero, Act.put, List.setIfInBounds_toArray, List.set_cons_zero, List.set_cons_succ])
      refine wpAnyH_take (i := 2) (v := ?vrb2) rfl (by kernel_rfl) (by kernel_rfl) (by kernel_rfl) (fun _ _ _ h => h) (Or.inl ⟨by rfl, ?hrb2⟩) hHeld1 ?_
      case hrb2 => (intro w hSw; (try dsimp only at hSw); go_simp; try with_reducible rfl)
      (try simp only [List.getElem_toArray, List.getElem_cons_succ, List.getElem_cons_zero, Act.put, List.setIfInBounds_toArray, List.set_cons_zero, List.set_cons_succ])
      refine wpAnyH_take (i := 3) (v := ?vrb3) rfl (by kernel_rfl) (by kernel_rfl) (by kernel_rfl) (fun _ _ _ h => h) (Or.inl ⟨by rfl, ?hrb3⟩) hHeld1 ?_
      case hrb3 => (intro w hSw; (try dsimp only at hSw); go_simp; try with_reducible rfl)
      (try simp only [List.getElem_toArray, List.getElem_cons_succ, List.getElem_cons_zero, Act.put, List.setIfInBounds_toArray, List.set_cons_zero, List.set_cons_succ])
      refine wpAnyH_take (i := 4) (v := ?vrb4) rfl (by kernel_rfl) (by kernel_rfl) (by kernel_rfl) (fun _ _ _ h => h) (Or.inl ⟨by rfl, ?hrb4⟩) hHeld1 ?_
      case hrb4 => (intro w hSw; (try dsimp only at hSw); go_simp; try with_reducible rfl)
      (try simp only [List.getElem_toArray, List.getElem_cons_succ, List.getElem_cons_zero, Act.put, List.setIfInBounds_toArray, List.set_cons_zero, List.set_cons_succ])
      refine wpAnyH_take (i := 5) (v := ?vrb5) rfl (by kernel_rfl) (by kernel_rfl) (by kernel_rfl) (fun _ _ _ h => h) (Or.inl ⟨by rfl, ?hrb5⟩) hHeld1 ?_
      case hrb5 => (intro w hSw; (try dsimp only at hSw); go_simp; try with_reducible rfl)
      (try simp only [List.getElem_toArray, List.getElem_cons_succ, List.getElem_cons_zero, Act.put, List.setIfInBounds_toArray, List.set_cons_zero, List.set_cons_succ])
      refine wpAnyH_take (i := 6) (v := ?vrb6) rfl (by kernel_rfl) (by kernel_rfl) (by kernel_rfl) (fun _ _ _ h => h) (Or.inl ⟨by rfl, ?hrb6⟩) hHeld1 ?_
      case hrb6 => (intro w hSw; (try dsimp only at hSw); go_simp; try with_reducible rfl)
      (try simp only [List.getElem_toArray, List.getElem_cons_succ, List.getElem_cons_zero, Act.put, List.setIfInBounds_toArray, List.set_cons_zero, List.set_cons_succ])
      refine wpAnyH_take (i := 7) (v := ?vrb7) rfl (by kernel_rfl) (by kernel_rfl) (by kernel_rfl) (fun _ _ _ h => h) (Or.inl ⟨by rfl, ?hrb7⟩) hHeld1 ?_
      case hrb7 => (intro w hSw; (try dsimp only at hSw); go_simp; try with_reducible rfl)
      (try simp only [List.getElem_toArray, List.getElem_cons_succ, List.getElem_cons_zero, Act.put, List.setIfInBounds_toArray, List.set_cons_zero, List.set_cons_succ])
      refine wpAnyH_ready (rs := [8]) (by kernel_rfl) (by simp) ?_
      refine AllReadyH.cons rfl (fun K hK => ?_) AllReadyH.nil
      go_simp
      refine HC1.out.mono ?_
      rintro e v2 ⟨vb, u1, t1, rfl, hu1, ht1⟩
      have ha := ha.below vb ha.lt
      have hb := hb.below vb hb.lt
      have HV2 := hide (HV1.out.trans (vb.mono HV1.out.size))
      obtain ⟨a0, a1, a2, a3, a4, -⟩ := ha.five
      obtain ⟨b0, b1, b2, -⟩ := hb.three
      obtain ⟨C1, cc1, rfl⟩ := hu1.form
      have q1 := (RetZ.qb hu1 ht1 HLF.out).q
      have HC2 := hide (c_zcmp (hx.at_ HV2) q1 (by omega) (by omega))
      rw [HG1.out] at HC2
      go_wp2_with fail
      refine hK.out _ _ ?_ (fun hHeld2 => ?_)
      · (try dsimp only); go_keep
      clear hK K hHeld1
      (try simp only [List.getElem_toArray, List.getElem_cons_succ, List.getElem_cons_zero, Act.put, List.setIfInBounds_toArray, List.set_cons_zero, List.set_cons_succ])
      refine wpAnyH_ready (rs := [9]) (by kernel_rfl) (by simp) ?_
      refine AllReadyH.cons rfl (fun K hK => ?_) AllReadyH.nil
      go_simp
      refine HC2.out.mono ?_
      rintro e v3 ⟨vb, rfl⟩
      have ha := ha.below vb ha.lt
      have hb := hb.below vb hb.lt
      have HV3 := hide (HV2.out.trans (vb.mono HV2.out.size))
      obtain ⟨a0, a1, a2, a3, a4, -⟩ := ha.five
      obtain ⟨b0, b1, b2, -⟩ := hb.three
      clear q1
      go_wp2_with fail
      refine hK.out _ _ ?_ (fun hHeld3 => ?_)
      · (try dsimp only); go_keep
      clear hK K hHeld2
      (try simp only [List.getElem_toArray, List.getElem_cons_succ, List.getElem_cons_zero, Act.put, List.setIfInBounds_toArray, List.set_cons_zero, List.set_cons_succ])
      refine wpAnyH_take (i := 10) (v := ?vrb10) rfl (by kernel_rfl) (by kernel_rfl) (by kernel_rfl) (fun _ _ _ h => h) (Or.inl ⟨by rfl, ?hrb10⟩) hHeld3 ?_
      case hrb10 => (intro w hSw; (try dsimp only at hSw); go_simp; try with_reducible rfl)
      (try simp only [List.getElem_toArray, List.getElem_cons_succ, List.getElem_cons_zero, Act.put, List.setIfInBounds_toArray, List.set_cons_zero, List.set_cons_succ])
      refine wpAnyH_take (i := 11) (v := ?vrb11) rfl (by kernel_rfl) (by kernel_rfl) (by kernel_rfl) (fun _ _ _ h => h) (Or.inl ⟨by rfl, ?hrb11⟩) hHeld3 ?_
      case hrb11 => (intro w hSw; (try dsimp only at hSw); go_simp; try with_reducible rfl)
      (try simp only [List.getElem_toArray, List.getElem_cons_succ, List.getElem_cons_zero, Act.put, List.setIfInBounds_toArray, List.set_cons_zero, List.set_cons_succ])
      refine wpAnyH_take (i := 12) (v := ?vrb12) rfl (by kernel_rfl) (by kernel_rfl) (by kernel_rfl) (fun _ _ _ h => h) (Or.inl ⟨by rfl, ?hrb12⟩) hHeld3 ?_
      case hrb12 => (intro w hSw; (try dsimp only at hSw); go_simp; try with_reducible rfl)
      (try simp only [List.getElem_toArray, List.getElem_cons_succ, List.getElem_cons_zero, Act.put, List.setIfInBounds_toArray, List.set_cons_zero, List.set_cons_succ])
      refine wpAnyH_take (i := 13) (v := undef) rfl (by kernel_rfl) (by kernel_rfl) (by kernel_rfl) (fun _ _ _ h => h) (Or.inr ⟨by rfl, rfl⟩) hHeld3 ?_
      (try simp only [List.getElem_toArray, List.getElem_cons_succ, List.getElem_cons_zero, Act.put, List.setIfInBounds_toArray, List.set_cons_zero, List.set_cons_succ])
      refine wpAnyH_take (i := 14) (v := undef) rfl (by kernel_rfl) (by kernel_rfl) (by kernel_rfl) (fun _ _ _ h => h) (Or.inr ⟨by rfl, rfl⟩) hHeld3 ?_
      (try simp only [List.getElem_toArray, List.getElem_cons_succ, List.getElem_cons_zero, Act.put, List.setIfInBounds_toArray, List.set_cons_zero, List.set_cons_succ])
      refine wpAnyH_take (i := 15) (v := undef) rfl (by kernel_rfl) (by kernel_rfl) (by kernel_rfl) (fun _ _ _ h => h) (Or.inr ⟨by rfl, rfl⟩) hHeld3 ?_
      (try simp only [List.getElem_toArray, List.getElem_cons_succ, List.getElem_cons_zero, Act.put, List.setIfInBounds_toArray, List.set_cons_zero, List.set_cons_succ])
      refine wpAnyH_take (i := 17) (v := undef) rfl (by kernel_rfl) (by kernel_rfl) (by kernel_rfl) (fun _ _ _ h => h) (Or.inr ⟨by rfl, rfl⟩) hHeld3 ?_
      (try simp only [List.getElem_toArray, List.getElem_cons_succ, List.getElem_cons_zero, Act.put, List.setIfInBounds_toArray, List.set_cons_zero, List.set_cons_succ])
      refine wpAnyH_take (i := 18) (v := undef) rfl (by kernel_rfl) (by kernel_rfl) (by kernel_rfl) (fun _ _ _ h => h) (Or.inr ⟨by rfl, rfl⟩) hHeld3 ?_
      (try simp only [List.getElem_toArray, List.getElem_cons_succ, List.getElem_cons_zero, Act.put, List.setIfInBounds_toArray, List.set_cons_zero, List.set_cons_succ])
      refine wpAnyH_ready (rs := [16]) (by kernel_rfl) (by simp) ?_
      refine AllReadyH.cons rfl (fun K hK => ?_) AllReadyH.nil
      go_simp
      refine hK.out _ _ ?_ (fun hHeld4 => ?_)
      · (try dsimp only); go_keep
      clear hK K hHeld3
      (try simp only [List.getElem_toArray, List.getElem_cons_succ, List.getElem_cons_zero, Act.put, List.setIfInBounds_toArray, List.set_cons_zero, List.set_cons_succ])
      refine wpAnyH_ready (rs := [19]) (by kernel_rfl) (by simp) ?_
      refine AllReadyH.cons rfl (fun K hK => ?_) AllReadyH.nil
      go_simp
      refine hK.out _ _ ?_ (fun hHeld5 => ?_)
      · (try dsimp only); go_keep
      clear hK K hHeld4
      (try simp only [List.getElem_toArray, List.getElem_cons_succ, List.getElem_cons_zero, Act.put, List.setIfInBounds_toArray, List.set_cons_zero, List.set_cons_succ])
      refine wpAnyH_ready (rs := [20]) (by kernel_rfl) (by simp) ?_
      refine AllReadyH.cons rfl (fun K hK => ?_) AllReadyH.nil
      go_simp
      refine hK.out _ _ ?_ (fun hHeld6 => ?_)
      · (try dsimp only); go_keep
      clear hK K hHeld5
      (try simp only [List.getElem_toArray, List.getElem_cons_succ, List.getElem_cons_zero, Act.put, List.setIfInBounds_toArray, List.set_cons_zero, List.set_cons_succ])
      refine wpAnyH_take (i := 21) (v := ?vrb21) rfl (by kernel_rfl) (by kernel_rfl) (by kernel_rfl) (fun _ _ _ h => h) (Or.inl ⟨by rfl, ?hrb21⟩) hHeld6 ?_
      case hrb21 => (intro w hSw; (try dsimp only at hSw); go_simp; try with_reducible rfl)
      (try simp only [List.getElem_toArray, List.getElem_cons_succ, List.getElem_cons_zero, Act.put, List.setIfInBounds_toArray, List.set_cons_zero, List.set_cons_succ])
      refine wpAnyH_take (i := 22) (v := ?vrb22) rfl (by kernel_rfl) (by kernel_rfl) (by kernel_rfl) (fun _ _ _ h => h) (Or.inl ⟨by rfl, ?hrb22⟩) hHeld6 ?_
      case hrb22 => (intro w hSw; (try dsimp only at hSw); go_simp; try with_reducible rfl)
      (try simp only [List.getElem_toArray, List.getElem_cons_succ, List.getElem_cons_zero, Act.put, List.setIfInBounds_toArray, List.set_cons_zero, List.set_cons_succ])
      refine wpAnyH_done (by kernel_rfl) ?_ _
      refine NoPanic.normal ?_
      all_goals go_wp2_with fail
      all_goals go_ret
      all_goals exact ⟨HV3.out, by first | rfl | rw [hg2]⟩
    | true =>
      have hr : r = f2 := by rw [HRR.out]; rfl
      subst hr
      go_enter Try.func24, Try.ntmps24
      go_upto_region 1 with (fail)
      rw [← hW]
      clear hW
      have tok0 : True := trivial
      go_region_held3 (fun w' => w'.cell? ⟨w.heap.size, 0, none⟩ = some (.bool n0) ∧ w'.cell? ⟨w.heap.size, 1, none⟩ = some (.slice A0 l0 c0) ∧ w'.cell? ⟨w.heap.size, 2, none⟩ = some (.bool n1) ∧ w'.cell? ⟨w.heap.size, 3, none⟩ = some (.slice A1 l1 c1) ∧ w'.cell? ⟨w.heap.size, 4, none⟩ = some (.int .i64 Q0) ∧ w'.cell? ⟨w.heap.size + 1, 0, none⟩ = some (.bool m) ∧ w'.cell? ⟨w.heap.size + 1, 1, none⟩ = some (.slice B j d) ∧ w'.cell? ⟨w.heap.size + 1, 2, none⟩ = some (.int .i64 e0)) (go_keep)
        (first
          | (go_at_call 13; have _t := tok0; (with_reducible refine HR1.out.mono ?_); rintro e v1 ⟨vb, rfl⟩
             have ha := ha.drew.below vb ha.lt
             have hb := hb.drew.below vb hb.lt
             have HV1 := hide (HBd.out.trans (vb.mono HBd.out.size))
             obtain ⟨a0, a1, a2, a3, a4, -⟩ := ha.five
             obtain ⟨b0, b1, b2, -⟩ := hb.three
             have HC1 := hide (floor_ret Q0 (hz.at_ HV1) hk hx0 hx1)
             rw [HFL.out] at HC1
             clear _t tok0
             have tok1 : True := trivial)
          | (go_at_call 52; have _t := tok1; (with_reducible refine HC1.out.mono ?_); rintro e v2 ⟨vb, u1, t1, rfl, hu1, ht1⟩
             have ha := ha.below vb ha.lt
             have hb := hb.below vb hb.lt
             have HV2 := hide (HV1.out.trans (vb.mono HV1.out.size))
             obtain ⟨a0, a1, a2, a3, a4, -⟩ := ha.five
             obtain ⟨b0, b1, b2, -⟩ := hb.three
             obtain ⟨C1, cc1, rfl⟩ := hu1.form
             have q1 := (RetZ.qb hu1 ht1 HLF.out).q
             have HC2 := hide (c_zcmp (hx.at_ HV2) q1 (by omega) (by omega))
             rw [HG1.out] at HC2
             clear _t tok1
             have tok2 : True := trivial)
          | (go_at_call 10; have _t := tok2; (with_reducible refine HC2.out.mono ?_); rintro e v3 ⟨vb, rfl⟩
             have ha := ha.below vb ha.lt
             have hb := hb.below vb hb.lt
             have HV3 := hide (HV2.out.trans (vb.mono HV2.out.size))
             obtain ⟨a0, a1, a2, a3, a4, -⟩ := ha.five
             obtain ⟨b0, b1, b2, -⟩ := hb.three
             clear q1
             have HC3 := hide (ceil_ret Q0 (hz.at_ HV3) hk hx0 hx1)
             rw [HCE.out] at HC3
             clear _t tok2
             have tok3 : True := trivial)
          | (go_at_call 53; have _t := tok3; (with_reducible refine HC3.out.mono ?_); rintro e v4 ⟨vb, u2, t2, rfl, hu2, ht2⟩
             have ha := ha.below vb ha.lt
             have hb := hb.below vb hb.lt
             have HV4 := hide (HV3.out.trans (vb.mono HV3.out.size))
             obtain ⟨a0, a1, a2, a3, a4, -⟩ := ha.five
             obtain ⟨b0, b1, b2, -⟩ := hb.three
             obtain ⟨C2, cc2, rfl⟩ := hu2.form
             have q2 := (RetZ.qb hu2 ht2 HLC.out).q
             have HC4 := hide (c_zcmp q2 (hy.at_ HV4) (by omega) (by omega))
             rw [HG2.out] at HC4
             clear _t tok3
             have tok4 : True := trivial)
          | (go_at_call 10; have _t := tok4; (with_reducible refine HC4.out.mono ?_); rintro e v5 ⟨vb, rfl⟩
             have ha := ha.below vb ha.lt
             have hb := hb.below vb hb.lt
             have HV5 := hide (HV4.out.trans (vb.mono HV4.out.size))
             obtain ⟨a0, a1, a2, a3, a4, -⟩ := ha.five
             obtain ⟨b0, b1, b2, -⟩ := hb.three
             clear q2
             clear _t tok4
             have tok5 : True := trivial))
      all_goals go_wp2_with fail
      all_goals go_ret
      all_goals exact ⟨HV5.out, by first | rfl | rw [hg2]⟩

end Go.Proofs.Ytnfbngiabdlclaa
