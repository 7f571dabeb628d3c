/- hairlinelaw22.shown: cert.Check of its certificate. hairlinelaw22.shown. hairlinelaw22.CertOnce: its walk. Bytes that came in (without the disk's texts). -/
import Derived.Test.YtnkihnggghfioaaGreatCh4
import Derived.Test.YtnkihnggghfioaaGreatCf1
import Derived.ProofKit
import Derived.OpenShut
import Derived.SizedLaws
import Derived.Test.YtnkihnggghfioaaGreatBy
set_option linter.unusedVariables false
set_option linter.unusedSimpArgs false
namespace Go.Proofs.YtnkihnggghfioaaGreat
section
section
open Go.RowKit Go.Shelf
attribute [local go_sem] Oper.semAt_some
theorem jhc (w : World) (A A' : Option Addr) (c c' : Nat) (hc : c ≤ maxLen) (hc' : c' ≤ maxLen) : Calls Tryz.prog 27 #[.agg #[.bool false, .slice A 0 c, .int .i64 0], .agg #[.bool false, .slice A' 0 c', .int .i64 0]] w fun e w' => Below w.heap.size w w' ∧ e = .returned (.int .i64 0) := by
  have h := jg2 w false false 0 0 (.slice A 0 c) (.slice A' 0 c') [] [] 0 0 (jf4 hc) (jf4 hc') (by decide) (by decide) (by decide) (by decide) (by decide) (by decide); refine h.mono ?_; rintro e w' ⟨h1, rfl⟩; exact ⟨h1, by kernel_rfl⟩
theorem jln (w : World) (v : Value) (hv : Sl w v (cel shC)) : Calls Tryz.prog 6 #[v] w fun e w' => Below w.heap.size w w' ∧ ∃ A c xA xc yA yc, (xc ≤ maxLen ∧ yc ≤ maxLen) ∧ e = .returned (.tuple #[.agg #[.int .i64 0, .int .i64 0, .int .u64 5, .int .u64 6, .int .i64 100], .slice A 0 c, .agg #[.bool false, .slice xA 0 xc, .int .i64 0], .agg #[.bool false, .slice yA 0 yc, .int .i64 0], .int .i64 0]) := by
  refine (jdy w _ rfl v shC hv (by rw [jkd]; decide)).mono ?_; rintro e w' ⟨hB, ⟨hc, -⟩ | ⟨n, A, c, x, y, xA, xc, yA, yc, hc, hcap, rfl⟩⟩
  · rw [jlm] at hc
    cases hc
  · rw [jlm] at hc
    injection hc with hc
    injection hc with h1 h2
    injection h2 with h2 h3
    subst h1 h2 h3; exact ⟨hB, A, c, xA, xc, yA, yc, hcap, by rw [jtj]; rfl⟩
set_option maxRecDepth 100000 in
set_option maxHeartbeats 8000000 in
theorem jke (w : World) (v : Value) (hv : Sl w v (cel shC))
    (hval : ∀ W, Calls Tryz.prog 23 #[.agg #[.int .i64 0, .int .i64 0, .int .u64 5, .int .u64 6, .int .i64 100]] W fun e w' => e = .returned (.int .i64 0) ∧ Below W.heap.size W w')
    (hpat : ∀ W, Calls Tryz.prog 24 #[.agg #[.int .i64 0, .int .i64 0, .int .u64 5, .int .u64 6, .int .i64 100], .int .u64 5] W fun e w' => e = .returned (.int .u64 4607182418800017413) ∧ Below W.heap.size W w') :
    Calls Tryz.prog 8 #[v] w fun e w' => e = .returned (.int .i64 0) ∧ Below w.heap.size w w' := by
  have h1 := jln w v hv; obtain ⟨A0, c0, rfl, -⟩ := id hv
  go_enter Tryz.func8, Tryz.ntmps8
  go_wp2_with fail
  refine h1.mono ?_; clear h1; rintro e w1 ⟨hB1, A, c, xA, xc, yA, yc, ⟨hxc, hyc⟩, rfl⟩
  go_wp2_with fail
  obtain ⟨W2, hW2⟩ : ∃ W2, ((w1.alloc (.cells #[.int .i64 0, .int .i64 0, .int .u64 5, .int .u64 6, .int .i64 100] 27)).alloc (.cells #[.bool false, .slice xA 0 xc, .int .i64 0] 33)).alloc (.cells #[.bool false, .slice yA 0 yc, .int .i64 0] 33) = W2 := ⟨_, rfl⟩; have hB2 : Below w1.heap.size w1 W2 := by rw [← hW2]; exact ((jac _ _).alloc (by rw [World.size_alloc]; omega) _).alloc (by rw [World.size_alloc, World.size_alloc]; omega) _
  have bj : W2.heap[w1.heap.size]? = some (.cells #[.int .i64 0, .int .i64 0, .int .u64 5, .int .u64 6, .int .i64 100] 27) := by rw [← hW2, Below.heap_alloc _ _ _ (by rw [World.size_alloc, World.size_alloc]; omega)]; exact jb4 w1 _ _
  have bx : W2.heap[w1.heap.size + 1]? = some (.cells #[.bool false, .slice xA 0 xc, .int .i64 0] 33) := by rw [← hW2, Below.heap_alloc _ _ _ (by rw [World.size_alloc, World.size_alloc]; omega)]; exact jbv w1 _ _
  have bY : W2.heap[w1.heap.size + 1 + 1]? = some (.cells #[.bool false, .slice yA 0 yc, .int .i64 0] 33) := by
    rw [← hW2]; have := jbv (w1.alloc (.cells #[.int .i64 0, .int .i64 0, .int .u64 5, .int .u64 6, .int .i64 100] 27)) (.cells #[.bool false, .slice xA 0 xc, .int .i64 0] 33) (.cells #[.bool false, .slice yA 0 yc, .int .i64 0] 33)
    rwa [World.size_alloc] at this
  rw [hW2]; have hBB : Below w.heap.size w W2 := hB1.trans (hB2.mono hB1.size); clear hW2 hB2; obtain ⟨B, hBe⟩ : ∃ B, w1.heap.size = B := ⟨_, rfl⟩; rw [hBe] at bj bx bY ⊢; have hs2 : B + 1 + 1 < W2.heap.size := (Array.getElem?_eq_some_iff.1 bY).1; have h3 := hval W2; refine h3.mono ?_; clear h3; rintro e w3 ⟨rfl, hB3⟩; have bj3 : w3.heap[B]? = some (.cells #[.int .i64 0, .int .i64 0, .int .u64 5, .int .u64 6, .int .i64 100] 27) := (hB3.block _ (by omega)).trans bj; have bx3 : w3.heap[B + 1]? = some (.cells #[.bool false, .slice xA 0 xc, .int .i64 0] 33) := (hB3.block _ (by omega)).trans bx; have bY3 : w3.heap[B + 1 + 1]? = some (.cells #[.bool false, .slice yA 0 yc, .int .i64 0] 33) := (hB3.block _ (by omega)).trans bY; have hBB3 : Below w.heap.size w w3 := hBB.trans (hB3.mono hBB.size); have hs3 : B + 1 + 1 < w3.heap.size := (Array.getElem?_eq_some_iff.1 bY3).1; clear hBB hB3 bj bx bY hs2 hval; have hjl : B < w3.heap.size := by omega
  go_upto_region 6 with (fail)
  refine wp_region_noPanic ?_; refine wp_region_held_drew (S := fun w' => Below w3.heap.size w3 w') (by kernel_rfl) ((Below.refl _ _).drew) (fun hHeld => ?_); refine wpAnyH_take (i := 0) (oi := ⟨_, _, _, _, _, _⟩) (v := .agg #[.int .i64 0, .int .i64 0, .int .u64 5, .int .u64 6, .int .i64 100]) rfl (by kernel_rfl) (by kernel_rfl) (by kernel_rfl) (fun _ _ _ h => h) (Or.inl ⟨by rfl, ?_⟩) (by assumption) ?_
  · intro w' hS
    have bj4 := (hS.block _ hjl).trans bj3; have kk0 := jaa (o := 0) (v := .int .i64 0) bj4 rfl; have kk1 := jaa (o := 1) (v := .int .i64 0) bj4 rfl; have kk2 := jaa (o := 2) (v := .int .u64 5) bj4 rfl; have kk3 := jaa (o := 3) (v := .int .u64 6) bj4 rfl; have kk4 := jaa (o := 4) (v := .int .i64 100) bj4 rfl; go_simp
    all_goals rfl
  try simp only [Act.put, List.setIfInBounds_toArray, List.set_cons_zero, List.set_cons_succ]
  refine wpAnyH_take (i := 1) (oi := ⟨_, _, _, _, _, _⟩) (v := .pointer (some ⟨B, 2, none⟩)) rfl (by kernel_rfl) (by kernel_rfl) (by kernel_rfl) (fun _ _ _ h => h) (Or.inl ⟨by rfl, ?_⟩) (by assumption) ?_
  · intro w' hS
    have bj4 := (hS.block _ hjl).trans bj3; have kk0 := jaa (o := 0) (v := .int .i64 0) bj4 rfl; have kk1 := jaa (o := 1) (v := .int .i64 0) bj4 rfl; have kk2 := jaa (o := 2) (v := .int .u64 5) bj4 rfl; have kk3 := jaa (o := 3) (v := .int .u64 6) bj4 rfl; have kk4 := jaa (o := 4) (v := .int .i64 100) bj4 rfl; go_simp
    all_goals rfl
  try simp only [Act.put, List.setIfInBounds_toArray, List.set_cons_zero, List.set_cons_succ]
  refine wpAnyH_take (i := 2) (oi := ⟨_, _, _, _, _, _⟩) (v := .int .u64 5) rfl (by kernel_rfl) (by kernel_rfl) (by kernel_rfl) (fun _ _ _ h => h) (Or.inl ⟨by rfl, ?_⟩) (by assumption) ?_
  · intro w' hS
    have bj4 := (hS.block _ hjl).trans bj3; have kk0 := jaa (o := 0) (v := .int .i64 0) bj4 rfl; have kk1 := jaa (o := 1) (v := .int .i64 0) bj4 rfl; have kk2 := jaa (o := 2) (v := .int .u64 5) bj4 rfl; have kk3 := jaa (o := 3) (v := .int .u64 6) bj4 rfl; have kk4 := jaa (o := 4) (v := .int .i64 100) bj4 rfl; go_simp
    all_goals rfl
  try simp only [Act.put, List.setIfInBounds_toArray, List.set_cons_zero, List.set_cons_succ]
  refine wpAnyH_take (i := 4) (oi := ⟨_, _, _, _, _, _⟩) (v := .agg #[.int .i64 0, .int .i64 0, .int .u64 5, .int .u64 6, .int .i64 100]) rfl (by kernel_rfl) (by kernel_rfl) (by kernel_rfl) (fun _ _ _ h => h) (Or.inl ⟨by rfl, ?_⟩) (by assumption) ?_
  · intro w' hS
    have bj4 := (hS.block _ hjl).trans bj3; have kk0 := jaa (o := 0) (v := .int .i64 0) bj4 rfl; have kk1 := jaa (o := 1) (v := .int .i64 0) bj4 rfl; have kk2 := jaa (o := 2) (v := .int .u64 5) bj4 rfl; have kk3 := jaa (o := 3) (v := .int .u64 6) bj4 rfl; have kk4 := jaa (o := 4) (v := .int .i64 100) bj4 rfl; go_simp
    all_goals rfl
  try simp only [Act.put, List.setIfInBounds_toArray, List.set_cons_zero, List.set_cons_succ]
  refine wpAnyH_take (i := 5) (oi := ⟨_, _, _, _, _, _⟩) (v := .pointer (some ⟨B, 3, none⟩)) rfl (by kernel_rfl) (by kernel_rfl) (by kernel_rfl) (fun _ _ _ h => h) (Or.inl ⟨by rfl, ?_⟩) (by assumption) ?_
  · intro w' hS
    have bj4 := (hS.block _ hjl).trans bj3; have kk0 := jaa (o := 0) (v := .int .i64 0) bj4 rfl; have kk1 := jaa (o := 1) (v := .int .i64 0) bj4 rfl; have kk2 := jaa (o := 2) (v := .int .u64 5) bj4 rfl; have kk3 := jaa (o := 3) (v := .int .u64 6) bj4 rfl; have kk4 := jaa (o := 4) (v := .int .i64 100) bj4 rfl; go_simp
    all_goals rfl
  try simp only [Act.put, List.setIfInBounds_toArray, List.set_cons_zero, List.set_cons_succ]
  refine wpAnyH_take (i := 6) (oi := ⟨_, _, _, _, _, _⟩) (v := .int .u64 6) rfl (by kernel_rfl) (by kernel_rfl) (by kernel_rfl) (fun _ _ _ h => h) (Or.inl ⟨by rfl, ?_⟩) (by assumption) ?_
  · intro w' hS
    have bj4 := (hS.block _ hjl).trans bj3; have kk0 := jaa (o := 0) (v := .int .i64 0) bj4 rfl; have kk1 := jaa (o := 1) (v := .int .i64 0) bj4 rfl; have kk2 := jaa (o := 2) (v := .int .u64 5) bj4 rfl; have kk3 := jaa (o := 3) (v := .int .u64 6) bj4 rfl; have kk4 := jaa (o := 4) (v := .int .i64 100) bj4 rfl; go_simp
    all_goals rfl
  try simp only [Act.put, List.setIfInBounds_toArray, List.set_cons_zero, List.set_cons_succ]
  refine wpAnyH_take (i := 7) (oi := ⟨_, _, _, _, _, _⟩) (v := .int .u64 5) rfl (by kernel_rfl) (by kernel_rfl) (by kernel_rfl) (fun _ _ _ h => h) (Or.inl ⟨by rfl, ?_⟩) (by assumption) ?_
  · intro w' hS
    have bj4 := (hS.block _ hjl).trans bj3; have kk0 := jaa (o := 0) (v := .int .i64 0) bj4 rfl; have kk1 := jaa (o := 1) (v := .int .i64 0) bj4 rfl; have kk2 := jaa (o := 2) (v := .int .u64 5) bj4 rfl; have kk3 := jaa (o := 3) (v := .int .u64 6) bj4 rfl; have kk4 := jaa (o := 4) (v := .int .i64 100) bj4 rfl; go_simp
    all_goals rfl
  try simp only [Act.put, List.setIfInBounds_toArray, List.set_cons_zero, List.set_cons_succ]
  refine wpAnyH_ready (rs := [3]) (by kernel_rfl) (by simp) ?_; refine AllReadyH.cons (o := ⟨_, _, _, _, _, _⟩) rfl (fun K hK => ?_) AllReadyH.nil; go_simp; refine (hpat _).mono ?_; rintro e w4 ⟨rfl, hB4⟩; refine hK.out _ _ (hHeld.trans (hB4.mono hHeld.size)) (fun hHeld => ?_); clear hK K
  try simp only [Act.put, List.setIfInBounds_toArray, List.set_cons_zero, List.set_cons_succ]
  refine wpAnyH_ready (rs := [8]) (by kernel_rfl) (by simp) ?_; refine AllReadyH.cons (o := ⟨_, _, _, _, _, _⟩) rfl (fun K hK => ?_) AllReadyH.nil; go_simp; refine (hpat _).mono ?_; rintro e w5 ⟨rfl, hB5⟩; refine hK.out _ _ (hHeld.trans (hB5.mono hHeld.size)) (fun hHeld => ?_); clear hK K
  try simp only [Act.put, List.setIfInBounds_toArray, List.set_cons_zero, List.set_cons_succ]
  refine wpAnyH_take (i := 9) (oi := ⟨_, _, _, _, _, _⟩) (v := .int .u64 4607182418800017413) rfl (by kernel_rfl) (by kernel_rfl) (by kernel_rfl) (fun _ _ _ h => h) (Or.inl ⟨by rfl, ?_⟩) (by assumption) ?_
  · intro w' hS
    have bj4 := (hS.block _ hjl).trans bj3; have kk0 := jaa (o := 0) (v := .int .i64 0) bj4 rfl; have kk1 := jaa (o := 1) (v := .int .i64 0) bj4 rfl; have kk2 := jaa (o := 2) (v := .int .u64 5) bj4 rfl; have kk3 := jaa (o := 3) (v := .int .u64 6) bj4 rfl; have kk4 := jaa (o := 4) (v := .int .i64 100) bj4 rfl; go_simp
    all_goals rfl
  try simp only [Act.put, List.setIfInBounds_toArray, List.set_cons_zero, List.set_cons_succ]
  refine wpAnyH_take (i := 10) (oi := ⟨_, _, _, _, _, _⟩) (v := .int .u64 4607182418800017413) rfl (by kernel_rfl) (by kernel_rfl) (by kernel_rfl) (fun _ _ _ h => h) (Or.inl ⟨by rfl, ?_⟩) (by assumption) ?_
  · intro w' hS
    have bj4 := (hS.block _ hjl).trans bj3; have kk0 := jaa (o := 0) (v := .int .i64 0) bj4 rfl; have kk1 := jaa (o := 1) (v := .int .i64 0) bj4 rfl; have kk2 := jaa (o := 2) (v := .int .u64 5) bj4 rfl; have kk3 := jaa (o := 3) (v := .int .u64 6) bj4 rfl; have kk4 := jaa (o := 4) (v := .int .i64 100) bj4 rfl; go_simp
    all_goals rfl
  try simp only [Act.put, List.setIfInBounds_toArray, List.set_cons_zero, List.set_cons_succ]
  refine wpAnyH_done (by kernel_rfl) ?_ _; refine NoPanic.normal ?_; have bx5 := (hHeld.block _ (by omega)).trans bx3; have bY5 := (hHeld.block _ (by omega)).trans bY3; have hBB5 : Below w.heap.size w w5 := hBB3.trans (hHeld.mono hBB3.size); have hs5 : B + 1 + 1 < w5.heap.size := (Array.getElem?_eq_some_iff.1 bY5).1; clear hHeld hB5 hB4 bj3 bx3 bY3 hBB3 hs3 hjl hpat
  go_wp2_with fail
  go_loopw [43] (fun i wr => i = .int .i64 0 ∧ wr = w5) (fun _ _ => 0)
  case atStart => exact ⟨rfl, rfl⟩
  case round =>
    obtain ⟨rfl, rfl⟩ := hrel; have h6 := jd5 wr A c
    go_wp2_with fail
    refine h6.mono ?_; clear h6; rintro e w6 ⟨rfl, hB6⟩; have bx6 := (hB6.block _ (by omega)).trans bx5; have bY6 := (hB6.block _ (by omega)).trans bY5; have hs6 := hB6.size
    go_upto_region 18 with (fail)
    obtain ⟨W7, hW7⟩ : ∃ W7, (w6.alloc (.cells #[.bool false, .slice none 0 0, .int .i64 0] 33)).alloc (.cells #[.bool false, .slice none 0 0, .int .i64 0] 33) = W7 := ⟨_, rfl⟩; have hB7 : Below w6.heap.size w6 W7 := by rw [← hW7]; exact (jac _ _).alloc (by rw [World.size_alloc]; omega) _
    have bx7 := (hB7.block _ (by omega)).trans bx6; have bY7 := (hB7.block _ (by omega)).trans bY6; have ba7 : W7.heap[w6.heap.size]? = some (.cells #[.bool false, .slice none 0 0, .int .i64 0] 33) := by rw [← hW7]; exact jb4 w6 _ _
    have bb7 : W7.heap[w6.heap.size + 1]? = some (.cells #[.bool false, .slice none 0 0, .int .i64 0] 33) := by rw [← hW7]; exact jbv w6 _ _
    have hs7 : w6.heap.size + 1 < W7.heap.size := (Array.getElem?_eq_some_iff.1 bb7).1; have hBB7 : Below w.heap.size w W7 := (hBB5.trans (hB6.mono hBB5.size)).trans (hB7.mono (by have := hBB5.size; omega)); have h7 := jhc W7 none xA 0 xc (Nat.zero_le _) hxc; have x0 := jaa (o := 0) (v := .bool false) bx7 rfl; have x1 := jaa (o := 1) (v := .slice xA 0 xc) bx7 rfl; have x2 := jaa (o := 2) (v := .int .i64 0) bx7 rfl; have y0 := jaa (o := 0) (v := .bool false) ba7 rfl; have y1 := jaa (o := 1) (v := .slice none 0 0) ba7 rfl; have y2 := jaa (o := 2) (v := .int .i64 0) ba7 rfl; clear bx5 bY5 bx6 bY6 hB6 hB7 hBB5; rw [hW7]; clear hW7
    go_wp2_with fail
    refine h7.mono ?_; clear h7; rintro e w8 ⟨hB8, rfl⟩; have bb8 := (hB8.block _ (by omega)).trans bb7; have bY8 := (hB8.block _ (by omega)).trans bY7; have h9 := jhc w8 none yA 0 yc (Nat.zero_le _) hyc; have z0 := jaa (o := 0) (v := .bool false) bY8 rfl; have z1 := jaa (o := 1) (v := .slice yA 0 yc) bY8 rfl; have z2 := jaa (o := 2) (v := .int .i64 0) bY8 rfl; have u0 := jaa (o := 0) (v := .bool false) bb8 rfl; have u1 := jaa (o := 1) (v := .slice none 0 0) bb8 rfl; have u2 := jaa (o := 2) (v := .int .i64 0) bb8 rfl; clear x0 x1 x2 y0 y1 y2 bx7 bY7 ba7 bb7
    go_wp2_with fail
    refine h9.mono ?_; clear h9; rintro e w9 ⟨hB9, rfl⟩
    go_wp2_with fail
    go_ret
    exact ⟨rfl, (hBB7.trans (hB8.mono hBB7.size)).trans (hB9.mono (by have := hBB7.size; have := hB8.size; omega))⟩
end
end
section
section
open Go.RowKit Go.Shelf
attribute [local go_sem] Oper.semAt_some
theorem jq2 (w : World) : Calls Tryz.prog 6 #[.slice none 0 0] w fun e w' => Below w.heap.size w w' ∧ e = .returned (.tuple #[.agg #[.int .i64 0, .int .i64 0, .int .u64 0, .int .u64 0, .int .i64 0], .slice none 0 0, .agg #[.bool false, .slice none 0 0, .int .i64 0], .agg #[.bool false, .slice none 0 0, .int .i64 0], .int .i64 7]) := by
  refine (jdy w _ rfl (.slice none 0 0) [] (Sl.nil w) (by decide)).mono ?_; rintro e w' ⟨hB, ⟨hc, rfl⟩ | ⟨n, A, c, x, y, xA, xc, yA, yc, hc, hcap, rfl⟩⟩
  · exact ⟨hB, rfl⟩
  · rw [jq1] at hc
    cases hc
theorem jdz (w : World) (o p q : Obj) : Below w.heap.size w (((w.alloc o).alloc p).alloc q) ∧ (((w.alloc o).alloc p).alloc q).heap[w.heap.size]? = some o := by
  refine ⟨((jac _ _).alloc (by rw [World.size_alloc]; omega) _).alloc (by rw [World.size_alloc, World.size_alloc]; omega) _, ?_⟩; rw [Below.heap_alloc _ _ _ (by rw [World.size_alloc, World.size_alloc]; omega)]; exact jb4 w _ _
set_option maxRecDepth 100000 in
set_option maxHeartbeats 8000000 in
theorem jkf (w : World)
    (hval : ∀ W, Calls Tryz.prog 23 #[.agg #[.int .i64 0, .int .i64 0, .int .u64 5, .int .u64 6, .int .i64 100]] W fun e w' => e = .returned (.int .i64 0) ∧ Below W.heap.size W w')
    (hpat : ∀ W, Calls Tryz.prog 24 #[.agg #[.int .i64 0, .int .i64 0, .int .u64 5, .int .u64 6, .int .i64 100], .int .u64 5] W fun e w' => e = .returned (.int .u64 4607182418800017413) ∧ Below W.heap.size W w') :
    Calls Tryz.prog 4 #[] w fun e w' => e = .returned (.bool true) ∧ Below w.heap.size w w' := by
  obtain ⟨W1, hW1⟩ : ∃ W1, w.alloc (.cells #[.int .i64 0, .int .i64 0, .int .u64 5, .int .u64 6, .int .i64 100] 27) = W1 := ⟨_, rfl⟩; have hB1 : Below w.heap.size w W1 := by rw [← hW1]; exact jac _ _
  have bj : W1.heap[w.heap.size]? = some (.cells #[.int .i64 0, .int .i64 0, .int .u64 5, .int .u64 6, .int .i64 100] 27) := by rw [← hW1]; exact heap_alloc_new w _
  have hs1 : w.heap.size < W1.heap.size := (Array.getElem?_eq_some_iff.1 bj).1; have h1 : Calls Tryz.prog 7 #[.agg #[.int .i64 0, .int .i64 0, .int .u64 5, .int .u64 6, .int .i64 100], .slice none 0 0] W1 fun e w' => ∃ v, e = .returned (.tuple #[v, .int .i64 0]) ∧ Sl w' v (cel shC) ∧ Below W1.heap.size W1 w' := jiy W1 0 64 5 6 100 0 (by decide) (by decide) (by decide) (by decide) (by decide) (by decide) (by decide)
  have j0 : W1.cell? ⟨w.heap.size, 0, none⟩ = some (.int .i64 0) := jaa bj rfl; have j1 : W1.cell? ⟨w.heap.size, 1, none⟩ = some (.int .i64 0) := jaa bj rfl; have j2 : W1.cell? ⟨w.heap.size, 2, none⟩ = some (.int .u64 5) := jaa bj rfl; have j3 : W1.cell? ⟨w.heap.size, 3, none⟩ = some (.int .u64 6) := jaa bj rfl; have j4 : W1.cell? ⟨w.heap.size, 4, none⟩ = some (.int .i64 100) := jaa bj rfl
  go_enter Tryz.func4, Tryz.ntmps4
  go_wp2_with fail
  refine h1.mono ?_; clear h1 hW1 j0 j1 j2 j3 j4; rintro e w2 ⟨v, rfl, hv, hB2⟩; obtain ⟨A0, c0, rfl, -⟩ := id hv; rw [jad, jkd] at hv ⊢; have h3 := jln w2 _ hv
  go_wp2_with fail
  refine h3.mono ?_; clear h3; rintro e w3 ⟨hB3, A, c, xA, xc, yA, yc, hcap, rfl⟩
  go_upto_region 4 with (fail)
  obtain ⟨hB4, bk⟩ := jdz w3 (.cells #[.int .i64 0, .int .i64 0, .int .u64 5, .int .u64 6, .int .i64 100] 27) (.cells #[.bool false, .slice xA 0 xc, .int .i64 0] 33) (.cells #[.bool false, .slice yA 0 yc, .int .i64 0] 33); obtain ⟨W4, hW4⟩ : ∃ W4, ((w3.alloc (.cells #[.int .i64 0, .int .i64 0, .int .u64 5, .int .u64 6, .int .i64 100] 27)).alloc (.cells #[.bool false, .slice xA 0 xc, .int .i64 0] 33)).alloc (.cells #[.bool false, .slice yA 0 yc, .int .i64 0] 33) = W4 := ⟨_, rfl⟩; rw [hW4] at hB4 bk ⊢; clear hW4; have hs2 := hB2.size; have hs3 := hB3.size; have hs4 : w3.heap.size < W4.heap.size := (Array.getElem?_eq_some_iff.1 bk).1; have bj4 := (hB4.block _ (by omega)).trans ((hB3.block _ (by omega)).trans ((hB2.block _ hs1).trans bj)); have hv4 := (hv.over hB3).over hB4; have hBB4 : Below w.heap.size w W4 := ((hB1.trans (hB2.mono hB1.size)).trans (hB3.mono (by omega))).trans (hB4.mono (by omega)); have h5 := jq2 W4; clear hB1 hB2 hB3 hB4 bj hv
  go_wp2_with fail
  refine h5.mono ?_; clear h5; rintro e w5 ⟨hB5, rfl⟩
  go_upto_region 5 with (fail)
  obtain ⟨hB6, -⟩ := jdz w5 (.cells #[.int .i64 0, .int .i64 0, .int .u64 0, .int .u64 0, .int .i64 0] 27) (.cells #[.bool false, .slice none 0 0, .int .i64 0] 33) (.cells #[.bool false, .slice none 0 0, .int .i64 0] 33); obtain ⟨W6, hW6⟩ : ∃ W6, ((w5.alloc (.cells #[.int .i64 0, .int .i64 0, .int .u64 0, .int .u64 0, .int .i64 0] 27)).alloc (.cells #[.bool false, .slice none 0 0, .int .i64 0] 33)).alloc (.cells #[.bool false, .slice none 0 0, .int .i64 0] 33) = W6 := ⟨_, rfl⟩; rw [hW6] at hB6 ⊢; clear hW6; have hs5 := hB5.size; have bj6 := (hB6.block _ (by omega)).trans ((hB5.block _ (by omega)).trans bj4); have bk6 := (hB6.block _ (by omega)).trans ((hB5.block _ (by omega)).trans bk); have hv6 := (hv4.over hB5).over hB6; have hBB6 : Below w.heap.size w W6 := (hBB4.trans (hB5.mono (by omega))).trans (hB6.mono (by omega)); have h7 := jke W6 _ hv6 hval hpat; clear hB5 hB6 hBB4 hv4 hv6 bj4 bk hval hpat; have j0 : W6.cell? ⟨w.heap.size, 0, none⟩ = some (.int .i64 0) := jaa bj6 rfl; have j1 : W6.cell? ⟨w.heap.size, 1, none⟩ = some (.int .i64 0) := jaa bj6 rfl; have j2 : W6.cell? ⟨w.heap.size, 2, none⟩ = some (.int .u64 5) := jaa bj6 rfl; have j3 : W6.cell? ⟨w.heap.size, 3, none⟩ = some (.int .u64 6) := jaa bj6 rfl; have j4 : W6.cell? ⟨w.heap.size, 4, none⟩ = some (.int .i64 100) := jaa bj6 rfl; have k0 : W6.cell? ⟨w3.heap.size, 0, none⟩ = some (.int .i64 0) := jaa bk6 rfl; have k1 : W6.cell? ⟨w3.heap.size, 1, none⟩ = some (.int .i64 0) := jaa bk6 rfl; have k2 : W6.cell? ⟨w3.heap.size, 2, none⟩ = some (.int .u64 5) := jaa bk6 rfl; have k3 : W6.cell? ⟨w3.heap.size, 3, none⟩ = some (.int .u64 6) := jaa bk6 rfl; have k4 : W6.cell? ⟨w3.heap.size, 4, none⟩ = some (.int .i64 100) := jaa bk6 rfl; clear bj6 bk6
  go_wp2_with fail
  refine h7.mono ?_; clear h7; rintro e w7 ⟨rfl, hB7⟩
  go_wp2_with fail
  go_ret
  exact ⟨rfl, hBB6.trans (hB7.mono hBB6.size)⟩
end
end
section
section
open Go.RowKit Go.Shelf
attribute [local go_sem] Oper.semAt_some
theorem jvf {w : World} {base g n c : Nat} {b : List UInt8} (hown : w.ownsRow base 5 1 (.slice (some ⟨g, 0, none⟩) n c) n (cel b)) (hb : b.length = n) {k : Nat} (hk : k < n) (x : UInt8) :
    Sl (w.setCell ⟨g, k, none⟩ (.int .u8 (x.toNat : Int))) (.slice (some ⟨g, 0, none⟩) n c) (cel (b.set k x)) := by
  obtain ⟨A, c', he, h1, h2, -, h4⟩ := Sl.own hown; rw [jad, hb] at he h1 h4; injection he with e1 e2 e3
  subst e3; obtain ⟨g', o', e4, h5, h6⟩ := h4 (by omega); rw [← e1] at e4; injection e4 with e4
  injection e4 with e5 e6
  subst e5 e6; refine ⟨_, c, by rw [jad, List.length_set, hb], by rw [jad, List.length_set, hb]; exact h1, h2, fun e => (by cases e), fun _ => ⟨g, 0, rfl, by rw [jee]; exact h5, fun j u hu => ?_⟩⟩; unfold cel at hu; rw [List.getElem?_map, List.getElem?_set] at hu
  by_cases hj : k = j
  · subst hj
    rw [if_pos rfl, if_pos (by omega)] at hu; injection hu with hu
    rw [Nat.zero_add, World.cell?_setCell_same' _ _ _ (by
      obtain ⟨y, hy⟩ : ∃ y, b[k]? = some y := ⟨_, List.getElem?_eq_getElem (by omega)⟩; have := h6 k (oct y) (by unfold cel; rw [List.getElem?_map, hy]; rfl); rw [Nat.zero_add] at this; rw [this]; rfl), ← hu]
    rfl
  · rw [if_neg hj] at hu
    rw [je8 (fun e => hj (by injection e with e1 e2; omega))]; exact h6 j u (by unfold cel; rw [List.getElem?_map]; exact hu)
def RdAny (k : Int) (e : Ending) : Prop := ∃ (a0 a1 a2 a3 a4 : Int) (A : Option Addr) (n c : Nat) (x0 : Bool) (xA : Option Addr) (x1 xc : Nat) (x2 : Int) (y0 : Bool) (yA : Option Addr) (y1 yc : Nat) (y2 : Int), e = .returned (.tuple #[.agg #[.int .i64 a0, .int .i64 a1, .int .u64 a2, .int .u64 a3, .int .i64 a4], .slice A n c, .agg #[.bool x0, .slice xA x1 xc, .int .i64 x2], .agg #[.bool y0, .slice yA y1 yc, .int .i64 y2], .int .i64 k])
theorem jf7 (w : World) (v : Value) (l : List UInt8) (hv : Sl w v (cel l)) (hll : l.length ≤ 100000) (h : certP l = none) : Calls Tryz.prog 6 #[v] w fun e w' => Below w.heap.size w w' ∧ RdAny 7 e := by
  refine (jdy w _ rfl v l hv hll).mono ?_; rintro e w' ⟨hB, ⟨hc, rfl⟩ | ⟨n, A, c, x, y, xA, xc, yA, yc, hc, hcap, rfl⟩⟩
  · exact ⟨hB, _, _, _, _, _, _, _, _, _, _, _, _, _, _, _, _, _, _, rfl⟩
  · rw [h] at hc
    cases hc
theorem jiz (w : World) (v : Value) (l : List UInt8) (hv : Sl w v (cel l)) (hll : l.length ≤ 100000) {r : Nat × Dy × Dy} (h : certP l = some r) : Calls Tryz.prog 6 #[v] w fun e w' => Below w.heap.size w w' ∧ RdAny 0 e := by
  refine (jdy w _ rfl v l hv hll).mono ?_; rintro e w' ⟨hB, ⟨hc, rfl⟩ | ⟨n, A, c, x, y, xA, xc, yA, yc, hc, hcap, rfl⟩⟩
  · rw [h] at hc
    cases hc
  · exact ⟨hB, _, _, _, _, _, _, _, _, _, _, _, _, _, _, _, _, _, _, rfl⟩
set_option maxRecDepth 100000 in
set_option maxHeartbeats 8000000 in
theorem jn9 (w : World) (v : Value) (l : List UInt8) (hv : Sl w v (cel l)) (hl : l.length ≤ 140737488351232) (at_ : Int) (hat : -9223372036854775808 ≤ at_ ∧ at_ ≤ 9223372036854775807) (x : UInt8) (xi : Int) (hxi : xi = (x.toNat : Int))
    (hhead : ∀ W, Calls Tryz.prog 4 #[] W fun e w' => e = .returned (.bool true) ∧ Below W.heap.size W w') :
    Calls Tryz.prog 3 #[v, .int .i64 at_, .int .u8 xi] w fun e w' => e = .returned (.bool true) ∧ Below w.heap.size w w' := by
  obtain ⟨i0, hi, hz0, hz1, hz2⟩ := info_parts inf1
  obtain ⟨A, c, rfl, hcc⟩ : ∃ A c, v = .slice A l.length c ∧ l.length ≤ c ∧ c ≤ maxLen := by
    obtain ⟨A, c, rfl, h1, h2, -⟩ := hv; rw [jad] at h1; exact ⟨A, c, by rw [jad], h1, h2⟩
  obtain ⟨L, hL⟩ : ∃ L, l.length = L := ⟨_, rfl⟩; rw [hL] at hv hl hcc ⊢; obtain ⟨q, hq⟩ : ∃ q, l.take 4000 = q := ⟨_, rfl⟩; have hql : q.length = min 4000 L := by rw [← hq, List.length_take, hL]
  have hq4 : q.length ≤ 4000 := by omega
  have hlq : L ≤ 4000 → l = q := fun h => by rw [← hq, List.take_of_length_le (by omega)]
  have hql2 : ¬L ≤ 4000 → q.length = 4000 := fun h => by omega
  have hL0 : (L : Int) ≤ 140737488351232 := by omega
  have hLc : (L : Int) ≤ (c : Int) := by omega
  have hcm : (c : Int) ≤ 9223372036854775807 := by have := hcc.2; simp only [maxLen] at this; omega
  have hfst := hv.first 4000; rw [jad, show (cel l).take 4000 = cel (l.take 4000) by unfold cel; rw [List.map_take], hq] at hfst; have h1 := hhead w; have HQL := hideK hql; have HL := hideK hL; clear hql hL hq hcc
  go_enter Tryz.func3, Tryz.ntmps3
  go_wp2_with fail
  refine h1.mono ?_; clear h1; rintro e w1 ⟨rfl, hB1⟩; have hv1 : Sl w1 (.slice A L c) (cel l) := hv.over hB1; have hf1 : L ≥ 4000 → Sl w1 (.slice A 4000 c) (cel q) := fun h => (hfst (by rw [HL.out]; exact h)).over hB1
  clear hv hfst hhead
  go_upto_if 28 with (fail)
  go_cut [0] (fun y wx => ∃ A2 c2, y = .slice A2 q.length c2 ∧ Sl w1 y (cel q) ∧ wx = w1)
  case first =>
    by_cases h4 : L ≤ 4000
    · have h4i : ¬(4000 : Int) < (L : Int) := by omega
      have hlq2 := hideK (hlq h4)
      go_wp2_with fail
      go_meet
      refine ⟨A, c, ?_, ?_, rfl⟩
      · rw [← hlq2.out, HL.out]
      · rw [← hlq2.out]; exact hv1
    · have h4i : (4000 : Int) < (L : Int) := by omega
      have h5 := hf1 (by omega); have h6 := hideK (hql2 h4); have h4c : (4000 : Int) ≤ (c : Int) := by omega
      clear hf1 hql2 hlq h4
      go_wp2_with fail
      go_meet
      exact ⟨A, c, by rw [h6.out], h5, rfl⟩
  case rest =>
    obtain ⟨A2, c2, rfl, hv2, rfl⟩ := hcut; have h7 := jei wc _ q hv2 (by omega); clear hf1 hql2 hlq hv1 HQL
    go_wp2_with fail
    refine h7.mono ?_; clear h7; rintro e w2 ⟨v2, rfl, hv3, hB3, -⟩
    obtain ⟨A3, c3, rfl, hc3⟩ : ∃ A c, v2 = .slice A (rgt q).length c ∧ (rgt q).length ≤ c ∧ c ≤ maxLen := by
      obtain ⟨A, c, rfl, h1, h2, -⟩ := hv3; rw [jad] at h1; exact ⟨A, c, by rw [jad], h1, h2⟩
    have hrl : (rgt q).length = q.length := by
      unfold rgt
      split
      · rfl
      · rw [List.length_append, List.length_take, ja9]; omega
    obtain ⟨b, hb⟩ : ∃ b, rgt q = b := ⟨_, rfl⟩; rw [hb] at hv3 hc3 hrl ⊢; have hb4 : b.length ≤ 4000 := by omega
    have hBB2 : Below w.heap.size w w2 := hB1.trans (hB3.mono hB1.size); clear hb hrl hv2 hB1 hB3 hq4
    cases hr : certP b with
    | none =>
      have h8 := jf7 w2 _ b hv3 (by omega) hr; clear hr
      go_wp2_with fail
      refine h8.mono ?_; clear h8; rintro e w3 ⟨hB3, a0, a1, a2, a3, a4, Aj, nj, cj, x0, xA, x1, xc, x2, y0, yA, y1, yc, y2, rfl⟩
      go_wp2_with fail
      go_ret
      exact ⟨rfl, (((hBB2.trans (hB3.mono hBB2.size)).alloc (by have := hBB2.size; have := hB3.size; omega) _).alloc (by rw [World.size_alloc]; have := hBB2.size; have := hB3.size; omega) _).alloc (by rw [World.size_alloc, World.size_alloc]; have := hBB2.size; have := hB3.size; omega) _⟩
    | some r =>
      have h8 := jiz w2 _ b hv3 (by omega) hr; have HR := hideK hr; have h68 := (jdh hr).1; clear hr
      go_wp2_with fail
      refine h8.mono ?_; clear h8; rintro e w3 ⟨hB3, a0, a1, a2, a3, a4, Aj, nj, cj, x0, xA, x1, xc, x2, y0, yA, y1, yc, y2, rfl⟩; have hlb : ((b.length : Int) == 0) = false := by rw [beq_eq_false_iff_ne]; omega
      go_upto_if 54 with (fail)
      obtain ⟨hB4, -⟩ := jdz w3 (.cells #[.int .i64 a0, .int .i64 a1, .int .u64 a2, .int .u64 a3, .int .i64 a4] 27) (.cells #[.bool x0, .slice xA x1 xc, .int .i64 x2] 33) (.cells #[.bool y0, .slice yA y1 yc, .int .i64 y2] 33); obtain ⟨W4, hW4⟩ : ∃ W4, ((w3.alloc (.cells #[.int .i64 a0, .int .i64 a1, .int .u64 a2, .int .u64 a3, .int .i64 a4] 27)).alloc (.cells #[.bool x0, .slice xA x1 xc, .int .i64 x2] 33)).alloc (.cells #[.bool y0, .slice yA y1 yc, .int .i64 y2] 33) = W4 := ⟨_, rfl⟩; rw [hW4] at hB4 ⊢; clear hW4 hlb; have hv4 := (hv3.over hB3).over hB4; have hBB4 : Below w.heap.size w W4 := (hBB2.trans (hB3.mono hBB2.size)).trans (hB4.mono (by have := hBB2.size; have := hB3.size; omega)); clear hB3 hB4 hv3 hBB2
      go_cut [1] (fun y wx => ∃ a : Nat, y = .int .i64 (a : Int) ∧ (a : Int) ≤ 9223372036854775807 ∧ wx = W4)
      case first =>
        by_cases h0 : at_ < 0
        · go_wp2_with fail
          go_meet
          exact ⟨(-(at_ + 1)).toNat, by rw [Int.toNat_of_nonneg (by omega)], by omega, rfl⟩
        · obtain ⟨a, rfl⟩ : ∃ a : Nat, at_ = (a : Int) := ⟨at_.toNat, by omega⟩
          go_wp2_with fail
          go_meet
          exact ⟨a, rfl, hat.2, rfl⟩
      case rest =>
        obtain ⟨a, rfl, ha, rfl⟩ := hcut; obtain ⟨n, hn⟩ : ∃ n, b.length = n := ⟨_, rfl⟩; rw [hn] at hv4 hc3 hb4 h68; have HN := hideK hn; have hn0 : ¬(n : Int) = 0 := by omega
        have ha0 : (0 : Int) ≤ (a : Int) := by omega
        have hnp : (0 : Int) < (n : Int) := by omega
        have hnc : (n : Int) ≤ 4000 := by omega
        rw [hn]; clear hn
        go_wp2_with (at_builtin; refine jcq rfl _ _ 22 rfl wc.heap.size 5 i0 (.int .u8 0) 1 Tryz.underlying22 hi hz0 hz1 hz2 rfl _ 0 [] rfl (World.ownsRow_made wc #[] 0 (Nat.le_refl _) (Nat.zero_le _) rfl) _ (cel b) rfl (hv4.over (jac wc _)) (jd7 _) ?c5 ?c6 ?c7 ?_)
        case c5 => simp only [maxLen, jad, HN.out]; omega
        case c6 => rw [jad, HN.out]; omega
        case c7 => simp
        intro v5 w5 hown hgrow hnil; have hlt := hown.lt
        have hB5 : Below wc.heap.size wc w5 := (jac wc _).grown hgrow (by rw [World.size_alloc]; omega) (fun q hq => (by
          obtain rfl : wc.heap.size = q := by simpa [Value.ownBlock] using hq
          exact Nat.le_refl _))
        rw [jad, HN.out] at hown; obtain ⟨g5, c5, rfl, -⟩ := hown.form (by omega); obtain ⟨k, hk⟩ : ∃ k : Nat, (a : Int) % (n : Int) = (k : Int) := ⟨a % n, by omega⟩; have hkn : k < n := by have := Int.emod_lt_of_pos (a : Int) hnp; omega
        have hki : (k : Int) < (n : Int) := by omega
        have hk0 : (0 : Int) ≤ (k : Int) := by omega
        obtain ⟨y, hy⟩ : ∃ y, b[k]? = some y := ⟨_, List.getElem?_eq_getElem (by rw [HN.out]; exact hkn)⟩
        have hcell : w5.cell? ⟨g5, k, none⟩ = some (.int .u8 (y.toNat : Int)) := by
          have := hown.cells (g := g5) rfl k (oct y) (by unfold cel; rw [List.getElem?_map, hy]; rfl); rw [Addr.add_lit, Nat.zero_add] at this; exact this
        have hfz : w5.frozen? ⟨g5, k, none⟩ = false := jg5 hown g5 rfl k; have hs6 := jvf hown HN.out hkn x; have hO6 : Onl g5 w5 (w5.setCell ⟨g5, k, none⟩ (.int .u8 (x.toNat : Int))) := only_set; obtain ⟨w6, hw6⟩ : ∃ u, w5.setCell ⟨g5, k, none⟩ (.int .u8 (x.toNat : Int)) = u := ⟨_, rfl⟩; rw [hw6] at hs6 hO6; have hB6 : Below wc.heap.size wc w6 := hB5.trans (hO6.below (hlt g5 rfl).1); have hBB6 : Below w.heap.size w w6 := hBB4.trans (hB6.mono hBB4.size); have hv6 : Sl w6 (.slice A3 n c3) (cel b) := hv4.over hB6; have HY := hideK hy; subst hxi; clear hB5 hB6 hO6 hv4 hBB4 hown hlt hnil hgrow hy; obtain ⟨kk, hkk⟩ : ∃ kk : Int, kk = if x = y then 0 else 7 := ⟨_, rfl⟩
        have h14 : Calls Tryz.prog 6 #[.slice (some ⟨g5, 0, none⟩) n c5] w6 fun e w' => Below w6.heap.size w6 w' ∧ RdAny kk e := by
          by_cases hxy : x = y
          · rw [hkk, if_pos hxy]
            refine jiz w6 _ (b.set k x) hs6 (by rw [List.length_set, HN.out]; omega) (r := r) ?_
            rw [show b.set k x = b by
              apply List.ext_getElem?; intro j; rw [List.getElem?_set]
              split
              · rename_i hj
                subst hj; rw [if_pos (by rw [HN.out]; exact hkn), HY.out, hxy]
              · rfl, HR.out]
          · rw [hkk, if_neg hxy]
            exact jf7 w6 _ (b.set k x) hs6 (by rw [List.length_set, HN.out]; omega) (jn6 HR.out (by rw [HN.out]; exact hkn) fun e => hxy (by rw [HY.out] at e; injection e with e; exact e.symm))
        have HKK := hideK hkk; clear hkk hs6
        go_upto_region 14 with (fail)
        clear hw6 hcell hfz
        go_wp2_with fail
        refine h14.mono ?_; clear h14; rintro e w7 ⟨hB7, p0, p1, p2, p3, p4, Ap, np, cp, z0, zA, z1, zc, z2, s0, sA, s1, sc, s2, rfl⟩
        go_upto_region 15 with (fail)
        obtain ⟨hB8, -⟩ := jdz w7 (.cells #[.int .i64 p0, .int .i64 p1, .int .u64 p2, .int .u64 p3, .int .i64 p4] 27) (.cells #[.bool z0, .slice zA z1 zc, .int .i64 z2] 33) (.cells #[.bool s0, .slice sA s1 sc, .int .i64 s2] 33); obtain ⟨W8, hW8⟩ : ∃ W8, ((w7.alloc (.cells #[.int .i64 p0, .int .i64 p1, .int .u64 p2, .int .u64 p3, .int .i64 p4] 27)).alloc (.cells #[.bool z0, .slice zA z1 zc, .int .i64 z2] 33)).alloc (.cells #[.bool s0, .slice sA s1 sc, .int .i64 s2] 33) = W8 := ⟨_, rfl⟩; rw [hW8] at hB8 ⊢; clear hW8; have hv8 := (hv6.over hB7).over hB8; have hBB8 : Below w.heap.size w W8 := (hBB6.trans (hB7.mono hBB6.size)).trans (hB8.mono (by have := hBB6.size; have := hB7.size; omega)); clear hB7 hB8 hv6 hBB6
        go_wp2_with (at_builtin; refine jcq rfl _ _ 22 rfl W8.heap.size 5 i0 (.int .u8 0) 1 Tryz.underlying22 hi hz0 hz1 hz2 rfl _ 0 [] rfl (World.ownsRow_made W8 #[] 0 (Nat.le_refl _) (Nat.zero_le _) rfl) _ (cel b) rfl (hv8.over (jac W8 _)) (jd7 _) ?d5 ?d6 ?d7 ?_)
        case d5 => simp only [maxLen, jad, HN.out]; omega
        case d6 => rw [jad, HN.out]; omega
        case d7 => simp
        intro v9 w9 hown hgrow hnil; have hlt := hown.lt
        have hB9 : Below W8.heap.size W8 w9 := (jac W8 _).grown hgrow (by rw [World.size_alloc]; omega) (fun q hq => (by
          obtain rfl : W8.heap.size = q := by simpa [Value.ownBlock] using hq
          exact Nat.le_refl _))
        rw [jad, HN.out] at hown; obtain ⟨g9, c9, rfl, -⟩ := hown.form (by omega); have hrow2 := jaf (w' := w9.alloc (.cells #[.int .u8 0] 5)) hown fun b hb => Below.heap_alloc _ _ _ (hlt b hb).2
        clear hgrow hnil hown hv8
        go_wp2_with (at_builtin; refine jcq rfl _ _ 22 rfl W8.heap.size 5 i0 (.int .u8 0) 1 Tryz.underlying22 hi hz0 hz1 hz2 rfl _ n (cel b) rfl hrow2 _ (cel [0]) rfl (jj8 w9 0 0 rfl (0, 0)) (jd7 _) ?e5 ?e6 ?e7 ?_)
        case e5 => simp only [maxLen, jad, List.length_singleton]; omega
        case e6 => simp only [jad, List.length_singleton]; omega
        case e7 => have := hB9.size; simp; omega
        intro v10 w10 hown hgrow hnil; have hB10 : Below W8.heap.size W8 w10 := (hB9.alloc (by have := hB9.size; omega) _).grown hgrow (by rw [World.size_alloc]; have := hB9.size; omega) (fun q hq => (hlt q hq).1)
        have hsl10 : Sl w10 v10 (cel (b ++ [0])) := by
          have := Sl.own hown
          rwa [show cel b ++ cel [0] = cel (b ++ [0]) by unfold cel; rw [List.map_append]] at this
        obtain ⟨A10, c10, rfl⟩ := jbn hown; have hBB10 : Below w.heap.size w w10 := hBB8.trans (hB10.mono hBB8.size); have h16 := jei w10 _ (b ++ [0]) hsl10 (by rw [List.length_append, HN.out]; simp; omega); have hmore := jm7 HR.out 0
        have hrl : (rgt (b ++ [0])).length ≤ 100000 := by
          unfold rgt
          split
          · rw [List.length_append, HN.out]; simp; omega
          · rw [List.length_append, List.length_take, ja9, List.length_append, HN.out]; simp; omega
        obtain ⟨d, hd⟩ : ∃ d, rgt (b ++ [0]) = d := ⟨_, rfl⟩; rw [hd] at h16 hmore hrl; clear hd hgrow hnil hown hB9 hrow2 hlt hsl10 hB10 hBB8
        go_wp2_with fail
        refine h16.mono ?_; clear h16; rintro e w11 ⟨v11, rfl, hv11, hB11, -⟩
        obtain ⟨A11, m11, c11, rfl⟩ : ∃ A m c, v11 = .slice A m c := by
          obtain ⟨A, c, rfl, -⟩ := hv11; exact ⟨_, _, _, rfl⟩
        have h17 := jf7 w11 _ d hv11 hrl hmore; have hBB11 : Below w.heap.size w w11 := hBB10.trans (hB11.mono hBB10.size); clear hv11 hrl hmore hB11 hBB10
        go_wp2_with fail
        refine h17.mono ?_; clear h17; rintro e w12 ⟨hB12, p0, p1, p2, p3, p4, Ap, np, cp, z0, zA, z1, zc, z2, s0, sA, s1, sc, s2, rfl⟩; have hBB12 : Below w.heap.size w w12 := hBB11.trans (hB12.mono hBB11.size); have hs12 := hBB12.size; have hBBf := ((hBB12.alloc (by omega) (.cells #[.int .i64 p0, .int .i64 p1, .int .u64 p2, .int .u64 p3, .int .i64 p4] 27)).alloc (by rw [World.size_alloc]; omega) (.cells #[.bool z0, .slice zA z1 zc, .int .i64 z2] 33)).alloc (by rw [World.size_alloc, World.size_alloc]; omega) (.cells #[.bool s0, .slice sA s1 sc, .int .i64 s2] 33); clear hB12 hBB12 hBB11 hs12
        by_cases hxy : x = y
        · subst hxy
          obtain rfl : kk = 0 := by rw [HKK.out, if_pos rfl]
          go_wp2_with fail
          go_ret
          exact ⟨rfl, hBBf⟩
        · obtain rfl : kk = 7 := by rw [HKK.out, if_neg hxy]
          have hxy2 : ((x.toNat : Int) == (y.toNat : Int)) = false := by
            rw [beq_eq_false_iff_ne]; exact fun e => hxy (UInt8.toNat_inj.1 (by omega))
          clear hxy
          go_wp2_with fail
          go_ret
          exact ⟨rfl, hBBf⟩
end
end
section
section
open Go.RowKit Go.ChangeShapes Go.WideShapes
section
variable {H : Type} {enc : TypeId × Value → H} {w : World} {base : Nat} {held : Bool}
theorem jkg {a : Addr} {len cap : Nat} {us : List Value} (hl : us.length = len) (hc : len ≤ cap) (hm : cap ≤ maxLen) (h : ∀ j u, us[j]? = some u → w.cell? (a.add j) = some u) : Sl w (.slice (some a) len cap) us := by
  refine ⟨some a, cap, by rw [hl], by omega, hm, fun h => (by cases h), fun h0 => ?_⟩; obtain ⟨u, hu⟩ : ∃ u, us[0]? = some u := ⟨_, List.getElem?_eq_getElem h0⟩; have h00 := h 0 u hu; have hspot : (a.add 0).spot = none := World.cell?_spot h00; obtain ⟨b, off, spot⟩ := a; obtain rfl : spot = none := by simpa [Addr.add] using hspot
  refine ⟨b, off, rfl, ?_, fun j v hj => ?_⟩
  · have := World.block_lt_of_cell? _ _ h00
    simpa [Addr.add] using this
  · have := h j v hj
    rwa [Addr.add_lit] at this
theorem jhd {x : Int} (h : (Lit.int .u8 x).wf = true) : 0 ≤ x ∧ x < 256 := by
  simp [Lit.wf, IntKind.min, IntKind.max, IntKind.bits, IntKind.signed] at h
  omega
theorem jm8 {spare : Nat → Bool} {fuel : Nat} {c : Value} {x : DataW H × List MemPlace} (h : DataW.trod enc Tryz.prog w base spare held fuel 22 [c] = some x) :
    ∃ l : List UInt8, Sl w c (cel l) ∧ ((x.1 = .nil ∧ l = []) ∨ ∃ es ss, x.1 = .slice es ss ∧ l.length ≤ es.length + ss.length) := by
  rcases open_ints Tryz.underlying22 Tryz.underlying5 (by kernel_rfl) h with ⟨hcs, rfl⟩ | ⟨a, len, cap, zs, hcs, -, hl, hm, hz, rfl, hcell, hwz⟩
  · injection hcs with hcs
    subst hcs; exact ⟨[], Sl.nil w, .inl ⟨rfl, rfl⟩⟩
  · injection hcs with hcs
    subst hcs; have hzl : len ≤ zs.length := by rw [hz]; split <;> omega
    refine ⟨(zs.take len).map fun n => UInt8.ofNat n.toNat, jkg (by simp [cel]; omega) hl hm fun j u hu => ?_, .inr ⟨_, _, rfl, by simp [lits]⟩⟩; unfold cel at hu; rw [List.map_map, List.getElem?_map, List.getElem?_take] at hu
    split at hu
    · rename_i hj
      have hj2 : j < zs.length := by omega
      rw [List.getElem?_eq_getElem hj2] at hu
      cases hu
      rw [hcell j hj2]; have hb := jhd (hwz _ (List.getElem_mem hj2)); simp only [List.getD, List.getElem?_eq_getElem hj2, Option.getD_some, Function.comp, oct]
      congr 2
      rw [UInt8.toNat_ofNat', Nat.mod_eq_of_lt (by omega)]
      omega
    · cases hu
end
end
end
end Go.Proofs.YtnkihnggghfioaaGreat