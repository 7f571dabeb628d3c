/- The document's disk: Arm, Read. -/
import Derived.Test.YtdlokmlcdlcfaaaRf22
set_option linter.unusedVariables false
set_option linter.unusedSimpArgs false
namespace Go.Proofs.Ytdlokmlcdlcfaaa
open Go.RowKit Go.MapKept
set_option maxRecDepth 100000 in
set_option maxHeartbeats 4000000 in
theorem rarm_calls {w : World} {R : Nat} {F : Nat → Prop} {d : DS} (h : RefAt w R F d) (n : Int) (hn : n ≤ 9223372036854775807) (v : Value) (keep : List Bool) (hv : Sl w v (keep.map Value.bool)) (hvR : 0 < keep.length → ∀ b, v.ownBlock = some b → b ≠ R) (hl : keep.length ≤ 140737488355328) :
    Calls Try.prog 37 #[.pointer (some ⟨R, 0, none⟩), .int .i64 n, v] w fun e w' => e = .returned (.tuple #[]) ∧ RLeaves F w w' R (d.arm n keep) := by
  obtain ⟨i0, hi, hz0, hz1, hz2⟩ := info_parts infb
  obtain ⟨us, hus⟩ : ∃ us, us = keep.map Value.bool := ⟨_, rfl⟩
  have hone : ∀ u ∈ us, u.oneCell' = true := by
    intro u hu
    rw [hus] at hu
    obtain ⟨x, -, rfl⟩ := List.mem_map.1 hu
    rfl
  have hcl : us.length = keep.length := by rw [hus, List.length_map]
  rw [← hus] at hv
  obtain ⟨x, hx⟩ : ∃ x : Int, (if 0 < n then n else 0) = x := ⟨_, rfl⟩
  have hx0 : 0 ≤ x ∧ x ≤ 9223372036854775807 := by rw [← hx]; split <;> omega
  have hlt := h.lt
  have hs := rset_left h x hx0
  obtain ⟨fv, lv, kv, hM, ho, fR, ff, fl, fk, -⟩ := hs
  have hz4 := frozen_row hM.box 4
  obtain ⟨_, _, _, c3, c4⟩ := hM.cell
  have hzl : w.frozen? ⟨R, 3, none⟩ = false := by obtain ⟨_, _, _, _, _, _, _, _, z, -⟩ := h.cells; exact z 3
  have hc3 : ∃ u, w.cell? ⟨R, 3, none⟩ = some u := by obtain ⟨_, _, _, _, _, _, h3, _⟩ := h.cells; exact ⟨_, h3⟩
  obtain ⟨u3, hc3⟩ := hc3
  have hRl : R < w.heap.size := hlt R fR
  obtain ⟨W0, hW0⟩ : ∃ W0, w.setCell ⟨R, 3, none⟩ (.int .i64 x) = W0 := ⟨_, rfl⟩
  have hon0 : Only R w W0 := by rw [← hW0]; exact only_set
  rw [hW0] at hM c3 c4 hz4
  have hv0 : Sl W0 v us := hv.of (Nat.le_of_eq hon0.size.symm) fun h0 b hb => hon0.block b (hvR (by omega) b hb)
  have hvw : Sl (W0.alloc (.cells #[] 4)) v us := hv0.of (by simp) fun h0 b hb => Below.heap_alloc _ _ _ (by
    obtain ⟨A, c, e, -, -, -, h4⟩ := hv0
    subst e
    obtain ⟨b', o, e, hb', -⟩ := h4 h0
    cases e
    obtain rfl : b' = b := by simpa [Value.ownBlock] using hb
    exact hb')
  have hs0 : W0.heap.size = w.heap.size := hon0.size
  have hmade : (W0.alloc (.cells #[] 4)).ownsRow w.heap.size 4 1 (.slice (some ⟨w.heap.size, 0, none⟩) 0 0) 0 [] := by
    have := World.ownsRow_made (e := 4) (size := 1) W0 #[] 0 (Nat.le_refl _) (Nat.zero_le _) rfl
    rwa [hs0] at this
  have hend : ∀ (v' : Value) (w1 : World), w1.ownsRow W0.heap.size 4 1 v' us.length us → (W0.alloc (.cells #[] 4)).grownBy w1 (some W0.heap.size) →
      w1.cell? ⟨R, 4, none⟩ = some kv ∧ w1.frozen? ⟨R, 4, none⟩ = false ∧ RLeaves F w (w1.setCell ⟨R, 4, none⟩ v') R (d.arm n keep) := fun v' w1 hown hg => by
    have hB : Below W0.heap.size W0 w1 := ((Below.refl _ W0).alloc (Nat.le_refl _) _).grown hg (by simp) (by intro k hk; cases hk; exact Nat.le_refl _)
    have hR0 : R < W0.heap.size := by rw [hon0.size]; exact hRl
    refine ⟨(hB.cell (p := ⟨R, 4, none⟩) hR0).trans c4, (World.frozen?_of_block (hB.block R hR0)).trans hz4, ?_⟩
    have hon : Only R w1 (w1.setCell ⟨R, 4, none⟩ v') := only_set
    have hC : Chg F w (w1.setCell ⟨R, 4, none⟩ v') := ((hon0.chg fR).trans (Chg.of_below hB)).trans (hon.chg fR)
    have hfl : ∀ k, k < w.heap.size → k ≠ R → (w1.setCell ⟨R, 4, none⟩ v').heap[k]? = W0.heap[k]? := fun k hk hne => (hon.block k hne).trans (hB.block k (by omega))
    have hvb := hown.lt
    refine ⟨⟨fv, lv, v', ⟨?_, ownsRow_of hM.firm fun b hb => hfl b (hlt b (ff b hb)) (hM.neF b hb), ownsRow_of hM.loose fun b hb => hfl b (hlt b (fl b hb)) (hM.neL b hb).1, ?_, hM.neF, hM.neL, fun h0 b hb => ?_⟩,
      ⟨ho.n, show 0 ≤ (if 0 < n then n else 0) ∧ (if 0 < n then n else 0) ≤ 9223372036854775807 by rw [hx]; exact hx0, ho.loose, ho.firm⟩, .of fR, fun b hb => .of (ff b hb), fun b hb => .of (fl b hb), fun h0 b hb => .inr ?_, grow_lt hC.size hlt⟩, hC⟩
    · have := box_set (o := 4) (v := v') ((hB.block R hR0).trans hM.box)
      rw [this, ← hx]
      rfl
    · show Sl _ v' (keep.map Value.bool)
      rw [← hus]
      exact (Sl.own hown).of (by rw [hon.size]; exact Nat.le_refl _) fun h0 b hb => hon.block b (by have := (hvb b hb).1; omega)
    · have h1 := (hvb b hb).1
      exact ⟨by omega, fun e => by have := hlt b (ff b e); omega, fun e => by have := hlt b (fl b e); omega⟩
    · have h1 := hvb b hb
      rw [hon.size]
      omega
  clear hM hv0 h ff fl fk
  subst hW0
  by_cases hpos : 0 < n
  · rw [if_pos hpos] at hx
    subst hx
    go_enter Try.func37, Try.ntmps37
    go_wp2_with (at_builtin; refine append_any rfl _ _ 22 rfl w.heap.size 4 i0 (.bool false) 1 Try.underlying22 hi hz0 hz1 hz2 rfl _ 0 [] rfl hmade _ us rfl hvw hone (by simp only [maxLen]; omega) (by omega) (by simp) ?_)
    intro v' w1 hown hgrow hnil
    obtain ⟨k1, k2, hP⟩ := hend v' w1 (by simpa [hs0, hus] using hown) (by simpa [Value.ownBlock, hs0] using hgrow)
    obtain ⟨A5, c5, hf5⟩ := row_form hown
    subst hf5
    go_wp2_with fail
    go_end0
    exact ⟨rfl, hP⟩
  · rw [if_neg hpos] at hx
    subst hx
    go_enter Try.func37, Try.ntmps37
    go_wp2_with (at_builtin; refine append_any rfl _ _ 22 rfl w.heap.size 4 i0 (.bool false) 1 Try.underlying22 hi hz0 hz1 hz2 rfl _ 0 [] rfl hmade _ us rfl hvw hone (by simp only [maxLen]; omega) (by omega) (by simp) ?_)
    intro v' w1 hown hgrow hnil
    obtain ⟨k1, k2, hP⟩ := hend v' w1 (by simpa [hs0, hus] using hown) (by simpa [Value.ownBlock, hs0] using hgrow)
    obtain ⟨A5, c5, hf5⟩ := row_form hown
    subst hf5
    go_wp2_with fail
    go_end0
    exact ⟨rfl, hP⟩
end Go.Proofs.Ytdlokmlcdlcfaaa
