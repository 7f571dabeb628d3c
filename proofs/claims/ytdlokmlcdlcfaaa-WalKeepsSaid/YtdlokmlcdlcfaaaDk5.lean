/- The disk: burns, Barrier. -/
import Derived.Test.YtdlokmlcdlcfaaaDk4
import Derived.StillTailTactics
set_option linter.unusedVariables false
set_option linter.unusedSimpArgs false
namespace Go.Proofs.Ytdlokmlcdlcfaaa
open Go.RowKit Go.MapKept
theorem DiskAt.mono {w : World} {D : Nat} {F G : Nat → Prop} {d : DS} (h : DiskAt w D F d) (hG : ∀ k, F k → G k) (hlt : ∀ k, G k → k < w.heap.size) : DiskAt w D G d := by
  obtain ⟨M, lv, kv, m, hM, ho, fD, fM, fl, fk, -⟩ := h
  exact ⟨M, lv, kv, m, hM, ho, hG _ fD, hG _ fM, fun b hb => hG _ (fl b hb), fun h0 b hb => hG _ (fk h0 b hb), hlt⟩
theorem Leaves.refl {w : World} {D : Nat} {F : Nat → Prop} {d : DS} (h : DiskAt w D F d) : Leaves F w w D d := ⟨h.mono (fun _ => .of) (grow_lt (Nat.le_refl _) h.lt), Chg.refl _ _⟩
theorem Leaves.trans {w w1 w' : World} {D : Nat} {F G : Nat → Prop} {d : DS} (hF : ∀ k, F k → k < w.heap.size) (h1 : Chg F w w1) (hG : ∀ k, G k → Grow F w w1 k) (h2 : Leaves G w1 w' D d) : Leaves F w w' D d := by
  have hg : ∀ k, k < w.heap.size → ¬F k → ¬G k := fun k hk hf hg => (hG k hg).elim hf fun h => by omega
  refine ⟨h2.1.mono (fun k hk => ?_) (grow_lt (Nat.le_trans h1.size h2.2.size) hF), h2.2.os.trans h1.os, h2.2.tape.trans h1.tape, h2.2.output.trans h1.output, Nat.le_trans h1.size h2.2.size,
    fun k hk hf => (h2.2.block k (Nat.lt_of_lt_of_le hk h1.size) (hg k hk hf)).trans (h1.block k hk hf)⟩
  rcases hk with hk | ⟨h3, h4⟩
  · rcases hG k hk with h | ⟨h5, h6⟩
    · exact .inl h
    · exact .inr ⟨h5, Nat.lt_of_lt_of_le h6 h2.2.size⟩
  · exact .inr ⟨Nat.le_trans h1.size h3, h4⟩
theorem set_left {w : World} {D : Nat} {F : Nat → Prop} {d : DS} (h : DiskAt w D F d) (x : Int) (hx : 0 ≤ x ∧ x ≤ 9223372036854775807) : DiskAt (w.setCell ⟨D, 4, none⟩ (.int .i64 x)) D F { d with left := x } := by
  obtain ⟨M, lv, kv, m, hM, ho, fD, fM, fl, fk, hlt⟩ := h
  have hb := box_set (o := 4) (v := .int .i64 x) hM.box
  have oth : ∀ k, k ≠ D → (w.setCell ⟨D, 4, none⟩ (.int .i64 x)).heap[k]? = w.heap[k]? := fun k hk => Below.heap_setCell _ _ _ _ hk
  refine ⟨M, lv, kv, m, ⟨hb, hM.map.of (oth M hM.neM), hM.firm, ownsRow_of hM.row fun b hb => oth b (hM.neL b hb), hM.keep.of (by rw [size_set]; exact Nat.le_refl _) fun h0 b hb => oth b (hM.neK (by intro e; rw [e] at h0; exact absurd h0 (Nat.lt_irrefl 0)) b hb).1, hM.neM, hM.neL, hM.neK⟩,
    ⟨ho.n, hx, ho.loose, ho.firm⟩, fD, fM, fl, fk, fun k hk => ?_⟩
  rw [size_set]
  exact hlt k hk
theorem DiskAt.cells {w : World} {D : Nat} {F : Nat → Prop} {d : DS} (h : DiskAt w D F d) : ∃ M lv kv, w.cell? ⟨D, 0, none⟩ = some (.int .i64 d.n) ∧ w.cell? ⟨D, 1, none⟩ = some (.map (some M)) ∧ w.cell? ⟨D, 2, none⟩ = some lv ∧ w.cell? ⟨D, 3, none⟩ = some (.bool d.down) ∧ w.cell? ⟨D, 4, none⟩ = some (.int .i64 d.left) ∧ w.cell? ⟨D, 5, none⟩ = some kv ∧
    (∀ o, w.frozen? ⟨D, o, none⟩ = false) ∧ Sl w kv (d.keep.map Value.bool) := by
  obtain ⟨M, lv, kv, m, hM, -⟩ := h
  obtain ⟨c0, c1, c2, c3, c4, c5⟩ := hM.cell
  exact ⟨M, lv, kv, c0, c1, c2, c3, c4, c5, frozen_row hM.box, hM.keep⟩
theorem DiskAt.fD {w : World} {D : Nat} {F : Nat → Prop} {d : DS} (h : DiskAt w D F d) : F D := by
  obtain ⟨M, lv, kv, m, hM, ho, fD, -⟩ := h
  exact fD
set_option maxRecDepth 100000 in
set_option maxHeartbeats 4000000 in
theorem burns_calls {w : World} {D : Nat} {F : Nat → Prop} {d : DS} (h : DiskAt w D F d) (hn : d.loose.length ≤ 1000000) (hk : d.keep.length ≤ 140737488355328) :
    Calls Try.prog 31 #[.pointer (some ⟨D, 0, none⟩)] w fun e w' => e = .returned (.bool d.burns.1) ∧ Leaves F w w' D d.burns.2 := by
  have ho := h.ok
  obtain ⟨M, lv, kv, c0, c1, c2, c3, c4, c5, z, hkv⟩ := h.cells
  by_cases h0 : d.left = 0
  · have e : d.burns = (false, d) := by unfold DS.burns; rw [if_pos h0]
    rw [e]
    have hP := Leaves.refl h
    rw [h0] at c4
    clear h z hkv
    go_enter Try.func31, Try.ntmps31
    go_wp2_with fail
    go_ret
    exact ⟨rfl, hP⟩
  · have z4 := z 4
    have hr := ho.left
    obtain ⟨L, hL⟩ : ∃ L, d.left = L := ⟨_, rfl⟩
    rw [hL] at c4 h0 hr
    have hs := set_left h (L - 1) (by omega)
    have hsb : w.heap.size = (w.setCell ⟨D, 4, none⟩ (.int .i64 (L - 1))).heap.size := size_set.symm
    have s4 : (w.setCell ⟨D, 4, none⟩ (.int .i64 (L - 1))).cell? ⟨D, 4, none⟩ = some (.int .i64 (L - 1)) := by
      obtain ⟨_, _, _, _, _, _, _, h4, _⟩ := hs.cells
      exact h4
    by_cases h1 : 0 < L - 1
    · have e : d.burns = (false, { d with left := L - 1 }) := by unfold DS.burns; rw [if_neg (by omega), if_pos (by omega), hL]
      rw [e]
      have hP : Leaves F w (w.setCell ⟨D, 4, none⟩ (.int .i64 (L - 1))) D { d with left := L - 1 } := ⟨hs.mono (fun _ => .of) (grow_lt (Nat.le_of_eq hsb) h.lt), chg_set h.fD⟩
      clear h z hkv hs hsb e
      go_enter Try.func31, Try.ntmps31
      go_wp2_with fail
      go_ret
      exact ⟨rfl, hP⟩
    · have e : d.burns = (true, { d with left := L - 1 }.crash d.keep) := by unfold DS.burns; rw [if_neg (by omega), if_neg (by omega), hL]
      rw [e]
      obtain ⟨M', lv', kv', d0, d1, d2, d3, d4, d5, -, hkv'⟩ := hs.cells
      have hc := crash_calls hs hn kv' d.keep hkv' hk
      have hlt := h.lt
      have hfd := h.fD
      clear h z hkv hs e
      go_enter Try.func31, Try.ntmps31
      go_wp2_with (go_at_call 18; refine hc.mono ?_; rintro e w1 ⟨rfl, hP⟩)
      go_ret
      exact ⟨rfl, hP.trans hlt (chg_set hfd) fun _ => .of⟩
end Go.Proofs.Ytdlokmlcdlcfaaa
