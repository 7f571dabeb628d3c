/- The disk: maps.Clone, Arm. -/
import Derived.Test.YtdlokmlcdlcfaaaDk2
import Derived.Test.YtdlokmlcdlcfaaaAa
import Derived.Shelf.SlMaps.Clone
set_option linter.unusedVariables false
set_option linter.unusedSimpArgs false
namespace Go.Proofs.Ytdlokmlcdlcfaaa
open Go.RowKit Go.MapKept
set_option maxRecDepth 100000 in
set_option maxHeartbeats 2000000 in
theorem clone_map {w : World} {M : Nat} {m : Int → Option Value} (h : MapR w M m) :
    Calls Try.prog 40 #[.map (some M)] w fun e w' => e = .returned (.map (some w.heap.size)) ∧ MapR w' w.heap.size m ∧ Below w.heap.size w w' ∧ w'.heap.size = w.heap.size + 1 := by
  obtain ⟨es, clock, hb, h2⟩ := h
  have hP : MapR (w.alloc (.map es clock)) w.heap.size m ∧ Below w.heap.size w (w.alloc (.map es clock)) ∧ (w.alloc (.map es clock)).heap.size = w.heap.size + 1 :=
    ⟨⟨es, clock, (MapKept.heap_alloc w _).1, h2⟩, (Below.refl _ w).alloc (Nat.le_refl _) _, World.size_alloc ..⟩
  clear h2
  have hq := fun w => run_eql_map_nil_sl (P := Try.prog) w 64 _ _ (some M) Try.underlying64
  go_enter Try.func40, Try.ntmps40
  go_wp2
  rw [run_callFunc_extern Try.func51 (by kernel_rfl) (by kernel_rfl) (by kernel_rfl) (e := Extern.MapsClone.clone) (by kernel_rfl), run_maps_clone_sl w 64 hb]
  simp only [Result.andThen]
  rw [Oper.upon_value]
  go_wp2
  rw [run_typeAssert_map_sl _ 64 20 _ _ _ Try.underlying64]
  simp only [Result.andThen]
  rw [Oper.upon_value]
  go_wp2
  go_ret
  exact ⟨rfl, hP⟩
/-- Two cells of the disk's block are set: the same world but for that block. -/
theorem set2 {w : World} {b i j : Nat} {cs : Array Value} {t : TypeId} {fr : Nat × Nat} {u v : Value} (h : w.heap[b]? = some (.cells cs t fr)) :
    ((w.setCell ⟨b, i, none⟩ u).setCell ⟨b, j, none⟩ v).heap[b]? = some (.cells ((cs.setIfInBounds i u).setIfInBounds j v) t fr) ∧ (∀ k, k ≠ b → ((w.setCell ⟨b, i, none⟩ u).setCell ⟨b, j, none⟩ v).heap[k]? = w.heap[k]?) ∧
      ((w.setCell ⟨b, i, none⟩ u).setCell ⟨b, j, none⟩ v).heap.size = w.heap.size ∧ ∀ F : Nat → Prop, F b → Chg F w ((w.setCell ⟨b, i, none⟩ u).setCell ⟨b, j, none⟩ v) :=
  ⟨box_set (box_set h), fun k hk => by rw [Below.heap_setCell _ _ _ _ hk, Below.heap_setCell _ _ _ _ hk], by rw [size_set, size_set], fun F hF => (chg_set hF).trans (chg_set hF)⟩
theorem grow_lt {F : Nat → Prop} {w w' : World} (hs : w.heap.size ≤ w'.heap.size) (hF : ∀ k, F k → k < w.heap.size) : ∀ k, Grow F w w' k → k < w'.heap.size := fun k hk => hk.elim (fun h => Nat.lt_of_lt_of_le (hF k h) hs) fun h => h.2
set_option maxRecDepth 100000 in
set_option maxHeartbeats 4000000 in
theorem arm_calls {w : World} {D : Nat} {F : Nat → Prop} {d : DS} (h : DiskAt w D F d) (n : Int) (hn : n ≤ 9223372036854775807) (v : Value) (keep : List Bool) (hv : Sl w v (keep.map Value.bool)) (hl : keep.length ≤ 140737488355328) :
    Calls Try.prog 11 #[.pointer (some ⟨D, 0, none⟩), .int .i64 n, v] w fun e w' => e = .returned (.tuple #[]) ∧ Leaves F w w' D (d.arm n keep) := by
  obtain ⟨M, lv, kv, m, hM, ho, fD, fM, fl, fk, hlt⟩ := h
  have hcl := clone_bools w v keep hv hl
  have hend : ∀ (x : Int) (v' : Value) (w1 : World), x = (if 0 < n then n else 0) → Sl w1 v' (keep.map Value.bool) → (∀ b, v'.ownBlock = some b → w.heap.size ≤ b ∧ b < w1.heap.size) → Below w.heap.size w w1 → DiskM w1 D M lv kv m d →
      Leaves F w ((w1.setCell ⟨D, 4, none⟩ (.int .i64 x)).setCell ⟨D, 5, none⟩ v') D (d.arm n keep) := by
    intro x v' w1 hx hs hb hB hM1
    obtain ⟨g1, g2, g3, g4⟩ := set2 (i := 4) (j := 5) (u := .int .i64 x) (v := v') hM1.box
    have hD := hM.lt
    refine ⟨⟨M, lv, v', m, ⟨?_, hM1.map.of (g2 M hM.neM), hM.firm, ownsRow_of hM1.row fun b hb => g2 b (hM.neL b hb), hs.of (by rw [g3]; exact Nat.le_refl _) fun h0 b hb' => g2 b (by have := (hb b hb').1; omega), hM.neM, hM.neL, fun h0 b hb' => ?_⟩,
      ⟨ho.n, ?_, ho.loose, ho.firm⟩, .of fD, .of fM, fun b hb => .of (fl b hb), fun h0 b hb' => .inr (by rw [g3]; exact hb b hb'), grow_lt (by rw [g3]; exact hB.size) hlt⟩, (Chg.of_below hB).trans (g4 F fD)⟩
    · rw [g1, hx]
      rfl
    · have h1 := hb b hb'
      have h2 := hM.map.lt
      exact ⟨by omega, by omega, fun e => by have := hlt b (fl b e); omega⟩
    · show 0 ≤ (if 0 < n then n else 0) ∧ (if 0 < n then n else 0) ≤ 9223372036854775807
      split <;> omega
  have hdm : ∀ w1, Below w.heap.size w w1 → DiskM w1 D M lv kv m d := fun w1 hB1 => hM.of (w' := w1) hB1.size fun k hk => hB1.block k (by
    rcases hk with rfl | rfl | hk | ⟨h1, h2⟩
    · exact hM.lt
    · exact hM.map.lt
    · exact hlt _ (fl _ hk)
    · exact hlt _ (fk h1 _ h2))
  clear hM
  by_cases hpos : 0 < n
  · go_enter Try.func11, Try.ntmps11
    go_wp2_with fail
    refine hcl.mono ?_
    rintro e w1 ⟨v', rfl, hs1, ⟨A1, n1, k1, rfl⟩, hb1, hB1⟩
    have hM1 := hdm w1 hB1
    have hP := hend n _ w1 (by rw [if_pos hpos]) hs1 (fun b hb => ⟨(hb1 b hb).1, (hb1 b hb).2.1⟩) hB1 hM1
    obtain ⟨c0, c1, c2, c3, c4, c5⟩ := hM1.cell
    have z4 := frozen_row hM1.box 4
    have z5 := frozen_row hM1.box 5
    clear hM1 hend hdm
    go_wp2_with fail
    go_end0
    exact ⟨rfl, hP⟩
  · go_enter Try.func11, Try.ntmps11
    go_wp2_with fail
    refine hcl.mono ?_
    rintro e w1 ⟨v', rfl, hs1, ⟨A1, n1, k1, rfl⟩, hb1, hB1⟩
    have hM1 := hdm w1 hB1
    have hP := hend 0 _ w1 (by rw [if_neg (by omega)]) hs1 (fun b hb => ⟨(hb1 b hb).1, (hb1 b hb).2.1⟩) hB1 hM1
    obtain ⟨c0, c1, c2, c3, c4, c5⟩ := hM1.cell
    have z4 := frozen_row hM1.box 4
    have z5 := frozen_row hM1.box 5
    clear hM1 hend hdm
    go_wp2_with fail
    go_end0
    exact ⟨rfl, hP⟩
end Go.Proofs.Ytdlokmlcdlcfaaa
