/- job.Read of bytes that are no job. -/
import Derived.Test.YtfgjlljlgemecaaGreatRp2
set_option linter.unusedVariables false
set_option linter.unusedSimpArgs false
namespace Go.Proofs.YtfgjlljlgemecaaGreat
open Go.RowKit Go.Shelf
attribute [local go_sem] Oper.semAt_some
set_option maxRecDepth 100000 in
set_option maxHeartbeats 8000000 in
theorem readBad (w : World) (A : Option Addr) (len cap : Nat)
    (hcut : ∀ W0, Below w.heap.size w W0 → (∀ i, i < 8 → W0.cell? ⟨w.heap.size + 1, 0 + i, none⟩ = some (.int .u8 (hj.getD i 0))) →
      Calls Tryz.prog 10 #[.slice A len cap, .slice (some ⟨w.heap.size + 1, 0, none⟩) 8 8] W0 fun e w' => w' = W0 ∧ ((∃ v, e = .returned (.tuple #[v, .bool false])) ∨ (∃ A' c l, e = .returned (.tuple #[.slice A' l c, .bool true]) ∧ (l : Int) ≠ 40))) :
    Calls Tryz.prog 5 #[.slice A len cap] w fun e w' => e = .returned (.tuple #[.agg jobC, .int .i64 7]) ∧ Below w.heap.size w w' := by
  obtain ⟨W0, hW0⟩ : ∃ W0, (w.alloc (.cells jobC 26)).alloc (.cells preC 5 (8, 9)) = W0 := ⟨_, rfl⟩
  have hB0 : Below w.heap.size w W0 := by rw [← hW0]; exact ((Below.refl _ w).alloc (Nat.le_refl _) _).alloc (by rw [World.size_alloc]; omega) _
  have hjb : W0.heap[w.heap.size]? = some (.cells jobC 26) := by rw [← hW0]; exact heap_new0 _ _ _
  have hb1 : W0.heap[w.heap.size + 1]? = some (.cells preC 5 (8, 9)) := by rw [← hW0]; exact heap_new1 _ _ _
  have hcv := Lib.run_convert_bytes_const (P := Tryz.prog) (w.alloc (.cells jobC 26)) 22 5 preC 8 8 Tryz.underlying22 Tryz.underlying5
  rw [World.size_alloc, show ((preC.size, preC.size + 1) : Nat × Nat) = (8, 9) from rfl, hW0] at hcv
  unfold jobC preC at hcv
  have hc := hcut W0 hB0 (fun i hi => by
    refine cell_of_block hb1 ?_
    rw [Nat.zero_add]
    match i, hi with
    | 0, _ | 1, _ | 2, _ | 3, _ | 4, _ | 5, _ | 6, _ | 7, _ => rfl)
  have f0 := frozen_of_block (o := 0) hjb
  have f1 := frozen_of_block (o := 1) hjb
  have f2 := frozen_of_block (o := 2) hjb
  have f3 := frozen_of_block (o := 3) hjb
  have f4 := frozen_of_block (o := 4) hjb
  have e0 : W0.cell? ⟨w.heap.size, 0, none⟩ = some (.int .i64 0) := cell_of_block hjb rfl
  have e1 : W0.cell? ⟨w.heap.size, 1, none⟩ = some (.int .i64 0) := cell_of_block hjb rfl
  have e2 : W0.cell? ⟨w.heap.size, 2, none⟩ = some (.int .u64 0) := cell_of_block hjb rfl
  have e3 : W0.cell? ⟨w.heap.size, 3, none⟩ = some (.int .u64 0) := cell_of_block hjb rfl
  have e4 : W0.cell? ⟨w.heap.size, 4, none⟩ = some (.int .i64 0) := cell_of_block hjb rfl
  clear hb1 hcut
  refine (callsIn_wide (n := 9)).1 ?_
  refine callsIn_of_wp_marks Tryz.func5 rfl trivial ?_ rfl
  simp only [Tryz.ntmps5, List.size_toArray, List.length_cons, List.length_nil, Nat.reduceAdd, Nat.reduceSub, Array.replicate_succ, Array.replicate_zero, List.push_toArray, List.append_toArray, List.nil_append, List.cons_append]
  gi_wp2_with (refine ⟨trivial, ?_⟩; gi_at_call 10; refine (callsIn_wide.2 hc).mono ?_; rintro e w1 ⟨rfl, ⟨v, rfl⟩ | ⟨A', c, l, rfl, hne⟩⟩)
  all_goals
    have h5 := five_set (v0 := .int .i64 0) (v1 := .int .i64 0) (v2 := .int .u64 0) (v3 := .int .u64 0) (v4 := .int .i64 0) hjb
    refine leaves_all (N := w.heap.size + 1) [] _ (by simp) (by simp) fun W' hW' => ?_
    have hW5 := (hW'.block w.heap.size (by omega)).trans h5.1
    have q0 : W'.cell? ⟨w.heap.size, 0, none⟩ = some (.int .i64 0) := cell_of_block hW5 rfl
    have q1 : W'.cell? ⟨w.heap.size, 1, none⟩ = some (.int .i64 0) := cell_of_block hW5 rfl
    have q2 : W'.cell? ⟨w.heap.size, 2, none⟩ = some (.int .u64 0) := cell_of_block hW5 rfl
    have q3 : W'.cell? ⟨w.heap.size, 3, none⟩ = some (.int .u64 0) := cell_of_block hW5 rfl
    have q4 : W'.cell? ⟨w.heap.size, 4, none⟩ = some (.int .i64 0) := cell_of_block hW5 rfl
    refine ⟨.tuple #[.agg jobC, .int .i64 7], ?_, rfl, (below_five hB0 (Nat.le_refl _)).trans (hW'.mono (by omega))⟩
    clear hW5 h5 hjb e0 e1 e2 e3 e4 f0 f1 f2 f3 f4 hW'
    simp [results, Tryz.f5, go_sem, q0, q1, q2, q3, q4]
    rfl
end Go.Proofs.YtfgjlljlgemecaaGreat
