/- job.Read of a job's bytes. job.Read of bytes that are no job. -/
import Derived.Test.YtnkihnggghfioaaGreatRd
set_option linter.unusedVariables false
set_option linter.unusedSimpArgs false
namespace Go.Proofs.YtnkihnggghfioaaGreat
section
section
open Go.RowKit Go.Shelf
attribute [local go_sem] Oper.semAt_some
set_option maxRecDepth 100000 in
set_option maxHeartbeats 8000000 in
theorem readOk (w : World) (b off cap : Nat) (xs : List Int) (hl : xs.length = 48) (hp : xs.take 8 = hj) (hb : b < w.heap.size) (hcap : 48 ≤ cap ∧ cap ≤ 9223372036854775807) (hx : ∀ x ∈ xs, 0 ≤ x ∧ x < 256)
    (hcell : ∀ i, i < 48 → w.cell? ⟨b, off + i, none⟩ = some (.int .u8 (xs.getD i 0))) :
    Calls Tryz.prog 13 #[.slice (some ⟨b, off, none⟩) 48 cap] w fun e w' => e = .returned (rdOut xs) ∧ Below w.heap.size w w' := by
  obtain ⟨W0, hW0⟩ : ∃ W0, (w.alloc (.cells jobC 27)).alloc (.cells preC 5 (8, 9)) = W0 := ⟨_, rfl⟩; have hB0 : Below w.heap.size w W0 := by rw [← hW0]; exact ((Below.refl _ w).alloc (Nat.le_refl _) _).alloc (by rw [World.size_alloc]; omega) _
  have hsz : W0.heap.size = w.heap.size + 2 := by rw [← hW0]; simp
  have hb0 : W0.heap[w.heap.size]? = some (.cells jobC 27) := by rw [← hW0]; exact jb4 _ _ _
  have hb1 : W0.heap[w.heap.size + 1]? = some (.cells preC 5 (8, 9)) := by rw [← hW0]; exact jbv _ _ _
  have hcv := Lib.run_convert_bytes_const (P := Tryz.prog) (w.alloc (.cells jobC 27)) 22 5 preC 8 8 Tryz.underlying22 Tryz.underlying5; rw [World.size_alloc, show ((preC.size, preC.size + 1) : Nat × Nat) = (8, 9) from rfl, hW0] at hcv; unfold jobC preC at hcv; have hc0 : ∀ i, i < 48 → W0.cell? ⟨b, off + i, none⟩ = some (.int .u8 (xs.getD i 0)) := fun i hi => (hB0.cell (p := ⟨b, off + i, none⟩) hb).trans (hcell i hi)
  have hpre : ∀ i, i < 8 → W0.cell? ⟨w.heap.size + 1, 0 + i, none⟩ = some (.int .u8 (hj.getD i 0)) := fun i hi => by
    refine jaa hb1 ?_; rw [Nat.zero_add]
    match i, hi with
    | 0, _ | 1, _ | 2, _ | 3, _ | 4, _ | 5, _ | 6, _ | 7, _ => rfl
  have hcut := jjk W0 b off 48 cap (w.heap.size + 1) xs hl hcap hx hc0 hpre; refine (callsIn_wide (n := 9)).1 ?_; refine callsIn_of_wp_marks Tryz.func13 rfl trivial ?_ rfl; simp only [Tryz.ntmps13, List.size_toArray, List.length_cons, List.length_nil, Nat.reduceAdd, Nat.reduceSub, Array.replicate_succ, Array.replicate_zero, List.push_toArray, List.append_toArray, List.nil_append, List.cons_append]
  gi_wp2_with (refine ⟨trivial, ?_⟩; gi_at_call 30; refine (callsIn_wide.2 hcut).mono ?_; rintro e w1 ⟨rfl, ⟨-, -, A, c, rfl, hA⟩ | ⟨hno, -⟩⟩; rotate_left; exact absurd ⟨by omega, hp⟩ hno; obtain ⟨rfl, rfl⟩ := hA (by omega))
  have hz : ∀ j, j < 5 → (w1.alloc (.cells #[.int .u64 0, .int .u64 0, .int .u64 0, .int .u64 0, .int .u64 0] 81)).cell? ⟨w.heap.size + 2, j, none⟩ = some (.int .u64 (if j < 0 then numJ xs j else 0)) ∧
      (w1.alloc (.cells #[.int .u64 0, .int .u64 0, .int .u64 0, .int .u64 0, .int .u64 0] 81)).frozen? ⟨w.heap.size + 2, j, none⟩ = false := fun j hj => by
    have hn := World.alloc_heap_new w1 (.cells #[.int .u64 0, .int .u64 0, .int .u64 0, .int .u64 0, .int .u64 0] 81); rw [hsz] at hn; refine ⟨jaa hn ?_, jab hn⟩
    match j, hj with
    | 0, _ | 1, _ | 2, _ | 3, _ | 4, _ => rfl
  refine actOf ?_; intro b0 hb0a
  refine wpIn_loop (fun a' wr => ∃ (Ds : List Nat) (k : Nat) (u7 u9 u26 u27 u28 u29 u30 u31 u32 u33 u34 u35 u36 u37 u38 u39 u40 u41 u42 u43 u44 u45 u46 u47 : Value), (k ≤ 5 ∧ Below (w.heap.size + 2) w1 wr ∧ w.heap.size + 2 < wr.heap.size ∧ (∀ j, j < 5 → wr.cell? ⟨w.heap.size + 2, j, none⟩ = some (.int .u64 (if j < k then numJ xs j else 0)) ∧ wr.frozen? ⟨w.heap.size + 2, j, none⟩ = false) ∧
      (∀ D ∈ Ds, w.heap.size + 2 < D ∧ wr.heap[D]? = some (.deferred (some []))) ∧ Ds.Nodup) ∧
      a' = { tmps := (((((((((((((((((((((((((b0.tmps).setIfInBounds 7 u7).setIfInBounds 9 u9).setIfInBounds 26 u26).setIfInBounds 27 u27).setIfInBounds 28 u28).setIfInBounds 29 u29).setIfInBounds 30 u30).setIfInBounds 31 u31).setIfInBounds 32 u32).setIfInBounds 33 u33).setIfInBounds 34 u34).setIfInBounds 35 u35).setIfInBounds 36 u36).setIfInBounds 37 u37).setIfInBounds 38 u38).setIfInBounds 39 u39).setIfInBounds 40 u40).setIfInBounds 41 u41).setIfInBounds 42 u42).setIfInBounds 43 u43).setIfInBounds 44 u44).setIfInBounds 45 u45).setIfInBounds 46 u46).setIfInBounds 47 u47).setIfInBounds 25 (.int .i64 k), defers := Ds.map (fun D => { target := .collected D, args := #[] }) }) (fun a' _ => 5 - (intOf (a'.tmps.getD 25 undef)).toNat) ?_ ?_
  · refine ⟨[], 0, undef, undef, undef, undef, undef, undef, undef, undef, undef, undef, undef, undef, undef, undef, undef, undef, undef, undef, undef, undef, undef, undef, undef, undef, ⟨by omega, (Below.refl _ _).alloc (by omega) _, by simp [hsz], hz, by simp, by simp⟩, ?_⟩
    subst hb0a; simp only [List.setIfInBounds_toArray, List.set_cons_zero, List.set_cons_succ, List.map_nil, Int.ofNat_zero, Int.natCast_zero]
  · rintro a' wr ⟨Ds, k, u7, u9, u26, u27, u28, u29, u30, u31, u32, u33, u34, u35, u36, u37, u38, u39, u40, u41, u42, u43, u44, u45, u46, u47, ⟨hk, hBr, hszr, hcr, hDs, hnd⟩, rfl⟩
    subst hb0a; simp only [List.setIfInBounds_toArray, List.set_cons_zero, List.set_cons_succ]
    by_cases hlt : k < 5
    · have hki : (k : Int) < 5 := by omega
      have hk0 : (0 : Int) ≤ (k : Int) := by omega
      gi_wp2_with (refine ⟨trivial, ?_⟩; gi_at_call 29; refine (jo2 Fence.wide _ trivial rfl _ _ _ _).mono ?_; rintro e w2 ⟨rfl, rfl⟩)
      have hbox := jbv wr (.cells #[.int .i64 (k : Int)] 3) (.cells #[.slice (some ⟨b, off + 8 + 8 * k, none⟩) 8 (cap - 8 - 8 * k)] 22); have hboxi := jb4 wr (.cells #[.int .i64 (k : Int)] 3) (.cells #[.slice (some ⟨b, off + 8 + 8 * k, none⟩) 8 (cap - 8 - 8 * k)] 22); obtain ⟨V0, hV0⟩ : ∃ V0, (wr.alloc (.cells #[.int .i64 (k : Int)] 3)).alloc (.cells #[.slice (some ⟨b, off + 8 + 8 * k, none⟩) 8 (cap - 8 - 8 * k)] 22) = V0 := ⟨_, rfl⟩; have hBw : Below wr.heap.size wr V0 := by rw [← hV0]; exact ((Below.refl _ wr).alloc (Nat.le_refl _) _).alloc (by rw [World.size_alloc]; omega) _
      have hVs : V0.heap.size = wr.heap.size + 2 := by rw [← hV0]; simp
      rw [hV0] at hbox hboxi ⊢; have hBv : Below (w.heap.size + 2) w1 V0 := hBr.trans (hBw.mono (by omega))
      have hch : ∀ j, j < 8 → V0.cell? ⟨b, off + 8 + 8 * k + j, none⟩ = some (.int .u8 ((xs.drop (8 + 8 * k)).getD j 0)) := fun j hj => by
        have h1 := (hBv.cell (p := ⟨b, off + (8 + 8 * k + j), none⟩) (show b < w.heap.size + 2 by omega)).trans (hc0 (8 + 8 * k + j) (by omega)); rw [show off + 8 + 8 * k + j = off + (8 + 8 * k + j) by omega, h1]; simp [List.getD, List.getElem?_drop]
      refine actOf ?_; intro a0 ha0
      refine wpIn_rangeFunc_ownG rfl (by omega) (gf := 50) (lb := #[.pointer (some ⟨wr.heap.size + 1, 0, none⟩)]) (by rw [ha0]; rfl) trivial (enters_of Tryz.func50 (by kernel_rfl) rfl)
        (jhl Fence.wide _ trivial rfl (by omega) (wr.heap.size + 1) b (off + 8 + 8 * k) 8 (cap - 8 - 8 * k) (xs.drop (8 + 8 * k)) (by omega) V0 (by omega) (by omega) (jaa hbox rfl) hch)
        jgl (fun W l o o' hl h g1 g2 => by
          have hh := belowK_b (w := V0) (Nat.le_refl _) W l o o' hl h g1 g2; exact ⟨hh.block _ (by omega), hh.block _ (by omega)⟩) (Below.refl _ _) (fun _ => rfl)
        (RdI Ds (numJ xs) w1 (w.heap.size + 2) wr.heap.size k)
        (fun _ _ _ => False)
        (OwnFrom.and (Own.from (fun s A B row hs hg hr => ⟨fun j hj => ⟨cell_kept (hs.1 j hj).1 hg hr, (frozen_kept (hs.1 j hj).1 hg hr).trans (hs.1 j hj).2⟩, cell_kept hs.2 hg hr⟩) _) (OwnFrom.and (ownFrom_below (by omega) (by omega)) (ownDs (fun D hD => by have h1 := (Array.getElem?_eq_some_iff.1 (hDs D hD).2).1; omega))))
        (fun _ _ _ _ _ hs _ _ => hs)
        ⟨⟨fun j hj => ⟨by
            rw [hBw.cell (p := ⟨w.heap.size + 2, j, none⟩) (show w.heap.size + 2 < wr.heap.size by omega), (hcr j hj).1]
            by_cases h1 : j < k
            · rw [if_pos h1, if_pos h1]
            · rw [if_neg h1, if_neg h1]
              split <;> rfl, (hBw.frozen (p := ⟨w.heap.size + 2, j, none⟩) (show w.heap.size + 2 < wr.heap.size by omega)).trans (hcr j hj).2⟩, jaa hboxi rfl⟩, hBv, fun D hD => (hBw.block D (Array.getElem?_eq_some_iff.1 (hDs D hD).2).1).trans (hDs D hD).2⟩
        (fun x => { tmps := ((a0.tmps.setIfInBounds 36 (.int .i64 (x.1 : Int))).setIfInBounds 37 (.int .u8 x.2)).setIfInBounds 9 (.int .u8 x.2), defers := [] }) ?assign ?body ?done ?stop
      case assign =>
        intro l x W K hK; subst ha0
        gi_wp2
        exact hK
      case body =>
        rintro l pre x W hI _; have hcs := hI.1.1; have hci := hI.1.2; subst ha0; have hck : W.cell? ⟨w.heap.size + 2, k, none⟩ = some (.int .u64 (accN pre)) := by rw [(hcs k hlt).1, if_neg (by omega), if_pos rfl]
        have hfk := (hcs k hlt).2; have hmx : Tryz.prog.follows .mixedOrders = true := by kernel_rfl
        clear hcv hcell hc0 hpre hcut hz hb0 hb1 hbox hboxi hch hp hl hx hB0 hBw hBv hcr hBr; simp only [List.setIfInBounds_toArray, List.set_cons_zero, List.set_cons_succ]
        gi_wp2
        gi_region_with_o (fail)
        all_goals gi_wp2
        all_goals exact jne hI hlt (by omega) (by omega) (fun D hD => (hDs D hD).1)
      case done =>
        rintro D ys W hD rfl hI hK; subst ha0; have hcs := hI.1.1; have hBW := hI.2.1; have hds := hI.2.2; rw [jjl (fun i => xs.getD i 0) (8 + 8 * k) (xs.drop (8 + 8 * k)) (fun j hj => by simp [List.getD, List.getElem?_drop]) 8 (by omega)] at hcs; have hlt2 : w.heap.size + 2 < W.heap.size := jnd (hcs 0 (by omega)).1; clear hcv hcell hc0 hpre hcut hz hb0 hb1 hbox hboxi hch hcr
        gi_wp2
        refine ⟨⟨D :: Ds, k + 1, _, _, _, _, _, _, _, _, _, _, _, _, _, _, _, _, _, _, _, _, _, _, _, _, ⟨by omega, hBW, hlt2, fun j hj => ⟨?_, (hcs j hj).2⟩, fun D' hD' => ?_, ?_⟩, rfl⟩, ?_⟩
        · rw [(hcs j hj).1]
          by_cases h1 : j < k
          · rw [if_pos h1, if_pos (by omega)]
          · by_cases h2 : j = k
            · subst h2
              rw [if_neg h1, if_pos rfl, if_pos (by omega)]
              rfl
            · rw [if_neg h1, if_neg h2, if_neg (by omega)]
        · rcases List.mem_cons.1 hD' with e | e
          · subst e
            exact ⟨by omega, hK⟩
          · exact ⟨(hDs D' e).1, hds D' e⟩
        · refine List.nodup_cons.2 ⟨fun e => ?_, hnd⟩
          have h1 := (Array.getElem?_eq_some_iff.1 (hDs D e).2).1
          omega
        · simp [intOf]
          omega
      case stop =>
        rintro D c pre W _ _ h _; exact h.elim
    · obtain rfl : k = 5 := by omega
      have cc : ∀ j, j < 5 → wr.cell? ⟨w.heap.size + 2, j, none⟩ = some (.int .u64 (numJ xs j)) := fun j hj => by rw [(hcr j hj).1, if_pos hj]
      have g0 := cc 0 (by omega); have g1 := cc 1 (by omega); have g2 := cc 2 (by omega); have g3 := cc 3 (by omega); have g4 := cc 4 (by omega); have hjb : wr.heap[w.heap.size]? = some (.cells jobC 27) := (hBr.block _ (by omega)).trans hb0; have f0 := jab (o := 0) hjb; have f1 := jab (o := 1) hjb; have f2 := jab (o := 2) hjb; have f3 := jab (o := 3) hjb; have f4 := jab (o := 4) hjb; have e0 : wr.cell? ⟨w.heap.size, 0, none⟩ = some (.int .i64 0) := jaa hjb rfl; have e1 : wr.cell? ⟨w.heap.size, 1, none⟩ = some (.int .i64 0) := jaa hjb rfl; have e2 : wr.cell? ⟨w.heap.size, 2, none⟩ = some (.int .u64 0) := jaa hjb rfl; have e3 : wr.cell? ⟨w.heap.size, 3, none⟩ = some (.int .u64 0) := jaa hjb rfl; have e4 : wr.cell? ⟨w.heap.size, 4, none⟩ = some (.int .i64 0) := jaa hjb rfl
      obtain ⟨m, hmax, hmle⟩ : ∃ m, (Builtin.max_ #[25, 25, 25] 25 #[.int .u64 (numJ xs 0), .int .u64 (numJ xs 1), .int .u64 (numJ xs 4)]).run Tryz.prog wr = .ok (.int .u64 m) wr ∧ (m ≤ 65535 ↔ numJ xs 0 ≤ 65535 ∧ numJ xs 1 ≤ 65535 ∧ numJ xs 4 ≤ 65535) :=
        ⟨_, run_max_int3 wr _ _ _ _ _ _ _ _, by split <;> split <;> omega⟩
      clear hcv hcell hc0 hpre hcut hz hcr cc; have hBz : Below w.heap.size w wr := hB0.trans (hBr.mono (by omega))
      gi_wp2
      · have hgt : 65535 < m := by assumption
        have h5 := jet (v0 := .int .i64 0) (v1 := .int .i64 0) (v2 := .int .u64 0) (v3 := .int .u64 0) (v4 := .int .i64 0) hjb; refine jcd (N := w.heap.size + 1) Ds _ (fun D hD => ⟨by have := (hDs D hD).1; omega, (h5.2 D (by have := (hDs D hD).1; omega)).trans (hDs D hD).2⟩) hnd fun W' hW' => ?_
        have hW5 := (hW'.block w.heap.size (by omega)).trans h5.1; have q0 : W'.cell? ⟨w.heap.size, 0, none⟩ = some (.int .i64 0) := jaa hW5 rfl; have q1 : W'.cell? ⟨w.heap.size, 1, none⟩ = some (.int .i64 0) := jaa hW5 rfl; have q2 : W'.cell? ⟨w.heap.size, 2, none⟩ = some (.int .u64 0) := jaa hW5 rfl; have q3 : W'.cell? ⟨w.heap.size, 3, none⟩ = some (.int .u64 0) := jaa hW5 rfl; have q4 : W'.cell? ⟨w.heap.size, 4, none⟩ = some (.int .i64 0) := jaa hW5 rfl; refine ⟨rdOut xs, ?_, rfl, (je9 hBz (Nat.le_refl _)).trans (hW'.mono (by omega))⟩; unfold rdOut; rw [if_neg (fun h => by have := hmle.2 h; omega)]; clear hW5 h5 hjb e0 e1 e2 e3 e4 f0 f1 f2 f3 f4 g0 g1 g2 g3 g4 hmax hDs hnd hBr hW'; simp [results, Tryz.f13, go_sem, q0, q1, q2, q3, q4]
        rfl
      · have hle : m ≤ 65535 := by assumption
        have h5 := jet (v0 := (.int .i64 (wrap64 (numJ xs 0)))) (v1 := (.int .i64 (wrap64 (wrap64 (numJ xs 1) + -64)))) (v2 := (.int .u64 (numJ xs 2))) (v3 := (.int .u64 (numJ xs 3))) (v4 := (.int .i64 (wrap64 (numJ xs 4)))) hjb; refine jcd (N := w.heap.size + 1) Ds _ (fun D hD => ⟨by have := (hDs D hD).1; omega, (h5.2 D (by have := (hDs D hD).1; omega)).trans (hDs D hD).2⟩) hnd fun W' hW' => ?_
        have hW5 := (hW'.block w.heap.size (by omega)).trans h5.1; have q0 : W'.cell? ⟨w.heap.size, 0, none⟩ = some (.int .i64 (wrap64 (numJ xs 0))) := jaa hW5 rfl; have q1 : W'.cell? ⟨w.heap.size, 1, none⟩ = some (.int .i64 (wrap64 (wrap64 (numJ xs 1) + -64))) := jaa hW5 rfl; have q2 : W'.cell? ⟨w.heap.size, 2, none⟩ = some (.int .u64 (numJ xs 2)) := jaa hW5 rfl; have q3 : W'.cell? ⟨w.heap.size, 3, none⟩ = some (.int .u64 (numJ xs 3)) := jaa hW5 rfl; have q4 : W'.cell? ⟨w.heap.size, 4, none⟩ = some (.int .i64 (wrap64 (numJ xs 4))) := jaa hW5 rfl; refine ⟨rdOut xs, ?_, rfl, (je9 hBz (Nat.le_refl _)).trans (hW'.mono (by omega))⟩; unfold rdOut; rw [if_pos (hmle.1 hle)]; clear hW5 h5 hjb e0 e1 e2 e3 e4 f0 f1 f2 f3 f4 g0 g1 g2 g3 g4 hmax hDs hnd hBr hW'; simp [results, Tryz.f13, go_sem, q0, q1, q2, q3, q4]
end
end
section
section
open Go.RowKit Go.Shelf
attribute [local go_sem] Oper.semAt_some
set_option maxRecDepth 100000 in
set_option maxHeartbeats 8000000 in
theorem readBad (w : World) (A : Option Addr) (len cap : Nat)
    (hcut : ∀ W0, Below w.heap.size w W0 → (∀ i, i < 8 → W0.cell? ⟨w.heap.size + 1, 0 + i, none⟩ = some (.int .u8 (hj.getD i 0))) →
      Calls Tryz.prog 30 #[.slice A len cap, .slice (some ⟨w.heap.size + 1, 0, none⟩) 8 8] W0 fun e w' => w' = W0 ∧ ((∃ v, e = .returned (.tuple #[v, .bool false])) ∨ (∃ A' c l, e = .returned (.tuple #[.slice A' l c, .bool true]) ∧ (l : Int) ≠ 40))) :
    Calls Tryz.prog 13 #[.slice A len cap] w fun e w' => e = .returned (.tuple #[.agg jobC, .int .i64 7]) ∧ Below w.heap.size w w' := by
  obtain ⟨W0, hW0⟩ : ∃ W0, (w.alloc (.cells jobC 27)).alloc (.cells preC 5 (8, 9)) = W0 := ⟨_, rfl⟩; have hB0 : Below w.heap.size w W0 := by rw [← hW0]; exact ((Below.refl _ w).alloc (Nat.le_refl _) _).alloc (by rw [World.size_alloc]; omega) _
  have hjb : W0.heap[w.heap.size]? = some (.cells jobC 27) := by rw [← hW0]; exact jb4 _ _ _
  have hb1 : W0.heap[w.heap.size + 1]? = some (.cells preC 5 (8, 9)) := by rw [← hW0]; exact jbv _ _ _
  have hcv := Lib.run_convert_bytes_const (P := Tryz.prog) (w.alloc (.cells jobC 27)) 22 5 preC 8 8 Tryz.underlying22 Tryz.underlying5; rw [World.size_alloc, show ((preC.size, preC.size + 1) : Nat × Nat) = (8, 9) from rfl, hW0] at hcv; unfold jobC preC at hcv
  have hc := hcut W0 hB0 (fun i hi => by
    refine jaa hb1 ?_; rw [Nat.zero_add]
    match i, hi with
    | 0, _ | 1, _ | 2, _ | 3, _ | 4, _ | 5, _ | 6, _ | 7, _ => rfl)
  have f0 := jab (o := 0) hjb; have f1 := jab (o := 1) hjb; have f2 := jab (o := 2) hjb; have f3 := jab (o := 3) hjb; have f4 := jab (o := 4) hjb; have e0 : W0.cell? ⟨w.heap.size, 0, none⟩ = some (.int .i64 0) := jaa hjb rfl; have e1 : W0.cell? ⟨w.heap.size, 1, none⟩ = some (.int .i64 0) := jaa hjb rfl; have e2 : W0.cell? ⟨w.heap.size, 2, none⟩ = some (.int .u64 0) := jaa hjb rfl; have e3 : W0.cell? ⟨w.heap.size, 3, none⟩ = some (.int .u64 0) := jaa hjb rfl; have e4 : W0.cell? ⟨w.heap.size, 4, none⟩ = some (.int .i64 0) := jaa hjb rfl; clear hb1 hcut; refine (callsIn_wide (n := 9)).1 ?_; refine callsIn_of_wp_marks Tryz.func13 rfl trivial ?_ rfl; simp only [Tryz.ntmps13, List.size_toArray, List.length_cons, List.length_nil, Nat.reduceAdd, Nat.reduceSub, Array.replicate_succ, Array.replicate_zero, List.push_toArray, List.append_toArray, List.nil_append, List.cons_append]
  gi_wp2_with (refine ⟨trivial, ?_⟩; gi_at_call 30; refine (callsIn_wide.2 hc).mono ?_; rintro e w1 ⟨rfl, ⟨v, rfl⟩ | ⟨A', c, l, rfl, hne⟩⟩)
  all_goals
    have h5 := jet (v0 := .int .i64 0) (v1 := .int .i64 0) (v2 := .int .u64 0) (v3 := .int .u64 0) (v4 := .int .i64 0) hjb; refine jcd (N := w.heap.size + 1) [] _ (by simp) (by simp) fun W' hW' => ?_
    have hW5 := (hW'.block w.heap.size (by omega)).trans h5.1; have q0 : W'.cell? ⟨w.heap.size, 0, none⟩ = some (.int .i64 0) := jaa hW5 rfl; have q1 : W'.cell? ⟨w.heap.size, 1, none⟩ = some (.int .i64 0) := jaa hW5 rfl; have q2 : W'.cell? ⟨w.heap.size, 2, none⟩ = some (.int .u64 0) := jaa hW5 rfl; have q3 : W'.cell? ⟨w.heap.size, 3, none⟩ = some (.int .u64 0) := jaa hW5 rfl; have q4 : W'.cell? ⟨w.heap.size, 4, none⟩ = some (.int .i64 0) := jaa hW5 rfl; refine ⟨.tuple #[.agg jobC, .int .i64 7], ?_, rfl, (je9 hB0 (Nat.le_refl _)).trans (hW'.mono (by omega))⟩; clear hW5 h5 hjb e0 e1 e2 e3 e4 f0 f1 f2 f3 f4 hW'; simp [results, Tryz.f13, go_sem, q0, q1, q2, q3, q4]
    rfl
end
end
end Go.Proofs.YtnkihnggghfioaaGreat