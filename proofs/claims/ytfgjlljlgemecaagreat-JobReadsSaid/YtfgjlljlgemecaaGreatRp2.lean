/- job.Read: what its walk leans on. -/
import Derived.Test.YtfgjlljlgemecaaGreatRd
import Derived.Test.YtfgjlljlgemecaaGreatRe2
import Derived.Test.YtfgjlljlgemecaaGreatRf2
import Derived.Lib.SlBytesConst
import Derived.Laws.Cover1
set_option linter.unusedVariables false
set_option linter.unusedSimpArgs false
namespace Go.Proofs.YtfgjlljlgemecaaGreat
open Go.RowKit Go.Shelf
attribute [local go_sem] Oper.semAt_some
theorem cell_of_block {w : World} {b o : Nat} {cs : Array Value} {t : TypeId} {fr : Nat × Nat} {v : Value} (h : w.heap[b]? = some (.cells cs t fr)) (hv : cs[o]? = some v) : w.cell? ⟨b, o, none⟩ = some v := by
  unfold World.cell?
  simp only [h]
  exact hv
theorem frozen_of_block {w : World} {b o : Nat} {cs : Array Value} {t : TypeId} (h : w.heap[b]? = some (.cells cs t (0, 0))) : w.frozen? ⟨b, o, none⟩ = false := by
  unfold World.frozen?
  simp [h]
theorem heap_new1 (w : World) (o p : Obj) : ((w.alloc o).alloc p).heap[w.heap.size + 1]? = some p := by
  have := World.alloc_heap_new (w.alloc o) p
  rwa [World.size_alloc] at this
theorem heap_new0 (w : World) (o p : Obj) : ((w.alloc o).alloc p).heap[w.heap.size]? = some o := (Below.heap_alloc _ _ _ (by rw [World.size_alloc]; omega)).trans (World.alloc_heap_new w o)
theorem actOf {F : Fence} {n : Nat} {P : Program} {c : Code} {Q : Exit → Act → World → Prop} {a : Act} {w : World} (h : ∀ a0, a0 = a → c.wpIn F n P Q a0 w) : c.wpIn F n P Q a w := h a rfl
theorem lt_of_cell {W : World} {a : Addr} {v : Value} (h : W.cell? a = some v) : a.block < W.heap.size := by
  rcases Nat.lt_or_ge a.block W.heap.size with h' | h'
  · exact h'
  · simp [World.cell?, Array.getElem?_eq_none h'] at h
/-- What has come, as a number. -/
def accN (l : List (Nat × Int)) : Int := l.foldl (fun n x => stp n x.2) 0
theorem accN_snoc (l : List (Nat × Int)) (x : Nat × Int) : accN (l ++ [x]) = stp (accN l) x.2 := by simp [accN]
theorem accN_upto (c : Nat → Int) (a : Nat) (zs : List Int) (hz : ∀ j, j < 8 → zs.getD j 0 = c (a + j)) : ∀ k, k ≤ 8 → accN (upto (bk zs 8) k) = g8 c a k
  | 0, _ => rfl
  | k + 1, hk => by
    rw [upto_succ, accN_snoc, accN_upto c a zs hz k (by omega)]
    show stp _ (zs.getD (8 - 1 - k) 0) = stp _ (c (a + (7 - k)))
    rw [hz _ (by omega)]
theorem cell_other {w : World} {a b : Addr} {v : Value} (h : a ≠ b) : (w.setCell a v).cell? b = w.cell? b := by first | exact World.cell?_setCell_other h | exact World.cell?_setCell_other _ h | exact World.cell?_setCell_other _ _ _ _ h | exact World.cell?_setCell_other _ _ _ h
/-- Between two rounds. -/
def RdI (Ds : List Nat) (numj : Nat → Int) (w1 : World) (N Bi k : Nat) (pre : List (Nat × Int)) (W : World) : Prop :=
  ((∀ j, j < 5 → W.cell? ⟨N, j, none⟩ = some (.int .u64 (if j < k then numj j else if j = k then accN pre else 0)) ∧ W.frozen? ⟨N, j, none⟩ = false) ∧ W.cell? ⟨Bi, 0, none⟩ = some (.int .i64 (k : Int))) ∧ Below N w1 W ∧ ∀ D ∈ Ds, W.heap[D]? = some (.deferred (some []))
theorem body_close {Ds : List Nat} {numj : Nat → Int} {w1 W : World} {N Bi b k : Nat} {pre : List (Nat × Int)} {x : Nat × Int} {D : Nat} (h : RdI Ds numj w1 N Bi k pre W) (hk : k < 5) (h1 : N < Bi) (h2 : b < N) (h3 : ∀ D ∈ Ds, N < D) :
    KeepsFrom D W (W.setCell ⟨N, k, none⟩ (.int .u64 (stp (accN pre) x.2))).drew ∧ KeepTwo (Bi + 1) b W (W.setCell ⟨N, k, none⟩ (.int .u64 (stp (accN pre) x.2))).drew ∧ RdI Ds numj w1 N Bi k (pre ++ [x]) (W.setCell ⟨N, k, none⟩ (.int .u64 (stp (accN pre) x.2))).drew := by
  obtain ⟨⟨hcs, hci⟩, hB, hds⟩ := h
  refine ⟨((KeepsOthers.setCell _ _ _).trans (KeepsOthers.drew _)).from _, ⟨Below.heap_setCell _ _ _ _ (show Bi + 1 ≠ N by omega), Below.heap_setCell _ _ _ _ (show b ≠ N by omega)⟩, ⟨fun j hj => ⟨?_, ?_⟩, ?_⟩, ?_, fun D hD => ?_⟩
  · show (W.setCell ⟨N, k, none⟩ (.int .u64 (stp (accN pre) x.2))).cell? ⟨N, j, none⟩ = _
    by_cases e : j = k
    · subst e
      rw [World.cell?_setCell_same' _ _ _ (by rw [(hcs j hj).1]; rfl), if_neg (by omega), if_pos rfl, accN_snoc]
    · rw [cell_other (show (⟨N, k, none⟩ : Addr) ≠ ⟨N, j, none⟩ by intro h; injection h with _ h3 _; exact e h3.symm), (hcs j hj).1, if_neg e, if_neg e]
  · show (W.setCell ⟨N, k, none⟩ (.int .u64 (stp (accN pre) x.2))).frozen? ⟨N, j, none⟩ = false
    rw [World.frozen?_setCell]
    exact (hcs j hj).2
  · show (W.setCell ⟨N, k, none⟩ (.int .u64 (stp (accN pre) x.2))).cell? ⟨Bi, 0, none⟩ = _
    rw [cell_other (show (⟨N, k, none⟩ : Addr) ≠ ⟨Bi, 0, none⟩ by intro h; injection h with h3 _ _; omega)]
    exact hci
  · exact (hB.setCell (p := ⟨N, k, none⟩) (Nat.le_refl _) _).drew
  · have := h3 D hD
    exact (Below.heap_setCell _ _ _ _ (show D ≠ N by omega)).trans (hds D hD)
theorem ownDs {β : Type} {B : Nat} {Ds : List Nat} (h : ∀ D ∈ Ds, D < B) : OwnFrom B (fun (_ : β) W => ∀ D ∈ Ds, W.heap[D]? = some (.deferred (some []))) :=
  fun s A C row hs hg hr D hD => (hg.block D (Array.getElem?_eq_some_iff.1 (hs D hD)).1 (fun e => by have h1 := (hr D e.symm).1; have h2 := h D hD; omega)).trans (hs D hD)
theorem leaves_all {F : Fence} {n : Nat} {P : Program} {fn : Func} {tmps : Array Value} {R : Ending → World → Prop} {N : Nat} : ∀ (Ds : List Nat) (W : World), (∀ D ∈ Ds, N < D ∧ W.heap[D]? = some (.deferred (some []))) → Ds.Nodup →
    (∀ W', Below N W W' → ∃ v, (results fn tmps).run P W' = .ok v W' ∧ R (.returned v) W') → LeavesInM F n P fn tmps R (Ds.map (fun D => { target := .collected D, args := #[] })) .returning W
  | [], W, _, _, h => h W (Below.refl _ _)
  | D :: Ds, W, hD, hnd, h => by
    have hK := (hD D List.mem_cons_self).2
    have hB : Below N W (W.putObj D (.deferred none)) := (Below.refl N W).grown (grownBy_putObj' W D _) (by have := (Array.getElem?_eq_some_iff.1 hK).1; have := (hD D List.mem_cons_self).1; omega) (fun k e => by cases e; exact Nat.le_of_lt (hD D List.mem_cons_self).1)
    refine ⟨by simp, .inl ⟨_, _, rfl, run_takeDeferred hK, ?_⟩⟩
    refine leaves_all Ds _ (fun D' hD' => ⟨(hD D' (List.mem_cons_of_mem _ hD')).1, ?_⟩) (List.nodup_cons.1 hnd).2 fun W' hW' => h W' (hB.trans hW')
    have hne : D' ≠ D := fun e => (List.nodup_cons.1 hnd).1 (e ▸ hD')
    have h2 := (hD D' (List.mem_cons_of_mem _ hD')).2
    exact ((grownBy_putObj' W D (.deferred none)).block D' (Array.getElem?_eq_some_iff.1 h2).1 (fun e => hne (Option.some.inj e))).trans h2
/-- The numbers that stand in a job's bytes. -/
def numJ (xs : List Int) (j : Nat) : Int := g8 (fun i => xs.getD i 0) (8 + 8 * j) 8
def jobC : Array Value := #[.int .i64 0, .int .i64 0, .int .u64 0, .int .u64 0, .int .i64 0]
def preC : Array Value := #[.int .u8 72, .int .u8 65, .int .u8 73, .int .u8 82, .int .u8 74, .int .u8 79, .int .u8 66, .int .u8 49]
theorem setCell_block {w : World} {b o : Nat} {cs : Array Value} {t : TypeId} {fr : Nat × Nat} {v : Value} (h : w.heap[b]? = some (.cells cs t fr)) : (w.setCell ⟨b, o, none⟩ v).heap[b]? = some (.cells (cs.setIfInBounds o v) t fr) := by
  simp [World.setCell, Array.getElem?_modify, h]
theorem five_set {w : World} {b : Nat} {c0 c1 c2 c3 c4 v0 v1 v2 v3 v4 : Value} {t : TypeId} {fr : Nat × Nat} (h : w.heap[b]? = some (.cells #[c0, c1, c2, c3, c4] t fr)) :
    (((((w.setCell ⟨b, 0, none⟩ v0).setCell ⟨b, 1, none⟩ v1).setCell ⟨b, 2, none⟩ v2).setCell ⟨b, 3, none⟩ v3).setCell ⟨b, 4, none⟩ v4).heap[b]? = some (.cells #[v0, v1, v2, v3, v4] t fr) ∧
      ∀ k, k ≠ b → (((((w.setCell ⟨b, 0, none⟩ v0).setCell ⟨b, 1, none⟩ v1).setCell ⟨b, 2, none⟩ v2).setCell ⟨b, 3, none⟩ v3).setCell ⟨b, 4, none⟩ v4).heap[k]? = w.heap[k]? := by
  refine ⟨(setCell_block (setCell_block (setCell_block (setCell_block (setCell_block h))))).trans rfl, fun k hk => ?_⟩
  rw [Below.heap_setCell _ _ _ _ hk, Below.heap_setCell _ _ _ _ hk, Below.heap_setCell _ _ _ _ hk, Below.heap_setCell _ _ _ _ hk, Below.heap_setCell _ _ _ _ hk]
theorem below_five {w W : World} {B b : Nat} {v0 v1 v2 v3 v4 : Value} (h : Below B w W) (hb : B ≤ b) : Below B w (((((W.setCell ⟨b, 0, none⟩ v0).setCell ⟨b, 1, none⟩ v1).setCell ⟨b, 2, none⟩ v2).setCell ⟨b, 3, none⟩ v3).setCell ⟨b, 4, none⟩ v4) :=
  ((((h.setCell (p := ⟨b, 0, none⟩) hb _).setCell (p := ⟨b, 1, none⟩) hb _).setCell (p := ⟨b, 2, none⟩) hb _).setCell (p := ⟨b, 3, none⟩) hb _).setCell (p := ⟨b, 4, none⟩) hb _
/-- What both answer of forty-eight bytes that begin well. -/
def rdOut (xs : List Int) : Value :=
  if numJ xs 0 ≤ 65535 ∧ numJ xs 1 ≤ 65535 ∧ numJ xs 4 ≤ 65535 then .tuple #[.agg #[.int .i64 (wrap64 (numJ xs 0)), .int .i64 (wrap64 (wrap64 (numJ xs 1) + -64)), .int .u64 (numJ xs 2), .int .u64 (numJ xs 3), .int .i64 (wrap64 (numJ xs 4))], .int .i64 0]
  else .tuple #[.agg jobC, .int .i64 7]
end Go.Proofs.YtfgjlljlgemecaaGreat
