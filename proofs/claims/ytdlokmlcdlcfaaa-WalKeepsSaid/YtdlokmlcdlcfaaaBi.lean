/- Great values: laws for the walk inside a fence. -/
import Derived.Test.YtdlokmlcdlcfaaaBg
import Derived.OwnWalkIn
import Derived.TacticsInMore
set_option linter.unusedVariables false
set_option linter.unusedSimpArgs false
namespace Go.Proofs.Ytdlokmlcdlcfaaa
open Go.RowKit Go.MapKept
section
variable {F : Fence} {n : Nat} {P : Program} {ops : Array Oper} {rest : List Oper} {dst : Option Tmp} {ty : TypeId} {pos : String} {aft : Array Edge} {a : Act} {w : World} {Q : Exit → Act → World → Prop}
theorem ld_in {t : TypeId} {x : Operand} (b o : Nat) (hx : a.eval x = .pointer (some ⟨b, o, none⟩)) (cs : List Value) (d : TypeDesc) (hc : w.rangeAt b o cs)
    (hu : P.underlying t = some d) (hd : d.isRow = true) (hi : (P.info? t).map (·.size) = some cs.length)
    (h : wpListIn F n P ops Q rest (a.put dst (.agg cs.toArray)) w) : wpListIn F n P ops Q ({ dst := dst, op := .load t x, type := ty, pos := pos, after := aft, guard := none } :: rest) a w := by
  refine wpListIn_plain rfl fun K hK => ?_
  unfold Oper.wpIn
  refine ⟨by simp [Oper.about], ?_⟩
  rw [Oper.semAt_plain F _ _ (by intro c hc'; cases hc')]
  unfold execOp
  simp only [hx, Instr.loadAt, Instr.sureAddr, Sem.run_bind, Sem.run_pure, Result.andThen_ok, run_loadVar_mid w b o t cs d hc hu hd hi]
  exact hK _ _ h
theorem st_in {t : TypeId} {x y : Operand} (b : Nat) (cur cells : Array Value) (hx : a.eval x = .pointer (some ⟨b, 0, none⟩)) (hy : a.eval y = .agg cells) (hb : w.heap[b]? = some (.cells cur t)) (hs : cur.size = cells.size)
    (hi : (P.info? t).map (·.size) = some cells.size) (h1 : cells.all (·.oneCell') = true)
    (h : ∀ W, W.heap[b]? = some (.cells cells t) → Only b w W → wpListIn F n P ops Q rest (a.put dst undef) W) : wpListIn F n P ops Q ({ dst := dst, op := .store t x y, type := ty, pos := pos, after := aft, guard := none } :: rest) a w := by
  refine wpListIn_plain rfl fun K hK => ?_
  have hr := run_storeVar_row (P := P) w b t t cur cells hb hi hs h1
  unfold Oper.wpIn
  refine ⟨by simp [Oper.about], ?_⟩
  rw [Oper.semAt_plain F _ _ (by intro c hc'; cases hc')]
  unfold execOp
  simp only [hx, hy, Instr.storeAt, Instr.sureAddr, Sem.run_bind, Sem.run_pure, Result.andThen_ok, hr]
  exact hK _ _ (h _ (setRow_heap w b cur cells t (0, 0) hb) ⟨rfl, rfl, rfl, by simp [World.setRow], fun k hk => setRow_other w b k cells hk⟩)
theorem al_in {t : TypeId} (z : Value) (hz : (zeroValue t).run P w = .ok z w)
    (h : ∀ W B, w.heap.size = B → W.heap[B]? = some (.cells z.cells t) → Below w.heap.size w W → W.heap.size = B + 1 → wpListIn F n P ops Q rest (a.put dst (.pointer (some ⟨B, 0, none⟩))) W) :
    wpListIn F n P ops Q ({ dst := dst, op := .alloc t, type := ty, pos := pos, after := aft, guard := none } :: rest) a w := by
  refine wpListIn_plain rfl fun K hK => ?_
  unfold Oper.wpIn
  refine ⟨by simp [Oper.about], ?_⟩
  rw [Oper.semAt_plain F _ _ (by intro c hc'; cases hc')]
  unfold execOp
  simp only [Instr.alloc, Sem.run_bind, hz, Result.andThen_ok]
  exact hK _ _ (h _ _ rfl (heap_alloc_new w _) ((Below.refl _ w).alloc (Nat.le_refl _) _) (World.size_alloc ..))
end
end Go.Proofs.Ytdlokmlcdlcfaaa
