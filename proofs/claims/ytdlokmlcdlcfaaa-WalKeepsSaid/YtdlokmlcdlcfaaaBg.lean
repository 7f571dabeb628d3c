/- Great values: laws for the walk. -/
import Derived.Test.YtdlokmlcdlcfaaaDk1
import Derived.Test.YtdlokmlcdlcfaaaAa
import Derived.Maps.OwnOps
set_option linter.unusedVariables false
set_option linter.unusedSimpArgs false
namespace Go.Proofs.Ytdlokmlcdlcfaaa
open Go.RowKit Go.MapKept
/-- The same world but for one block. -/
structure Only (b : Nat) (w w' : World) : Prop where
  os : w'.os = w.os
  tape : w'.tape = w.tape
  output : w'.output = w.output
  size : w'.heap.size = w.heap.size
  block : ∀ k, k ≠ b → w'.heap[k]? = w.heap[k]?
theorem Only.chg {b : Nat} {w w' : World} {F : Nat → Prop} (h : Only b w w') (hF : F b) : Chg F w w' := ⟨h.os, h.tape, h.output, Nat.le_of_eq h.size.symm, fun k _ hf => h.block k fun e => hf (e ▸ hF)⟩
theorem Only.below {b B : Nat} {w w' : World} (h : Only b w w') (hb : B ≤ b) : Below B w w' := ⟨h.os, h.tape, h.output, Nat.le_of_eq h.size.symm, fun k hk => h.block k (by omega)⟩
theorem Only.cell {b : Nat} {w w' : World} (h : Only b w w') {a : Addr} (ha : a.block ≠ b) : w'.cell? a = w.cell? a := World.cell?_of_block (h.block _ ha)
theorem Only.frozen {b : Nat} {w w' : World} (h : Only b w w') {a : Addr} (ha : a.block ≠ b) : w'.frozen? a = w.frozen? a := World.frozen?_of_block (h.block _ ha)
section
variable {P : Program} {ops : Array Oper} {rest : List Oper} {dst : Option Tmp} {ty : TypeId} {pos : String} {aft : Array Edge} {a : Act} {w : World} {Q : Exit → Act → World → Prop}
theorem ld_big {t : TypeId} {x : Operand} (b o : Nat) (hx : a.eval x = .pointer (some ⟨b, o, none⟩)) (cs : List Value) (d : TypeDesc) (hc : w.rangeAt b o cs)
    (hu : P.underlying t = some d) (hd : d.isRow = true) (hi : (P.info? t).map (·.size) = some cs.length)
    (h : wpList P ops Q rest (a.put dst (.agg cs.toArray)) w) : wpList P ops Q ({ dst := dst, op := .load t x, type := ty, pos := pos, after := aft, guard := none } :: rest) a w :=
  wpList_load_mid rfl t x rfl b o hx cs d hc hu hd hi h
theorem st_big {t : TypeId} {x y : Operand} (b : Nat) (cur cells : Array Value) (hx : a.eval x = .pointer (some ⟨b, 0, none⟩)) (hy : a.eval y = .agg cells) (hb : w.heap[b]? = some (.cells cur t)) (hs : cur.size = cells.size)
    (hi : (P.info? t).map (·.size) = some cells.size) (h1 : cells.all (·.oneCell') = true)
    (h : ∀ W, W.heap[b]? = some (.cells cells t) → Only b w W → wpList P ops Q rest (a.put dst undef) W) : wpList P ops Q ({ dst := dst, op := .store t x y, type := ty, pos := pos, after := aft, guard := none } :: rest) a w := by
  refine wpList_plain rfl fun K hK => ?_
  have hr := run_storeVar_row (P := P) w b t t cur cells hb hi hs h1
  unfold Oper.wp execOp
  simp only [hx, hy, Instr.storeAt, Instr.sureAddr, Sem.run_bind, Sem.run_pure, Result.andThen_ok, hr]
  exact hK _ _ (h _ (setRow_heap w b cur cells t (0, 0) hb) ⟨rfl, rfl, rfl, by simp [World.setRow], fun k hk => setRow_other w b k cells hk⟩)
theorem al_big {t : TypeId} (z : Value) (hz : (zeroValue t).run P w = .ok z w)
    (h : ∀ W B, w.heap.size = B → W.heap[B]? = some (.cells z.cells t) → Below w.heap.size w W → W.heap.size = B + 1 → wpList P ops Q rest (a.put dst (.pointer (some ⟨B, 0, none⟩))) W) :
    wpList P ops Q ({ dst := dst, op := .alloc t, type := ty, pos := pos, after := aft, guard := none } :: rest) a w := by
  refine wpList_plain rfl fun K hK => ?_
  unfold Oper.wp execOp
  simp only [Instr.alloc, Sem.run_bind, hz, Result.andThen_ok]
  refine hK _ _ (h _ _ rfl (heap_alloc_new w _) ((Below.refl _ w).alloc (Nat.le_refl _) _) (World.size_alloc ..))
theorem mu_big {t : TypeId} {m x v : Operand} {k e : TypeId} (ht : P.underlying t = some (.map k e)) (hk : P.underlying k = some (.int .i64)) (b : Nat) (i : Int) (val : Value) (mm : Int → Option Value)
    (hm : a.eval m = .map (some b)) (hx : a.eval x = .int .i64 i) (hv : a.eval v = val) (hR : MapR w b mm)
    (h : ∀ W, MapR W b (fun j => if j = i then some val else mm j) → Only b w W → wpList P ops Q rest (a.put dst undef) W) :
    wpList P ops Q ({ dst := dst, op := .mapUpdate t m x v, type := ty, pos := pos, after := aft, guard := none } :: rest) a w := by
  refine wpList_plain rfl fun K hK => ?_
  obtain ⟨o, hr, hM⟩ := hR.update ht hk i val
  have hb := hR.lt
  unfold Oper.wp execOp
  simp only [hm, hx, hv, hr, Sem.run_bind, Sem.run_pure, Result.andThen_ok]
  refine hK _ _ (h _ (hM _ ?_) ⟨rfl, rfl, rfl, ?_, fun k hk => ?_⟩)
  · simp [setB, Array.getElem?_setIfInBounds, hb]
  · simp [setB]
  · simp [setB, Array.getElem?_setIfInBounds, Ne.symm hk]
variable {K : Act → World → Prop} {gd : Option (Nat × Bool)}
theorem ld_wp {t : TypeId} {x : Operand} (b o : Nat) (hx : a.eval x = .pointer (some ⟨b, o, none⟩)) (cs : List Value) (d : TypeDesc) (hc : w.rangeAt b o cs)
    (hu : P.underlying t = some d) (hd : d.isRow = true) (hi : (P.info? t).map (·.size) = some cs.length)
    (h : K (a.put dst (.agg cs.toArray)) w) : Oper.wp P { dst := dst, op := .load t x, type := ty, pos := pos, after := aft, guard := gd } a w K Q :=
  wp_load_mid t x rfl b o hx cs d hc hu hd hi h
theorem st_wp {t : TypeId} {x y : Operand} (b : Nat) (cur cells : Array Value) (hx : a.eval x = .pointer (some ⟨b, 0, none⟩)) (hy : a.eval y = .agg cells) (hb : w.heap[b]? = some (.cells cur t)) (hs : cur.size = cells.size)
    (hi : (P.info? t).map (·.size) = some cells.size) (h1 : cells.all (·.oneCell') = true)
    (h : ∀ W, W.heap[b]? = some (.cells cells t) → Only b w W → K (a.put dst undef) W) : Oper.wp P { dst := dst, op := .store t x y, type := ty, pos := pos, after := aft, guard := gd } a w K Q := by
  have hr := run_storeVar_row (P := P) w b t t cur cells hb hi hs h1
  unfold Oper.wp execOp
  simp only [hx, hy, Instr.storeAt, Instr.sureAddr, Sem.run_bind, Sem.run_pure, Result.andThen_ok, hr]
  exact h _ (setRow_heap w b cur cells t (0, 0) hb) ⟨rfl, rfl, rfl, by simp [World.setRow], fun k hk => setRow_other w b k cells hk⟩
theorem al_wp {t : TypeId} (z : Value) (hz : (zeroValue t).run P w = .ok z w)
    (h : ∀ W B, w.heap.size = B → W.heap[B]? = some (.cells z.cells t) → Below w.heap.size w W → W.heap.size = B + 1 → K (a.put dst (.pointer (some ⟨B, 0, none⟩))) W) :
    Oper.wp P { dst := dst, op := .alloc t, type := ty, pos := pos, after := aft, guard := gd } a w K Q := by
  unfold Oper.wp execOp
  simp only [Instr.alloc, Sem.run_bind, hz, Result.andThen_ok]
  exact h _ _ rfl (heap_alloc_new w _) ((Below.refl _ w).alloc (Nat.le_refl _) _) (World.size_alloc ..)
theorem mu_wp {t : TypeId} {m x v : Operand} {k e : TypeId} (ht : P.underlying t = some (.map k e)) (hk : P.underlying k = some (.int .i64)) (b : Nat) (i : Int) (val : Value) (mm : Int → Option Value)
    (hm : a.eval m = .map (some b)) (hx : a.eval x = .int .i64 i) (hv : a.eval v = val) (hR : MapR w b mm)
    (h : ∀ W, MapR W b (fun j => if j = i then some val else mm j) → Only b w W → K (a.put dst undef) W) :
    Oper.wp P { dst := dst, op := .mapUpdate t m x v, type := ty, pos := pos, after := aft, guard := gd } a w K Q := by
  obtain ⟨o, hr, hM⟩ := hR.update ht hk i val
  have hb := hR.lt
  unfold Oper.wp execOp
  simp only [hm, hx, hv, hr, Sem.run_bind, Sem.run_pure, Result.andThen_ok]
  refine h _ (hM _ ?_) ⟨rfl, rfl, rfl, ?_, fun k hk => ?_⟩
  · simp [setB, Array.getElem?_setIfInBounds, hb]
  · simp [setB]
  · simp [setB, Array.getElem?_setIfInBounds, Ne.symm hk]
end
end Go.Proofs.Ytdlokmlcdlcfaaa
