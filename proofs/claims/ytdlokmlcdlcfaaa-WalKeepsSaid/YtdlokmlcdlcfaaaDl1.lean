/- A disk that is a call's own. -/
import Derived.Test.YtdlokmlcdlcfaaaDk9
set_option linter.unusedVariables false
set_option linter.unusedSimpArgs false
namespace Go.Proofs.Ytdlokmlcdlcfaaa
open Go.RowKit Go.MapKept
structure Own (w0 w : World) (D : Nat) (F : Nat → Prop) (d : DS) : Prop where
  disk : DiskAt w D F d
  ge : ∀ k, F k → w0.heap.size ≤ k
  below : Below w0.heap.size w0 w
theorem Own.over {w0 w W : World} {D : Nat} {F : Nat → Prop} {d : DS} (h : Own w0 w D F d) (hb : Below w.heap.size w W) : Own w0 W D F d :=
  ⟨h.disk.below hb, h.ge, h.below.trans (hb.mono h.below.size)⟩
theorem Own.step {w0 w w' : World} {D : Nat} {F : Nat → Prop} {d d' : DS} (h : Own w0 w D F d) (hL : Leaves F w w' D d') : Own w0 w' D (Grow F w w') d' :=
  ⟨hL.1, fun k hk => hk.elim (h.ge k) fun h1 => Nat.le_trans h.below.size h1.1, h.below.trans (hL.2.below h.below.size h.ge)⟩
/-- What a call leaves of it. -/
def OwnL (w0 w : World) (D : Nat) (F : Nat → Prop) (d : DS) (w' : World) : Prop := ∃ G, Own w0 w' D G d ∧ Chg F w w' ∧ ∀ k, G k → F k ∨ w.heap.size ≤ k
theorem OwnL.of {w0 w w' : World} {D : Nat} {F : Nat → Prop} {d d' : DS} (h : Own w0 w D F d) (hL : Leaves F w w' D d') : OwnL w0 w D F d' w' := ⟨_, h.step hL, hL.2, fun k hk => hk.imp id (·.1)⟩
structure Fits (d : DS) : Prop where
  loose : d.loose.length ≤ 1000000
  keep : d.keep.length ≤ 140737488355328
section
variable {w0 w : World} {D : Nat} {F : Nat → Prop} {d : DS}
theorem own_write (h : Own w0 w D F d) (hf : Fits d) (i : Int) (v : Value) (l : List UInt8) (hv : Sl w v (cel l)) (hvF : ∀ b, v.ownBlock = some b → ¬F b) (hl : l.length ≤ 9223372036854775807) :
    Calls Try.prog 13 #[.pointer (some ⟨D, 0, none⟩), .int .i64 i, v] w fun e w' => e = .returned (.int .i64 (d.write i l).1) ∧ OwnL w0 w D F (d.write i l).2 w' :=
  (write_calls h.disk hf.loose hf.keep i v l hv (fun _ => hvF) hl).mono fun e w' ⟨h1, h2⟩ => ⟨h1, .of h h2⟩
theorem own_barrier (h : Own w0 w D F d) (hf : Fits d) :
    Calls Try.prog 12 #[.pointer (some ⟨D, 0, none⟩)] w fun e w' => e = .returned (.int .i64 d.barrier.1) ∧ OwnL w0 w D F d.barrier.2 w' :=
  (barrier_calls h.disk hf.loose hf.keep).mono fun e w' ⟨h1, h2⟩ => ⟨h1, .of h h2⟩
theorem own_crash (h : Own w0 w D F d) (hf : Fits d) (v : Value) (keep : List Bool) (hv : Sl w v (keep.map Value.bool)) (hl : keep.length ≤ 140737488355328) :
    Calls Try.prog 18 #[.pointer (some ⟨D, 0, none⟩), v] w fun e w' => e = .returned (.tuple #[]) ∧ OwnL w0 w D F (d.crash keep) w' :=
  (crash_calls h.disk hf.loose v keep hv hl).mono fun e w' ⟨h1, h2⟩ => ⟨h1, .of h h2⟩
theorem own_arm (h : Own w0 w D F d) (n : Int) (hn : n ≤ 9223372036854775807) (v : Value) (keep : List Bool) (hv : Sl w v (keep.map Value.bool)) (hl : keep.length ≤ 140737488355328) :
    Calls Try.prog 11 #[.pointer (some ⟨D, 0, none⟩), .int .i64 n, v] w fun e w' => e = .returned (.tuple #[]) ∧ OwnL w0 w D F (d.arm n keep) w' :=
  (arm_calls h.disk n hn v keep hv hl).mono fun e w' ⟨h1, h2⟩ => ⟨h1, .of h h2⟩
theorem own_start (h : Own w0 w D F d) : Calls Try.prog 14 #[.pointer (some ⟨D, 0, none⟩)] w fun e w' => e = .returned (.tuple #[]) ∧ OwnL w0 w D F d.start w' :=
  (start_calls h.disk).mono fun e w' ⟨h1, h2⟩ => ⟨h1, .of h h2⟩
end
theorem own_new (w0 w : World) (hb : Below w0.heap.size w0 w) (n : Int) (h : 1 ≤ n ∧ n ≤ 4096) :
    Calls Try.prog 10 #[.int .i64 n] w fun e w' => ∃ D G, e = .returned (.pointer (some ⟨D, 0, none⟩)) ∧ Own w0 w' D G (DS.new n) ∧ Below w.heap.size w w' ∧ ∀ k, G k → w.heap.size ≤ k :=
  (new_calls w n h).mono fun e w' ⟨h1, h2, h3⟩ => ⟨_, _, h1, ⟨h2, fun k hk => hk.elim (fun h => h.elim) fun h => Nat.le_trans hb.size h.1, hb.trans (h3.mono hb.size)⟩, h3, fun k hk => hk.elim (fun h => h.elim) (·.1)⟩
/-- One byte in a new block. -/
theorem sl_new (w : World) (b : UInt8) : Sl (w.alloc (.cells #[oct b] 5)) (.slice (some ⟨w.heap.size, 0, none⟩) 1 1) (cel [b]) := by
  refine ⟨some ⟨w.heap.size, 0, none⟩, 1, rfl, Nat.le_refl _, by simp [maxLen], fun h => (by cases h), fun _ => ⟨_, 0, rfl, by simp, fun j u hj => ?_⟩⟩
  rw [Nat.zero_add, cell_of_row _ w.heap.size j _ _ _ (heap_alloc_new w _)]
  simpa [cel] using hj
theorem sl_byte (w : World) (b : UInt8) (x : Int) (hx : (b.toNat : Int) = x) (fr : Nat × Nat) : Sl (w.alloc (.cells #[.int .u8 x] 5 fr)) (.slice (some ⟨w.heap.size, 0, none⟩) 1 1) (cel [b]) := by
  subst hx
  refine ⟨some ⟨w.heap.size, 0, none⟩, 1, rfl, Nat.le_refl _, by simp [maxLen], fun h => (by cases h), fun _ => ⟨_, 0, rfl, by simp, fun j u hj => ?_⟩⟩
  rw [Nat.zero_add, cell_of_row _ w.heap.size j _ _ _ (heap_alloc_new w _)]
  simpa [cel, oct] using hj
theorem below_alloc (w : World) (o : Obj) : Below w.heap.size w (w.alloc o) := (Below.refl _ w).alloc (Nat.le_refl _) _
end Go.Proofs.Ytdlokmlcdlcfaaa
