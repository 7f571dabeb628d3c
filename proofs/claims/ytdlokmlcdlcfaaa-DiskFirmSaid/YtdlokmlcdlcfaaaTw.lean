/- Both disks, over one state. -/
import Derived.Test.YtdlokmlcdlcfaaaRf26
import Derived.Test.YtdlokmlcdlcfaaaDs20
set_option linter.unusedVariables false
set_option linter.unusedSimpArgs false
namespace Go.Proofs.Ytdlokmlcdlcfaaa
open Go.RowKit Go.MapKept
/-- A step, as it came in. -/
structure OpD where
  kind : Int
  n : Int
  s : List UInt8
  keep : List Bool
def DS.does (d : DS) (o : OpD) : DS :=
  if o.kind = 1 then (d.write o.n (o.s.take 600)).2 else if o.kind = 2 then d.barrier.2 else if o.kind = 3 then d.crash o.keep else if o.kind = 4 then d.start else if o.kind = 5 then d.arm o.n o.keep else d
structure Two (w0 w : World) (D R : Nat) (F G : Nat → Prop) (d r : DS) : Prop where
  disk : DiskAt w D F d
  ref : RefAt w R G r
  geF : ∀ k, F k → w0.heap.size ≤ k
  geG : ∀ k, G k → w0.heap.size ≤ k
  apart : ∀ k, F k → ¬G k
  below : Below w0.heap.size w0 w
section
variable {w0 w w' : World} {D R : Nat} {F G : Nat → Prop} {d r d' r' : DS}
theorem Two.over (h : Two w0 w D R F G d r) (hb : Below w.heap.size w w') : Two w0 w' D R F G d r :=
  ⟨h.disk.below hb, h.ref.below hb, h.geF, h.geG, h.apart, h.below.trans (hb.mono h.below.size)⟩
theorem Two.disk_step (h : Two w0 w D R F G d r) (hL : Leaves F w w' D d') : Two w0 w' D R (Grow F w w') G d' r :=
  ⟨hL.1, h.ref.apart hL.2 (fun k hg hf => h.apart k hf hg), fun k hk => hk.elim (h.geF k) fun h1 => Nat.le_trans h.below.size h1.1, h.geG,
    fun k hk hg => hk.elim (fun hf => h.apart k hf hg) fun h1 => by have := h.ref.lt k hg; omega, h.below.trans (hL.2.below h.below.size h.geF)⟩
theorem Two.ref_step (h : Two w0 w D R F G d r) (hL : RLeaves G w w' R r') : Two w0 w' D R F (Grow G w w') d r' :=
  ⟨h.disk.apart hL.2 h.apart, hL.1, h.geF, fun k hk => hk.elim (h.geG k) fun h1 => Nat.le_trans h.below.size h1.1,
    fun k hf hk => hk.elim (fun hg => h.apart k hf hg) fun h1 => by have := h.disk.lt k hf; omega, h.below.trans (hL.2.below h.below.size h.geG)⟩
/-- Only blocks that are neither's change. -/
theorem Two.aside {H : Nat → Prop} (h : Two w0 w D R F G d r) (hc : Chg H w w') (hF : ∀ k, H k → ¬F k ∧ ¬G k ∧ w0.heap.size ≤ k) : Two w0 w' D R F G d r :=
  ⟨h.disk.apart hc (fun k hf hh => (hF k hh).1 hf), h.ref.apart hc (fun k hg hh => (hF k hh).2.1 hg), h.geF, h.geG, h.apart, h.below.trans (hc.below h.below.size fun k hk => (hF k hk).2.2)⟩
/-- A slice that was there is read as it was. -/
theorem Two.sl (h : Two w0 w D R F G d r) {v : Value} {us : List Value} (hs : Sl w0 v us) : Sl w v us := by
  have hs' := hs
  obtain ⟨A, c, rfl, -, -, -, h4⟩ := hs'
  exact hs.of h.below.size fun h0 b hb => by
    obtain ⟨b', o, e, hlt, -⟩ := h4 h0
    subst e
    obtain rfl : b' = b := by simpa [Value.ownBlock] using hb
    exact h.below.block b' hlt
/-- .. and is neither's. -/
theorem sl_old {w0 : World} {v : Value} {us : List Value} (hs : Sl w0 v us) (h0 : 0 < us.length) (b : Nat) (hb : v.ownBlock = some b) : b < w0.heap.size := by
  obtain ⟨A, c, rfl, -, -, -, h4⟩ := hs
  obtain ⟨b', o, e, hlt, -⟩ := h4 h0
  subst e
  obtain rfl : b' = b := by simpa [Value.ownBlock] using hb
  exact hlt
end
theorem Sl.take {w : World} {v : Value} {us : List Value} (h : Sl w v us) (n : Nat) (hn : n ≤ us.length) : ∃ A c, v = .slice A us.length c ∧ us.length ≤ c ∧ Sl w (.slice A n c) (us.take n) := by
  obtain ⟨A, c, rfl, h1, h2, h3, h4⟩ := h
  have hl : (us.take n).length = n := by rw [List.length_take]; omega
  refine ⟨A, c, rfl, h1, A, c, by rw [hl], by omega, h2, fun e => ⟨by have := (h3 e).1; omega, (h3 e).2⟩, fun h0 => ?_⟩
  obtain ⟨b, o, e, hb, hr⟩ := h4 (by omega)
  refine ⟨b, o, e, hb, fun j u hj => hr j u ?_⟩
  rw [List.getElem?_take] at hj
  split at hj
  · exact hj
  · cases hj
/-- Cells that may be written over. -/
structure Rub (w wr : World) (g o n : Nat) : Prop where
  chg : Chg (fun k => k = g) w wr
  cell : ∀ j, j < n → ∃ u, wr.cell? ⟨g, o + j, none⟩ = some u
  fz : ∀ p, wr.frozen? ⟨g, p, none⟩ = false
theorem Rub.start {w : World} {g o n c : Nat} {us : List Value} (h : Sl w (.slice (some ⟨g, o, none⟩) n c) us) (hf : ∀ p, w.frozen? ⟨g, p, none⟩ = false) : Rub w w g o n := by
  refine ⟨Chg.refl _ _, fun j hj => ?_, hf⟩
  obtain ⟨A, c', e, -, -, -, h4⟩ := h
  injection e with e1 e2 e3
  obtain ⟨b, p, e4, -, hr⟩ := h4 (by omega)
  subst e1
  cases e4
  exact ⟨_, hr j _ (List.getElem?_eq_getElem (by omega))⟩
theorem Rub.set {w wr : World} {g o n : Nat} (h : Rub w wr g o n) (j : Nat) (v : Value) : Rub w (wr.setCell ⟨g, o + j, none⟩ v) g o n :=
  ⟨h.chg.trans (only_set.chg rfl), fun i hi => by obtain ⟨u, hu⟩ := h.cell i hi; exact cell?_setCell_some hu, fun p => by rw [World.frozen?_setCell]; exact h.fz p⟩
/-- The document's disk, started. -/
theorem rstart_leaves {w : World} {R : Nat} {F : Nat → Prop} {d : DS} (h : RefAt w R F d) : RLeaves F w (w.setCell ⟨R, 2, none⟩ (.bool false)) R d.start := by
  obtain ⟨fv, lv, kv, hM, ho, fR, ff, fl, fk, hlt⟩ := h
  have hb := box_set (o := 2) (v := .bool false) hM.box
  have oth : ∀ k, k ≠ R → (w.setCell ⟨R, 2, none⟩ (.bool false)).heap[k]? = w.heap[k]? := fun k hk => Below.heap_setCell _ _ _ _ hk
  refine ⟨⟨fv, lv, kv, ⟨hb, ownsRow_of hM.firm fun b hb => oth b (hM.neF b hb), ownsRow_of hM.loose fun b hb => oth b (hM.neL b hb).1, hM.keep.of (by rw [size_set]; exact Nat.le_refl _) fun h0 b hb => oth b (hM.neK (keep_pos h0) b hb).1, hM.neF, hM.neL, hM.neK⟩,
    ⟨ho.n, ho.left, ho.loose, ho.firm⟩, .of fR, fun b hb => .of (ff b hb), fun b hb => .of (fl b hb), fun h0 b hb => .of (fk h0 b hb), grow_lt (by rw [size_set]; exact Nat.le_refl _) hlt⟩, chg_set fR⟩
end Go.Proofs.Ytdlokmlcdlcfaaa
