/- The document's disk in memory; sector. -/
import Derived.Test.YtdlokmlcdlcfaaaDl1
import Derived.Lib.Strings
set_option linter.unusedVariables false
set_option linter.unusedSimpArgs false
namespace Go.Proofs.Ytdlokmlcdlcfaaa
open Go.RowKit Go.MapKept
def fcel (n : Nat) (f : Int → Sec) : List Value := (List.range n).map fun (i : Nat) => .string (bstr (f (i : Int)))
def rwc (x : Int × Sec) : List Value := [.int .i64 x.1, .string (bstr x.2)]
def rcel (l : List (Int × Sec)) : List Value := l.flatMap rwc
theorem rcel_snoc (l : List (Int × Sec)) (x : Int × Sec) : rcel (l ++ [x]) = rcel l ++ rwc x := by
  unfold rcel
  rw [List.flatMap_append, List.flatMap_cons, List.flatMap_nil, List.append_nil]
theorem rcel_at : ∀ (l : List (Int × Sec)) (k : Nat) (x : Int × Sec), l[k]? = some x → (rcel l)[k * 2]? = some (.int .i64 x.1) ∧ (rcel l)[k * 2 + 1]? = some (.string (bstr x.2))
  | [], k, x, hk => by cases k <;> cases hk
  | y :: l, 0, x, hk => by
    obtain rfl : y = x := by simpa using hk
    exact ⟨rfl, rfl⟩
  | y :: l, k + 1, x, hk => by
    have h := rcel_at l k x (by simpa using hk)
    unfold rcel at h ⊢
    rw [List.flatMap_cons]
    constructor
    · rw [List.getElem?_append_right (by simp [rwc]; omega), show (k + 1) * 2 - (rwc y).length = k * 2 by simp [rwc]; omega]
      exact h.1
    · rw [List.getElem?_append_right (by simp [rwc]; omega), show (k + 1) * 2 + 1 - (rwc y).length = k * 2 + 1 by simp [rwc]; omega]
      exact h.2
theorem fcel_at {n i : Nat} (f : Int → Sec) (h : i < n) : (fcel n f)[i]? = some (.string (bstr (f (i : Int)))) := by
  unfold fcel
  rw [List.getElem?_map, List.getElem?_range h]
  rfl
theorem fcel_set (n : Nat) (f : Int → Sec) (i : Int) (s : Sec) (h : 0 ≤ i) : (fcel n f).set i.toNat (.string (bstr s)) = fcel n fun j => if j = i then s else f j := by
  apply List.ext_getElem?
  intro k
  rw [List.getElem?_set]
  unfold fcel
  simp only [List.getElem?_map, List.length_map, List.length_range]
  by_cases hk : k < n
  · rw [List.getElem?_range hk]
    by_cases e : i.toNat = k
    · rw [if_pos e, if_pos (by omega)]
      have : (k : Int) = i := by omega
      simp [this]
    · rw [if_neg e]
      have : ¬(k : Int) = i := by omega
      simp [this]
  · rw [List.getElem?_eq_none (by simpa using hk)]
    by_cases e : i.toNat = k
    · rw [if_pos e, if_neg (by omega)]
      rfl
    · rw [if_neg e]
      rfl
/-- One element of an own row is set. -/
theorem ownsRow_set {w : World} {base : Nat} {e : TypeId} {g n cap : Nat} {xs : List Value} (h : w.ownsRow base e 1 (.slice (some ⟨g, 0, none⟩) n cap) n xs) (i : Nat) (u : Value) : (w.setCell ⟨g, i, none⟩ u).ownsRow base e 1 (.slice (some ⟨g, 0, none⟩) n cap) n (if i < n then xs.set i u else xs) := by
  have hlen := h.1
  rcases h.2 with ⟨h1, -⟩ | ⟨g', cap', cur, e1, hb, hg, hnc, hcm, hcs, ht⟩
  · cases h1
  · injection e1 with e2 e3 e4
    cases e2
    cases e4
    refine ⟨by split <;> simp [hlen], .inr ⟨g, cap, _, rfl, hb, box_set hg, hnc, hcm, by simpa using hcs, ?_⟩⟩
    rw [Array.toList_setIfInBounds, Nat.mul_one] at *
    split
    · rw [← ht, List.take_set]
    · rename_i hi
      rw [← ht]
      apply List.ext_getElem?
      intro k
      rw [List.getElem?_take, List.getElem?_take]
      split
      · rw [List.getElem?_set, if_neg (by omega)]
      · rfl
structure RefM (w : World) (R : Nat) (fv lv kv : Value) (d : DS) : Prop where
  box : w.heap[R]? = some (.cells #[fv, lv, .bool d.down, .int .i64 d.left, kv] 48)
  firm : w.ownsRow 0 9 1 fv d.n.toNat (fcel d.n.toNat d.firm)
  loose : w.ownsRow 0 83 2 lv d.loose.length (rcel d.loose)
  keep : Sl w kv (d.keep.map Value.bool)
  neF : ∀ b, fv.ownBlock = some b → b ≠ R
  neL : ∀ b, lv.ownBlock = some b → b ≠ R ∧ fv.ownBlock ≠ some b
  neK : d.keep ≠ [] → ∀ b, kv.ownBlock = some b → b ≠ R ∧ fv.ownBlock ≠ some b ∧ lv.ownBlock ≠ some b
def RefAt (w : World) (R : Nat) (F : Nat → Prop) (d : DS) : Prop :=
  ∃ fv lv kv, RefM w R fv lv kv d ∧ d.ok ∧ F R ∧ (∀ b, fv.ownBlock = some b → F b) ∧ (∀ b, lv.ownBlock = some b → F b) ∧ (d.keep ≠ [] → ∀ b, kv.ownBlock = some b → F b) ∧ ∀ k, F k → k < w.heap.size
theorem RefM.lt {w : World} {R : Nat} {fv lv kv : Value} {d : DS} (h : RefM w R fv lv kv d) : R < w.heap.size := (Array.getElem?_eq_some_iff.1 h.box).1
theorem RefM.cell {w : World} {R : Nat} {fv lv kv : Value} {d : DS} (h : RefM w R fv lv kv d) :
    w.cell? ⟨R, 0, none⟩ = some fv ∧ w.cell? ⟨R, 1, none⟩ = some lv ∧ w.cell? ⟨R, 2, none⟩ = some (.bool d.down) ∧ w.cell? ⟨R, 3, none⟩ = some (.int .i64 d.left) ∧ w.cell? ⟨R, 4, none⟩ = some kv :=
  ⟨cell_of_row w R 0 _ _ _ h.box, cell_of_row w R 1 _ _ _ h.box, cell_of_row w R 2 _ _ _ h.box, cell_of_row w R 3 _ _ _ h.box, cell_of_row w R 4 _ _ _ h.box⟩
theorem keep_pos {d : DS} (h0 : 0 < (d.keep.map Value.bool).length) : d.keep ≠ [] := by intro e; rw [e] at h0; exact absurd h0 (Nat.lt_irrefl 0)
theorem RefM.of {w w' : World} {R : Nat} {fv lv kv : Value} {d : DS} (h : RefM w R fv lv kv d) (hs : w.heap.size ≤ w'.heap.size)
    (hk : ∀ k, (k = R ∨ fv.ownBlock = some k ∨ lv.ownBlock = some k ∨ (d.keep ≠ [] ∧ kv.ownBlock = some k)) → w'.heap[k]? = w.heap[k]?) : RefM w' R fv lv kv d :=
  ⟨(hk R (.inl rfl)).trans h.box, ownsRow_of h.firm fun b hb => hk b (.inr (.inl hb)), ownsRow_of h.loose fun b hb => hk b (.inr (.inr (.inl hb))),
    h.keep.of hs fun h0 b hb => hk b (.inr (.inr (.inr ⟨keep_pos h0, hb⟩))), h.neF, h.neL, h.neK⟩
theorem RefAt.of {w w' : World} {R : Nat} {F : Nat → Prop} {d : DS} (h : RefAt w R F d) (hs : w.heap.size ≤ w'.heap.size) (hk : ∀ k, F k → w'.heap[k]? = w.heap[k]?) : RefAt w' R F d := by
  obtain ⟨fv, lv, kv, hM, ho, fR, ff, fl, fk, hlt⟩ := h
  refine ⟨fv, lv, kv, hM.of hs fun k hk' => hk k ?_, ho, fR, ff, fl, fk, fun k hk' => Nat.lt_of_lt_of_le (hlt k hk') hs⟩
  rcases hk' with rfl | h | h | ⟨h1, h2⟩
  · exact fR
  · exact ff k h
  · exact fl k h
  · exact fk h1 k h2
theorem RefAt.lt {w : World} {R : Nat} {F : Nat → Prop} {d : DS} (h : RefAt w R F d) : ∀ k, F k → k < w.heap.size := by
  obtain ⟨fv, lv, kv, hM, ho, fR, ff, fl, fk, hlt⟩ := h
  exact hlt
theorem RefAt.below {w w' : World} {R : Nat} {F : Nat → Prop} {d : DS} (h : RefAt w R F d) (hb : Below w.heap.size w w') : RefAt w' R F d := h.of hb.size fun k hk => hb.block k (h.lt k hk)
theorem RefAt.apart {w w' : World} {R : Nat} {F G : Nat → Prop} {d : DS} (h : RefAt w R F d) (hc : Chg G w w') (hne : ∀ k, F k → ¬G k) : RefAt w' R F d := h.of hc.size fun k hk => hc.block k (h.lt k hk) (hne k hk)
theorem RefAt.mono {w : World} {R : Nat} {F G : Nat → Prop} {d : DS} (h : RefAt w R F d) (hG : ∀ k, F k → G k) (hlt : ∀ k, G k → k < w.heap.size) : RefAt w R G d := by
  obtain ⟨fv, lv, kv, hM, ho, fR, ff, fl, fk, -⟩ := h
  exact ⟨fv, lv, kv, hM, ho, hG _ fR, fun b hb => hG _ (ff b hb), fun b hb => hG _ (fl b hb), fun h0 b hb => hG _ (fk h0 b hb), hlt⟩
def RLeaves (F : Nat → Prop) (w w' : World) (R : Nat) (d : DS) : Prop := RefAt w' R (Grow F w w') d ∧ Chg F w w'
theorem RLeaves.refl {w : World} {R : Nat} {F : Nat → Prop} {d : DS} (h : RefAt w R F d) : RLeaves F w w R d := ⟨h.mono (fun _ => .of) (grow_lt (Nat.le_refl _) h.lt), Chg.refl _ _⟩
theorem RLeaves.trans {w w1 w' : World} {R : Nat} {F G : Nat → Prop} {d : DS} (hF : ∀ k, F k → k < w.heap.size) (h1 : Chg F w w1) (hG : ∀ k, G k → Grow F w w1 k) (h2 : RLeaves G w1 w' R d) : RLeaves F w w' R d := by
  have hg : ∀ k, k < w.heap.size → ¬F k → ¬G k := fun k hk hf hg => (hG k hg).elim hf fun h => by omega
  refine ⟨h2.1.mono (fun k hk => ?_) (grow_lt (Nat.le_trans h1.size h2.2.size) hF), h2.2.os.trans h1.os, h2.2.tape.trans h1.tape, h2.2.output.trans h1.output, Nat.le_trans h1.size h2.2.size,
    fun k hk hf => (h2.2.block k (Nat.lt_of_lt_of_le hk h1.size) (hg k hk hf)).trans (h1.block k hk hf)⟩
  rcases hk with hk | ⟨h3, h4⟩
  · rcases hG k hk with h | ⟨h5, h6⟩
    · exact .inl h
    · exact .inr ⟨h5, Nat.lt_of_lt_of_le h6 h2.2.size⟩
  · exact .inr ⟨Nat.le_trans h1.size h3, h4⟩
theorem bstr_size (l : List UInt8) : (bstr l).size = l.length := by simp [bstr, ByteArray.size]
theorem bstr_append (a b : List UInt8) : bstr a ++ bstr b = bstr (a ++ b) := by
  apply ByteArray.ext
  simp [bstr, ByteArray.data_append]
theorem made_cel (n : Nat) : (madeCells (Value.int .u8 0).cells (n * 1)).toList = cel (List.replicate n 0) := by
  unfold madeCells cel
  rw [Array.toList_map, Array.toList_range, Nat.mul_one, List.map_replicate]
  refine List.eq_replicate_iff.2 ⟨by simp, fun v hv => ?_⟩
  obtain ⟨x, -, rfl⟩ := List.mem_map.1 hv
  show (Value.int .u8 0).cells[x % 1]! = _
  rw [Nat.mod_one]
  rfl
set_option maxRecDepth 100000 in
set_option maxHeartbeats 2000000 in
theorem sector_calls (w : World) (l : List UInt8) (hl : l.length ≤ 512) :
    Calls Try.prog 33 #[.string (bstr l)] w fun e w' => e = .returned (.string (bstr (pad l))) ∧ Below w.heap.size w w' := by
  obtain ⟨i0, hi, hz0, hz1, hz2⟩ := info_parts inf1
  have hsz := bstr_size l
  go_enter Try.func33, Try.ntmps33
  go_wp2_with (at_make; refine wpList_make_full _ rfl _ _ 30 rfl w.heap.size 5 i0 (.int .u8 0) 1 Try.underlying30 hi hz0 hz1 _ _ _ _ (512 - l.length) rfl rfl (by omega) (by omega) (by rw [hz2]; omega) (by simp only [maxLen]; omega) (Nat.le_refl _) ?_; intro w1 hown hg)
  have hB : Below w.heap.size w w1 := (Below.refl _ w).grown hg (Nat.le_refl _) (by intro k hk; cases hk)
  rw [made_cel] at hown
  have hcv := conv_any (P := Try.prog) w1 30 5 Try.underlying30 Try.underlying5 _ _ (Sl.own hown) _ Try.underlying9
  go_wp2_with fail
  rw [hcv]
  simp only [Result.andThen]
  rw [Oper.upon_value]
  have hs2 : (bstr (List.replicate (512 - l.length) 0)).size = 512 - l.length := by rw [bstr_size, List.length_replicate]
  have hpd : bstr l ++ bstr (List.replicate (512 - l.length) 0) = bstr (pad l) := bstr_append _ _
  go_wp2_with fail
  go_ret
  exact ⟨rfl, hB⟩
end Go.Proofs.Ytdlokmlcdlcfaaa
