/- What some writes made of each sector. -/
import Derived.Test.YtdlokmlcdlcfaaaDp
import Derived.Deep.AppendLies
set_option linter.unusedVariables false
set_option linter.unusedSimpArgs false
namespace Go.Proofs.Ytdlokmlcdlcfaaa
open Go.RowKit Go.MapKept
/-- What was written for a sector, in its order. -/
def mrow (L : List (Int × Sec)) (i : Nat) : List Value := (L.filter fun x => x.1 == (i : Int)).map fun x => .string (bstr x.2)
theorem mrow_snoc (L : List (Int × Sec)) (x : Int × Sec) (i : Nat) : mrow (L ++ [x]) i = mrow L i ++ (if x.1 = (i : Int) then [.string (bstr x.2)] else []) := by
  unfold mrow
  rw [List.filter_append, List.map_append]
  congr 1
  by_cases h : x.1 = (i : Int)
  · rw [if_pos h, List.filter_cons_of_pos (by simpa using h)]
    rfl
  · rw [if_neg h, List.filter_cons_of_neg (by simpa using h)]
    rfl
theorem mrow_mem {L : List (Int × Sec)} {i : Nat} {s : Sec} (h : ((i : Int), s) ∈ L) : .string (bstr s) ∈ mrow L i :=
  List.mem_map.2 ⟨((i : Int), s), List.mem_filter.2 ⟨h, by simp⟩, rfl⟩
theorem mrow_len (L : List (Int × Sec)) (i : Nat) : (mrow L i).length ≤ L.length := by
  unfold mrow
  rw [List.length_map]
  exact List.length_filter_le _ _
theorem mrow_str {L : List (Int × Sec)} {i k : Nat} {u : Value} (h : (mrow L i)[k]? = some u) : ∃ s, u = .string (bstr s) := by
  unfold mrow at h
  rw [List.getElem?_map] at h
  cases hx : (L.filter fun x => x.1 == (i : Int))[k]? with
  | none => rw [hx] at h; cases h
  | some x => rw [hx] at h; cases h; exact ⟨_, rfl⟩
/-- So many rows, each its own, none of them the disk's. -/
structure Rows8 (w0 w : World) (M : Nat) (F : Nat → Prop) (mv : Nat → Value) (L : List (Int × Sec)) : Prop where
  box : w.heap[M]? = some (.cells ((List.range 8).map mv).toArray 42)
  row : ∀ i, i < 8 → w.ownsRow 0 9 1 (mv i) (mrow L i).length (mrow L i)
  at_ : ∀ i b, i < 8 → (mv i).ownBlock = some b → ¬F b ∧ b ≠ M ∧ w0.heap.size ≤ b ∧ b < w.heap.size
  ne : ∀ i j b, i < 8 → j < 8 → i ≠ j → (mv i).ownBlock = some b → (mv j).ownBlock ≠ some b
  nF : ¬F M
  ge : w0.heap.size ≤ M
theorem Rows8.of {w0 w w' : World} {M : Nat} {F G : Nat → Prop} {mv : Nat → Value} {L : List (Int × Sec)} (h : Rows8 w0 w M F mv L) (hc : Chg F w w') (hG : ∀ k, G k → F k ∨ w.heap.size ≤ k) : Rows8 w0 w' M G mv L := by
  have hM : M < w.heap.size := (Array.getElem?_eq_some_iff.1 h.box).1
  refine ⟨(hc.block M hM h.nF).trans h.box, fun i hi => ownsRow_of (h.row i hi) fun b hb => ?_, fun i b hi hb => ?_, h.ne, fun hg => ?_, h.ge⟩
  · have := h.at_ i b hi hb
    exact hc.block b this.2.2.2 this.1
  · have := h.at_ i b hi hb
    exact ⟨fun hg => (hG b hg).elim this.1 fun h => by omega, this.2.1, this.2.2.1, Nat.lt_of_lt_of_le this.2.2.2 hc.size⟩
  · exact (hG M hg).elim h.nF fun h => by omega
theorem Rows8.below {w0 w w' : World} {M : Nat} {F : Nat → Prop} {mv : Nat → Value} {L : List (Int × Sec)} (h : Rows8 w0 w M F mv L) (hb : Below w.heap.size w w') : Rows8 w0 w' M F mv L :=
  h.of (.of_below hb) fun k hk => .inl hk
theorem Rows8.cell {w0 w : World} {M : Nat} {F : Nat → Prop} {mv : Nat → Value} {L : List (Int × Sec)} (h : Rows8 w0 w M F mv L) {i : Nat} (hi : i < 8) : w.cell? ⟨M, i, none⟩ = some (mv i) := by
  rw [cell_of_row w M i _ _ _ h.box, List.getElem?_toArray, List.getElem?_map, List.getElem?_range hi]
  rfl
theorem rows8_start {w0 w : World} {M : Nat} {F : Nat → Prop} (hb : w.heap[M]? = some (.cells ((List.range 8).map fun _ => .slice none 0 0).toArray 42)) (hF : ¬F M) (h0 : w0.heap.size ≤ M) : Rows8 w0 w M F (fun _ => .slice none 0 0) [] :=
  ⟨hb, fun i hi => World.ownsRow_nil _ _ _ _, fun i b hi hb => (by cases hb), fun i j b hi hj hij hb => (by cases hb), hF, h0⟩
/-- A row grows by one. -/
theorem Rows8.add {w0 w w5 w6 : World} {M : Nat} {F : Nat → Prop} {mv : Nat → Value} {L : List (Int × Sec)} (h : Rows8 w0 w M F mv L) {i : Nat} (hi : i < 8) (s : Sec) (hFl : ∀ k, F k → k < w.heap.size) (hw0 : w0.heap.size ≤ w.heap.size) (hB : Below w.heap.size w w5) {g cap : Nat}
    (hown : w6.ownsRow 0 9 1 (.slice (some ⟨g, 0, none⟩) ((mrow L i).length + 1) cap) ((mrow L i).length + 1) (mrow L i ++ [.string (bstr s)])) (hgrow : w5.grownBy w6 (mv i).ownBlock) (hat : (mv i).ownBlock = some g ∨ w.heap.size ≤ g) (hlg : g < w6.heap.size) :
    Rows8 w0 (w6.setCell ⟨M, i, none⟩ (.slice (some ⟨g, 0, none⟩) ((mrow L i).length + 1) cap)) M F (fun j => if j = i then .slice (some ⟨g, 0, none⟩) ((mrow L i).length + 1) cap else mv j) (L ++ [((i : Int), s)]) ∧
    Chg (fun k => k = M ∨ (mv i).ownBlock = some k) w (w6.setCell ⟨M, i, none⟩ (.slice (some ⟨g, 0, none⟩) ((mrow L i).length + 1) cap)) := by
  have hM : M < w.heap.size := (Array.getElem?_eq_some_iff.1 h.box).1
  have hon : Only M w6 (w6.setCell ⟨M, i, none⟩ (.slice (some ⟨g, 0, none⟩) ((mrow L i).length + 1) cap)) := only_set
  have hb5 := hB.size
  have hb6 := hgrow.size
  have hgM : g ≠ M := by
    rcases hat with e | e
    · exact (h.at_ i g hi e).2.1
    · omega
  have hgF : ¬F g := by
    rcases hat with e | e
    · exact (h.at_ i g hi e).1
    · intro hf
      have := hFl g hf
      omega
  have hg0 : w0.heap.size ≤ g := by
    rcases hat with e | e
    · exact (h.at_ i g hi e).2.2.1
    · omega
  have hst : ∀ k, k < w.heap.size → k ≠ M → (mv i).ownBlock ≠ some k → (w6.setCell ⟨M, i, none⟩ (.slice (some ⟨g, 0, none⟩) ((mrow L i).length + 1) cap)).heap[k]? = w.heap[k]? := fun k hk h1 h2 =>
    (hon.block k h1).trans ((hgrow.block k (by omega) (fun e => h2 e.symm)).trans (hB.block k hk))
  have hM6 : w6.heap[M]? = w.heap[M]? := (hgrow.block M (by omega) (fun e => (h.at_ i M hi e.symm).2.1 rfl)).trans (hB.block M hM)
  have hne : ∀ j b, j < 8 → j ≠ i → (mv j).ownBlock = some b → b ≠ g := fun j b hj hji hb e => by
    rcases hat with e2 | e2
    · exact h.ne j i b hj hi hji hb (by rw [e2, e])
    · have := (h.at_ j b hj hb).2.2.2
      omega
  refine ⟨⟨?_, fun j hj => ?_, fun j b hj hb => ?_, fun j k b hj hk hjk hb => ?_, h.nF, h.ge⟩, ?_⟩
  · rw [box_set (o := i) (v := .slice (some ⟨g, 0, none⟩) ((mrow L i).length + 1) cap) (hM6.trans h.box)]
    congr 2
    rw [List.setIfInBounds_toArray]
    congr 1
    apply List.ext_getElem?
    intro k
    rw [List.getElem?_set]
    simp only [List.getElem?_map, List.length_map, List.length_range]
    by_cases hk : k < 8
    · rw [List.getElem?_range hk]
      by_cases e : i = k
      · rw [if_pos e, if_pos (by omega)]
        simp [e]
      · rw [if_neg e]
        simp [show ¬k = i from fun h => e h.symm]
    · rw [List.getElem?_eq_none (by simpa using hk), if_neg (by omega)]
      rfl
  · show World.ownsRow _ 0 _ 1 (if j = i then _ else _) _ _
    rw [mrow_snoc]
    by_cases e : j = i
    · subst e
      rw [if_pos rfl, if_pos rfl, List.length_append]
      exact ownsRow_of hown fun b hb => hon.block b (by obtain rfl : g = b := (by simpa [Value.ownBlock] using hb); exact hgM)
    · rw [if_neg e, if_neg (by omega), List.append_nil]
      exact ownsRow_of (h.row j hj) fun b hb => hst b (h.at_ j b hj hb).2.2.2 (h.at_ j b hj hb).2.1 (h.ne j i b hj hi e hb)
  · rw [hon.size]
    by_cases e : j = i
    · rw [if_pos e] at hb
      obtain rfl : g = b := by simpa [Value.ownBlock] using hb
      exact ⟨hgF, hgM, hg0, hlg⟩
    · rw [if_neg e] at hb
      have := h.at_ j b hj hb
      exact ⟨this.1, this.2.1, this.2.2.1, by omega⟩
  · by_cases e : j = i
    · rw [if_pos e] at hb
      obtain rfl : g = b := by simpa [Value.ownBlock] using hb
      rw [if_neg (by omega)]
      exact fun e2 => hne k g hk (by omega) e2 rfl
    · rw [if_neg e] at hb
      by_cases e2 : k = i
      · rw [if_pos e2]
        intro e3
        obtain rfl : g = b := by simpa [Value.ownBlock] using e3
        exact hne j g hj e hb rfl
      · rw [if_neg e2]
        exact h.ne j k b hj hk hjk hb
  · refine ⟨hon.os.trans (hgrow.os.trans hB.os), hon.tape.trans (hgrow.tape.trans hB.tape), hon.output.trans (hgrow.output.trans hB.output), by rw [hon.size]; omega, fun k hk hf => hst k hk (fun e => hf (.inl e)) fun e => hf (.inr e)⟩
theorem sl_below {w w' : World} {v : Value} {us : List Value} (h : Sl w v us) (hb : Below w.heap.size w w') : Sl w' v us := h.of hb.size fun h0 b hb' => hb.block b (sl_old h h0 b hb')
theorem Own.aside {H : Nat → Prop} {w0 w w' : World} {D : Nat} {F : Nat → Prop} {d : DS} (h : Own w0 w D F d) (hc : Chg H w w') (hF : ∀ k, H k → ¬F k ∧ w0.heap.size ≤ k) : Own w0 w' D F d :=
  ⟨h.disk.apart hc (fun k hf hh => (hF k hh).1 hf), h.ge, h.below.trans (hc.below h.below.size fun k hk => (hF k hk).2)⟩
/-- A disk of eight sectors that runs free. -/
def dsE (f : Int → Sec) (L : List (Int × Sec)) : DS := ⟨8, f, L, false, 0, []⟩
theorem dsE_start (d : DS) (h : d.n = 8) : ((d.start).arm 0 []).barrier.2 = dsE (DS.put d.firm d.loose) [] := by
  obtain ⟨n, f, l, dn, lf, kp⟩ := d
  obtain rfl : n = 8 := h
  rfl
theorem dsE_at (f : Int → Sec) (L : List (Int × Sec)) (i : Int) : (dsE f L).at_ i = if i < 0 ∨ 8 ≤ i then 1 else 0 := by
  unfold DS.at_ dsE
  rw [if_neg (by simp)]
theorem dsE_write (f : Int → Sec) (L : List (Int × Sec)) (i : Int) (s : List UInt8) :
    (((dsE f L).write i s).1 = 1 ∧ ((dsE f L).write i s).2 = dsE f L) ∨ (0 ≤ i ∧ i < 8 ∧ s.length ≤ 512 ∧ ((dsE f L).write i s).1 = 0 ∧ ((dsE f L).write i s).2 = dsE f (L ++ [(i, pad s)])) := by
  have ha := dsE_at f L i
  unfold DS.write
  by_cases h : i < 0 ∨ 8 ≤ i
  · rw [if_pos h] at ha
    rw [ha, if_pos (by decide)]
    exact .inl ⟨rfl, rfl⟩
  · rw [if_neg h] at ha
    rw [ha, if_neg (by decide)]
    by_cases h5 : 512 < s.length
    · rw [if_pos h5]
      exact .inl ⟨rfl, rfl⟩
    · rw [if_neg h5]
      exact .inr ⟨by omega, by omega, by omega, rfl, rfl⟩
theorem dsE_crash (f : Int → Sec) (L : List (Int × Sec)) (ks : List Bool) : (dsE f L).crash ks = { dsE (DS.put f (DS.kept L ks)) [] with down := true } := by
  unfold DS.crash dsE
  rw [if_neg (by simp)]
theorem dsE_back (f : Int → Sec) (L : List (Int × Sec)) (ks : List Bool) : ((dsE f L).crash ks).start = dsE (DS.put f (DS.kept L ks)) [] := by
  rw [dsE_crash]
  rfl
/-- What was noted so far. -/
def wasr (f : Int → Sec) (k : Nat) : List Value := (List.range 8).map fun (j : Nat) => if j < k then .string (bstr (f (j : Int))) else .string ⟨#[]⟩
theorem wasr_set (f : Int → Sec) {k : Nat} (hk : k < 8) : (wasr f k).set k (.string (bstr (f (k : Int)))) = wasr f (k + 1) := by
  apply List.ext_getElem?
  intro j
  rw [List.getElem?_set]
  unfold wasr
  simp only [List.getElem?_map, List.length_map, List.length_range]
  by_cases hj : j < 8
  · rw [List.getElem?_range hj]
    by_cases e : k = j
    · rw [if_pos e, if_pos (by omega), e]
      simp
    · rw [if_neg e]
      by_cases h : j < k
      · simp [h, show j < k + 1 by omega]
      · simp [h, show ¬j < k + 1 by omega]
  · rw [List.getElem?_eq_none (by simpa using hj), if_neg (by omega)]
    rfl
theorem wasr_at (f : Int → Sec) {j : Nat} (h : j < 8) : (wasr f 8)[j]? = some (.string (bstr (f (j : Int)))) := by
  unfold wasr
  rw [List.getElem?_map, List.getElem?_range h]
  simp [h]
theorem wasr_some (f : Int → Sec) (k : Nat) {j : Nat} (h : j < 8) : ∃ u, (wasr f k)[j]? = some u := by
  unfold wasr
  rw [List.getElem?_map, List.getElem?_range h]
  exact ⟨_, rfl⟩
theorem zero8s (w : World) : (zeroValue 38).run Try.prog w = .ok (.agg ((List.range 8).map fun _ => .string ⟨#[]⟩).toArray) w := by kernel_rfl
theorem zero8r (w : World) : (zeroValue 42).run Try.prog w = .ok (.agg ((List.range 8).map fun _ => .slice none 0 0).toArray) w := by kernel_rfl
end Go.Proofs.Ytdlokmlcdlcfaaa
