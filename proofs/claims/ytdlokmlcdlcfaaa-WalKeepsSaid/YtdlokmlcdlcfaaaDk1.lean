/- The disk in memory. -/
import Derived.Deep.AppendLies
import Derived.Deep.MidRow
import Derived.Deep.RegionHeld3
import Derived.OwnWalk
import Derived.Laws.BytesArg
import Derived.Below
import Derived.Test.YtdlokmlcdlcfaaaMp
import Derived.Test.YtdlokmlcdlcfaaaDs
import Derived.Test.YtdlokmlcdlcfaaaProg
set_option linter.unusedVariables false
set_option linter.unusedSimpArgs false
namespace Go.Proofs.Ytdlokmlcdlcfaaa
open Go.RowKit Go.MapKept
/-- Bytes, as cells. -/
def oct (b : UInt8) : Value := .int .u8 (b.toNat : Int)
def cel (l : List UInt8) : List Value := l.map oct
theorem cel_length (l : List UInt8) : (cel l).length = l.length := List.length_map ..
theorem cel_one (l : List UInt8) : ∀ u ∈ cel l, u.oneCell' = true := by
  intro u hu
  obtain ⟨b, -, rfl⟩ := List.mem_map.1 hu
  rfl
def secV (s : Sec) : Value := .agg (cel s).toArray
def wcel (x : Int × Sec) : List Value := .int .i64 x.1 :: cel x.2
def lcel (l : List (Int × Sec)) : List Value := l.flatMap wcel
theorem wcel_one (x : Int × Sec) : ∀ u ∈ wcel x, u.oneCell' = true := by
  intro u hu
  rcases List.mem_cons.1 hu with rfl | h
  · rfl
  · exact cel_one _ _ h
theorem lcel_length : ∀ (l : List (Int × Sec)), (∀ x ∈ l, x.2.length = 512) → (lcel l).length = l.length * 513
  | [], _ => rfl
  | x :: l, h => by
    have h1 := lcel_length l fun y hy => h y (List.mem_cons_of_mem _ hy)
    have h2 := h x List.mem_cons_self
    unfold lcel at h1 ⊢
    rw [List.flatMap_cons, List.length_append, h1, List.length_cons]
    unfold wcel
    rw [List.length_cons, cel_length, h2]
    omega
theorem lcel_snoc (l : List (Int × Sec)) (x : Int × Sec) : lcel (l ++ [x]) = lcel l ++ wcel x := by
  unfold lcel
  rw [List.flatMap_append, List.flatMap_cons, List.flatMap_nil, List.append_nil]
/-- The cells of the k-th that is loose. -/
theorem lcel_at : ∀ (l : List (Int × Sec)), (∀ x ∈ l, x.2.length = 512) → ∀ (k : Nat) (x : Int × Sec), l[k]? = some x → ∀ j u, (wcel x)[j]? = some u → (lcel l)[k * 513 + j]? = some u
  | [], _, k, x, hk, j, u, hj => by cases k <;> cases hk
  | y :: l, h, 0, x, hk, j, u, hj => by
    obtain rfl : y = x := by simpa using hk
    unfold lcel
    rw [List.flatMap_cons, Nat.zero_mul, Nat.zero_add, List.getElem?_append_left (List.getElem?_eq_some_iff.1 hj).1]
    exact hj
  | y :: l, h, k + 1, x, hk, j, u, hj => by
    have h1 := lcel_at l (fun y hy => h y (List.mem_cons_of_mem _ hy)) k x (by simpa using hk) j u hj
    have h2 : (wcel y).length = 513 := by unfold wcel; rw [List.length_cons, cel_length, h y List.mem_cons_self]
    unfold lcel at h1 ⊢
    rw [List.flatMap_cons, List.getElem?_append_right (by omega), h2, show (k + 1) * 513 + j - 513 = k * 513 + j by omega]
    exact h1
/-- A slice whose elements are one cell each. -/
def Sl (w : World) (v : Value) (us : List Value) : Prop :=
  ∃ A c, v = .slice A us.length c ∧ us.length ≤ c ∧ c ≤ maxLen ∧ (A = none → us.length = 0 ∧ c = 0) ∧ (0 < us.length → ∃ b o, A = some ⟨b, o, none⟩ ∧ b < w.heap.size ∧ w.rangeAt b o us)
theorem rangeAt_of {w w' : World} {b o : Nat} {us : List Value} (h : w.rangeAt b o us) (e : w'.heap[b]? = w.heap[b]?) : w'.rangeAt b o us := fun j v hv =>
  (World.cell?_of_block (w := w) (a := ⟨b, o + j, none⟩) e).trans (h j v hv)
theorem Sl.of {w w' : World} {v : Value} {us : List Value} (h : Sl w v us) (hs : w.heap.size ≤ w'.heap.size) (e : 0 < us.length → ∀ b, v.ownBlock = some b → w'.heap[b]? = w.heap[b]?) : Sl w' v us := by
  obtain ⟨A, c, rfl, h1, h2, h3, h4⟩ := h
  refine ⟨A, c, rfl, h1, h2, h3, fun h0 => ?_⟩
  obtain ⟨b, o, rfl, h5, h6⟩ := h4 h0
  exact ⟨b, o, rfl, Nat.lt_of_lt_of_le h5 hs, rangeAt_of h6 (e h0 b rfl)⟩
theorem Sl.nil (w : World) : Sl w (.slice none 0 0) [] := ⟨none, 0, rfl, Nat.le_refl _, Nat.zero_le _, fun _ => ⟨rfl, rfl⟩, fun h => absurd h (Nat.lt_irrefl 0)⟩
/-- All but the blocks of F stay. -/
structure Chg (F : Nat → Prop) (w w' : World) : Prop where
  os : w'.os = w.os
  tape : w'.tape = w.tape
  output : w'.output = w.output
  size : w.heap.size ≤ w'.heap.size
  block : ∀ k, k < w.heap.size → ¬F k → w'.heap[k]? = w.heap[k]?
theorem Chg.refl (F : Nat → Prop) (w : World) : Chg F w w := ⟨rfl, rfl, rfl, Nat.le_refl _, fun _ _ _ => rfl⟩
theorem Chg.trans {F : Nat → Prop} {a b c : World} (h : Chg F a b) (k : Chg F b c) : Chg F a c :=
  ⟨k.os.trans h.os, k.tape.trans h.tape, k.output.trans h.output, Nat.le_trans h.size k.size, fun i hi hf => (k.block i (Nat.lt_of_lt_of_le hi h.size) hf).trans (h.block i hi hf)⟩
theorem Chg.mono {F G : Nat → Prop} {w w' : World} (h : Chg F w w') (k : ∀ b, b < w.heap.size → F b → G b) : Chg G w w' :=
  ⟨h.os, h.tape, h.output, h.size, fun i hi hg => h.block i hi fun hf => hg (k i hi hf)⟩
theorem Chg.of_below {F : Nat → Prop} {w w' : World} (h : Below w.heap.size w w') : Chg F w w' := ⟨h.os, h.tape, h.output, h.size, fun i hi _ => h.block i hi⟩
theorem Chg.below {F : Nat → Prop} {w w' : World} {B : Nat} (h : Chg F w w') (hB : B ≤ w.heap.size) (hF : ∀ k, F k → B ≤ k) : Below B w w' :=
  ⟨h.os, h.tape, h.output, h.size, fun k hk => h.block k (Nat.lt_of_lt_of_le hk hB) fun hf => absurd (hF k hf) (by omega)⟩
/-- A footprint, and what is new. -/
def Grow (F : Nat → Prop) (w w' : World) (k : Nat) : Prop := F k ∨ (w.heap.size ≤ k ∧ k < w'.heap.size)
theorem Grow.of {F : Nat → Prop} {w w' : World} {k : Nat} (h : F k) : Grow F w w' k := .inl h
/-- The disk's blocks: its own, D; its map's, M; the row of those that are loose; what is kept at a crash. -/
structure DiskM (w : World) (D M : Nat) (lv kv : Value) (m : Int → Option Value) (d : DS) : Prop where
  box : w.heap[D]? = some (.cells #[.int .i64 d.n, .map (some M), lv, .bool d.down, .int .i64 d.left, kv] 69)
  map : MapR w M m
  firm : ∀ i, (m i).getD (secV zeros) = secV (d.firm i)
  row : w.ownsRow 0 73 513 lv d.loose.length (lcel d.loose)
  keep : Sl w kv (d.keep.map Value.bool)
  neM : M ≠ D
  neL : ∀ b, lv.ownBlock = some b → b ≠ D
  neK : d.keep ≠ [] → ∀ b, kv.ownBlock = some b → b ≠ D ∧ b ≠ M ∧ lv.ownBlock ≠ some b
/-- What a disk's numbers obey. -/
structure DS.ok (d : DS) : Prop where
  n : 1 ≤ d.n ∧ d.n ≤ 4096
  left : 0 ≤ d.left ∧ d.left ≤ 9223372036854775807
  loose : ∀ x ∈ d.loose, x.2.length = 512 ∧ 0 ≤ x.1 ∧ x.1 < d.n
  firm : ∀ i, (d.firm i).length = 512
def DiskAt (w : World) (D : Nat) (F : Nat → Prop) (d : DS) : Prop :=
  ∃ M lv kv m, DiskM w D M lv kv m d ∧ d.ok ∧ F D ∧ F M ∧ (∀ b, lv.ownBlock = some b → F b) ∧ (d.keep ≠ [] → ∀ b, kv.ownBlock = some b → F b) ∧ ∀ k, F k → k < w.heap.size
theorem DiskM.lt {w : World} {D M : Nat} {lv kv : Value} {m : Int → Option Value} {d : DS} (h : DiskM w D M lv kv m d) : D < w.heap.size := (Array.getElem?_eq_some_iff.1 h.box).1
theorem DiskM.neML {w : World} {D M : Nat} {lv kv : Value} {m : Int → Option Value} {d : DS} (h : DiskM w D M lv kv m d) : ∀ b, lv.ownBlock = some b → b ≠ M := by
  intro b hb e
  subst e
  rcases h.row.2 with ⟨e, -⟩ | ⟨g, cap, cur, e, -, hg, -⟩
  · rw [e] at hb; cases hb
  · rw [e] at hb
    obtain rfl : g = b := by simpa [Value.ownBlock] using hb
    obtain ⟨es, clock, h1, -⟩ := h.map
    rw [hg] at h1
    cases h1
theorem DiskM.cell {w : World} {D M : Nat} {lv kv : Value} {m : Int → Option Value} {d : DS} (h : DiskM w D M lv kv m d) :
    w.cell? ⟨D, 0, none⟩ = some (.int .i64 d.n) ∧ w.cell? ⟨D, 1, none⟩ = some (.map (some M)) ∧ w.cell? ⟨D, 2, none⟩ = some lv ∧ w.cell? ⟨D, 3, none⟩ = some (.bool d.down) ∧ w.cell? ⟨D, 4, none⟩ = some (.int .i64 d.left) ∧ w.cell? ⟨D, 5, none⟩ = some kv :=
  ⟨cell_of_row w D 0 _ _ _ h.box, cell_of_row w D 1 _ _ _ h.box, cell_of_row w D 2 _ _ _ h.box, cell_of_row w D 3 _ _ _ h.box, cell_of_row w D 4 _ _ _ h.box, cell_of_row w D 5 _ _ _ h.box⟩
theorem frozen_row {w : World} {b : Nat} {cs : Array Value} {t : TypeId} (h : w.heap[b]? = some (.cells cs t (0, 0))) (o : Nat) : w.frozen? ⟨b, o, none⟩ = false := by
  unfold World.frozen?
  simp [h]
theorem ownsRow_of {w w' : World} {base : Nat} {e : TypeId} {size n : Nat} {v : Value} {xs : List Value} (h : w.ownsRow base e size v n xs) (k : ∀ b, v.ownBlock = some b → w'.heap[b]? = w.heap[b]?) : w'.ownsRow base e size v n xs := by
  refine ⟨h.1, ?_⟩
  rcases h.2 with hn | ⟨g, cap, cur, rfl, hb, hgg, rest⟩
  · exact .inl hn
  · exact .inr ⟨g, cap, cur, rfl, hb, (k g rfl).trans hgg, rest⟩
/-- Another world in which the disk's blocks are as they were. -/
theorem DiskM.of {w w' : World} {D M : Nat} {lv kv : Value} {m : Int → Option Value} {d : DS} (h : DiskM w D M lv kv m d) (hs : w.heap.size ≤ w'.heap.size)
    (hk : ∀ k, (k = D ∨ k = M ∨ lv.ownBlock = some k ∨ (d.keep ≠ [] ∧ kv.ownBlock = some k)) → w'.heap[k]? = w.heap[k]?) : DiskM w' D M lv kv m d :=
  ⟨(hk D (.inl rfl)).trans h.box, h.map.of (hk M (.inr (.inl rfl))), h.firm, ownsRow_of h.row fun b hb => hk b (.inr (.inr (.inl hb))),
    h.keep.of hs fun h0 b hb => hk b (.inr (.inr (.inr ⟨by intro e; rw [e] at h0; exact absurd h0 (Nat.lt_irrefl 0), hb⟩))), h.neM, h.neL, h.neK⟩
theorem DiskAt.of {w w' : World} {D : Nat} {F : Nat → Prop} {d : DS} (h : DiskAt w D F d) (hs : w.heap.size ≤ w'.heap.size) (hk : ∀ k, F k → w'.heap[k]? = w.heap[k]?) : DiskAt w' D F d := by
  obtain ⟨M, lv, kv, m, hM, ho, fD, fM, fl, fk, hlt⟩ := h
  refine ⟨M, lv, kv, m, hM.of hs fun k hk' => hk k ?_, ho, fD, fM, fl, fk, fun k hk' => Nat.lt_of_lt_of_le (hlt k hk') hs⟩
  rcases hk' with rfl | rfl | h | ⟨h1, h2⟩
  · exact fD
  · exact fM
  · exact fl k h
  · exact fk h1 k h2
theorem DiskAt.below {w w' : World} {D : Nat} {F : Nat → Prop} {d : DS} (h : DiskAt w D F d) (hb : Below w.heap.size w w') : DiskAt w' D F d :=
  h.of hb.size fun k hk => hb.block k (by obtain ⟨M, lv, kv, m, -, -, -, -, -, -, hlt⟩ := h; exact hlt k hk)
theorem DiskAt.apart {w w' : World} {D : Nat} {F G : Nat → Prop} {d : DS} (h : DiskAt w D F d) (hc : Chg G w w') (hne : ∀ k, F k → ¬G k) : DiskAt w' D F d :=
  h.of hc.size fun k hk => hc.block k (by obtain ⟨M, lv, kv, m, -, -, -, -, -, -, hlt⟩ := h; exact hlt k hk) (hne k hk)
theorem DiskAt.ok {w : World} {D : Nat} {F : Nat → Prop} {d : DS} (h : DiskAt w D F d) : d.ok := by
  obtain ⟨M, lv, kv, m, hM, ho, -⟩ := h
  exact ho
theorem DiskAt.lt {w : World} {D : Nat} {F : Nat → Prop} {d : DS} (h : DiskAt w D F d) : ∀ k, F k → k < w.heap.size := by
  obtain ⟨M, lv, kv, m, hM, ho, -, -, -, -, hlt⟩ := h
  exact hlt
/-- What a call leaves of a disk: d. -/
def Leaves (F : Nat → Prop) (w w' : World) (D : Nat) (d : DS) : Prop := DiskAt w' D (Grow F w w') d ∧ Chg F w w'
end Go.Proofs.Ytdlokmlcdlcfaaa
