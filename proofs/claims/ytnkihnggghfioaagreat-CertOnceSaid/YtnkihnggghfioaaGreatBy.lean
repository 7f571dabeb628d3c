/- Bytes and slices: what the disk's and the wal's texts hold of them (PRINTED BY mkby.py). cert, without a program in sight: sums, and what bytes are read as. -/
import Derived.Deep.AppendLies
import Derived.Deep.MidRow
import Derived.Deep.RegionHeld3
import Derived.OwnWalk
import Derived.Laws.BytesArg
import Derived.Below
import Derived.Laws.AppendOwn
import Derived.Laws.AppendOwnNone
import Derived.WalkKit
import Derived.ArgAppend
import Derived.Laws.IdiomStrings
import Derived.StillTailTactics
import Derived.Test.YtnkihnggghfioaaGreatProg
set_option linter.unusedVariables false
set_option linter.unusedSimpArgs false
namespace Go.Proofs.YtnkihnggghfioaaGreat
section
section
open Go.RowKit
def oct (b : UInt8) : Value := .int .u8 (b.toNat : Int)
def cel (l : List UInt8) : List Value := l.map oct
theorem jad (l : List UInt8) : (cel l).length = l.length := List.length_map ..
theorem jd7 (l : List UInt8) : ∀ u ∈ cel l, u.oneCell' = true := by
  intro u hu; obtain ⟨b, -, rfl⟩ := List.mem_map.1 hu
  rfl
def Sl (w : World) (v : Value) (us : List Value) : Prop :=
  ∃ A c, v = .slice A us.length c ∧ us.length ≤ c ∧ c ≤ maxLen ∧ (A = none → us.length = 0 ∧ c = 0) ∧ (0 < us.length → ∃ b o, A = some ⟨b, o, none⟩ ∧ b < w.heap.size ∧ w.rangeAt b o us)
theorem jdx {w w' : World} {b o : Nat} {us : List Value} (h : w.rangeAt b o us) (e : w'.heap[b]? = w.heap[b]?) : w'.rangeAt b o us := fun j v hv =>
  (World.cell?_of_block (w := w) (a := ⟨b, o + j, none⟩) e).trans (h j v hv)
theorem Sl.of {w w' : World} {v : Value} {us : List Value} (h : Sl w v us) (hs : w.heap.size ≤ w'.heap.size) (e : 0 < us.length → ∀ b, v.ownBlock = some b → w'.heap[b]? = w.heap[b]?) : Sl w' v us := by
  obtain ⟨A, c, rfl, h1, h2, h3, h4⟩ := h; refine ⟨A, c, rfl, h1, h2, h3, fun h0 => ?_⟩; obtain ⟨b, o, rfl, h5, h6⟩ := h4 h0; exact ⟨b, o, rfl, Nat.lt_of_lt_of_le h5 hs, jdx h6 (e h0 b rfl)⟩
theorem Sl.nil (w : World) : Sl w (.slice none 0 0) [] := ⟨none, 0, rfl, Nat.le_refl _, Nat.zero_le _, fun _ => ⟨rfl, rfl⟩, fun h => absurd h (Nat.lt_irrefl 0)⟩
structure Chg (F : Nat → Prop) (w w' : World) : Prop where
  os : w'.os = w.os
  tape : w'.tape = w.tape
  output : w'.output = w.output
  size : w.heap.size ≤ w'.heap.size
  block : ∀ k, k < w.heap.size → ¬F k → w'.heap[k]? = w.heap[k]?
theorem Chg.refl (F : Nat → Prop) (w : World) : Chg F w w := ⟨rfl, rfl, rfl, Nat.le_refl _, fun _ _ _ => rfl⟩
theorem Chg.trans {F : Nat → Prop} {a b c : World} (h : Chg F a b) (k : Chg F b c) : Chg F a c :=
  ⟨k.os.trans h.os, k.tape.trans h.tape, k.output.trans h.output, Nat.le_trans h.size k.size, fun i hi hf => (k.block i (Nat.lt_of_lt_of_le hi h.size) hf).trans (h.block i hi hf)⟩
theorem Chg.mono {F G : Nat → Prop} {w w' : World} (h : Chg F w w') (k : ∀ b, b < w.heap.size → F b → G b) : Chg G w w' :=
  ⟨h.os, h.tape, h.output, h.size, fun i hi hg => h.block i hi fun hf => hg (k i hi hf)⟩
theorem Chg.of_below {F : Nat → Prop} {w w' : World} (h : Below w.heap.size w w') : Chg F w w' := ⟨h.os, h.tape, h.output, h.size, fun i hi _ => h.block i hi⟩
theorem Chg.below {F : Nat → Prop} {w w' : World} {B : Nat} (h : Chg F w w') (hB : B ≤ w.heap.size) (hF : ∀ k, F k → B ≤ k) : Below B w w' :=
  ⟨h.os, h.tape, h.output, h.size, fun k hk => h.block k (Nat.lt_of_lt_of_le hk hB) fun hf => absurd (hF k hf) (by omega)⟩
theorem jg4 {w : World} {b : Nat} {cs : Array Value} {t : TypeId} (h : w.heap[b]? = some (.cells cs t (0, 0))) (o : Nat) : w.frozen? ⟨b, o, none⟩ = false := by
  unfold World.frozen?; simp [h]
theorem jaf {w w' : World} {base : Nat} {e : TypeId} {size n : Nat} {v : Value} {xs : List Value} (h : w.ownsRow base e size v n xs) (k : ∀ b, v.ownBlock = some b → w'.heap[b]? = w.heap[b]?) : w'.ownsRow base e size v n xs := by
  refine ⟨h.1, ?_⟩
  rcases h.2 with hn | ⟨g, cap, cur, rfl, hb, hgg, rest⟩
  · exact .inl hn
  · exact .inr ⟨g, cap, cur, rfl, hb, (k g rfl).trans hgg, rest⟩
theorem jip (w : World) (row : Option Nat) : w.grownBy w row := ⟨rfl, rfl, rfl, Nat.le_refl _, fun _ _ _ => rfl⟩
theorem jcq {P : Program} {w : World} {ops : Array Oper} {rest : List Oper} {o : Oper} {a : Act} {Q : Exit → Act → World → Prop} (hgd : o.guard = none) (s x : Operand) (t : TypeId)
    (ho : o.op = .call { callee := .builtin .append, args := #[s, x], argTypes := #[t, t] })
    (base : Nat) (e : TypeId) (i : TypeInfo) (z : Value) (bytes : Nat) (ht : P.underlying t = some (.slice e)) (hi : P.info? e = some i) (hz : i.zero = some z)
    (hsize : i.size = 1) (hby : i.bytes = bytes) (hzs : z.cells.size = 1)
    (v : Value) (n : Nat) (xs : List Value) (hs : a.eval s = v) (hown : w.ownsRow base e 1 v n xs)
    (x' : Value) (news : List Value) (hx : a.eval x = x') (hsl : Sl w x' news) (h1 : ∀ u ∈ news, u.oneCell' = true)
    (h63 : n + news.length ≤ maxLen) (hbytes : (n + news.length) * bytes ≤ 140737488355328) (hbase : base ≤ w.heap.size)
    (h : ∀ v' w', w'.ownsRow base e 1 v' (n + news.length) (xs ++ news) → w.grownBy w' v.ownBlock → (v' = .slice none 0 0 ↔ v = .slice none 0 0 ∧ news.length = 0) → wpList P ops Q rest (a.put o.dst v') w') : wpList P ops Q (o :: rest) a w := by
  obtain ⟨A, c, rfl, hc1, hc2, hno, hat⟩ := hsl
  cases A with
  | some ad =>
    refine wpList_append_own w hgd s x t ho base e i z 1 bytes ht hi hz hsize hby hzs (by decide) v n xs hs hown ad news.length c news hx (Nat.mul_one _).symm (fun j u hu => ?_) h1 h63 hbytes hbase h; obtain ⟨b, o, e, -, hr⟩ := hat (Nat.lt_of_le_of_lt (Nat.zero_le _) (List.getElem?_eq_some_iff.1 hu).1)
    cases e
    rw [Addr.add_lit]; exact hr j u hu
  | none =>
    obtain ⟨h0, rfl⟩ := hno rfl; have hn : news = [] := List.eq_nil_of_length_eq_zero h0; subst hn; exact wpList_append_own_none hgd s x t ho base e i 1 ht hi v n xs hs hown hx (h v w (by simpa using hown) (jip _ _) (by simp))
def bstr (l : List UInt8) : ByteArray := ⟨l.toArray⟩
theorem Sl.own {w : World} {base : Nat} {e : TypeId} {v : Value} {n : Nat} {us : List Value} (h : w.ownsRow base e 1 v n us) : Sl w v us := by
  have hl : us.length = n := by have := h.1; omega
  rcases h.2 with ⟨rfl, rfl⟩ | ⟨g, cap, cur, rfl, hb, hg, hnc, hcm, hcs, ht⟩
  · have hn : us = [] := List.eq_nil_of_length_eq_zero hl
    subst hn; exact Sl.nil w
  · refine ⟨some ⟨g, 0, none⟩, cap, by rw [hl], by omega, hcm, fun h => (by cases h), fun h0 => ⟨g, 0, rfl, (Array.getElem?_eq_some_iff.1 hg).1, fun j u hu => ?_⟩⟩
    have := h.cells (g := g) rfl j u hu
    rwa [Addr.add_lit] at this
theorem jg5 {w : World} {base : Nat} {e : TypeId} {v : Value} {n : Nat} {us : List Value} (h : w.ownsRow base e 1 v n us) : ∀ b, v.ownBlock = some b → ∀ o, w.frozen? ⟨b, o, none⟩ = false := by
  intro b hb o
  rcases h.2 with ⟨rfl, rfl⟩ | ⟨g, cap, cur, rfl, -, hg, -⟩
  · cases hb
  · obtain rfl : g = b := by simpa [Value.ownBlock] using hb
    exact jg4 hg o
theorem inf1 : (Tryz.prog.info? 5).map (fun i => (i.zero, i.size, i.bytes)) = some (some (.int .u8 0), 1, 1) := by kernel_rfl
structure Onl (b : Nat) (w w' : World) : Prop where
  os : w'.os = w.os
  tape : w'.tape = w.tape
  output : w'.output = w.output
  size : w'.heap.size = w.heap.size
  block : ∀ k, k ≠ b → w'.heap[k]? = w.heap[k]?
theorem Onl.chg {b : Nat} {w w' : World} {F : Nat → Prop} (h : Onl b w w') (hF : F b) : Chg F w w' := ⟨h.os, h.tape, h.output, Nat.le_of_eq h.size.symm, fun k _ hf => h.block k fun e => hf (e ▸ hF)⟩
theorem Onl.below {b B : Nat} {w w' : World} (h : Onl b w w') (hb : B ≤ b) : Below B w w' := ⟨h.os, h.tape, h.output, Nat.le_of_eq h.size.symm, fun k hk => h.block k (by omega)⟩
theorem Onl.cell {b : Nat} {w w' : World} (h : Onl b w w') {a : Addr} (ha : a.block ≠ b) : w'.cell? a = w.cell? a := World.cell?_of_block (h.block _ ha)
theorem Onl.frozen {b : Nat} {w w' : World} (h : Onl b w w') {a : Addr} (ha : a.block ≠ b) : w'.frozen? a = w.frozen? a := World.frozen?_of_block (h.block _ ha)
theorem Onl.trans {b : Nat} {u v w : World} (h : Onl b u v) (k : Onl b v w) : Onl b u w := ⟨k.os.trans h.os, k.tape.trans h.tape, k.output.trans h.output, k.size.trans h.size, fun i hi => (k.block i hi).trans (h.block i hi)⟩
theorem only_set {w : World} {b o : Nat} {v : Value} : Onl b w (w.setCell ⟨b, o, none⟩ v) := ⟨rfl, rfl, rfl, by simp [World.setCell], fun k hk => Below.heap_setCell _ _ _ _ hk⟩
theorem jbn {w : World} {base : Nat} {e : TypeId} {size n : Nat} {v : Value} {xs : List Value} (h : w.ownsRow base e size v n xs) : ∃ A c, v = .slice A n c := by
  rcases h.2 with ⟨rfl, rfl⟩ | ⟨g, cap, cur, rfl, -⟩
  · exact ⟨_, _, rfl⟩
  · exact ⟨_, _, rfl⟩
theorem jae {w : World} {b o : Nat} {cs : Array Value} {t : TypeId} {fr : Nat × Nat} {v : Value} (h : w.heap[b]? = some (.cells cs t fr)) : (w.setCell ⟨b, o, none⟩ v).heap[b]? = some (.cells (cs.setIfInBounds o v) t fr) := by
  simp [World.setCell, Array.getElem?_modify, h]
theorem jee {w : World} {a : Addr} {v : Value} : (w.setCell a v).heap.size = w.heap.size := by simp [World.setCell]
theorem jj8 (w : World) (b : UInt8) (x : Int) (hx : (b.toNat : Int) = x) (fr : Nat × Nat) : Sl (w.alloc (.cells #[.int .u8 x] 5 fr)) (.slice (some ⟨w.heap.size, 0, none⟩) 1 1) (cel [b]) := by
  subst hx; refine ⟨some ⟨w.heap.size, 0, none⟩, 1, rfl, Nat.le_refl _, by simp [maxLen], fun h => (by cases h), fun _ => ⟨_, 0, rfl, by simp, fun j u hj => ?_⟩⟩; rw [Nat.zero_add, cell_of_row _ w.heap.size j _ _ _ (heap_alloc_new w _)]
  simpa [cel, oct] using hj
theorem jac (w : World) (o : Obj) : Below w.heap.size w (w.alloc o) := (Below.refl _ w).alloc (Nat.le_refl _) _
theorem res2 {fn : Func} {t u : Tmp} {tmps : Array Value} {P : Program} {w : World} {v0 v1 : Value} (h : fn.results = #[.tmp t, .tmp u]) (h0 : tmps.getD t undef = v0) (h1 : tmps.getD u undef = v1) : (results fn tmps).run P w = .ok (.tuple #[v0, v1]) w := by
  rw [results_tmp2 h, h0, h1]
theorem hideK {p : Prop} (h : p) : Hid p := h
def wone (h : Int) (b : UInt8) : Int := IntKind.u64.wrap (bits .xor .u64 h (IntKind.u64.wrap (b.toNat : Int)) * 1099511628211)
def wsum (h : Int) (l : List UInt8) : Int := l.foldl wone h
def le : List UInt8 → Nat
  | [] => 0
  | b :: l => b.toNat + 256 * le l
theorem jte : ∀ l : List UInt8, le l < 2 ^ (8 * l.length)
  | [] => Nat.one_pos
  | b :: l => by
    have h := jte l; have hb := b.toNat_lt; unfold le; rw [List.length_cons, Nat.mul_add, Nat.pow_add]
    omega
theorem jnq : ∀ (l : List UInt8) (x : UInt8), le (l ++ [x]) = le l + x.toNat * 2 ^ (8 * l.length)
  | [], x => by simp [le]
  | b :: l, x => by
    have h := jnq l x
    show b.toNat + 256 * le (l ++ [x]) = b.toNat + 256 * le l + _
    rw [h, List.length_cons, Nat.mul_add 8, Nat.pow_add, Nat.mul_add, ← Nat.mul_assoc, ← Nat.add_assoc, Nat.mul_comm 256 x.toNat, Nat.mul_assoc, Nat.mul_comm 256, Nat.mul_comm 256 (2 ^ (8 * l.length))]
theorem jnr {n : Int} (h : 0 ≤ n ∧ n < 18446744073709551616) : IntKind.u64.wrap n = n := by
  rw [IntKind.wrap_u64]
  omega
theorem ju7 {a b : Nat} (ha : a < 18446744073709551616) (hb : b < 18446744073709551616) : bits .or .u64 (a : Int) (b : Int) = ((a ||| b : Nat) : Int) := by
  have e : ∀ n : Nat, n < 18446744073709551616 → (BitVec.ofInt 64 (n : Int)).toNat = n := fun n h => by
    rw [BitVec.toNat_ofInt]
    omega
  show IntKind.u64.wrap ((BitVec.ofInt 64 (a : Int) ||| BitVec.ofInt 64 (b : Int)).toNat : Nat) = _
  rw [BitVec.toNat_or, e a ha, e b hb, jnr]; exact ⟨by omega, by have := Nat.or_lt_two_pow (n := 64) ha hb; omega⟩
def numk (x : Nat) : Nat → List UInt8
  | 0 => []
  | k + 1 => numk x k ++ [UInt8.ofNat (x / 2 ^ (8 * k))]
theorem ja9 (x : Nat) : ∀ k, (numk x k).length = k
  | 0 => rfl
  | k + 1 => by rw [numk, List.length_append, ja9 x k]; rfl
theorem jns (x : Nat) : ∀ k, le (numk x k) = x % 2 ^ (8 * k)
  | 0 => by simp [numk, le, Nat.mod_one]
  | k + 1 => by
    rw [numk, jnq, jns x k, ja9, UInt8.toNat_ofNat', Nat.mul_add 8, Nat.pow_add, Nat.mod_mul]; rw [Nat.mul_comm (2 ^ (8 * k))]
theorem Sl.first {w : World} {A : Option Addr} {m c : Nat} {us : List Value} (h : Sl w (.slice A m c) us) (n : Nat) (hn : n ≤ us.length) : Sl w (.slice A n c) (us.take n) := by
  obtain ⟨A', c', e, h1, h2, h3, h4⟩ := h
  cases e
  have hl : (us.take n).length = n := by rw [List.length_take]; omega
  refine ⟨A, c, by rw [hl], by omega, h2, fun e => ⟨by have := (h3 e).1; omega, (h3 e).2⟩, fun h0 => ?_⟩; obtain ⟨b, o, e, hb, hr⟩ := h4 (by omega); refine ⟨b, o, e, hb, fun j u hj => hr j u ?_⟩; rw [List.getElem?_take] at hj
  split at hj
  · exact hj
  · cases hj
theorem Sl.rest {w : World} {A : Option Addr} {m c : Nat} {us : List Value} (h : Sl w (.slice A m c) us) (n : Nat) (hn : n ≤ us.length) : Sl w (sliced A n m c 1) (us.drop n) := by
  obtain ⟨A', c', e, h1, h2, h3, h4⟩ := h
  cases e
  have hl : (us.drop n).length = us.length - n := List.length_drop; refine ⟨_, c - n, by unfold sliced; rw [hl], by omega, by omega, fun e => ?_, fun h0 => ?_⟩
  · by_cases hc : c = n
    · omega
    · rw [if_neg hc] at e
      cases A with
      | none => have := (h3 rfl); omega
      | some x => cases e
  · obtain ⟨b, o, e, hb, hr⟩ := h4 (by omega)
    subst e; refine ⟨b, o + n, ?_, hb, fun j u hj => ?_⟩
    · rw [if_neg (by omega)]
      show some (Addr.add _ _) = _
      rw [Nat.mul_one, Addr.add_lit]
    · rw [Nat.add_assoc]
      rw [List.getElem?_drop] at hj; exact hr _ u hj
theorem Chg.step {F G : Nat → Prop} {w wr w1 : World} (h : Chg F w wr) (k : Chg G wr w1) (hG : ∀ q, G q → F q ∨ w.heap.size ≤ q) : Chg F w w1 :=
  ⟨k.os.trans h.os, k.tape.trans h.tape, k.output.trans h.output, Nat.le_trans h.size k.size, fun i hi hf => (k.block i (Nat.lt_of_lt_of_le hi h.size) fun hg => (hG i hg).elim hf fun h => by omega).trans (h.block i hi hf)⟩
theorem Sl.chg {G : Nat → Prop} {w w1 : World} {v : Value} {us : List Value} (h : Sl w v us) (k : Chg G w w1) (hG : 0 < us.length → ∀ b, v.ownBlock = some b → ¬G b) : Sl w1 v us :=
  h.of k.size fun h0 b hb => by
    obtain ⟨A, c, rfl, -, -, -, h4⟩ := h; obtain ⟨b', o, e, hlt, -⟩ := h4 h0; subst e; obtain rfl : b' = b := by simpa [Value.ownBlock] using hb
    exact k.block b' hlt (hG h0 b' hb)
def RowM (w : World) (v : Value) (xs : List UInt8) : Prop :=
  ∃ g cap, v = .slice (some ⟨g, 0, none⟩) xs.length cap ∧ g < w.heap.size ∧ xs.length ≤ cap ∧ cap ≤ maxLen ∧ w.rangeAt g 0 (cel xs) ∧ (∀ j, j < cap → (w.cell? ⟨g, j, none⟩).isSome = true) ∧ ∀ j, j < cap → w.frozen? ⟨g, j, none⟩ = false
theorem RowM.sl {w : World} {v : Value} {xs : List UInt8} (h : RowM w v xs) : Sl w v (cel xs) := by
  obtain ⟨g, cap, rfl, h1, h2, h3, h4, h5, h6⟩ := h; exact ⟨_, cap, by rw [jad], by rw [jad]; exact h2, h3, fun e => (by cases e), fun _ => ⟨g, 0, rfl, h1, h4⟩⟩
theorem RowM.of {w w' : World} {v : Value} {xs : List UInt8} (h : RowM w v xs) (hs : w.heap.size ≤ w'.heap.size) (e : ∀ b, v.ownBlock = some b → w'.heap[b]? = w.heap[b]?) : RowM w' v xs := by
  obtain ⟨g, cap, rfl, h1, h2, h3, h4, h5, h6⟩ := h; have e := e g rfl; refine ⟨g, cap, rfl, Nat.lt_of_lt_of_le h1 hs, h2, h3, jdx h4 e, fun j hj => ?_, fun j hj => ?_⟩
  · rw [World.cell?_of_block (w := w) (a := ⟨g, j, none⟩) e]; exact h5 j hj
  · rw [World.frozen?_of_block (w := w) (a := ⟨g, j, none⟩) e]; exact h6 j hj
theorem RowM.own {w : World} {base n : Nat} {v : Value} {xs : List UInt8} (h : w.ownsRow base 5 1 v n (cel xs)) (h0 : 0 < n) : RowM w v xs := by
  have hl : xs.length = n := by have := h.1; rw [jad] at this; omega
  have hf := jg5 h; have hc := fun g => h.cells (g := g)
  rcases h.2 with ⟨-, h1⟩ | ⟨g, cap, cur, rfl, hb, hg, hnc, hcm, hcs, ht⟩
  · omega
  · refine ⟨g, cap, by rw [hl], (Array.getElem?_eq_some_iff.1 hg).1, by omega, hcm, fun j u hu => ?_, fun j hj => ?_, fun j hj => hf g rfl j⟩
    · have := hc g rfl j u hu
      rwa [Addr.add_lit] at this
    · rw [cell_of_row w g j _ _ _ hg, Array.getElem?_eq_getElem (by omega)]
      rfl
theorem jef (b : Nat) : ∀ (vs : List Value) (o : Nat) (w : World), Onl b w (w.setCells b o vs)
  | [], o, w => ⟨rfl, rfl, rfl, rfl, fun _ _ => rfl⟩
  | v :: vs, o, w => only_set.trans (jef b vs (o + 1) (w.setCell ⟨b, o, none⟩ v))
theorem jqu {w : World} {ops : Array Oper} {rest : List Oper} {o : Oper} {a : Act} {Q : Exit → Act → World → Prop} (hgd : o.guard = none) (s x : Operand)
    (ho : o.op = .call { callee := .builtin .append, args := #[s, x], argTypes := #[22, 22] })
    (v : Value) (xs : List UInt8) (hs : a.eval s = v) (hrow : RowM w v xs) (x' : Value) (ys : List UInt8) (hx : a.eval x = x') (hsl : Sl w x' (cel ys)) (h0 : 0 < ys.length) (hlen : xs.length + ys.length ≤ 2000000)
    (h : ∀ v' w', RowM w' v' (xs ++ ys) → Chg (fun k => v.ownBlock = some k) w w' → (∀ b, v'.ownBlock = some b → v.ownBlock = some b ∨ w.heap.size ≤ b) → wpList Tryz.prog ops Q rest (a.put o.dst v') w') : wpList Tryz.prog ops Q (o :: rest) a w := by
  obtain ⟨i0, hi, hz0, hz1, hz2⟩ := info_parts inf1; obtain ⟨g, cap, rfl, h1, h2, h3, h4, h5, h6⟩ := hrow; obtain ⟨A, c, rfl, hc1, hc2, -, hat⟩ := hsl; obtain ⟨b, p, rfl, hb, hr⟩ := hat (by rw [jad]; exact h0); have hcat : cel (xs ++ ys) = cel xs ++ cel ys := by unfold cel; rw [List.map_append]
  rw [jad] at hx; refine wpList_append_arg w hgd s x 22 ho 5 i0 (.int .u8 0) 1 1 Tryz.underlying22 hi hz0 hz1 hz2 rfl (by decide) g 0 xs.length cap (cel xs) hs (by rw [jad, Nat.mul_one]) h4 ⟨b, p, none⟩ ys.length c (cel ys) hx (by rw [jad, Nat.mul_one]) (fun j u hu => by rw [Addr.add_lit]; exact hr j u hu) (jd7 _) ?_ ?_ ?_ ?_ ?_
  · intro hroom j hj
    rw [jad] at hj; exact ⟨h5 _ (by omega), h6 _ (by omega)⟩
  · simp only [maxLen]; omega
  · omega
  · intro hroom
    have hon := jef g (cel ys) (0 + xs.length * 1) w; refine h _ _ ⟨g, cap, by rw [List.length_append], by rw [hon.size]; exact h1, by rw [List.length_append]; exact hroom, h3, ?_, fun j hj => ?_, fun j hj => ?_⟩ (hon.chg rfl) fun b hb => .inl hb
    · intro j u hu
      rw [hcat] at hu
      by_cases hj : j < xs.length
      · rw [List.getElem?_append_left (by rw [jad]; exact hj)] at hu
        rw [World.cell?_setCells_out _ _ _ _ _ (fun _ _ => .inl (by show 0 + j < _; omega))]; exact h4 j u hu
      · rw [List.getElem?_append_right (by rw [jad]; omega), jad] at hu
        obtain ⟨hlt, he⟩ := List.getElem?_eq_some_iff.1 hu; have := World.cell?_setCells_in g (cel ys) (0 + xs.length * 1) w (fun j hj => h5 _ (by rw [jad] at hj; omega)) (j - xs.length) hlt; rw [he, show 0 + xs.length * 1 + (j - xs.length) = 0 + j by omega] at this; exact this
    · by_cases hj2 : j < xs.length ∨ xs.length + ys.length ≤ j
      · rw [World.cell?_setCells_out _ _ _ _ _ (fun _ _ => by show j < 0 + xs.length * 1 ∨ 0 + xs.length * 1 + (cel ys).length ≤ j; rw [jad]; omega)]
        exact h5 j hj
      · have := World.cell?_setCells_in g (cel ys) (0 + xs.length * 1) w (fun j hj => h5 _ (by rw [jad] at hj; omega)) (j - xs.length) (by rw [jad]; omega)
        rw [show 0 + xs.length * 1 + (j - xs.length) = j by omega] at this; rw [this]
        rfl
    · rw [World.frozen?_setCells]
      exact h6 j hj
  · intro hgrow v' w' hown hgr
    rw [← hcat] at hown; refine h v' w' (RowM.own hown (by omega)) ⟨hgr.os, hgr.tape, hgr.output, hgr.size, fun k hk _ => hgr.block k hk (by simp)⟩ fun b hb => .inr (hown.lt b hb).1
def num8 (x : Nat) : List UInt8 := numk x 8
theorem jtf (h : Int) (b : UInt8) : 0 ≤ wone h b ∧ wone h b < 18446744073709551616 := by
  unfold wone; rw [IntKind.wrap_u64]
  omega
theorem jnt : ∀ (l : List UInt8) (h : Int), 0 ≤ h ∧ h < 18446744073709551616 → 0 ≤ wsum h l ∧ wsum h l < 18446744073709551616
  | [], h, hh => hh
  | b :: l, h, hh => jnt l _ (jtf h b)
theorem Sl.some_form {w : World} {v : Value} {us : List Value} (h : Sl w v us) (h0 : 0 < us.length) : ∃ b o c, v = .slice (some ⟨b, o, none⟩) us.length c ∧ us.length ≤ c := by
  obtain ⟨A, c, rfl, h1, -, -, h4⟩ := h; obtain ⟨b, o, rfl, -, -⟩ := h4 h0; exact ⟨b, o, c, rfl, h1⟩
theorem Sl.rest_some {w : World} {b o m c : Nat} {us : List Value} (h : Sl w (.slice (some ⟨b, o, none⟩) m c) us) (n : Nat) (hn : n < us.length) : Sl w (.slice (some ⟨b, o + n, none⟩) (m - n) (c - n)) (us.drop n) := by
  have h1 := h.rest n (Nat.le_of_lt hn)
  have hc : ¬c = n := by
    obtain ⟨A', c', e, h2, -⟩ := h; injection e with e1 e2 e3
    omega
  unfold sliced at h1; rw [if_neg hc] at h1
  have e : (Option.map (fun x : Addr => x.add (n * 1)) (some ⟨b, o, none⟩)) = some ⟨b, o + n, none⟩ := by
    show some (Addr.add _ _) = _
    rw [Nat.mul_one, Addr.add_lit]
  rw [e] at h1; exact h1
theorem Sl.over {w w' : World} {v : Value} {us : List Value} (h : Sl w v us) (hb : Below w.heap.size w w') : Sl w' v us := h.chg (G := fun _ => False) (Chg.of_below hb) fun _ _ _ h => h
theorem Sl.block_lt {w : World} {v : Value} {us : List Value} (h : Sl w v us) (h0 : 0 < us.length) : ∀ q, v.ownBlock = some q → q < w.heap.size := by
  intro q hq; obtain ⟨A, c, rfl, -, -, -, h4⟩ := h; obtain ⟨b', o, e, hlt, -⟩ := h4 h0; subst e; obtain rfl : b' = q := by simpa [Value.ownBlock] using hq
  exact hlt
end
end
section
section
def bone (h : BitVec 64) (b : UInt8) : BitVec 64 := (h ^^^ BitVec.ofNat 64 b.toNat) * 1099511628211#64
theorem je4 (n : Int) : BitVec.ofInt 64 (IntKind.u64.wrap n) = BitVec.ofInt 64 n := by
  rw [IntKind.wrap_u64]; apply BitVec.eq_of_toInt_eq; rw [BitVec.toInt_ofInt, BitVec.toInt_ofInt]; simp [Int.bmod]
theorem jtg (h : Int) (b : UInt8) : BitVec.ofInt 64 (wone h b) = bone (BitVec.ofInt 64 h) b := by
  unfold wone bone; rw [je4, BitVec.ofInt_mul]
  congr 1
  show BitVec.ofInt 64 (IntKind.u64.wrap ((BitVec.ofInt 64 h ^^^ BitVec.ofInt 64 (IntKind.u64.wrap (b.toNat : Int))).toNat : Nat)) = _
  rw [je4, je4, BitVec.ofInt_natCast, BitVec.ofNat_toNat, BitVec.setWidth_eq, BitVec.ofInt_natCast]
theorem jli {h g : BitVec 64} {b c : UInt8} (e : bone h b = bone g c) : h ^^^ BitVec.ofNat 64 b.toNat = g ^^^ BitVec.ofNat 64 c.toNat := by
  have h1 : (1099511628211#64) * 14886173955864302971#64 = 1#64 := by decide
  have h2 := congrArg (· * 14886173955864302971#64) e; unfold bone at h2; simp only [BitVec.mul_assoc, h1, BitVec.mul_one] at h2; exact h2
end
end
end Go.Proofs.YtnkihnggghfioaaGreat