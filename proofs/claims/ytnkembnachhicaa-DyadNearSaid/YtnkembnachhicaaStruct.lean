/- Structs in memory, results that lie in cells, integers of limbs. -/
import Derived.Test.YtnkembnachhicaaNat4
set_option linter.unusedVariables false
set_option linter.unusedSimpArgs false
namespace Go.Proofs.Ytnkembnachhicaa
open Go.RowKit
open L (val dig nth)

/-- The integer of a sign and a number. -/
def ival (n : Bool) (N : Nat) : Int := if n then -(N : Int) else N
theorem ival_natAbs (n : Bool) (N : Nat) : (ival n N).natAbs = N := by cases n <;> simp [ival]
theorem ival_neg (n : Bool) (N : Nat) : decide (ival n N < 0) = (n && decide (0 < N)) := by cases n <;> simp [ival]
theorem ival_zero (n : Bool) : ival n 0 = 0 := by cases n <;> simp [ival]
theorem ival_self (z : Int) : ival (decide (z < 0)) z.natAbs = z := by
  by_cases h : z < 0 <;> simp [ival, h] <;> omega

/-- What is handed back is the integer z as it stands, its cells from block B on. -/
def RetZ (B : Nat) (z : Int) (e : Ending) (w : World) : Prop := ∃ u d, e = .returned (.agg #[.bool (decide (z < 0)), u]) ∧ Nums w B u d ∧ Canon d z.natAbs

/-- Block g is just the cells cs; none is frozen. -/
def Blk (w : World) (g : Nat) (t : TypeId) (cs : Array Value) : Prop := w.heap[g]? = some (.cells cs t (0, 0))
section
variable {w w' : World} {g : Nat} {t : TypeId} {cs : Array Value}
theorem Blk.lt (h : Blk w g t cs) : g < w.heap.size := by
  rcases Nat.lt_or_ge g w.heap.size with hlt | hge
  · exact hlt
  · unfold Blk at h; rw [Array.getElem?_eq_none hge] at h; cases h
theorem Blk.cell (h : Blk w g t cs) (i : Nat) : w.cell? ⟨g, i, none⟩ = cs[i]? := cell_of_row w g i cs t (0, 0) h
theorem Blk.cell_ (h : Blk w g t cs) (i : Nat) {v : Value} (hv : cs[i]? = some v) : w.cell? ⟨g, i, none⟩ = some v := (h.cell i).trans hv
theorem Blk.frozen (h : Blk w g t cs) (i : Nat) : w.frozen? ⟨g, i, none⟩ = false := by
  unfold Blk at h
  simp [World.frozen?, h]
theorem Blk.new (w : World) (t : TypeId) (cs : Array Value) : Blk (w.alloc (.cells cs t)) w.heap.size t cs := heap_alloc_new w _
theorem Blk.drew (h : Blk w g t cs) : Blk w.drew g t cs := h
theorem Blk.drewN (h : Blk w g t cs) (n : Nat) : Blk (w.drewN n) g t cs := h
theorem Blk.alloc (h : Blk w g t cs) (o : Obj) : Blk (w.alloc o) g t cs := (Below.heap_alloc w o g h.lt).trans h
theorem Blk.set_ (h : Blk w g t cs) (i : Nat) (u : Value) : Blk (w.setCell ⟨g, i, none⟩ u) g t (cs.setIfInBounds i u) := by
  unfold Blk at h ⊢
  simp [World.setCell, Array.getElem?_modify, h]
theorem Blk.far (h : Blk w g t cs) {p : Addr} (hp : g ≠ p.block) (u : Value) : Blk (w.setCell p u) g t cs := (Below.heap_setCell w p u g hp).trans h
theorem Blk.below {B : Nat} (h : Blk w g t cs) (hb : Below B w w') (hg : g < B) : Blk w' g t cs := (hb.block g hg).trans h
end
theorem Nums.alloc {w : World} {B : Nat} {v : Value} {l : List Nat} (h : Nums w B v l) (o : Obj) : Nums (w.alloc o) B v l := h.below ((Below.refl _ _).alloc (Nat.le_refl _) _)

theorem Nums.form {w : World} {B : Nat} {v : Value} {l : List Nat} (h : Nums w B v l) : ∃ A cap, v = .slice A l.length cap := by
  obtain ⟨A, cap, rfl, -⟩ := h
  exact ⟨A, cap, rfl⟩
theorem Blk.two {w : World} {g : Nat} {t : TypeId} {a b : Value} (h : Blk w g t #[a, b]) :
    w.cell? ⟨g, 0, none⟩ = some a ∧ w.cell? ⟨g, 1, none⟩ = some b ∧ w.frozen? ⟨g, 0, none⟩ = false ∧ w.frozen? ⟨g, 1, none⟩ = false :=
  ⟨h.cell 0, h.cell 1, h.frozen 0, h.frozen 1⟩
theorem Blk.three {w : World} {g : Nat} {t : TypeId} {a b c : Value} (h : Blk w g t #[a, b, c]) :
    w.cell? ⟨g, 0, none⟩ = some a ∧ w.cell? ⟨g, 1, none⟩ = some b ∧ w.cell? ⟨g, 2, none⟩ = some c ∧ w.frozen? ⟨g, 0, none⟩ = false ∧ w.frozen? ⟨g, 1, none⟩ = false ∧ w.frozen? ⟨g, 2, none⟩ = false :=
  ⟨h.cell 0, h.cell 1, h.cell 2, h.frozen 0, h.frozen 1, h.frozen 2⟩
/-- An integer struct boxed, and room for another one as the result. -/
theorem start_11 (w : World) (t t' : TypeId) (a b c d : Value) : ∃ W0, W0 = (w.alloc (.cells #[a, b] t)).alloc (.cells #[c, d] t') ∧ Blk W0 w.heap.size t #[a, b] ∧ Blk W0 (w.heap.size + 1) t' #[c, d] ∧
    Below w.heap.size w W0 ∧ W0.heap.size = w.heap.size + 2 :=
  ⟨_, rfl, (Blk.new w t _).alloc _, by have := Blk.new (w.alloc (.cells #[a, b] t)) t' #[c, d]; simpa using this, ((Below.refl _ _).alloc (Nat.le_refl _) _).alloc (by simp) _, by simp⟩

theorem load_int {w : World} {r : Nat} {t : TypeId} {a b : Value} (h : Blk w r t #[a, b]) : (loadVar 24 ⟨r, 0, none⟩).run Try.prog w = .ok (.agg #[a, b]) w := by
  obtain ⟨c0, c1, -, -⟩ := h.two
  simp [go_sem, c0, c1]
theorem load_dyad {w : World} {r : Nat} {t : TypeId} {a b c : Value} (h : Blk w r t #[a, b, c]) : (loadVar 26 ⟨r, 0, none⟩).run Try.prog w = .ok (.agg #[a, b, c]) w := by
  obtain ⟨c0, c1, c2, -, -, -⟩ := h.three
  simp [go_sem, c0, c1, c2]
theorem results_int {fn : Func} {p : Tmp} (h : fn.results = #[.cell p 24]) (tmps : Array Value) (w : World) (r : Nat) (t : TypeId) (a b : Value) (hp : tmps.getD p undef = .pointer (some ⟨r, 0, none⟩)) (hb : Blk w r t #[a, b]) :
    (results fn tmps).run Try.prog w = .ok (.agg #[a, b]) w := by
  simp only [results, h]
  simp only [Array.getD_eq_getD_getElem?] at hp
  simp [Sem.run_bind, Result.andThen, asAddr, hp, load_int hb]
theorem results_dyad {fn : Func} {p : Tmp} (h : fn.results = #[.cell p 26]) (tmps : Array Value) (w : World) (r : Nat) (t : TypeId) (a b c : Value) (hp : tmps.getD p undef = .pointer (some ⟨r, 0, none⟩)) (hb : Blk w r t #[a, b, c]) :
    (results fn tmps).run Try.prog w = .ok (.agg #[a, b, c]) w := by
  simp only [results, h]
  simp only [Array.getD_eq_getD_getElem?] at hp
  simp [Sem.run_bind, Result.andThen, asAddr, hp, load_dyad hb]
theorem results_int_tmp {fn : Func} {p q : Tmp} (h : fn.results = #[.cell p 24, .tmp q]) (tmps : Array Value) (w : World) (r : Nat) (t : TypeId) (a b : Value) (hp : tmps.getD p undef = .pointer (some ⟨r, 0, none⟩)) (hb : Blk w r t #[a, b]) :
    (results fn tmps).run Try.prog w = .ok (.tuple #[.agg #[a, b], tmps.getD q undef]) w := by
  simp only [results, h]
  simp only [Array.getD_eq_getD_getElem?] at hp
  simp [Sem.run_bind, Result.andThen, asAddr, hp, load_int hb]
theorem results_dyad_tmp {fn : Func} {p q : Tmp} (h : fn.results = #[.cell p 26, .tmp q]) (tmps : Array Value) (w : World) (r : Nat) (t : TypeId) (a b c : Value) (hp : tmps.getD p undef = .pointer (some ⟨r, 0, none⟩)) (hb : Blk w r t #[a, b, c]) :
    (results fn tmps).run Try.prog w = .ok (.tuple #[.agg #[a, b, c], tmps.getD q undef]) w := by
  simp only [results, h]
  simp only [Array.getD_eq_getD_getElem?] at hp
  simp [Sem.run_bind, Result.andThen, asAddr, hp, load_dyad hb]
theorem results_int_int_tmp {fn : Func} {p q s : Tmp} (h : fn.results = #[.cell p 24, .cell q 24, .tmp s]) (tmps : Array Value) (w : World) (r r' : Nat) (t t' : TypeId) (a b c d : Value)
    (hp : tmps.getD p undef = .pointer (some ⟨r, 0, none⟩)) (hb : Blk w r t #[a, b]) (hq : tmps.getD q undef = .pointer (some ⟨r', 0, none⟩)) (hb' : Blk w r' t' #[c, d]) :
    (results fn tmps).run Try.prog w = .ok (.tuple #[.agg #[a, b], .agg #[c, d], tmps.getD s undef]) w := by
  simp only [results, h]
  simp only [Array.getD_eq_getD_getElem?] at hp hq
  simp [Sem.run_bind, Result.andThen, asAddr, hp, load_int hb, hq, load_int hb']

theorem canon_len {d : List Nat} {N : Nat} (h : Canon d N) : (decide (0 < d.length)) = decide (0 < N) := by
  rw [decide_eq_decide]
  have := h.nil_iff
  constructor
  · intro h1
    rcases Nat.eq_zero_or_pos N with h2 | h2
    · rw [this.2 h2] at h1; simp at h1
    · exact h2
  · intro h1
    rcases Nat.eq_zero_or_pos d.length with h2 | h2
    · have := this.1 (List.eq_nil_of_length_eq_zero h2); omega
    · exact h2
theorem made_val {d : List Nat} {N : Nat} (n : Bool) (h : Canon d N) : (n && decide (0 < d.length)) = decide (ival n N < 0) := by rw [canon_len h, ival_neg]


theorem Nums.set_low {w : World} {B : Nat} {v : Value} {l : List Nat} (h : Nums w B v l) {p : Addr} (hp : p.block < B) (u : Value) : Nums (w.setCell p u) B v l := by
  obtain ⟨A, cap, h1, h2, h3, h4, h5⟩ := h
  refine ⟨A, cap, h1, h2, h3, h4, fun h0 => ?_⟩
  obtain ⟨b, off, a1, a2, a3, a4⟩ := h5 h0
  refine ⟨b, off, a1, a2, by simpa [World.setCell] using a3, fun i hi => ?_⟩
  rw [World.cell?_of_block (w := w) (Below.heap_setCell w p u b (by omega))]
  exact a4 i hi
/-- The end of a function whose result is an integer: both cells have been written. -/
theorem retZ {w w2 : World} {r B N : Nat} {n : Bool} {v : Value} {d : List Nat} (hB : w.heap.size ≤ B) (hrB : r < B) (hu : Nums w2 B v d) (hd : Canon d N) (x y : Value) :
    RetZ w.heap.size (ival n N) (.returned (.agg #[.bool (n && decide (0 < d.length)), v])) ((w2.setCell ⟨r, 0, none⟩ x).setCell ⟨r, 1, none⟩ y) :=
  ⟨v, d, by rw [made_val n hd], ((hu.set_low (p := ⟨r, 0, none⟩) hrB x).set_low (p := ⟨r, 1, none⟩) hrB y).mono hB, by rw [ival_natAbs]; exact hd⟩
theorem below2 {w W : World} {r : Nat} (h : Below w.heap.size w W) (hr : w.heap.size ≤ r) (x y : Value) : Below w.heap.size w ((W.setCell ⟨r, 0, none⟩ x).setCell ⟨r, 1, none⟩ y) :=
  (h.setCell (p := ⟨r, 0, none⟩) hr x).setCell (p := ⟨r, 1, none⟩) hr y

/-- Two integer structs boxed, and room for another one as the result. -/
theorem start_21 (w : World) (t t' : TypeId) (a b c d e f : Value) : ∃ W0, W0 = ((w.alloc (.cells #[a, b] t)).alloc (.cells #[c, d] t)).alloc (.cells #[e, f] t') ∧ Blk W0 w.heap.size t #[a, b] ∧ Blk W0 (w.heap.size + 1) t #[c, d] ∧
    Blk W0 (w.heap.size + 2) t' #[e, f] ∧ Below w.heap.size w W0 ∧ W0.heap.size = w.heap.size + 3 :=
  ⟨_, rfl, ((Blk.new w t _).alloc _).alloc _, by have := (Blk.new (w.alloc (.cells #[a, b] t)) t #[c, d]).alloc (.cells #[e, f] t'); simpa using this,
    by have := Blk.new ((w.alloc (.cells #[a, b] t)).alloc (.cells #[c, d] t)) t' #[e, f]; simpa using this, (((Below.refl _ _).alloc (Nat.le_refl _) _).alloc (by simp) _).alloc (by simp; omega) _, by simp⟩
/-- One, or two, integer structs boxed. -/
theorem start_10 (w : World) (t : TypeId) (a b : Value) : ∃ W0, W0 = w.alloc (.cells #[a, b] t) ∧ Blk W0 w.heap.size t #[a, b] ∧ Below w.heap.size w W0 ∧ W0.heap.size = w.heap.size + 1 :=
  ⟨_, rfl, Blk.new w t _, (Below.refl _ _).alloc (Nat.le_refl _) _, by simp⟩
theorem start_20 (w : World) (t : TypeId) (a b c d : Value) : ∃ W0, W0 = (w.alloc (.cells #[a, b] t)).alloc (.cells #[c, d] t) ∧ Blk W0 w.heap.size t #[a, b] ∧ Blk W0 (w.heap.size + 1) t #[c, d] ∧ Below w.heap.size w W0 ∧ W0.heap.size = w.heap.size + 2 :=
  ⟨_, rfl, (Blk.new w t _).alloc _, by have := Blk.new (w.alloc (.cells #[a, b] t)) t #[c, d]; simpa using this, ((Below.refl _ _).alloc (Nat.le_refl _) _).alloc (by simp) _, by simp⟩
theorem Nums.up {w W : World} {B : Nat} {v : Value} {l : List Nat} (h : Nums w B v l) (hb : Below w.heap.size w W) : Nums W B v l := h.below hb
/-- The integer z, handed back with a sign and a number of one's own. -/
theorem RetZ.of {B : Nat} {z z' : Int} {e : Ending} {w : World} (h : RetZ B z e w) (hz : z = z') : RetZ B z' e w := hz ▸ h
theorem ival_add (n : Bool) (a b : Nat) : ival n (a + b) = ival n a + ival n b := by cases n <;> simp [ival] <;> omega
theorem ival_not (n : Bool) (a : Nat) : ival (!n) a = -ival n a := by cases n <;> simp [ival]
theorem ival_sub1 (n m : Bool) (a b : Nat) (h : n ≠ m) (hle : b ≤ a) : ival n (a - b) = ival n a + ival m b := by cases n <;> cases m <;> simp [ival] at * <;> omega
theorem ival_sub2 (n m : Bool) (a b : Nat) (h : n ≠ m) (hle : a ≤ b) : ival m (b - a) = ival n a + ival m b := by cases n <;> cases m <;> simp [ival] at * <;> omega
theorem ival_mul (n m : Bool) (a b : Nat) : ival (n != m) (a * b) = ival n a * ival m b := by cases n <;> cases m <;> simp [ival, Int.neg_mul, Int.mul_neg]
theorem ival_pow (n : Bool) (a k : Nat) : ival n (a * 2 ^ k) = ival n a * 2 ^ k := by cases n <;> simp [ival, Int.neg_mul]
end Go.Proofs.Ytnkembnachhicaa
