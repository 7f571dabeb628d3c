/- ball: may, Right, down, up. slices.MinFunc and slices.MaxFunc of integers. ball.corners: what comes of the ends of two balls. ball.Div's two functions. ball.corners with ball.Div's two functions. -/
import Derived.Test.YtgbpnpemigddeaaGreatZe
set_option linter.unusedVariables false
set_option linter.unusedSimpArgs false
namespace Go.Proofs.YtgbpnpemigddeaaGreat
section
section
open Go.RowKit
open L (val dig nth)
theorem Blk.five {w : World} {g : Nat} {t : TypeId} {a b c d e : Value} (h : Blk w g t #[a, b, c, d, e]) :
    w.cell? ⟨g, 0, none⟩ = some a ∧ w.cell? ⟨g, 1, none⟩ = some b ∧ w.cell? ⟨g, 2, none⟩ = some c ∧ w.cell? ⟨g, 3, none⟩ = some d ∧ w.cell? ⟨g, 4, none⟩ = some e ∧
    w.frozen? ⟨g, 0, none⟩ = false ∧ w.frozen? ⟨g, 1, none⟩ = false ∧ w.frozen? ⟨g, 2, none⟩ = false ∧ w.frozen? ⟨g, 3, none⟩ = false ∧ w.frozen? ⟨g, 4, none⟩ = false :=
  ⟨h.cell 0, h.cell 1, h.cell 2, h.cell 3, h.cell 4, h.frozen 0, h.frozen 1, h.frozen 2, h.frozen 3, h.frozen 4⟩
def mayQ (q : Int) : Bool := decide (0 ≤ q ∧ q ≤ 2048)
def rightB (x y q : Int) : Bool := mayQ q && decide (x ≤ y)
theorem jb9 (x y : Int) : (cmpZ x y ≤ 0) ↔ x ≤ y := by
  rw [jd5]
  constructor
  · intro h
    rcases Int.lt_or_le y x with h1 | h1
    · have := Int.sign_eq_one_of_pos (show 0 < x - y by omega); omega
    · exact h1
  · intro h
    rcases Int.lt_or_eq_of_le h with h1 | h1
    · have := Int.sign_eq_neg_one_of_neg (show x - y < 0 by omega); omega
    · subst h1; rw [Int.sub_self]; decide
theorem js7 {w : World} {k : Nat} {n : Bool} {A : Option Addr} {len cap : Nat} {z : Int} (h : Q w k n A len cap z) (hk : k ≤ 30000) (c : Nat) (hc : c ≤ 8000) :
    Calls Tryz.prog 32 #[.agg #[.bool n, .slice A len cap], .int .i64 (c : Nat)] w fun e w' => Below w.heap.size w w' ∧ RetZ w.heap.size (z * 2 ^ c) e w' := juz h (by omega) c hc
def vDn (z n : Int) : Int := if n ≤ 0 then z * 2 ^ (-n).toNat else z / 2 ^ n.toNat
def vOv (z n : Int) : Int := -vDn (-z) n
theorem RetZ.q {w : World} {B k : Nat} {A : Option Addr} {c : Nat} {z : Int} {d : List Nat} (hu : Nums w B (.slice A d.length c) d) (hd : Canon d z.natAbs) (hz : z.natAbs < W ^ k) : Q w k (decide (z < 0)) A d.length c z :=
  ⟨d, hu.mono (Nat.zero_le _), by rw [hd.len]; exact hz, by rw [hd.val, jas]⟩
end
end
section
section
open Go.RowKit
open L (val dig nth)
theorem jfc {a : Int} (h : a < 0) : a.sign < 0 := by rw [Int.sign_eq_neg_one_of_neg h]; omega
theorem jfd {a : Int} (h : a.sign < 0) : a < 0 := by
  rcases Int.lt_or_le a 0 with h1 | h1
  · exact h1
  · rcases Int.lt_or_eq_of_le h1 with h2 | h2
    · rw [Int.sign_eq_one_of_pos h2] at h; omega
    · rw [← h2] at h; exact absurd h (by decide)
def QB (w : World) (B k : Nat) (n : Bool) (A : Option Addr) (len cap : Nat) (z : Int) : Prop := ∃ d, Nums w B (.slice A len cap) d ∧ d.length ≤ k ∧ Canon d z.natAbs ∧ n = decide (z < 0)
section
variable {w w' : World} {B k : Nat} {n : Bool} {A : Option Addr} {len cap : Nat} {z : Int}
theorem QB.qc (h : QB w B k n A len cap z) : QC w k n A len cap z := by
  obtain ⟨d, h1, h2, h3, h4⟩ := h; exact ⟨d, h1.mono (Nat.zero_le _), h2, h3, h4⟩
theorem QB.q (h : QB w B k n A len cap z) : Q w k n A len cap z := h.qc.q
theorem QB.below (h : QB w B k n A len cap z) (hb : Below w.heap.size w w') : QB w' B k n A len cap z := by
  obtain ⟨d, h1, h2, h3⟩ := h; exact ⟨d, h1.below hb, h2, h3⟩
theorem QB.drew (h : QB w B k n A len cap z) : QB w.drew B k n A len cap z := h
theorem QB.mono {B' : Nat} (h : QB w B k n A len cap z) (hB : B' ≤ B) : QB w B' k n A len cap z := by
  obtain ⟨d, h1, h2, h3⟩ := h; exact ⟨d, h1.mono hB, h2, h3⟩
theorem QB.low2 (h : QB w B k n A len cap z) {r : Nat} (hr : r < B) (x y : Value) : QB ((w.setCell ⟨r, 0, none⟩ x).setCell ⟨r, 1, none⟩ y) B k n A len cap z := by
  obtain ⟨d, h1, h2, h3⟩ := h; exact ⟨d, ja0 h1 hr x y, h2, h3⟩
theorem QB.low (h : QB w B k n A len cap z) {p : Addr} (hr : p.block < B) (x : Value) : QB (w.setCell p x) B k n A len cap z := by
  obtain ⟨d, h1, h2, h3⟩ := h; exact ⟨d, h1.set_low hr x, h2, h3⟩
theorem QB.zero (w : World) (B k : Nat) : QB w B k false none 0 0 0 := ⟨[], Nums.nil _ _, Nat.zero_le _, (L.dig_zero W).symm, rfl⟩
theorem QB.up (h : QB w B k n A len cap z) {k' : Nat} (hk : k ≤ k') : QB w B k' n A len cap z := by
  obtain ⟨d, h1, h2, h3⟩ := h; exact ⟨d, h1, Nat.le_trans h2 hk, h3⟩
end
theorem RetZ.qb {w : World} {B k : Nat} {A : Option Addr} {c : Nat} {z : Int} {d : List Nat} (hu : Nums w B (.slice A d.length c) d) (hd : Canon d z.natAbs) (hz : z.natAbs < W ^ k) : QB w B k (decide (z < 0)) A d.length c z :=
  ⟨d, hu, by rw [hd.len]; exact hz, hd, rfl⟩
structure Ints (w : World) (k B g m : Nat) (N : Nat → Bool) (As : Nat → Option Addr) (ls cs : Nat → Nat) (zs : Nat → Int) : Prop where
  lt : g < w.heap.size
  c0 : ∀ i, i < m → w.cell? ⟨g, i * 2, none⟩ = some (.bool (N i))
  c1 : ∀ i, i < m → w.cell? ⟨g, i * 2 + 1, none⟩ = some (.slice (As i) (ls i) (cs i))
  q : ∀ i, i < m → QB w B k (N i) (As i) (ls i) (cs i) (zs i)
theorem Ints.below {w w' : World} {k B g m : Nat} {N : Nat → Bool} {As : Nat → Option Addr} {ls cs : Nat → Nat} {zs : Nat → Int} (h : Ints w k B g m N As ls cs zs) (hb : Below w.heap.size w w') : Ints w' k B g m N As ls cs zs :=
  ⟨Nat.lt_of_lt_of_le h.lt hb.size, fun i hi => (hb.cell (p := ⟨g, i * 2, none⟩) h.lt).trans (h.c0 i hi), fun i hi => (hb.cell (p := ⟨g, i * 2 + 1, none⟩) h.lt).trans (h.c1 i hi), fun i hi => (h.q i hi).below hb⟩
end
end
section
section
open Go.RowKit
open L (val dig nth)
def pick {α : Type} (a b c d : α) (i : Nat) : α := if i = 0 then a else if i = 1 then b else if i = 2 then c else d
def min4 (a b c d : Int) : Int := min (min a b) (min c d)
def max4 (a b c d : Int) : Int := max (max a b) (max c d)
theorem jfe {fn : Func} {p q : Tmp} (h : fn.results = #[.cell p 25, .cell q 25]) (tmps : Array Value) (w : World) (r r' : Nat) (t t' : TypeId) (a b c d : Value)
    (hp : tmps.getD p undef = .pointer (some ⟨r, 0, none⟩)) (hb : Blk w r t #[a, b]) (hq : tmps.getD q undef = .pointer (some ⟨r', 0, none⟩)) (hb' : Blk w r' t' #[c, d]) :
    (results fn tmps).run Tryz.prog w = .ok (.tuple #[.agg #[a, b], .agg #[c, d]]) w := by
  simp only [results, h]; simp only [Array.getD_eq_getD_getElem?] at hp hq; simp [Sem.run_bind, Result.andThen, asAddr, hp, jds hb, hq, jds hb']
def RetII (B k : Nat) (x y : Int) (e : Ending) (w : World) : Prop := ∃ n A l c n' A' l' c', e = .returned (.tuple #[.agg #[.bool n, .slice A l c], .agg #[.bool n', .slice A' l' c']]) ∧ QB w B k n A l c x ∧ QB w B k n' A' l' c' y
end
end
section
section
open Go.RowKit
open L (val dig nth)
def QK (w : World) (B k : Nat) (A : Option Addr) (len cap : Nat) (z : Int) : Prop := ∃ d, Nums w B (.slice A len cap) d ∧ len = d.length ∧ Canon d z.natAbs ∧ z.natAbs < W ^ k
theorem QK.q {w : World} {B k : Nat} {A : Option Addr} {len cap : Nat} {z : Int} (h : QK w B k A len cap z) : Q w k (decide (z < 0)) A len cap z := by
  obtain ⟨d, h1, rfl, h3, h4⟩ := h; exact RetZ.q h1 h3 h4
theorem jkk {z y : Int} (hy : 0 < y) : (z / y).natAbs ≤ z.natAbs := by
  rcases Int.lt_or_le z 0 with h | h
  · have h1 : z ≤ z / y := by
      rw [Int.le_ediv_iff_mul_le hy]; have h3 : z * y ≤ z * 1 := Int.mul_le_mul_of_nonpos_left (by omega) hy
      omega
    have h2 := Int.ediv_neg_of_neg_of_pos h hy
    omega
  · have h1 : z / y ≤ z := Int.ediv_le_self _ h
    have h2 : 0 ≤ z / y := Int.ediv_nonneg h (by omega)
    omega
theorem jd3 {z y : Int} {k : Nat} (hy : y ≠ 0) (hz : z.natAbs < W ^ k) : (vDown z y).natAbs < W ^ k := by
  unfold vDown
  split
  · exact Nat.lt_of_le_of_lt (Nat.le_trans (jkk (by omega)) (by rw [Int.natAbs_neg]; exact Nat.le_refl _)) hz
  · exact Nat.lt_of_le_of_lt (jkk (by omega)) hz
end
end
section
section
open Go.RowKit
open L (val dig nth)
def vLo (q x y : Int) : Int := -vUp (-(x * 2 ^ q.toNat)) y
def vHi (q x y : Int) : Int := vUp (x * 2 ^ q.toNat) y
end
end
end Go.Proofs.YtgbpnpemigddeaaGreat