/- dyad: counts, near, up, down: dyads as they are handed, and integers moved by powers of two. dyad: plain, Norm, Of: dyads as they are answered. dyad: Norm, Of, Sign, Neg, Shift, Log: of one dyad. -/
import Derived.Test.YtgbpnpemigddeaaGreatZeds
import Derived.StillTailTactics
import Derived.RegionTactic
import Derived.BigRegion
set_option linter.unusedVariables false
namespace Go.Proofs.YtgbpnpemigddeaaGreat
section
section
open Go.RowKit
open L (val dig nth)
theorem start2 (w : World) (t t' : TypeId) (a b : Array Value) : ∃ W0, W0 = (w.alloc (.cells a t)).alloc (.cells b t') ∧ Blk W0 w.heap.size t a ∧ Blk W0 (w.heap.size + 1) t' b ∧
    Below w.heap.size w W0 ∧ W0.heap.size = w.heap.size + 2 :=
  ⟨_, rfl, (Blk.new w t _).alloc _, by have := Blk.new (w.alloc (.cells a t)) t' b; simpa using this, ((Below.refl _ _).alloc (Nat.le_refl _) _).alloc (by simp) _, by simp⟩
theorem start3 (w : World) (t t' t'' : TypeId) (a b c : Array Value) : ∃ W0, W0 = ((w.alloc (.cells a t)).alloc (.cells b t')).alloc (.cells c t'') ∧ Blk W0 w.heap.size t a ∧ Blk W0 (w.heap.size + 1) t' b ∧
    Blk W0 (w.heap.size + 2) t'' c ∧ Below w.heap.size w W0 ∧ W0.heap.size = w.heap.size + 3 :=
  ⟨_, rfl, ((Blk.new w t _).alloc _).alloc _, by have := (Blk.new (w.alloc (.cells a t)) t' b).alloc (.cells c t''); simpa using this,
    by have := Blk.new ((w.alloc (.cells a t)).alloc (.cells b t')) t'' c; simpa using this, (((Below.refl _ _).alloc (Nat.le_refl _) _).alloc (by simp) _).alloc (by simp; omega) _, by simp⟩
def nearZ (n : Int) : Int := max (-4000) (min n 4000)
def cM (z e : Int) : Int := if e < -4000 ∨ 4000 < e ∨ z = 0 then 0 else z
def cE (z e : Int) : Int := if e < -4000 ∨ 4000 < e ∨ z = 0 then 0 else e
def RetM (k : Nat) (z : Int) (m : Bool) (u : Value) (d : List Nat) (w : World) : Prop := Nums w 0 u d ∧ d.length ≤ k ∧ ival m (val W d) = z
def RetC (k : Nat) (z x : Int) (e : Ending) (w : World) : Prop := ∃ m u d, e = .returned (.tuple #[.agg #[.bool m, u], .int .i64 x]) ∧ RetM k z m u d w
theorem jhd {n t : Nat} (h : n ≤ 64 * t) : 2 ^ n ≤ W ^ t := by rw [jgh]; exact Nat.pow_le_pow_right (by omega) h
theorem jpo {d : List Nat} {z : Int} {k n t : Nat} (hd : Canon d (z * 2 ^ n).natAbs) (hz : z.natAbs < W ^ k) (hn : n ≤ 64 * t) : d.length ≤ k + t := by
  rw [hd.len, Int.natAbs_mul, Int.natAbs_pow, Nat.pow_add]; exact Nat.mul_lt_mul_of_lt_of_le hz (jhd hn) (Nat.pos_of_ne_zero (by rw [jgh]; exact Nat.pos_iff_ne_zero.1 (Nat.two_pow_pos _)))
theorem jc3 {n : Bool} {l : List Nat} (h : ∀ x ∈ l, x < W) : (ival n (val W l)).natAbs < W ^ l.length := by rw [jav]; exact L.val_lt l h
theorem jm7 {k : Nat} (h : k ≤ 8192) : clampN (k : Int) = k := by unfold clampN; omega
theorem jab {w : World} {r : Nat} {t : TypeId} {a b x y : Value} (h : Blk w r t #[a, b]) : Blk ((w.setCell ⟨r, 0, none⟩ x).setCell ⟨r, 1, none⟩ y) r t #[x, y] := by
  have := (h.set_ 0 x).set_ 1 y
  simpa using this
theorem jbb {w : World} {r g : Nat} {t : TypeId} {cs : Array Value} (h : Blk w g t cs) (hn : g ≠ r) (x y : Value) : Blk ((w.setCell ⟨r, 0, none⟩ x).setCell ⟨r, 1, none⟩ y) g t cs :=
  (h.far (p := ⟨r, 0, none⟩) hn x).far (p := ⟨r, 1, none⟩) hn y
theorem ja0 {w : World} {B r : Nat} {v : Value} {l : List Nat} (h : Nums w B v l) (hr : r < B) (x y : Value) : Nums ((w.setCell ⟨r, 0, none⟩ x).setCell ⟨r, 1, none⟩ y) B v l :=
  (h.set_low (p := ⟨r, 0, none⟩) hr x).set_low (p := ⟨r, 1, none⟩) hr y
theorem jrw (w : World) (n : Bool) (B : Nat) (v : Value) (l : List Nat) (k : Int) (c : Nat) (z : Int) (h : Nums w B v l) (hl : l.length ≤ 60000) (hk0 : 0 ≤ k) (hk1 : k ≤ 8192) (hc : c = k) (hz : ival n (val W l) * 2 ^ c = z) :
    Calls Tryz.prog 32 #[.agg #[.bool n, v], .int .i64 k] w fun e w' => Below w.heap.size w w' ∧ RetZ w.heap.size z e w' := by
  subst hc; have := jms w n B v l c h hl (by omega) (by omega); rw [jm7 (by omega), hz] at this; exact this
end
end
section
section
open Go.RowKit
open L (val dig nth)
def tz (N : Nat) : Nat := if h : N = 0 then 0 else if N % 2 = 1 then 0 else tz (N / 2) + 1
termination_by N
decreasing_by omega
theorem jrx : tz 0 = 0 := by unfold tz; simp
theorem jkr {N : Nat} (h : N % 2 = 1) : tz N = 0 := by unfold tz; simp [h]
theorem jm8 {N : Nat} (h0 : N ≠ 0) (h : N % 2 = 0) : tz N = tz (N / 2) + 1 := by rw [tz]; simp [h, h0]
theorem jq0 {q : Nat} (hq : q % 2 = 1) (n : Nat) : tz (q * 2 ^ n) = n := by
  induction n with
  | zero => rw [Nat.pow_zero, Nat.mul_one]; exact jkr hq
  | succ n ih =>
    have e : q * 2 ^ (n + 1) = 2 * (q * 2 ^ n) := by rw [Nat.pow_succ]; simp only [Nat.mul_comm, Nat.mul_left_comm]
    have hp : 0 < q * 2 ^ n := Nat.mul_pos (by omega) (Nat.two_pow_pos _); rw [e, jm8 (by omega) (by omega), Nat.mul_div_cancel_left _ (by omega), ih]
theorem jfg (N : Nat) (h : N ≠ 0) : N / 2 ^ tz N * 2 ^ tz N = N ∧ N / 2 ^ tz N % 2 = 1 := by
  induction N using Nat.strongRecOn with
  | _ N ih =>
    rcases Nat.mod_two_eq_zero_or_one N with h2 | h2
    · have h3 := ih (N / 2) (by omega) (by omega)
      rw [jm8 h h2, Nat.pow_succ, Nat.mul_comm _ 2, ← Nat.div_div_eq_div_mul]; refine ⟨?_, h3.2⟩; rw [Nat.mul_left_comm, h3.1]
      omega
    · rw [jkr h2]; simp [h2]
theorem juw (N k : Nat) (h : N < 2 ^ k) : tz N ≤ k := by
  rcases Nat.eq_zero_or_pos N with h0 | h0
  · rw [h0, jrx]; omega
  · obtain ⟨h1, h2⟩ := jfg N (by omega)
    have h3 := Nat.le_mul_of_pos_left (2 ^ tz N) (Nat.pos_of_ne_zero (n := N / 2 ^ tz N) (fun h => by rw [h] at h2; cases h2)); rw [h1] at h3; exact Nat.le_of_lt ((Nat.pow_lt_pow_iff_right (by omega)).1 (Nat.lt_of_le_of_lt h3 h))
def pM (z : Int) : Int := z / 2 ^ tz z.natAbs
def pE (z x : Int) : Int := if z = 0 then 0 else x + tz z.natAbs
def RetQ (B : Nat) (z x : Int) (e : Ending) (w : World) : Prop := ∃ u d, e = .returned (.agg #[.bool (decide (z < 0)), u, .int .i64 x]) ∧ Nums w B u d ∧ Canon d z.natAbs
end
end
section
section
open Go.RowKit
open L (val dig nth)
theorem start1 (w : World) (t : TypeId) (a : Array Value) : ∃ W0, W0 = w.alloc (.cells a t) ∧ Blk W0 w.heap.size t a ∧ Below w.heap.size w W0 ∧ W0.heap.size = w.heap.size + 1 :=
  ⟨_, rfl, Blk.new w t _, (Below.refl _ _).alloc (Nat.le_refl _) _, by simp⟩
def nM (z x : Int) : Int := pM (cM z x)
def nE (z x : Int) : Int := pE (cM z x) (cE z x)
def lgN (z x : Int) : Int := if cM z x = 0 then 0 else cE z x + nbits (cM z x).natAbs - 1
def lgOk (z x : Int) : Bool := decide (cM z x ≠ 0)
end
end
end Go.Proofs.YtgbpnpemigddeaaGreat