/- zed.Small, of a small one. V: dyads, patterns, balls' products: contracts from what was walked. -/
import Derived.Test.YtgbpnpemigddeaaGreatEvs
import Derived.Test.YtgbpnpemigddeaaGreatVk
set_option linter.unusedVariables false
set_option linter.unusedSimpArgs false
namespace Go.Proofs.YtgbpnpemigddeaaGreat
section
section
open Go.RowKit
open L (val dig nth)
end
end
section
section
open Go.RowKit Go.Shelf
namespace V
def hD (h : Nat → List Int → Int) : Nat → List Int → Int
  | 0, [z, x] => nM z x
  | 1, [z, x] => nE z x
  | 2, [z, x] => lgN z x
  | 3, [z, x, p] => vFloor 4000 (av 4000 z x) (nearZ p)
  | 4, [z, x, p] => vCeil 4000 (av 4000 z x) (nearZ p)
  | 5, [z, x, u, y] => pM (av 4000 z x - av 4000 u y)
  | 6, [z, x, u, y] => pE (av 4000 z x - av 4000 u y) (-(4000 : Nat))
  | 7, [z, x, p] => pE (av 4000 z x) (nearZ p - (4000 : Nat))
  | 8, [z, x] => pM (av 4000 z x)
  | 9, [z, x] => pM (-av 4000 z x)
  | 10, [z, x] => pE (-av 4000 z x) (-(4000 : Nat))
  | 11, [z, x] => (cM z x).sign
  | 12, [z, x] => b2i (lgOk z x)
  | 13, [b] => vM b.toNat
  | 14, [b] => vE b.toNat
  | 15, [b] => vX b.toNat
  | 16, [z, x] => (oB1 (nM z x) (nE z x) : Nat)
  | 17, [z, x] => oX1 (nM z x) (nE z x)
  | 18, [x0, x1, y0, y1, q] => vDn (min4 (x0 * y0) (x0 * y1) (x1 * y0) (x1 * y1)) q
  | 19, [x0, x1, y0, y1, q] => vOv (max4 (x0 * y0) (x0 * y1) (x1 * y0) (x1 * y1)) q
  | 20, [x0, x1, y0, y1, q] => min4 (vLo q x0 y0) (vLo q x0 y1) (vLo q x1 y0) (vLo q x1 y1)
  | 21, [x0, x1, y0, y1, q] => max4 (vHi q x0 y0) (vHi q x0 y1) (vHi q x1 y0) (vHi q x1 y1)
  | n, l => if n < 24 then 0 else h (n - 24) l
def ap5 (f : Nat) (a b c d x : T) : T := .ap f (.c a (.c b (.c c (.c d (.c x .e)))))
def dA (k : Nat) (c : Bool) (m x : T) : A := .one (.ag [.z k c m, .i .i64 x])
def bA (k : Nat) (c : Bool) (l u q : T) : A := .one (.ag [.z k c l, .z k c u, .i .i64 q])
section
variable {F : Nat → List Int → Int} {ρ : Nat → Int} {β : Nat → Nat} {P : Program} {w : World}
theorem ju3 {k : Nat} {c : Bool} {l u q : T} {v : Value} (h : (bA k c l u q).has F ρ β w v) : ∃ n A x c' n' A' x' c'', v = .agg #[.bool n, .slice A x c', .bool n', .slice A' x' c'', .int .i64 (q.den F ρ)] ∧ Q w k n A x c' (l.den F ρ) ∧ Q w k n' A' x' c'' (u.den F ρ) := by
  obtain ⟨cs, rfl, c1, d1, rfl, ⟨n, A, x, c', rfl, h1, h2⟩, c2, d2, rfl, ⟨n', A', x', c'', rfl, h1', h2'⟩, c3, d3, rfl, h3, h4⟩ := h; rw [show d3 = [] from h4, show c3 = [_] from h3]; exact ⟨n, A, x, c', n', A', x', c'', rfl, h1, h1'⟩
theorem resB {B k : Nat} {x y q er : Int} {e : Ending} {a b c d : T} (h : RetB B k x y q er e w) (ha : a.den F ρ = x) (hb : b.den F ρ = y) (hc : c.den F ρ = q) (hd : d.den F ρ = er) : ∃ u, e = .returned u ∧ (A.tup [.ag [.z k true a, .z k true b, .i .i64 c], .sc (.i .i64 d)]).has F ρ β w u := by
  obtain ⟨n, A, l, c', n', A', l', c'', rfl, hq, hq'⟩ := h; subst ha hb hc hd; refine ⟨_, rfl, [.agg #[.bool n, .slice A l c', .bool n', .slice A' l' c'', .int .i64 (c.den F ρ)], .int .i64 (d.den F ρ)], rfl, _, _, rfl, ?_, _, [], rfl, rfl, rfl⟩; exact ⟨[.bool n, .slice A l c', .bool n', .slice A' l' c'', .int .i64 (c.den F ρ)], rfl, _, [.bool n', .slice A' l' c'', .int .i64 (c.den F ρ)], rfl, ⟨n, A, l, c', rfl, hq.q, fun _ => hq.mono (Nat.zero_le _)⟩, _, [.int .i64 (c.den F ρ)], rfl, ⟨n', A', l', c'', rfl, hq'.q, fun _ => hq'.mono (Nat.zero_le _)⟩, _, [], rfl, rfl, rfl⟩
end
def xF (i : Nat) : List T := [.le (.n (-100000)) (.v i), .le (.v i) (.n 100000)]
def d0 : A := dA 200 false (.v 0) (.v 1)
def d2 : A := dA 200 false (.v 2) (.v 3)
def dsp (f : FuncId) (ps : List A) (n : Nat) (fs : List T) (res : A) : Spec := { f := f, ps := ps, bx := [], np := n, fs := fs, res := res, post := [] }
section
variable (h : Nat → List Int → Int)
abbrev FD : Nat → List Int → Int := stdF (gR (hC (hD h)))
def normS (f : FuncId) : Spec := dsp f [d0] 2 (xF 1) (dA 200 true (ap2 56 (.v 0) (.v 1)) (ap2 57 (.v 0) (.v 1)))
def negS (f : FuncId) : Spec := dsp f [d0] 2 (xF 1) (dA 200 true (ap2 65 (.v 0) (.v 1)) (ap2 66 (.v 0) (.v 1)))
def shiftS (f : FuncId) : Spec := dsp f [d0, i64 (.v 2)] 3 (xF 1) (dA 200 true (ap2 64 (.v 0) (.v 1)) (ap3 63 (.v 0) (.v 1) (.v 2)))
def ofS (f : FuncId) : Spec := dsp f [vz 200 false (.v 0), i64 (.v 1)] 2 (xF 1) (dA 200 true (ap2 56 (.v 0) (.v 1)) (ap2 57 (.v 0) (.v 1)))
def floorS (f : FuncId) : Spec := dsp f [d0, i64 (.v 2)] 3 (xF 1) (.one (zV 325 (ap3 59 (.v 0) (.v 1) (.v 2))))
def ceilS (f : FuncId) : Spec := dsp f [d0, i64 (.v 2)] 3 (xF 1) (.one (zV 325 (ap3 60 (.v 0) (.v 1) (.v 2))))
def subS (f : FuncId) : Spec := dsp f [d0, d2] 4 (xF 1 ++ xF 3) (dA 526 true (ap4 61 (.v 0) (.v 1) (.v 2) (.v 3)) (ap4 62 (.v 0) (.v 1) (.v 2) (.v 3)))
def signS (f : FuncId) : Spec := dsp f [d0] 2 (xF 1) (i64 (ap2 67 (.v 0) (.v 1)))
def logS (f : FuncId) : Spec := dsp f [d0] 2 (xF 1) (.tup [.sc (.i .i64 (ap2 58 (.v 0) (.v 1))), .sc (.b (ap2 68 (.v 0) (.v 1)))])
def valS (f : FuncId) : Spec := dsp f [.one (.sc (.i .u64 (.v 0)))] 1 [.le (.n 0) (.v 0), .le (.v 0) (.n 18446744073709551615)] (.tup [.ag [.z 1 false (ap1 69 (.v 0)), .i .i64 (ap1 70 (.v 0))], .sc (.i .i64 (ap1 71 (.v 0)))])
def bofS (f : FuncId) : Spec := dsp f [d0] 2 (xF 1) (.tup [.sc (.i .u64 (ap2 72 (.v 0) (.v 1))), .sc (.i .i64 (ap2 73 (.v 0) (.v 1)))])
def b0 : A := bA 400 false (.v 0) (.v 1) (.v 2)
def b3 : A := bA 400 false (.v 3) (.v 4) (.v 5)
def bF : List T := [.le (.n 0) (.v 2), .le (.v 2) (.n 2048), rightL (.v 0) (.v 1), rightL (.v 3) (.v 4), .eq (.v 2) (.v 5)]
def bR (k f : Nat) : A := .tup [.ag [.z k true (ap5 f (.v 0) (.v 1) (.v 3) (.v 4) (.v 2)), .z k true (ap5 (f + 1) (.v 0) (.v 1) (.v 3) (.v 4) (.v 2)), .i .i64 (.v 2)], .sc (.i .i64 (.n 0))]
def mulS (f : FuncId) : Spec := dsp f [b0, b3] 6 bF (bR 925 74)
def divS (f : FuncId) : Spec := dsp f [b0, b3] 6 (bF ++ [.lt (.n 0) (.mul (ap1 4 (.v 3)) (ap1 4 (.v 4)))]) (bR 434 76)
def pntS (f : FuncId) : Spec := dsp f [d0, i64 (.v 2)] 3 (xF 1 ++ [.le (.n 0) (.v 2), .le (.v 2) (.n 2048)]) (.tup [.ag [.z 325 true (ap3 59 (.v 0) (.v 1) (.v 2)), .z 325 true (ap3 60 (.v 0) (.v 1) (.v 2)), .i .i64 (.v 2)], .sc (.i .i64 (.n 0))])
def smallS (f : FuncId) : Spec := dsp f [vz 600 false (.v 0)] 1 [.le (.n (-4611686018427387904)) (.v 0), .le (.v 0) (.n 4611686018427387904)] (.tup [.sc (.i .i64 (.v 0)), .sc (.b (.n 1))])
end
def limbs (n : Nat) : Nat := n.log2 / 64 + 1
theorem jqh {n m : Nat} (h : n ≤ m) : n < W ^ limbs m := by
  rw [jgh]; refine Nat.lt_of_le_of_lt h (Nat.lt_of_lt_of_le (Nat.lt_log2_self (n := m)) (Nat.pow_le_pow_right (by omega) ?_)); unfold limbs
  omega
def shrX (fs : List T) : X → X
  | .z k true t => match iv fs t with
    | (some a, some b) => .z (min k (limbs (max a.natAbs b.natAbs))) true t
    | _ => .z k true t
  | x => x
def shrV (fs : List T) : V1 → V1
  | .sc x => .sc x
  | .ag xs => .ag (xs.map (shrX fs))
  | .fn f c => .fn f c
def shrA (fs : List T) : A → A
  | .one a => .one (shrV fs a)
  | a => a
section
variable {F : Nat → List Int → Int} {ρ : Nat → Int} {β : Nat → Nat} {P : Program} {w : World} {fs : List T}
theorem jst (hf : allT F ρ fs) {x : X} {cs : List Value} (h : x.has F ρ β w cs) : (shrX fs x).has F ρ β w cs := by
  unfold shrX
  split
  · rename_i k t
    split
    · rename_i a b e
      have hi := jcw hf t; rw [e] at hi; have h1 := hi.1 a rfl; have h2 := hi.2 b rfl; obtain ⟨n, A, l, c, rfl, h3, h4⟩ := h; obtain ⟨d, k1, k2, k3, k4⟩ := h4 rfl
      have hq : QB w 0 (min k (limbs (max a.natAbs b.natAbs))) n A l c (t.den F ρ) := by
        refine ⟨d, k1, Nat.le_min.2 ⟨k2, ?_⟩, k3, k4⟩; rw [k3.len]; exact jqh (by omega)
      exact ⟨n, A, l, c, rfl, hq.q, fun _ => hq⟩
    · exact h
  · exact h
theorem jl0 (hf : allT F ρ fs) : ∀ {xs : List X} {cs : List Value}, hasL F ρ β w xs cs → hasL F ρ β w (xs.map (shrX fs)) cs
  | [], _, h => h
  | _ :: _, _, ⟨c, d, h1, h2, h3⟩ => ⟨c, d, h1, jst hf h2, jl0 hf h3⟩
theorem jsu (hf : allT F ρ fs) {a : A} {v : Value} (h : a.has F ρ β w v) : (shrA fs a).has F ρ β w v := by
  cases a with
  | one a => cases a with
    | sc x => exact h
    | ag xs =>
      obtain ⟨cs, h1, h2⟩ := h; exact ⟨cs, h1, jl0 hf h2⟩
    | fn f c => exact h
  | tup l => exact h
  | und => exact h
theorem jl1 (hf : allT F ρ fs) : ∀ {l : List A} {vs : List Value}, hasA F ρ β w l vs → hasA F ρ β w (l.map (shrA fs)) vs
  | [], _, h => h
  | _ :: _, _, ⟨v, r, h1, h2, h3⟩ => ⟨v, r, h1, jsu hf h2, jl1 hf h3⟩
def Ctr.shr (c : Ctr P F) : Ctr P F := { c with
  inst := fun fs bx ar => c.inst fs bx (ar.map (shrA fs))
  ok := fun hf hb ha hi hp => c.ok hf hb (jl1 hf ha) hi hp }
end
end V
end
end
end Go.Proofs.YtgbpnpemigddeaaGreat