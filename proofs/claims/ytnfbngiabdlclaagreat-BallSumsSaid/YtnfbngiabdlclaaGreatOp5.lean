/- Integers and balls that came in, opened to their cells. -/
import Derived.Test.YtnfbngiabdlclaaGreatLasts
set_option linter.unusedVariables false
set_option linter.unusedSimpArgs false
namespace Go.Proofs.YtnfbngiabdlclaaGreat
open Go.RowKit Go.ChangeShapes Go.WideShapes Go.ChangeAt
open L (val dig nth)

section
variable {H : Type} {enc : TypeId × Value → H} {w : World} {base : Nat} {spare : Nat → Bool} {held : Bool}
set_option maxRecDepth 100000 in
theorem open_zcells {n : Nat} {c0 c1 : Value} {y : DataW H × List MemPlace} (g : DataW.trod enc Tryz.prog w base spare held n 25 [c0, c1] = some y) : ∃ n A l k, c0 = .bool n ∧ c1 = .slice A l k ∧ ∃ L, Nums w 0 (.slice A l k) L := by
  obtain ⟨xs', n', -, -, -, hlen', hg'⟩ := DataW.trod_struct Tryz.underlying25 g
  have i0 := hg' 0 _ rfl
  have i1 := hg' 1 _ rfl
  clear hg'
  have hl2' : xs'.length = 2 := hlen'
  obtain ⟨u0, u1, rfl⟩ : ∃ a b, xs' = [a, b] := by
    match xs', hl2' with
    | [a, b], _ => exact ⟨a, b, rfl⟩
  have i0' : DataW.trod enc Tryz.prog w base spare held n' 4 [c0] = some u0 := i0
  have i1' : DataW.trod enc Tryz.prog w base spare held n' 23 [c1] = some u1 := i1
  clear i0 i1
  obtain ⟨A, ll, k, L, rfl, hL⟩ := open_limbs i1'
  obtain ⟨b, e0, -⟩ := DataW.trod_bool Tryz.underlying4 i0'
  simp at e0
  subst e0
  exact ⟨b, A, ll, k, rfl, rfl, L, hL⟩
set_option maxRecDepth 100000 in
theorem open_int_s {r : Reach} {b0 : Nat} {v : Value} {d : DataW H} {p : List MemPlace} (hv : Value.okWide Tryz.prog w r b0 25 v) (h : DataW.Trod enc Tryz.prog w base spare held 25 v d p) :
    ∃ n A l k, v = .agg #[.bool n, .slice A l k] ∧ (∃ L, Nums w 0 (.slice A l k) L) := by
  obtain ⟨cs, rfl, hsz⟩ := okWide_struct Tryz.underlying25 hv
  obtain ⟨l⟩ := cs
  have hl3 : l.length = 2 := hsz
  obtain ⟨c0, c1, rfl⟩ : ∃ a b, l = [a, b] := by
    match l, hl3 with
    | [a, b], _ => exact ⟨a, b, rfl⟩
  obtain ⟨fuel, hf⟩ := h
  obtain ⟨n, A, l, k, rfl, rfl, hL⟩ := open_zcells hf
  exact ⟨n, A, l, k, rfl, hL⟩
set_option maxRecDepth 100000 in
theorem open_ball {r : Reach} {b0 : Nat} {v : Value} {d : DataW H} {p : List MemPlace} (hv : Value.okWide Tryz.prog w r b0 27 v) (h : DataW.Trod enc Tryz.prog w base spare held 27 v d p) :
    ∃ n A l k n' A' l' k' x, v = .agg #[.bool n, .slice A l k, .bool n', .slice A' l' k', .int .i64 x] ∧ (∃ L, Nums w 0 (.slice A l k) L) ∧ (∃ L, Nums w 0 (.slice A' l' k') L) ∧ (Lit.int .i64 x).wf = true := by
  obtain ⟨cs, rfl, hsz⟩ := okWide_struct Tryz.underlying27 hv
  obtain ⟨l⟩ := cs
  have hl3 : l.length = 5 := hsz
  obtain ⟨c0, c1, c2, c3, c4, rfl⟩ : ∃ a b c d e, l = [a, b, c, d, e] := by
    match l, hl3 with
    | [a, b, c, d, e], _ => exact ⟨a, b, c, d, e, rfl⟩
  obtain ⟨fuel, hf⟩ := h
  obtain ⟨xs, n, -, -, -, hlen, hg⟩ := DataW.trod_struct Tryz.underlying27 hf
  have g0 := hg 0 _ rfl
  have g1 := hg 1 _ rfl
  have g2 := hg 2 _ rfl
  clear hg
  have hl2 : xs.length = 3 := hlen
  obtain ⟨y0, y1, y2, rfl⟩ : ∃ a b c, xs = [a, b, c] := by
    match xs, hl2 with
    | [a, b, c], _ => exact ⟨a, b, c, rfl⟩
  have g0' : DataW.trod enc Tryz.prog w base spare held n 25 [c0, c1] = some y0 := g0
  have g1' : DataW.trod enc Tryz.prog w base spare held n 25 [c2, c3] = some y1 := g1
  have g2' : DataW.trod enc Tryz.prog w base spare held n 3 [c4] = some y2 := g2
  clear g0 g1 g2
  obtain ⟨n, A, l, k, rfl, rfl, hL⟩ := open_zcells g0'
  obtain ⟨n', A', l', k', rfl, rfl, hL'⟩ := open_zcells g1'
  obtain ⟨x, e1, -, wx⟩ := DataW.trod_int Tryz.underlying3 g2'
  simp at e1
  subst e1
  exact ⟨n, A, l, k, n', A', l', k', x, rfl, hL, hL', wx⟩
end
end Go.Proofs.YtnfbngiabdlclaaGreat
