/- A job that came in. -/
import Derived.Test.YtdglddpigeamaaaGreatCons
import Derived.ProofKit
import Derived.OpenShut
import Derived.Lib.SmallJoins
set_option linter.unusedVariables false
namespace Go.Proofs.YtdglddpigeamaaaGreat
open Go.RowKit Go.ChangeShapes Go.WideShapes
section
variable {H : Type} {enc : TypeId × Value → H} {w : World} {base : Nat} {spare : Nat → Bool} {held : Bool}
set_option maxRecDepth 100000 in
theorem open_job {r : Reach} {b0 : Nat} {v : Value} {d : DataW H} {p : List MemPlace} (hv : Value.okWide Tryz.prog w r b0 59 v) (h : DataW.Trod enc Tryz.prog w base spare held 59 v d p) :
    ∃ f x a b m, v = .agg #[.int .i64 f, .int .i64 x, .int .u64 a, .int .u64 b, .int .i64 m] ∧ (Lit.int .i64 x).wf = true := by
  obtain ⟨cs, rfl, hsz⟩ := okWide_struct Tryz.underlying59 hv; obtain ⟨l⟩ := cs; have hl5 : l.length = 5 := hsz
  obtain ⟨c0, c1, c2, c3, c4, rfl⟩ : ∃ a b c d e, l = [a, b, c, d, e] := by
    match l, hl5 with
    | [a, b, c, d, e], _ => exact ⟨a, b, c, d, e, rfl⟩
  obtain ⟨fuel, hf⟩ := h; obtain ⟨xs, n, -, -, -, hlen, hg⟩ := DataW.trod_struct Tryz.underlying59 hf; have g0 := hg 0 _ rfl; have g1 := hg 1 _ rfl; have g2 := hg 2 _ rfl; have g3 := hg 3 _ rfl; have g4 := hg 4 _ rfl; clear hg; have hl2 : xs.length = 5 := hlen
  obtain ⟨y0, y1, y2, y3, y4, rfl⟩ : ∃ a b c d e, xs = [a, b, c, d, e] := by
    match xs, hl2 with
    | [a, b, c, d, e], _ => exact ⟨a, b, c, d, e, rfl⟩
  have g0' : DataW.trod enc Tryz.prog w base spare held n 3 [c0] = some y0 := g0; have g1' : DataW.trod enc Tryz.prog w base spare held n 3 [c1] = some y1 := g1; have g2' : DataW.trod enc Tryz.prog w base spare held n 36 [c2] = some y2 := g2; have g3' : DataW.trod enc Tryz.prog w base spare held n 36 [c3] = some y3 := g3; have g4' : DataW.trod enc Tryz.prog w base spare held n 3 [c4] = some y4 := g4; clear g0 g1 g2 g3 g4; obtain ⟨x0, e0, -, w0⟩ := DataW.trod_int Tryz.underlying3 g0'; obtain ⟨x1, e1, -, w1⟩ := DataW.trod_int Tryz.underlying3 g1'; obtain ⟨x2, e2, -, w2⟩ := DataW.trod_int Tryz.underlying36 g2'; obtain ⟨x3, e3, -, w3⟩ := DataW.trod_int Tryz.underlying36 g3'; obtain ⟨x4, e4, -, w4⟩ := DataW.trod_int Tryz.underlying3 g4'; simp at e0 e1 e2 e3 e4; subst e0 e1 e2 e3 e4; exact ⟨x0, x1, x2, x3, x4, rfl, w1⟩
end
end Go.Proofs.YtdglddpigeamaaaGreat
