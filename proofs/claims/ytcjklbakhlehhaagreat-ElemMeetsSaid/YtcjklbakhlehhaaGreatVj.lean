/- V: what must be in any case (hairlinelaw09, hairlinelaw18): reckoned. -/
import Derived.Test.YtcjklbakhlehhaaGreatEv
set_option linter.unusedVariables false
set_option linter.unusedSimpArgs false
namespace Go.Proofs.YtcjklbakhlehhaaGreat
open Go.RowKit Go.Shelf
namespace V
section
variable (h : Nat → List Int → Int)
noncomputable def base : List (Ctr Tryz.prog (FD h)) := (dy1 h).map (Ctr.fold (jqq h))
noncomputable def lk1 : List (Ctr Tryz.prog (FD h)) :=
  pt2 h (base h)
noncomputable def jb1 : List (Ctr Tryz.prog (FD h)) :=
  lk1 h
noncomputable def jb2 : List (Ctr Tryz.prog (FD h)) :=
  jb1 h
noncomputable def jb3 : List (Ctr Tryz.prog (FD h)) :=
  jb2 h
end
def shS (f : FuncId) : Spec := dsp f [] 0 [] (.one (.sc (.b (.n 1))))
end V
end Go.Proofs.YtcjklbakhlehhaaGreat
