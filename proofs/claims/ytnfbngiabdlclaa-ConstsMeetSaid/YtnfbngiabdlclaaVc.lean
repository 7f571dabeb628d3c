/- V: balls, and the constants. -/
import Derived.Test.YtnfbngiabdlclaaVy
set_option linter.unusedVariables false
set_option linter.unusedSimpArgs false
namespace Go.Proofs.Ytnfbngiabdlclaa
open Go.RowKit Go.Shelf
namespace V
section
variable (h : Nat → List Int → Int)
noncomputable def ball1 : List (Ctr Try.prog (stdF (gR h))) :=
  inl (rows5 h) 37 (by kernel_rfl) :: -- opt
  inl (rows5 h) 43 (by kernel_rfl) :: -- opt
  inl (rows5 h) 38 (by kernel_rfl) :: -- opt
  rows5 h
noncomputable def ball2 : List (Ctr Try.prog (stdF (gR h))) :=
  inl (ball1 h) 13 (by kernel_rfl) :: -- opt
  inl (ball1 h) 44 (by kernel_rfl) :: -- opt
  ball1 h
noncomputable def ball3 : List (Ctr Try.prog (stdF (gR h))) :=
  inl (ball2 h) 49 (by kernel_rfl) :: -- opt
  inl (ball2 h) 18 (by kernel_rfl) :: -- opt
  inl (ball2 h) 63 (by kernel_rfl) :: -- opt
  inl (ball2 h) 14 (by kernel_rfl) :: -- opt
  inl (ball2 h) 17 (by kernel_rfl) :: -- opt
  ball2 h
noncomputable def ball4 : List (Ctr Try.prog (stdF (gR h))) :=
  inl (ball3 h) 21 (by kernel_rfl) :: -- opt
  ball3 h
noncomputable def ball5 : List (Ctr Try.prog (stdF (gR h))) :=
  inl (ball4 h) 22 (by kernel_rfl) :: -- opt
  ball4 h
noncomputable def cons1 : List (Ctr Try.prog (stdF (gR h))) :=
  inl (ball5 h) 30 (by kernel_rfl) :: -- opt
  ball5 h
end
/-! ### Ln2 -/
def w16 : T := .add (.v 0) (.n 16)
def dnT (c : Int) : T := ap2 1 (.mul (.n 1) (p2 w16)) (.n c)
def mayL (t : T) : List T := [.le (.n 0) (ap1 4 t), .le (ap2 5 (.mul t (ap1 0 (.n 1))) (.mul (.n 1) (p2 w16))) (.n 0)]
def lnN : T := .add (ap2 1 w16 (.n 3)) (.n 2)
def lnLoT : T := ap3 34 w16 (dnT 3) lnN
def lnHiT : T := ap3 35 w16 (.add (dnT 3) (.n 1)) lnN
def rightL (a b : T) : T := .le (ap2 5 a b) (.n 0)
def lnL : List T := mayL (dnT 3) ++ mayL (.add (dnT 3) (.n 1)) ++ [rightL lnLoT lnHiT, .le (.n 0) (ap1 4 (.n 2)), rightL (.mul lnLoT (.n 2)) (.mul lnHiT (.n 2))]
def dq : T := ap1 0 (.sub w16 (.v 0))
def ln2Sp : Spec := { f := 8, ps := [i64 (.v 0)], bx := [], np := 1, fs := [.le (.n 0) (.v 0), .le (.v 0) (.n 900)], res := .tup [.ag [.z 400 true (ap2 1 (.mul lnLoT (.n 2)) dq), .z 400 true (.sub (.n 0) (ap2 1 (.sub (.n 0) (.mul lnHiT (.n 2))) dq)), .i .i64 (.v 0)], .sc (.i .i64 (.n 0))], post := [] }
/-! ### Pi -/
def piN : T := .add (ap2 1 w16 (.n 9)) (.n 2)
def atLo (c : Int) : T := ap3 36 w16 (dnT c) piN
def atHi (c : Int) : T := ap3 37 w16 (.add (dnT c) (.n 1)) piN
def negT (t : T) : T := .sub (.n 0) t
def piA : T := .add (.mul (atLo 5) (.n 16)) (negT (.mul (atHi 239) (.n 4)))
def piB : T := .add (.mul (atHi 5) (.n 16)) (negT (.mul (atLo 239) (.n 4)))
def piL : List T := mayL (dnT 5) ++ mayL (.add (dnT 5) (.n 1)) ++ mayL (dnT 239) ++ mayL (.add (dnT 239) (.n 1)) ++ [rightL (atLo 5) (atHi 5), rightL (atLo 239) (atHi 239), .le (.n 0) (ap1 4 (.n 16)), .le (.n 0) (ap1 4 (.n 4)), rightL (.mul (atLo 5) (.n 16)) (.mul (atHi 5) (.n 16)), rightL (negT (.mul (atHi 239) (.n 4))) (negT (.mul (atLo 239) (.n 4))), rightL piA piB]
def piSp : Spec := { f := 9, ps := [i64 (.v 0)], bx := [], np := 1, fs := [.le (.n 0) (.v 0), .le (.v 0) (.n 900)], res := .tup [.ag [.z 400 true (ap2 1 piA dq), .z 400 true (negT (ap2 1 (negT piB) dq)), .i .i64 (.v 0)], .sc (.i .i64 (.n 0))], post := [] }
end V
end Go.Proofs.Ytnfbngiabdlclaa
