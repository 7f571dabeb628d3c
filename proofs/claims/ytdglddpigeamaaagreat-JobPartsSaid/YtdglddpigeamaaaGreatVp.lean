/- V: hairlinelaw18.JobParts. -/
import Derived.Test.YtdglddpigeamaaaGreatEv
set_option linter.unusedVariables false
set_option linter.unusedSimpArgs false
namespace Go.Proofs.YtdglddpigeamaaaGreat
open Go.RowKit Go.Shelf
namespace V
section
variable (h : Nat → List Int → Int)
noncomputable def jp1 : List (Ctr Tryz.prog (FD h)) :=
  inl (stdT (gR (hC (hD h)))) 29 (by kernel_rfl) :: stdT (gR (hC (hD h)))
noncomputable def jp2 : List (Ctr Tryz.prog (FD h)) :=
  inl (jp1 h) 76 (by kernel_rfl) ::
  inl (jp1 h) 33 (by kernel_rfl) ::
  jp1 h
noncomputable def jp3 : List (Ctr Tryz.prog (FD h)) :=
  c18 h ::
  inl (jp2 h) 34 (by kernel_rfl) ::
  jp2 h
noncomputable def jp4 : List (Ctr Tryz.prog (FD h)) :=
  inl (jp3 h) 35 (by kernel_rfl) ::
  jp3 h
end
def jE : T := ap2 7 (.v 1) (.n 60)
def jP : T := ap2 2 (.v 5) (.n 2251799813685248)
def jD : T := ap2 2 (.v 6) (.n 2048)
def jB : T := .mul (.add jE (.n 1023)) (.n 4503599627370496)
def jTo : T := .add (.add jP jD) (.n 1)
def jU : T := ap2 1 (.sub (.add (.sub jTo jP) (.n 4)) (.n 1)) (.n 4)
def jAt (i : T) : T := .add (.add jB jP) (.ite (.lt (.mul (.n 4) i) (.add jD (.n 1))) (.mul (.n 4) i) (.add jD (.n 1)))
def u64 (t : T) : A := .one (.sc (.i .u64 t))
def kF (lo hi : Int) (i : Nat) : List T := [.le (.n lo) (.v i), .le (.v i) (.n hi)]
def jF : List T := kF (-9223372036854775808) 9223372036854775807 1 ++ kF 0 18446744073709551615 5 ++ kF (-9223372036854775808) 9223372036854775807 6
def partsS : Spec := { f := 8, ps := [.one (.ag [.i .i64 (.v 0), .i .i64 (.v 1), .i .u64 (.v 2), .i .u64 (.v 3), .i .i64 (.v 4)]), u64 (.v 5), i64 (.v 6)], bx := [], np := 7, fs := jF, res := .one (.sc (.b (.n 1))), post := [] }
def partsAnn : Ann := { key := 8, var := 7, start := .n 0, sl := [(10, i64 (.v 7)), (9, i64 jU), (8, u64 (jAt (.v 7))), (7, .one (.sc (.b (.n 1))))], bx := [(3, [.i .i64 (.v 0), .i .i64 jE, .i .u64 jP, .i .u64 jTo, .i .i64 (.v 4)])], fs := [.le (.n 0) (.v 7), .le (.v 7) (.n 512), .le (.v 7) jU, .le (.n 0) jU, .le jU (.n 512), .le (.mul (.n 4) jU) (.add jD (.n 4)), .lt jD (.mul (.n 4) jU)], m := .sub jU (.v 7) }
theorem partsC (h : Nat → List Int → Int) : checkF (P := Tryz.prog) (jp4 h) R0 [partsAnn] (drawX (jp4 h)) partsS = true := by kernel_rfl
def ρj (f x a b m c d : Int) : Nat → Int
  | 0 => f
  | 1 => x
  | 2 => a
  | 3 => b
  | 4 => m
  | 5 => c
  | _ => d
def z0 : Nat → List Int → Int := fun _ _ => 0
theorem parts_v {w : World} (f x a b m c d : Int) (hx : -9223372036854775808 ≤ x ∧ x ≤ 9223372036854775807) (hc : 0 ≤ c ∧ c ≤ 18446744073709551615) (hd : -9223372036854775808 ≤ d ∧ d ≤ 9223372036854775807) :
    Calls Tryz.prog 8 #[.agg #[.int .i64 f, .int .i64 x, .int .u64 a, .int .u64 b, .int .i64 m], .int .u64 c, .int .i64 d] w fun e w' => e = .returned (.bool true) ∧ Below w.heap.size w w' := by
  have ha : hasA (FD z0) (ρj f x a b m c d) id w partsS.ps [.agg #[.int .i64 f, .int .i64 x, .int .u64 a, .int .u64 b, .int .i64 m], .int .u64 c, .int .i64 d] :=
    ⟨_, _, rfl, ⟨[.int .i64 f, .int .i64 x, .int .u64 a, .int .u64 b, .int .i64 m], rfl, [_], _, rfl, rfl, [_], _, rfl, rfl, [_], _, rfl, rfl, [_], _, rfl, rfl, [_], _, rfl, rfl, rfl⟩, _, _, rfl, rfl, _, _, rfl, rfl, rfl⟩
  have hf : allT (FD z0) (ρj f x a b m c d) partsS.fs := ⟨le_bd hx.1, le_bd hx.2, le_bd hc.1, le_bd hc.2, le_bd hd.1, le_bd hd.2, trivial⟩; obtain ⟨-, -, g⟩ := fn_ok (R0_ok _) (fun n w0 => drawX_ok follows_any _ n w0) (partsC z0) ha bxOK_nil hf; refine g.mono fun e w' ⟨h1, u, h2, h3⟩ => ⟨?_, h1⟩
  have h4 : [u] = [Value.bool true] := h3; rw [h2, List.head_eq_of_cons_eq h4]
end V
end Go.Proofs.YtdglddpigeamaaaGreat
