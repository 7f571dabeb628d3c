/-
  No cell of these rows narrows 'for every input' (looked for: loops, veiled, ifaces, maps, wideKeys, modest, calm, conditions, laid).
  DERIVED. THE GIVEN ROWS OF THIS SEAT. 5 by the template 'for every input the law returns true; each argument reads behind the call as it read before'; 0 by the template 'total and deterministic' (their statements: YtnephejalollfaaTotals.lean).
  GIVEN WITH THE SEED: the statements are not yours to turn. If you find one false, say at which input.
  Laid BY PROGRAM, IN A SANDBOX (cutbox-rows.mjs): the forced cells as the released guide's own fill.sh prints them over the translation bb605c5db24be6cb… (all of the seat's roots in one cut). By AI agents, Wed Nov 11 2026. No macro, syntax, notation, axiom, sorry.
-/
import Derived.Test.YtnephejalollfaaChecked
import GoSem.Claim
import GoSem.ClaimJoined
import GoSem.ClaimMapViews
import Derived.JoinedTies
import Derived.KernelRfl
namespace Go.Proofs.Ytnephejalollfaa
/- THE CELL 'sum', in the pinned program and in every row, IS THE sha256 OF THE DUMP (.gsa) THAT YtnephejalollfaaProg.lean LOADS. Nothing in Lean hashes anything: it is a label: what it is worth is what the hold of that sum in a sandbox is worth. -/
noncomputable def Try.pinned : Pinned := { name := "ytnephejalollfaa", sum := "bb605c5db24be6cb7d2a17fafbde039310470aa7b3238f4796443d0e031e86e5", checked := Try.checked }
namespace Rows
def none {H : Type} : Left H := { results := [], args := [] }

/-- 'hairlinelaw06.RowsExp': WHATEVER THE INPUT: true; the input reads as it did. -/
def rowsExpSpec : ChangeSpec := { name := "rowsExp", fn := fun _ => fun
  | [d1, d2, d3] => { results := [.lit (.bool true)], args := [d1, d2, d3] }
  | _ => none }
def rowsExpRow : OpenClaim := { program := "ytnephejalollfaa", sum := "bb605c5db24be6cb7d2a17fafbde039310470aa7b3238f4796443d0e031e86e5", func := "hairline/hairlinelaw06.RowsExp", spec := "rowsExp", inPlace := ["math/bits.Add64", "math/bits.Sub64"], unfollowed := true, recurses := true, named := ["math/bits.divideError", "math/bits.overflowError"], apart := false }
def RowsExpSaid : Prop := rowsExpRow.holds Try.pinned (OpenSpec.ofChange rowsExpSpec)

/-- ITS FALSE NEIGHBOUR: 'it returns false'. Refute it at one input. -/
def rowsExpWrong : ChangeSpec := { name := "rowsExp", fn := fun _ => fun
  | [d1, d2, d3] => { results := [.lit (.bool false)], args := [d1, d2, d3] }
  | _ => none }
def RowsExpWrongFalsely : Prop := rowsExpRow.holds Try.pinned (OpenSpec.ofChange rowsExpWrong)

/-- 'hairlinelaw06.RowsSquares': WHATEVER THE INPUT: true; the input reads as it did. -/
def rowsSquaresSpec : ChangeSpec := { name := "rowsSquares", fn := fun _ => fun
  | [d1, d2, d3] => { results := [.lit (.bool true)], args := [d1, d2, d3] }
  | _ => none }
def rowsSquaresRow : OpenClaim := { program := "ytnephejalollfaa", sum := "bb605c5db24be6cb7d2a17fafbde039310470aa7b3238f4796443d0e031e86e5", func := "hairline/hairlinelaw06.RowsSquares", spec := "rowsSquares", inPlace := ["math/bits.Add64", "math/bits.Sub64"], unfollowed := true, recurses := true, named := ["math/bits.divideError", "math/bits.overflowError"], apart := false }
def RowsSquaresSaid : Prop := rowsSquaresRow.holds Try.pinned (OpenSpec.ofChange rowsSquaresSpec)

/-- ITS FALSE NEIGHBOUR: 'it returns false'. Refute it at one input. -/
def rowsSquaresWrong : ChangeSpec := { name := "rowsSquares", fn := fun _ => fun
  | [d1, d2, d3] => { results := [.lit (.bool false)], args := [d1, d2, d3] }
  | _ => none }
def RowsSquaresWrongFalsely : Prop := rowsSquaresRow.holds Try.pinned (OpenSpec.ofChange rowsSquaresWrong)

/-- 'hairlinelaw06.RowsOrder': WHATEVER THE INPUT: true; the input reads as it did. -/
def rowsOrderSpec : ChangeSpec := { name := "rowsOrder", fn := fun _ => fun
  | [d1, d2, d3, d4] => { results := [.lit (.bool true)], args := [d1, d2, d3, d4] }
  | _ => none }
def rowsOrderRow : OpenClaim := { program := "ytnephejalollfaa", sum := "bb605c5db24be6cb7d2a17fafbde039310470aa7b3238f4796443d0e031e86e5", func := "hairline/hairlinelaw06.RowsOrder", spec := "rowsOrder", inPlace := ["math/bits.Add64", "math/bits.Sub64"], unfollowed := true, recurses := true, named := ["math/bits.divideError", "math/bits.overflowError"], apart := false }
def RowsOrderSaid : Prop := rowsOrderRow.holds Try.pinned (OpenSpec.ofChange rowsOrderSpec)

/-- ITS FALSE NEIGHBOUR: 'it returns false'. Refute it at one input. -/
def rowsOrderWrong : ChangeSpec := { name := "rowsOrder", fn := fun _ => fun
  | [d1, d2, d3, d4] => { results := [.lit (.bool false)], args := [d1, d2, d3, d4] }
  | _ => none }
def RowsOrderWrongFalsely : Prop := rowsOrderRow.holds Try.pinned (OpenSpec.ofChange rowsOrderWrong)

/-- 'hairlinelaw06.RowsPlaces': WHATEVER THE INPUT: true; the input reads as it did. -/
def rowsPlacesSpec : ChangeSpec := { name := "rowsPlaces", fn := fun _ => fun
  | [d1, d2, d3, d4] => { results := [.lit (.bool true)], args := [d1, d2, d3, d4] }
  | _ => none }
def rowsPlacesRow : OpenClaim := { program := "ytnephejalollfaa", sum := "bb605c5db24be6cb7d2a17fafbde039310470aa7b3238f4796443d0e031e86e5", func := "hairline/hairlinelaw06.RowsPlaces", spec := "rowsPlaces", inPlace := ["math/bits.Add64", "math/bits.Sub64"], unfollowed := true, recurses := true, named := ["math/bits.divideError", "math/bits.overflowError"], apart := false }
def RowsPlacesSaid : Prop := rowsPlacesRow.holds Try.pinned (OpenSpec.ofChange rowsPlacesSpec)

/-- ITS FALSE NEIGHBOUR: 'it returns false'. Refute it at one input. -/
def rowsPlacesWrong : ChangeSpec := { name := "rowsPlaces", fn := fun _ => fun
  | [d1, d2, d3, d4] => { results := [.lit (.bool false)], args := [d1, d2, d3, d4] }
  | _ => none }
def RowsPlacesWrongFalsely : Prop := rowsPlacesRow.holds Try.pinned (OpenSpec.ofChange rowsPlacesWrong)

/-- 'hairlinelaw06.RowsErrors': WHATEVER THE INPUT: true; the input reads as it did. -/
def rowsErrorsSpec : ChangeSpec := { name := "rowsErrors", fn := fun _ => fun
  | [d1, d2, d3] => { results := [.lit (.bool true)], args := [d1, d2, d3] }
  | _ => none }
def rowsErrorsRow : OpenClaim := { program := "ytnephejalollfaa", sum := "bb605c5db24be6cb7d2a17fafbde039310470aa7b3238f4796443d0e031e86e5", func := "hairline/hairlinelaw06.RowsErrors", spec := "rowsErrors", inPlace := ["math/bits.Add64", "math/bits.Sub64"], unfollowed := true, recurses := true, named := ["math/bits.divideError", "math/bits.overflowError"], apart := false }
def RowsErrorsSaid : Prop := rowsErrorsRow.holds Try.pinned (OpenSpec.ofChange rowsErrorsSpec)

/-- ITS FALSE NEIGHBOUR: 'it returns false'. Refute it at one input. -/
def rowsErrorsWrong : ChangeSpec := { name := "rowsErrors", fn := fun _ => fun
  | [d1, d2, d3] => { results := [.lit (.bool false)], args := [d1, d2, d3] }
  | _ => none }
def RowsErrorsWrongFalsely : Prop := rowsErrorsRow.holds Try.pinned (OpenSpec.ofChange rowsErrorsWrong)

/- THE SECOND FORM. 'bulk': how many values and letters a reading holds, each counted each time it is reached (what is shared counts as often as it is met; a slice's spare places count too). A statement '..UptoSaid' is the law's where the arguments, and the package variables that the reading takes, are together of bulk at most 1048576: NARROWER than '..Said'. Prove '..Said' where nothing that the law and all that it calls make is longer than what came in: it says more and counts as full. Else prove '..UptoSaid'. A law counts once. -/
mutual
def uptoBulk {H : Type} : DataW H → Nat
  | .lit (.string bytes) => bytes.length + 1
  | .lit _ => 1
  | .nil => 1
  | .ptr d => uptoBulk d + 1
  | .slice elems spare => uptoBulkAll elems + uptoBulkAll spare + 1
  | .agg parts => uptoBulkAll parts + 1
  | .iface _ d => uptoBulk d + 1
  | .map entries => uptoBulkEntries entries + 1
  | .held _ => 1
def uptoBulkAll {H : Type} : List (DataW H) → Nat
  | [] => 0
  | d :: r => uptoBulk d + uptoBulkAll r
def uptoBulkEntries {H : Type} : List (Lit × DataW H) → Nat
  | [] => 0
  | x :: r => uptoBulkEntry x + uptoBulkEntries r
def uptoBulkEntry {H : Type} : Lit × DataW H → Nat
  | (.string bytes, d) => bytes.length + uptoBulk d + 1
  | (_, d) => uptoBulk d + 1
 end
def uptoSmall : (H : Type) → List (DataW H) → Bool := fun _ ds => decide (uptoBulkAll ds ≤ 1048576)
def OpenSpec.upto (s : _root_.Go.ChangeSpec) : _root_.Go.OpenSpec := { _root_.Go.OpenSpec.ofChange s with cond := some uptoSmall }

/-- 'hairlinelaw06.RowsExp', WHERE WHAT IT READS IS OF BULK AT MOST 1048576: true; the input reads as it did. -/
def rowsExpUptoRow : OpenClaim := { program := "ytnephejalollfaa", sum := "bb605c5db24be6cb7d2a17fafbde039310470aa7b3238f4796443d0e031e86e5", func := "hairline/hairlinelaw06.RowsExp", spec := "rowsExp", inPlace := ["math/bits.Add64", "math/bits.Sub64"], unfollowed := true, recurses := true, named := ["math/bits.divideError", "math/bits.overflowError"], apart := false, narrowed := true }
def RowsExpUptoSaid : Prop := rowsExpUptoRow.holds Try.pinned (OpenSpec.upto rowsExpSpec)

/-- 'hairlinelaw06.RowsSquares', WHERE WHAT IT READS IS OF BULK AT MOST 1048576: true; the input reads as it did. -/
def rowsSquaresUptoRow : OpenClaim := { program := "ytnephejalollfaa", sum := "bb605c5db24be6cb7d2a17fafbde039310470aa7b3238f4796443d0e031e86e5", func := "hairline/hairlinelaw06.RowsSquares", spec := "rowsSquares", inPlace := ["math/bits.Add64", "math/bits.Sub64"], unfollowed := true, recurses := true, named := ["math/bits.divideError", "math/bits.overflowError"], apart := false, narrowed := true }
def RowsSquaresUptoSaid : Prop := rowsSquaresUptoRow.holds Try.pinned (OpenSpec.upto rowsSquaresSpec)

/-- 'hairlinelaw06.RowsOrder', WHERE WHAT IT READS IS OF BULK AT MOST 1048576: true; the input reads as it did. -/
def rowsOrderUptoRow : OpenClaim := { program := "ytnephejalollfaa", sum := "bb605c5db24be6cb7d2a17fafbde039310470aa7b3238f4796443d0e031e86e5", func := "hairline/hairlinelaw06.RowsOrder", spec := "rowsOrder", inPlace := ["math/bits.Add64", "math/bits.Sub64"], unfollowed := true, recurses := true, named := ["math/bits.divideError", "math/bits.overflowError"], apart := false, narrowed := true }
def RowsOrderUptoSaid : Prop := rowsOrderUptoRow.holds Try.pinned (OpenSpec.upto rowsOrderSpec)

/-- 'hairlinelaw06.RowsPlaces', WHERE WHAT IT READS IS OF BULK AT MOST 1048576: true; the input reads as it did. -/
def rowsPlacesUptoRow : OpenClaim := { program := "ytnephejalollfaa", sum := "bb605c5db24be6cb7d2a17fafbde039310470aa7b3238f4796443d0e031e86e5", func := "hairline/hairlinelaw06.RowsPlaces", spec := "rowsPlaces", inPlace := ["math/bits.Add64", "math/bits.Sub64"], unfollowed := true, recurses := true, named := ["math/bits.divideError", "math/bits.overflowError"], apart := false, narrowed := true }
def RowsPlacesUptoSaid : Prop := rowsPlacesUptoRow.holds Try.pinned (OpenSpec.upto rowsPlacesSpec)

/-- 'hairlinelaw06.RowsErrors', WHERE WHAT IT READS IS OF BULK AT MOST 1048576: true; the input reads as it did. -/
def rowsErrorsUptoRow : OpenClaim := { program := "ytnephejalollfaa", sum := "bb605c5db24be6cb7d2a17fafbde039310470aa7b3238f4796443d0e031e86e5", func := "hairline/hairlinelaw06.RowsErrors", spec := "rowsErrors", inPlace := ["math/bits.Add64", "math/bits.Sub64"], unfollowed := true, recurses := true, named := ["math/bits.divideError", "math/bits.overflowError"], apart := false, narrowed := true }
def RowsErrorsUptoSaid : Prop := rowsErrorsUptoRow.holds Try.pinned (OpenSpec.upto rowsErrorsSpec)

end Rows
end Go.Proofs.Ytnephejalollfaa
