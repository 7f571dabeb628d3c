/-
  No cell of these rows narrows 'for every input' (looked for: loops, veiled, ifaces, maps, wideKeys, modest, calm, conditions, laid).
  DERIVED. THE GIVEN ROWS OF THIS SEAT. 11 by the template 'for every input the law returns true; each argument reads behind the call as it read before'; 0 by the template 'total and deterministic' (their statements: YtnkembnachhicaaTotals.lean).
  GIVEN WITH THE SEED: the statements are not yours to turn. If you find one false, say at which input.
  Laid BY PROGRAM, IN A SANDBOX (cutbox-rows.mjs): the forced cells as the released guide's own fill.sh prints them over the translation d0154ee59df6585b… (all of the seat's roots in one cut). By AI agents, Wed Nov 11 2026. No macro, syntax, notation, axiom, sorry.
-/
import Derived.Test.YtnkembnachhicaaChecked
import GoSem.Claim
import GoSem.ClaimJoined
import GoSem.ClaimMapViews
import Derived.JoinedTies
import Derived.KernelRfl
namespace Go.Proofs.Ytnkembnachhicaa
/- THE CELL 'sum', in the pinned program and in every row, IS THE sha256 OF THE DUMP (.gsa) THAT YtnkembnachhicaaProg.lean LOADS. Nothing in Lean hashes anything: it is a label: what it is worth is what the hold of that sum in a sandbox is worth. -/
noncomputable def Try.pinned : Pinned := { name := "ytnkembnachhicaa", sum := "d0154ee59df6585b03a24f5360e0ccfcff470a582173245fbcc71f117da5b12f", checked := Try.checked }
namespace Rows
def none {H : Type} : Left H := { results := [], args := [] }

/-- 'hairlinelaw03.DyadNear': WHATEVER THE INPUT: true; the input reads as it did. -/
def dyadNearSpec : ChangeSpec := { name := "dyadNear", fn := fun _ => fun
  | [d1, d2] => { results := [.lit (.bool true)], args := [d1, d2] }
  | _ => none }
def dyadNearRow : OpenClaim := { program := "ytnkembnachhicaa", sum := "d0154ee59df6585b03a24f5360e0ccfcff470a582173245fbcc71f117da5b12f", func := "hairline/hairlinelaw03.DyadNear", spec := "dyadNear", inPlace := ["math/bits.Add64", "math/bits.Sub64"], named := ["math/bits.divideError", "math/bits.overflowError"], apart := false }
def DyadNearSaid : Prop := dyadNearRow.holds Try.pinned (OpenSpec.ofChange dyadNearSpec)

/-- ITS FALSE NEIGHBOUR: 'it returns false'. Refute it at one input. -/
def dyadNearWrong : ChangeSpec := { name := "dyadNear", fn := fun _ => fun
  | [d1, d2] => { results := [.lit (.bool false)], args := [d1, d2] }
  | _ => none }
def DyadNearWrongFalsely : Prop := dyadNearRow.holds Try.pinned (OpenSpec.ofChange dyadNearWrong)

/-- 'hairlinelaw04.BitsBack': WHATEVER THE INPUT: true; the input reads as it did. -/
def bitsBackSpec : ChangeSpec := { name := "bitsBack", fn := fun _ => fun
  | [d] => { results := [.lit (.bool true)], args := [d] }
  | _ => none }
def bitsBackRow : OpenClaim := { program := "ytnkembnachhicaa", sum := "d0154ee59df6585b03a24f5360e0ccfcff470a582173245fbcc71f117da5b12f", func := "hairline/hairlinelaw04.BitsBack", spec := "bitsBack", inPlace := ["math/bits.Add64", "math/bits.Sub64"], named := ["math/bits.divideError", "math/bits.overflowError"], apart := false }
def BitsBackSaid : Prop := bitsBackRow.holds Try.pinned (OpenSpec.ofChange bitsBackSpec)

/-- ITS FALSE NEIGHBOUR: 'it returns false'. Refute it at one input. -/
def bitsBackWrong : ChangeSpec := { name := "bitsBack", fn := fun _ => fun
  | [d] => { results := [.lit (.bool false)], args := [d] }
  | _ => none }
def BitsBackWrongFalsely : Prop := bitsBackRow.holds Try.pinned (OpenSpec.ofChange bitsBackWrong)

/-- 'hairlinelaw04.BitsValues': WHATEVER THE INPUT: true; the input reads as it did. -/
def bitsValuesSpec : ChangeSpec := { name := "bitsValues", fn := fun _ => fun
  | [d] => { results := [.lit (.bool true)], args := [d] }
  | _ => none }
def bitsValuesRow : OpenClaim := { program := "ytnkembnachhicaa", sum := "d0154ee59df6585b03a24f5360e0ccfcff470a582173245fbcc71f117da5b12f", func := "hairline/hairlinelaw04.BitsValues", spec := "bitsValues", inPlace := ["math/bits.Add64", "math/bits.Sub64"], named := ["math/bits.divideError", "math/bits.overflowError"], apart := false }
def BitsValuesSaid : Prop := bitsValuesRow.holds Try.pinned (OpenSpec.ofChange bitsValuesSpec)

/-- ITS FALSE NEIGHBOUR: 'it returns false'. Refute it at one input. -/
def bitsValuesWrong : ChangeSpec := { name := "bitsValues", fn := fun _ => fun
  | [d] => { results := [.lit (.bool false)], args := [d] }
  | _ => none }
def BitsValuesWrongFalsely : Prop := bitsValuesRow.holds Try.pinned (OpenSpec.ofChange bitsValuesWrong)

/-- 'hairlinelaw03.DyadStands': WHATEVER THE INPUT: true; the input reads as it did. -/
def dyadStandsSpec : ChangeSpec := { name := "dyadStands", fn := fun _ => fun
  | [d1, d2] => { results := [.lit (.bool true)], args := [d1, d2] }
  | _ => none }
def dyadStandsRow : OpenClaim := { program := "ytnkembnachhicaa", sum := "d0154ee59df6585b03a24f5360e0ccfcff470a582173245fbcc71f117da5b12f", func := "hairline/hairlinelaw03.DyadStands", spec := "dyadStands", inPlace := ["math/bits.Add64", "math/bits.Sub64"], named := ["math/bits.divideError", "math/bits.overflowError"], apart := false }
def DyadStandsSaid : Prop := dyadStandsRow.holds Try.pinned (OpenSpec.ofChange dyadStandsSpec)

/-- ITS FALSE NEIGHBOUR: 'it returns false'. Refute it at one input. -/
def dyadStandsWrong : ChangeSpec := { name := "dyadStands", fn := fun _ => fun
  | [d1, d2] => { results := [.lit (.bool false)], args := [d1, d2] }
  | _ => none }
def DyadStandsWrongFalsely : Prop := dyadStandsRow.holds Try.pinned (OpenSpec.ofChange dyadStandsWrong)

/-- 'hairlinelaw03.DyadBetween': WHATEVER THE INPUT: true; the input reads as it did. -/
def dyadBetweenSpec : ChangeSpec := { name := "dyadBetween", fn := fun _ => fun
  | [d1, d2] => { results := [.lit (.bool true)], args := [d1, d2] }
  | _ => none }
def dyadBetweenRow : OpenClaim := { program := "ytnkembnachhicaa", sum := "d0154ee59df6585b03a24f5360e0ccfcff470a582173245fbcc71f117da5b12f", func := "hairline/hairlinelaw03.DyadBetween", spec := "dyadBetween", inPlace := ["math/bits.Add64", "math/bits.Sub64"], named := ["math/bits.divideError", "math/bits.overflowError"], apart := false }
def DyadBetweenSaid : Prop := dyadBetweenRow.holds Try.pinned (OpenSpec.ofChange dyadBetweenSpec)

/-- ITS FALSE NEIGHBOUR: 'it returns false'. Refute it at one input. -/
def dyadBetweenWrong : ChangeSpec := { name := "dyadBetween", fn := fun _ => fun
  | [d1, d2] => { results := [.lit (.bool false)], args := [d1, d2] }
  | _ => none }
def DyadBetweenWrongFalsely : Prop := dyadBetweenRow.holds Try.pinned (OpenSpec.ofChange dyadBetweenWrong)

/-- 'hairlinelaw04.BitsNear': WHATEVER THE INPUT: true; the input reads as it did. -/
def bitsNearSpec : ChangeSpec := { name := "bitsNear", fn := fun _ => fun
  | [d] => { results := [.lit (.bool true)], args := [d] }
  | _ => none }
def bitsNearRow : OpenClaim := { program := "ytnkembnachhicaa", sum := "d0154ee59df6585b03a24f5360e0ccfcff470a582173245fbcc71f117da5b12f", func := "hairline/hairlinelaw04.BitsNear", spec := "bitsNear", inPlace := ["math/bits.Add64", "math/bits.Sub64"], named := ["math/bits.divideError", "math/bits.overflowError"], apart := false }
def BitsNearSaid : Prop := bitsNearRow.holds Try.pinned (OpenSpec.ofChange bitsNearSpec)

/-- ITS FALSE NEIGHBOUR: 'it returns false'. Refute it at one input. -/
def bitsNearWrong : ChangeSpec := { name := "bitsNear", fn := fun _ => fun
  | [d] => { results := [.lit (.bool false)], args := [d] }
  | _ => none }
def BitsNearWrongFalsely : Prop := bitsNearRow.holds Try.pinned (OpenSpec.ofChange bitsNearWrong)

/-- 'hairlinelaw03.DyadSums': WHATEVER THE INPUT: true; the input reads as it did. -/
def dyadSumsSpec : ChangeSpec := { name := "dyadSums", fn := fun _ => fun
  | [d1, d2, d3] => { results := [.lit (.bool true)], args := [d1, d2, d3] }
  | _ => none }
def dyadSumsRow : OpenClaim := { program := "ytnkembnachhicaa", sum := "d0154ee59df6585b03a24f5360e0ccfcff470a582173245fbcc71f117da5b12f", func := "hairline/hairlinelaw03.DyadSums", spec := "dyadSums", inPlace := ["math/bits.Add64", "math/bits.Sub64"], named := ["math/bits.divideError", "math/bits.overflowError"], apart := false }
def DyadSumsSaid : Prop := dyadSumsRow.holds Try.pinned (OpenSpec.ofChange dyadSumsSpec)

/-- ITS FALSE NEIGHBOUR: 'it returns false'. Refute it at one input. -/
def dyadSumsWrong : ChangeSpec := { name := "dyadSums", fn := fun _ => fun
  | [d1, d2, d3] => { results := [.lit (.bool false)], args := [d1, d2, d3] }
  | _ => none }
def DyadSumsWrongFalsely : Prop := dyadSumsRow.holds Try.pinned (OpenSpec.ofChange dyadSumsWrong)

/-- 'hairlinelaw04.BitsBinades': WHATEVER THE INPUT: true; the input reads as it did. -/
def bitsBinadesSpec : ChangeSpec := { name := "bitsBinades", fn := fun _ => fun
  | [d1, d2] => { results := [.lit (.bool true)], args := [d1, d2] }
  | _ => none }
def bitsBinadesRow : OpenClaim := { program := "ytnkembnachhicaa", sum := "d0154ee59df6585b03a24f5360e0ccfcff470a582173245fbcc71f117da5b12f", func := "hairline/hairlinelaw04.BitsBinades", spec := "bitsBinades", inPlace := ["math/bits.Add64", "math/bits.Sub64"], named := ["math/bits.divideError", "math/bits.overflowError"], apart := false }
def BitsBinadesSaid : Prop := bitsBinadesRow.holds Try.pinned (OpenSpec.ofChange bitsBinadesSpec)

/-- ITS FALSE NEIGHBOUR: 'it returns false'. Refute it at one input. -/
def bitsBinadesWrong : ChangeSpec := { name := "bitsBinades", fn := fun _ => fun
  | [d1, d2] => { results := [.lit (.bool false)], args := [d1, d2] }
  | _ => none }
def BitsBinadesWrongFalsely : Prop := bitsBinadesRow.holds Try.pinned (OpenSpec.ofChange bitsBinadesWrong)

/-- 'hairlinelaw03.DyadLogs': WHATEVER THE INPUT: true; the input reads as it did. -/
def dyadLogsSpec : ChangeSpec := { name := "dyadLogs", fn := fun _ => fun
  | [d1, d2] => { results := [.lit (.bool true)], args := [d1, d2] }
  | _ => none }
def dyadLogsRow : OpenClaim := { program := "ytnkembnachhicaa", sum := "d0154ee59df6585b03a24f5360e0ccfcff470a582173245fbcc71f117da5b12f", func := "hairline/hairlinelaw03.DyadLogs", spec := "dyadLogs", inPlace := ["math/bits.Add64", "math/bits.Sub64"], named := ["math/bits.divideError", "math/bits.overflowError"], apart := false }
def DyadLogsSaid : Prop := dyadLogsRow.holds Try.pinned (OpenSpec.ofChange dyadLogsSpec)

/-- ITS FALSE NEIGHBOUR: 'it returns false'. Refute it at one input. -/
def dyadLogsWrong : ChangeSpec := { name := "dyadLogs", fn := fun _ => fun
  | [d1, d2] => { results := [.lit (.bool false)], args := [d1, d2] }
  | _ => none }
def DyadLogsWrongFalsely : Prop := dyadLogsRow.holds Try.pinned (OpenSpec.ofChange dyadLogsWrong)

/-- 'hairlinelaw03.DyadRing': WHATEVER THE INPUT: true; the input reads as it did. -/
def dyadRingSpec : ChangeSpec := { name := "dyadRing", fn := fun _ => fun
  | [d1, d2, d3] => { results := [.lit (.bool true)], args := [d1, d2, d3] }
  | _ => none }
def dyadRingRow : OpenClaim := { program := "ytnkembnachhicaa", sum := "d0154ee59df6585b03a24f5360e0ccfcff470a582173245fbcc71f117da5b12f", func := "hairline/hairlinelaw03.DyadRing", spec := "dyadRing", inPlace := ["math/bits.Add64", "math/bits.Sub64"], named := ["math/bits.divideError", "math/bits.overflowError"], apart := false }
def DyadRingSaid : Prop := dyadRingRow.holds Try.pinned (OpenSpec.ofChange dyadRingSpec)

/-- ITS FALSE NEIGHBOUR: 'it returns false'. Refute it at one input. -/
def dyadRingWrong : ChangeSpec := { name := "dyadRing", fn := fun _ => fun
  | [d1, d2, d3] => { results := [.lit (.bool false)], args := [d1, d2, d3] }
  | _ => none }
def DyadRingWrongFalsely : Prop := dyadRingRow.holds Try.pinned (OpenSpec.ofChange dyadRingWrong)

/-- 'hairlinelaw04.BitsOrder': WHATEVER THE INPUT: true; the input reads as it did. -/
def bitsOrderSpec : ChangeSpec := { name := "bitsOrder", fn := fun _ => fun
  | [d1, d2] => { results := [.lit (.bool true)], args := [d1, d2] }
  | _ => none }
def bitsOrderRow : OpenClaim := { program := "ytnkembnachhicaa", sum := "d0154ee59df6585b03a24f5360e0ccfcff470a582173245fbcc71f117da5b12f", func := "hairline/hairlinelaw04.BitsOrder", spec := "bitsOrder", inPlace := ["math/bits.Add64", "math/bits.Sub64"], named := ["math/bits.divideError", "math/bits.overflowError"], apart := false }
def BitsOrderSaid : Prop := bitsOrderRow.holds Try.pinned (OpenSpec.ofChange bitsOrderSpec)

/-- ITS FALSE NEIGHBOUR: 'it returns false'. Refute it at one input. -/
def bitsOrderWrong : ChangeSpec := { name := "bitsOrder", fn := fun _ => fun
  | [d1, d2] => { results := [.lit (.bool false)], args := [d1, d2] }
  | _ => none }
def BitsOrderWrongFalsely : Prop := bitsOrderRow.holds Try.pinned (OpenSpec.ofChange bitsOrderWrong)

/- THE SECOND FORM. 'bulk': how many values and letters a reading holds, each counted each time it is reached (what is shared counts as often as it is met; a slice's spare places count too). A statement '..UptoSaid' is the law's where the arguments, and the package variables that the reading takes, are together of bulk at most 1048576: NARROWER than '..Said'. Prove '..Said' where nothing that the law and all that it calls make is longer than what came in: it says more and counts as full. Else prove '..UptoSaid'. A law counts once. -/
mutual
def uptoBulk {H : Type} : DataW H → Nat
  | .lit (.string bytes) => bytes.length + 1
  | .lit _ => 1
  | .nil => 1
  | .ptr d => uptoBulk d + 1
  | .slice elems spare => uptoBulkAll elems + uptoBulkAll spare + 1
  | .agg parts => uptoBulkAll parts + 1
  | .iface _ d => uptoBulk d + 1
  | .map entries => uptoBulkEntries entries + 1
  | .held _ => 1
def uptoBulkAll {H : Type} : List (DataW H) → Nat
  | [] => 0
  | d :: r => uptoBulk d + uptoBulkAll r
def uptoBulkEntries {H : Type} : List (Lit × DataW H) → Nat
  | [] => 0
  | x :: r => uptoBulkEntry x + uptoBulkEntries r
def uptoBulkEntry {H : Type} : Lit × DataW H → Nat
  | (.string bytes, d) => bytes.length + uptoBulk d + 1
  | (_, d) => uptoBulk d + 1
 end
def uptoSmall : (H : Type) → List (DataW H) → Bool := fun _ ds => decide (uptoBulkAll ds ≤ 1048576)
def OpenSpec.upto (s : _root_.Go.ChangeSpec) : _root_.Go.OpenSpec := { _root_.Go.OpenSpec.ofChange s with cond := some uptoSmall }

/-- 'hairlinelaw03.DyadNear', WHERE WHAT IT READS IS OF BULK AT MOST 1048576: true; the input reads as it did. -/
def dyadNearUptoRow : OpenClaim := { program := "ytnkembnachhicaa", sum := "d0154ee59df6585b03a24f5360e0ccfcff470a582173245fbcc71f117da5b12f", func := "hairline/hairlinelaw03.DyadNear", spec := "dyadNear", inPlace := ["math/bits.Add64", "math/bits.Sub64"], named := ["math/bits.divideError", "math/bits.overflowError"], apart := false, narrowed := true }
def DyadNearUptoSaid : Prop := dyadNearUptoRow.holds Try.pinned (OpenSpec.upto dyadNearSpec)

/-- 'hairlinelaw04.BitsBack', WHERE WHAT IT READS IS OF BULK AT MOST 1048576: true; the input reads as it did. -/
def bitsBackUptoRow : OpenClaim := { program := "ytnkembnachhicaa", sum := "d0154ee59df6585b03a24f5360e0ccfcff470a582173245fbcc71f117da5b12f", func := "hairline/hairlinelaw04.BitsBack", spec := "bitsBack", inPlace := ["math/bits.Add64", "math/bits.Sub64"], named := ["math/bits.divideError", "math/bits.overflowError"], apart := false, narrowed := true }
def BitsBackUptoSaid : Prop := bitsBackUptoRow.holds Try.pinned (OpenSpec.upto bitsBackSpec)

/-- 'hairlinelaw04.BitsValues', WHERE WHAT IT READS IS OF BULK AT MOST 1048576: true; the input reads as it did. -/
def bitsValuesUptoRow : OpenClaim := { program := "ytnkembnachhicaa", sum := "d0154ee59df6585b03a24f5360e0ccfcff470a582173245fbcc71f117da5b12f", func := "hairline/hairlinelaw04.BitsValues", spec := "bitsValues", inPlace := ["math/bits.Add64", "math/bits.Sub64"], named := ["math/bits.divideError", "math/bits.overflowError"], apart := false, narrowed := true }
def BitsValuesUptoSaid : Prop := bitsValuesUptoRow.holds Try.pinned (OpenSpec.upto bitsValuesSpec)

/-- 'hairlinelaw03.DyadStands', WHERE WHAT IT READS IS OF BULK AT MOST 1048576: true; the input reads as it did. -/
def dyadStandsUptoRow : OpenClaim := { program := "ytnkembnachhicaa", sum := "d0154ee59df6585b03a24f5360e0ccfcff470a582173245fbcc71f117da5b12f", func := "hairline/hairlinelaw03.DyadStands", spec := "dyadStands", inPlace := ["math/bits.Add64", "math/bits.Sub64"], named := ["math/bits.divideError", "math/bits.overflowError"], apart := false, narrowed := true }
def DyadStandsUptoSaid : Prop := dyadStandsUptoRow.holds Try.pinned (OpenSpec.upto dyadStandsSpec)

/-- 'hairlinelaw03.DyadBetween', WHERE WHAT IT READS IS OF BULK AT MOST 1048576: true; the input reads as it did. -/
def dyadBetweenUptoRow : OpenClaim := { program := "ytnkembnachhicaa", sum := "d0154ee59df6585b03a24f5360e0ccfcff470a582173245fbcc71f117da5b12f", func := "hairline/hairlinelaw03.DyadBetween", spec := "dyadBetween", inPlace := ["math/bits.Add64", "math/bits.Sub64"], named := ["math/bits.divideError", "math/bits.overflowError"], apart := false, narrowed := true }
def DyadBetweenUptoSaid : Prop := dyadBetweenUptoRow.holds Try.pinned (OpenSpec.upto dyadBetweenSpec)

/-- 'hairlinelaw04.BitsNear', WHERE WHAT IT READS IS OF BULK AT MOST 1048576: true; the input reads as it did. -/
def bitsNearUptoRow : OpenClaim := { program := "ytnkembnachhicaa", sum := "d0154ee59df6585b03a24f5360e0ccfcff470a582173245fbcc71f117da5b12f", func := "hairline/hairlinelaw04.BitsNear", spec := "bitsNear", inPlace := ["math/bits.Add64", "math/bits.Sub64"], named := ["math/bits.divideError", "math/bits.overflowError"], apart := false, narrowed := true }
def BitsNearUptoSaid : Prop := bitsNearUptoRow.holds Try.pinned (OpenSpec.upto bitsNearSpec)

/-- 'hairlinelaw03.DyadSums', WHERE WHAT IT READS IS OF BULK AT MOST 1048576: true; the input reads as it did. -/
def dyadSumsUptoRow : OpenClaim := { program := "ytnkembnachhicaa", sum := "d0154ee59df6585b03a24f5360e0ccfcff470a582173245fbcc71f117da5b12f", func := "hairline/hairlinelaw03.DyadSums", spec := "dyadSums", inPlace := ["math/bits.Add64", "math/bits.Sub64"], named := ["math/bits.divideError", "math/bits.overflowError"], apart := false, narrowed := true }
def DyadSumsUptoSaid : Prop := dyadSumsUptoRow.holds Try.pinned (OpenSpec.upto dyadSumsSpec)

/-- 'hairlinelaw04.BitsBinades', WHERE WHAT IT READS IS OF BULK AT MOST 1048576: true; the input reads as it did. -/
def bitsBinadesUptoRow : OpenClaim := { program := "ytnkembnachhicaa", sum := "d0154ee59df6585b03a24f5360e0ccfcff470a582173245fbcc71f117da5b12f", func := "hairline/hairlinelaw04.BitsBinades", spec := "bitsBinades", inPlace := ["math/bits.Add64", "math/bits.Sub64"], named := ["math/bits.divideError", "math/bits.overflowError"], apart := false, narrowed := true }
def BitsBinadesUptoSaid : Prop := bitsBinadesUptoRow.holds Try.pinned (OpenSpec.upto bitsBinadesSpec)

/-- 'hairlinelaw03.DyadLogs', WHERE WHAT IT READS IS OF BULK AT MOST 1048576: true; the input reads as it did. -/
def dyadLogsUptoRow : OpenClaim := { program := "ytnkembnachhicaa", sum := "d0154ee59df6585b03a24f5360e0ccfcff470a582173245fbcc71f117da5b12f", func := "hairline/hairlinelaw03.DyadLogs", spec := "dyadLogs", inPlace := ["math/bits.Add64", "math/bits.Sub64"], named := ["math/bits.divideError", "math/bits.overflowError"], apart := false, narrowed := true }
def DyadLogsUptoSaid : Prop := dyadLogsUptoRow.holds Try.pinned (OpenSpec.upto dyadLogsSpec)

/-- 'hairlinelaw03.DyadRing', WHERE WHAT IT READS IS OF BULK AT MOST 1048576: true; the input reads as it did. -/
def dyadRingUptoRow : OpenClaim := { program := "ytnkembnachhicaa", sum := "d0154ee59df6585b03a24f5360e0ccfcff470a582173245fbcc71f117da5b12f", func := "hairline/hairlinelaw03.DyadRing", spec := "dyadRing", inPlace := ["math/bits.Add64", "math/bits.Sub64"], named := ["math/bits.divideError", "math/bits.overflowError"], apart := false, narrowed := true }
def DyadRingUptoSaid : Prop := dyadRingUptoRow.holds Try.pinned (OpenSpec.upto dyadRingSpec)

/-- 'hairlinelaw04.BitsOrder', WHERE WHAT IT READS IS OF BULK AT MOST 1048576: true; the input reads as it did. -/
def bitsOrderUptoRow : OpenClaim := { program := "ytnkembnachhicaa", sum := "d0154ee59df6585b03a24f5360e0ccfcff470a582173245fbcc71f117da5b12f", func := "hairline/hairlinelaw04.BitsOrder", spec := "bitsOrder", inPlace := ["math/bits.Add64", "math/bits.Sub64"], named := ["math/bits.divideError", "math/bits.overflowError"], apart := false, narrowed := true }
def BitsOrderUptoSaid : Prop := bitsOrderUptoRow.holds Try.pinned (OpenSpec.upto bitsOrderSpec)

end Rows
end Go.Proofs.Ytnkembnachhicaa
