/-
  No cell of these rows narrows 'for every input' (looked for: loops, veiled, ifaces, maps, wideKeys, modest, calm, conditions, laid).
  DERIVED. THE GIVEN ROWS OF THIS SEAT. 5 by the template 'for every input the law returns true; each argument reads behind the call as it read before'; 0 by the template 'total and deterministic' (their statements: YtcjklbakhlehhaaGreatTotals.lean).
  GIVEN WITH THE SEED: the statements are not yours to turn. If you find one false, say at which input.
  Laid BY PROGRAM, IN A SANDBOX (cutbox-rows.mjs): the forced cells as the released guide's own fill.sh prints them over the translation b88f772e5eaf2cd0… (all of the seat's roots in one cut). By AI agents, Wed Nov 11 2026. No macro, syntax, notation, axiom, sorry.
-/
import Derived.Test.YtcjklbakhlehhaaGreatChecked
import GoSem.Claim
import GoSem.ClaimJoined
import GoSem.ClaimMapViews
import Derived.JoinedTies
import Derived.KernelRfl
namespace Go.Proofs.YtcjklbakhlehhaaGreat
/- THE CELL 'sum', in the pinned program and in every row, IS THE sha256 OF THE DUMP (.gsa) THAT YtcjklbakhlehhaaGreatProg.lean LOADS. Nothing in Lean hashes anything: it is a label: what it is worth is what the hold of that sum in a sandbox is worth. -/
noncomputable def Tryz.pinned : Pinned := { name := "ytcjklbakhlehhaagreat", sum := "b88f772e5eaf2cd041adca3b1f835cdf0f69faf53d7422ff1f81e181dc4b5b00", checked := Tryz.checked }
namespace Rows
def none {H : Type} : Left H := { results := [], args := [] }

/-- 'hairlinelaw08.ElemBack': WHATEVER THE INPUT: true; the input reads as it did. -/
def elemBackSpec : ChangeSpec := { name := "elemBack", fn := fun _ => fun
  | [d1, d2] => { results := [.lit (.bool true)], args := [d1, d2] }
  | _ => none }
def elemBackRow : OpenClaim := { program := "ytcjklbakhlehhaagreat", sum := "b88f772e5eaf2cd041adca3b1f835cdf0f69faf53d7422ff1f81e181dc4b5b00", func := "hairline/hairlinelaw08.ElemBack", spec := "elemBack", inPlace := ["math/bits.Add64", "math/bits.Sub64"], unfollowed := true, recurses := true, named := ["math/bits.divideError", "math/bits.overflowError"], apart := false }
def ElemBackSaid : Prop := elemBackRow.holds Tryz.pinned (OpenSpec.ofChange elemBackSpec)

/-- ITS FALSE NEIGHBOUR: 'it returns false'. Refute it at one input. -/
def elemBackWrong : ChangeSpec := { name := "elemBack", fn := fun _ => fun
  | [d1, d2] => { results := [.lit (.bool false)], args := [d1, d2] }
  | _ => none }
def ElemBackWrongFalsely : Prop := elemBackRow.holds Tryz.pinned (OpenSpec.ofChange elemBackWrong)

/-- 'hairlinelaw08.ElemMeets': WHATEVER THE INPUT: true; the input reads as it did. -/
def elemMeetsSpec : ChangeSpec := { name := "elemMeets", fn := fun _ => fun
  | [d1, d2, d3, d4] => { results := [.lit (.bool true)], args := [d1, d2, d3, d4] }
  | _ => none }
def elemMeetsRow : OpenClaim := { program := "ytcjklbakhlehhaagreat", sum := "b88f772e5eaf2cd041adca3b1f835cdf0f69faf53d7422ff1f81e181dc4b5b00", func := "hairline/hairlinelaw08.ElemMeets", spec := "elemMeets", inPlace := ["math/bits.Add64", "math/bits.Sub64"], unfollowed := true, recurses := true, named := ["math/bits.divideError", "math/bits.overflowError"], apart := false }
def ElemMeetsSaid : Prop := elemMeetsRow.holds Tryz.pinned (OpenSpec.ofChange elemMeetsSpec)

/-- ITS FALSE NEIGHBOUR: 'it returns false'. Refute it at one input. -/
def elemMeetsWrong : ChangeSpec := { name := "elemMeets", fn := fun _ => fun
  | [d1, d2, d3, d4] => { results := [.lit (.bool false)], args := [d1, d2, d3, d4] }
  | _ => none }
def ElemMeetsWrongFalsely : Prop := elemMeetsRow.holds Tryz.pinned (OpenSpec.ofChange elemMeetsWrong)

/-- 'hairlinelaw08.ElemCircle': WHATEVER THE INPUT: true; the input reads as it did. -/
def elemCircleSpec : ChangeSpec := { name := "elemCircle", fn := fun _ => fun
  | [d1, d2] => { results := [.lit (.bool true)], args := [d1, d2] }
  | _ => none }
def elemCircleRow : OpenClaim := { program := "ytcjklbakhlehhaagreat", sum := "b88f772e5eaf2cd041adca3b1f835cdf0f69faf53d7422ff1f81e181dc4b5b00", func := "hairline/hairlinelaw08.ElemCircle", spec := "elemCircle", inPlace := ["math/bits.Add64", "math/bits.Sub64"], unfollowed := true, recurses := true, named := ["math/bits.divideError", "math/bits.overflowError"], apart := false }
def ElemCircleSaid : Prop := elemCircleRow.holds Tryz.pinned (OpenSpec.ofChange elemCircleSpec)

/-- ITS FALSE NEIGHBOUR: 'it returns false'. Refute it at one input. -/
def elemCircleWrong : ChangeSpec := { name := "elemCircle", fn := fun _ => fun
  | [d1, d2] => { results := [.lit (.bool false)], args := [d1, d2] }
  | _ => none }
def ElemCircleWrongFalsely : Prop := elemCircleRow.holds Tryz.pinned (OpenSpec.ofChange elemCircleWrong)

/-- 'hairlinelaw08.ElemAdds': WHATEVER THE INPUT: true; the input reads as it did. -/
def elemAddsSpec : ChangeSpec := { name := "elemAdds", fn := fun _ => fun
  | [d1, d2, d3, d4] => { results := [.lit (.bool true)], args := [d1, d2, d3, d4] }
  | _ => none }
def elemAddsRow : OpenClaim := { program := "ytcjklbakhlehhaagreat", sum := "b88f772e5eaf2cd041adca3b1f835cdf0f69faf53d7422ff1f81e181dc4b5b00", func := "hairline/hairlinelaw08.ElemAdds", spec := "elemAdds", inPlace := ["math/bits.Add64", "math/bits.Sub64"], unfollowed := true, recurses := true, named := ["math/bits.divideError", "math/bits.overflowError"], apart := false }
def ElemAddsSaid : Prop := elemAddsRow.holds Tryz.pinned (OpenSpec.ofChange elemAddsSpec)

/-- ITS FALSE NEIGHBOUR: 'it returns false'. Refute it at one input. -/
def elemAddsWrong : ChangeSpec := { name := "elemAdds", fn := fun _ => fun
  | [d1, d2, d3, d4] => { results := [.lit (.bool false)], args := [d1, d2, d3, d4] }
  | _ => none }
def ElemAddsWrongFalsely : Prop := elemAddsRow.holds Tryz.pinned (OpenSpec.ofChange elemAddsWrong)

/-- 'hairlinelaw08.ElemLogs': WHATEVER THE INPUT: true; the input reads as it did. -/
def elemLogsSpec : ChangeSpec := { name := "elemLogs", fn := fun _ => fun
  | [d1, d2, d3, d4] => { results := [.lit (.bool true)], args := [d1, d2, d3, d4] }
  | _ => none }
def elemLogsRow : OpenClaim := { program := "ytcjklbakhlehhaagreat", sum := "b88f772e5eaf2cd041adca3b1f835cdf0f69faf53d7422ff1f81e181dc4b5b00", func := "hairline/hairlinelaw08.ElemLogs", spec := "elemLogs", inPlace := ["math/bits.Add64", "math/bits.Sub64"], unfollowed := true, recurses := true, named := ["math/bits.divideError", "math/bits.overflowError"], apart := false }
def ElemLogsSaid : Prop := elemLogsRow.holds Tryz.pinned (OpenSpec.ofChange elemLogsSpec)

/-- ITS FALSE NEIGHBOUR: 'it returns false'. Refute it at one input. -/
def elemLogsWrong : ChangeSpec := { name := "elemLogs", fn := fun _ => fun
  | [d1, d2, d3, d4] => { results := [.lit (.bool false)], args := [d1, d2, d3, d4] }
  | _ => none }
def ElemLogsWrongFalsely : Prop := elemLogsRow.holds Tryz.pinned (OpenSpec.ofChange elemLogsWrong)

/- THE SECOND FORM. 'bulk': how many values and letters a reading holds, each counted each time it is reached (what is shared counts as often as it is met; a slice's spare places count too). A statement '..UptoSaid' is the law's where the arguments, and the package variables that the reading takes, are together of bulk at most 1048576: NARROWER than '..Said'. Prove '..Said' where nothing that the law and all that it calls make is longer than what came in: it says more and counts as full. Else prove '..UptoSaid'. A law counts once. -/
mutual
def uptoBulk {H : Type} : DataW H → Nat
  | .lit (.string bytes) => bytes.length + 1
  | .lit _ => 1
  | .nil => 1
  | .ptr d => uptoBulk d + 1
  | .slice elems spare => uptoBulkAll elems + uptoBulkAll spare + 1
  | .agg parts => uptoBulkAll parts + 1
  | .iface _ d => uptoBulk d + 1
  | .map entries => uptoBulkEntries entries + 1
  | .held _ => 1
def uptoBulkAll {H : Type} : List (DataW H) → Nat
  | [] => 0
  | d :: r => uptoBulk d + uptoBulkAll r
def uptoBulkEntries {H : Type} : List (Lit × DataW H) → Nat
  | [] => 0
  | x :: r => uptoBulkEntry x + uptoBulkEntries r
def uptoBulkEntry {H : Type} : Lit × DataW H → Nat
  | (.string bytes, d) => bytes.length + uptoBulk d + 1
  | (_, d) => uptoBulk d + 1
 end
def uptoSmall : (H : Type) → List (DataW H) → Bool := fun _ ds => decide (uptoBulkAll ds ≤ 1048576)
def OpenSpec.upto (s : _root_.Go.ChangeSpec) : _root_.Go.OpenSpec := { _root_.Go.OpenSpec.ofChange s with cond := some uptoSmall }

/-- 'hairlinelaw08.ElemBack', WHERE WHAT IT READS IS OF BULK AT MOST 1048576: true; the input reads as it did. -/
def elemBackUptoRow : OpenClaim := { program := "ytcjklbakhlehhaagreat", sum := "b88f772e5eaf2cd041adca3b1f835cdf0f69faf53d7422ff1f81e181dc4b5b00", func := "hairline/hairlinelaw08.ElemBack", spec := "elemBack", inPlace := ["math/bits.Add64", "math/bits.Sub64"], unfollowed := true, recurses := true, named := ["math/bits.divideError", "math/bits.overflowError"], apart := false, narrowed := true }
def ElemBackUptoSaid : Prop := elemBackUptoRow.holds Tryz.pinned (OpenSpec.upto elemBackSpec)

/-- 'hairlinelaw08.ElemMeets', WHERE WHAT IT READS IS OF BULK AT MOST 1048576: true; the input reads as it did. -/
def elemMeetsUptoRow : OpenClaim := { program := "ytcjklbakhlehhaagreat", sum := "b88f772e5eaf2cd041adca3b1f835cdf0f69faf53d7422ff1f81e181dc4b5b00", func := "hairline/hairlinelaw08.ElemMeets", spec := "elemMeets", inPlace := ["math/bits.Add64", "math/bits.Sub64"], unfollowed := true, recurses := true, named := ["math/bits.divideError", "math/bits.overflowError"], apart := false, narrowed := true }
def ElemMeetsUptoSaid : Prop := elemMeetsUptoRow.holds Tryz.pinned (OpenSpec.upto elemMeetsSpec)

/-- 'hairlinelaw08.ElemCircle', WHERE WHAT IT READS IS OF BULK AT MOST 1048576: true; the input reads as it did. -/
def elemCircleUptoRow : OpenClaim := { program := "ytcjklbakhlehhaagreat", sum := "b88f772e5eaf2cd041adca3b1f835cdf0f69faf53d7422ff1f81e181dc4b5b00", func := "hairline/hairlinelaw08.ElemCircle", spec := "elemCircle", inPlace := ["math/bits.Add64", "math/bits.Sub64"], unfollowed := true, recurses := true, named := ["math/bits.divideError", "math/bits.overflowError"], apart := false, narrowed := true }
def ElemCircleUptoSaid : Prop := elemCircleUptoRow.holds Tryz.pinned (OpenSpec.upto elemCircleSpec)

/-- 'hairlinelaw08.ElemAdds', WHERE WHAT IT READS IS OF BULK AT MOST 1048576: true; the input reads as it did. -/
def elemAddsUptoRow : OpenClaim := { program := "ytcjklbakhlehhaagreat", sum := "b88f772e5eaf2cd041adca3b1f835cdf0f69faf53d7422ff1f81e181dc4b5b00", func := "hairline/hairlinelaw08.ElemAdds", spec := "elemAdds", inPlace := ["math/bits.Add64", "math/bits.Sub64"], unfollowed := true, recurses := true, named := ["math/bits.divideError", "math/bits.overflowError"], apart := false, narrowed := true }
def ElemAddsUptoSaid : Prop := elemAddsUptoRow.holds Tryz.pinned (OpenSpec.upto elemAddsSpec)

/-- 'hairlinelaw08.ElemLogs', WHERE WHAT IT READS IS OF BULK AT MOST 1048576: true; the input reads as it did. -/
def elemLogsUptoRow : OpenClaim := { program := "ytcjklbakhlehhaagreat", sum := "b88f772e5eaf2cd041adca3b1f835cdf0f69faf53d7422ff1f81e181dc4b5b00", func := "hairline/hairlinelaw08.ElemLogs", spec := "elemLogs", inPlace := ["math/bits.Add64", "math/bits.Sub64"], unfollowed := true, recurses := true, named := ["math/bits.divideError", "math/bits.overflowError"], apart := false, narrowed := true }
def ElemLogsUptoSaid : Prop := elemLogsUptoRow.holds Tryz.pinned (OpenSpec.upto elemLogsSpec)

end Rows
end Go.Proofs.YtcjklbakhlehhaaGreat
