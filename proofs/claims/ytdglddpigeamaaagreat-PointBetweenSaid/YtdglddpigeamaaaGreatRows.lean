/-
  No cell of these rows narrows 'for every input' (looked for: loops, veiled, ifaces, maps, wideKeys, modest, calm, conditions, laid).
  DERIVED. THE GIVEN ROWS OF THIS SEAT. 8 by the template 'for every input the law returns true; each argument reads behind the call as it read before'; 0 by the template 'total and deterministic' (their statements: YtdglddpigeamaaaGreatTotals.lean).
  GIVEN WITH THE SEED: the statements are not yours to turn. If you find one false, say at which input.
  Laid BY PROGRAM, IN A SANDBOX (cutbox-rows.mjs): the forced cells as the released guide's own fill.sh prints them over the translation 31f496355913c7b5… (all of the seat's roots in one cut). By AI agents, Wed Nov 11 2026. No macro, syntax, notation, axiom, sorry.
-/
import Derived.Test.YtdglddpigeamaaaGreatChecked
import GoSem.Claim
import GoSem.ClaimJoined
import GoSem.ClaimMapViews
import Derived.JoinedTies
import Derived.KernelRfl
namespace Go.Proofs.YtdglddpigeamaaaGreat
/- THE CELL 'sum', in the pinned program and in every row, IS THE sha256 OF THE DUMP (.gsa) THAT YtdglddpigeamaaaGreatProg.lean LOADS. Nothing in Lean hashes anything: it is a label: what it is worth is what the hold of that sum in a sandbox is worth. -/
noncomputable def Tryz.pinned : Pinned := { name := "ytdglddpigeamaaagreat", sum := "31f496355913c7b52aa1e73d351fad320bba1c7b19f66ba766d25ec1a9cb83e8", checked := Tryz.checked }
namespace Rows
def none {H : Type} : Left H := { results := [], args := [] }

/-- 'hairlinelaw09.PointGaps': WHATEVER THE INPUT: true; the input reads as it did. -/
def pointGapsSpec : ChangeSpec := { name := "pointGaps", fn := fun _ => fun
  | [d1, d2] => { results := [.lit (.bool true)], args := [d1, d2] }
  | _ => none }
def pointGapsRow : OpenClaim := { program := "ytdglddpigeamaaagreat", sum := "31f496355913c7b52aa1e73d351fad320bba1c7b19f66ba766d25ec1a9cb83e8", func := "hairline/hairlinelaw09.PointGaps", spec := "pointGaps", inPlace := ["math/bits.Add64", "math/bits.Sub64"], unfollowed := true, recurses := true, named := ["math/bits.divideError", "math/bits.overflowError"], apart := false }
def PointGapsSaid : Prop := pointGapsRow.holds Tryz.pinned (OpenSpec.ofChange pointGapsSpec)

/-- ITS FALSE NEIGHBOUR: 'it returns false'. Refute it at one input. -/
def pointGapsWrong : ChangeSpec := { name := "pointGaps", fn := fun _ => fun
  | [d1, d2] => { results := [.lit (.bool false)], args := [d1, d2] }
  | _ => none }
def PointGapsWrongFalsely : Prop := pointGapsRow.holds Tryz.pinned (OpenSpec.ofChange pointGapsWrong)

/-- 'hairlinelaw09.PointLooks': WHATEVER THE INPUT: true; the input reads as it did. -/
def pointLooksSpec : ChangeSpec := { name := "pointLooks", fn := fun _ => fun
  | [d1, d2, d3] => { results := [.lit (.bool true)], args := [d1, d2, d3] }
  | _ => none }
def pointLooksRow : OpenClaim := { program := "ytdglddpigeamaaagreat", sum := "31f496355913c7b52aa1e73d351fad320bba1c7b19f66ba766d25ec1a9cb83e8", func := "hairline/hairlinelaw09.PointLooks", spec := "pointLooks", inPlace := ["math/bits.Add64", "math/bits.Sub64"], unfollowed := true, recurses := true, named := ["math/bits.divideError", "math/bits.overflowError"], apart := false }
def PointLooksSaid : Prop := pointLooksRow.holds Tryz.pinned (OpenSpec.ofChange pointLooksSpec)

/-- ITS FALSE NEIGHBOUR: 'it returns false'. Refute it at one input. -/
def pointLooksWrong : ChangeSpec := { name := "pointLooks", fn := fun _ => fun
  | [d1, d2, d3] => { results := [.lit (.bool false)], args := [d1, d2, d3] }
  | _ => none }
def PointLooksWrongFalsely : Prop := pointLooksRow.holds Tryz.pinned (OpenSpec.ofChange pointLooksWrong)

/-- 'hairlinelaw09.PointBetween': WHATEVER THE INPUT: true; the input reads as it did. -/
def pointBetweenSpec : ChangeSpec := { name := "pointBetween", fn := fun _ => fun
  | [d1, d2, d3] => { results := [.lit (.bool true)], args := [d1, d2, d3] }
  | _ => none }
def pointBetweenRow : OpenClaim := { program := "ytdglddpigeamaaagreat", sum := "31f496355913c7b52aa1e73d351fad320bba1c7b19f66ba766d25ec1a9cb83e8", func := "hairline/hairlinelaw09.PointBetween", spec := "pointBetween", inPlace := ["math/bits.Add64", "math/bits.Sub64"], unfollowed := true, recurses := true, named := ["math/bits.divideError", "math/bits.overflowError"], apart := false }
def PointBetweenSaid : Prop := pointBetweenRow.holds Tryz.pinned (OpenSpec.ofChange pointBetweenSpec)

/-- ITS FALSE NEIGHBOUR: 'it returns false'. Refute it at one input. -/
def pointBetweenWrong : ChangeSpec := { name := "pointBetween", fn := fun _ => fun
  | [d1, d2, d3] => { results := [.lit (.bool false)], args := [d1, d2, d3] }
  | _ => none }
def PointBetweenWrongFalsely : Prop := pointBetweenRow.holds Tryz.pinned (OpenSpec.ofChange pointBetweenWrong)

/-- 'hairlinelaw09.PointFiner': WHATEVER THE INPUT: true; the input reads as it did. -/
def pointFinerSpec : ChangeSpec := { name := "pointFiner", fn := fun _ => fun
  | [d1, d2, d3, d4] => { results := [.lit (.bool true)], args := [d1, d2, d3, d4] }
  | _ => none }
def pointFinerRow : OpenClaim := { program := "ytdglddpigeamaaagreat", sum := "31f496355913c7b52aa1e73d351fad320bba1c7b19f66ba766d25ec1a9cb83e8", func := "hairline/hairlinelaw09.PointFiner", spec := "pointFiner", inPlace := ["math/bits.Add64", "math/bits.Sub64"], unfollowed := true, recurses := true, named := ["math/bits.divideError", "math/bits.overflowError"], apart := false }
def PointFinerSaid : Prop := pointFinerRow.holds Tryz.pinned (OpenSpec.ofChange pointFinerSpec)

/-- ITS FALSE NEIGHBOUR: 'it returns false'. Refute it at one input. -/
def pointFinerWrong : ChangeSpec := { name := "pointFiner", fn := fun _ => fun
  | [d1, d2, d3, d4] => { results := [.lit (.bool false)], args := [d1, d2, d3, d4] }
  | _ => none }
def PointFinerWrongFalsely : Prop := pointFinerRow.holds Tryz.pinned (OpenSpec.ofChange pointFinerWrong)

/-- 'hairlinelaw09.PointExact': WHATEVER THE INPUT: true; the input reads as it did. -/
def pointExactSpec : ChangeSpec := { name := "pointExact", fn := fun _ => fun
  | [d1, d2] => { results := [.lit (.bool true)], args := [d1, d2] }
  | _ => none }
def pointExactRow : OpenClaim := { program := "ytdglddpigeamaaagreat", sum := "31f496355913c7b52aa1e73d351fad320bba1c7b19f66ba766d25ec1a9cb83e8", func := "hairline/hairlinelaw09.PointExact", spec := "pointExact", inPlace := ["math/bits.Add64", "math/bits.Sub64"], unfollowed := true, recurses := true, named := ["math/bits.divideError", "math/bits.overflowError"], apart := false }
def PointExactSaid : Prop := pointExactRow.holds Tryz.pinned (OpenSpec.ofChange pointExactSpec)

/-- ITS FALSE NEIGHBOUR: 'it returns false'. Refute it at one input. -/
def pointExactWrong : ChangeSpec := { name := "pointExact", fn := fun _ => fun
  | [d1, d2] => { results := [.lit (.bool false)], args := [d1, d2] }
  | _ => none }
def PointExactWrongFalsely : Prop := pointExactRow.holds Tryz.pinned (OpenSpec.ofChange pointExactWrong)

/-- 'hairlinelaw18.JobParts': WHATEVER THE INPUT: true; the input reads as it did. -/
def jobPartsSpec : ChangeSpec := { name := "jobParts", fn := fun _ => fun
  | [d1, d2, d3] => { results := [.lit (.bool true)], args := [d1, d2, d3] }
  | _ => none }
def jobPartsRow : OpenClaim := { program := "ytdglddpigeamaaagreat", sum := "31f496355913c7b52aa1e73d351fad320bba1c7b19f66ba766d25ec1a9cb83e8", func := "hairline/hairlinelaw18.JobParts", spec := "jobParts", inPlace := ["math/bits.Add64", "math/bits.Sub64"], unfollowed := true, recurses := true, named := ["math/bits.divideError", "math/bits.overflowError"], apart := false }
def JobPartsSaid : Prop := jobPartsRow.holds Tryz.pinned (OpenSpec.ofChange jobPartsSpec)

/-- ITS FALSE NEIGHBOUR: 'it returns false'. Refute it at one input. -/
def jobPartsWrong : ChangeSpec := { name := "jobParts", fn := fun _ => fun
  | [d1, d2, d3] => { results := [.lit (.bool false)], args := [d1, d2, d3] }
  | _ => none }
def JobPartsWrongFalsely : Prop := jobPartsRow.holds Tryz.pinned (OpenSpec.ofChange jobPartsWrong)

/-- 'hairlinelaw18.JobInside': WHATEVER THE INPUT: true; the input reads as it did. -/
def jobInsideSpec : ChangeSpec := { name := "jobInside", fn := fun _ => fun
  | [d1, d2] => { results := [.lit (.bool true)], args := [d1, d2] }
  | _ => none }
def jobInsideRow : OpenClaim := { program := "ytdglddpigeamaaagreat", sum := "31f496355913c7b52aa1e73d351fad320bba1c7b19f66ba766d25ec1a9cb83e8", func := "hairline/hairlinelaw18.JobInside", spec := "jobInside", inPlace := ["math/bits.Add64", "math/bits.Sub64"], unfollowed := true, recurses := true, named := ["math/bits.divideError", "math/bits.overflowError"], apart := false }
def JobInsideSaid : Prop := jobInsideRow.holds Tryz.pinned (OpenSpec.ofChange jobInsideSpec)

/-- ITS FALSE NEIGHBOUR: 'it returns false'. Refute it at one input. -/
def jobInsideWrong : ChangeSpec := { name := "jobInside", fn := fun _ => fun
  | [d1, d2] => { results := [.lit (.bool false)], args := [d1, d2] }
  | _ => none }
def JobInsideWrongFalsely : Prop := jobInsideRow.holds Tryz.pinned (OpenSpec.ofChange jobInsideWrong)

/-- 'hairlinelaw18.JobReads': WHATEVER THE INPUT: true; the input reads as it did. -/
def jobReadsSpec : ChangeSpec := { name := "jobReads", fn := fun _ => fun
  | [d] => { results := [.lit (.bool true)], args := [d] }
  | _ => none }
def jobReadsRow : OpenClaim := { program := "ytdglddpigeamaaagreat", sum := "31f496355913c7b52aa1e73d351fad320bba1c7b19f66ba766d25ec1a9cb83e8", func := "hairline/hairlinelaw18.JobReads", spec := "jobReads", inPlace := ["math/bits.Add64", "math/bits.Sub64"], unfollowed := true, recurses := true, named := ["math/bits.divideError", "math/bits.overflowError"], apart := false }
def JobReadsSaid : Prop := jobReadsRow.holds Tryz.pinned (OpenSpec.ofChange jobReadsSpec)

/-- ITS FALSE NEIGHBOUR: 'it returns false'. Refute it at one input. -/
def jobReadsWrong : ChangeSpec := { name := "jobReads", fn := fun _ => fun
  | [d] => { results := [.lit (.bool false)], args := [d] }
  | _ => none }
def JobReadsWrongFalsely : Prop := jobReadsRow.holds Tryz.pinned (OpenSpec.ofChange jobReadsWrong)

/- THE SECOND FORM. 'bulk': how many values and letters a reading holds, each counted each time it is reached (what is shared counts as often as it is met; a slice's spare places count too). A statement '..UptoSaid' is the law's where the arguments, and the package variables that the reading takes, are together of bulk at most 1048576: NARROWER than '..Said'. Prove '..Said' where nothing that the law and all that it calls make is longer than what came in: it says more and counts as full. Else prove '..UptoSaid'. A law counts once. -/
mutual
def uptoBulk {H : Type} : DataW H → Nat
  | .lit (.string bytes) => bytes.length + 1
  | .lit _ => 1
  | .nil => 1
  | .ptr d => uptoBulk d + 1
  | .slice elems spare => uptoBulkAll elems + uptoBulkAll spare + 1
  | .agg parts => uptoBulkAll parts + 1
  | .iface _ d => uptoBulk d + 1
  | .map entries => uptoBulkEntries entries + 1
  | .held _ => 1
def uptoBulkAll {H : Type} : List (DataW H) → Nat
  | [] => 0
  | d :: r => uptoBulk d + uptoBulkAll r
def uptoBulkEntries {H : Type} : List (Lit × DataW H) → Nat
  | [] => 0
  | x :: r => uptoBulkEntry x + uptoBulkEntries r
def uptoBulkEntry {H : Type} : Lit × DataW H → Nat
  | (.string bytes, d) => bytes.length + uptoBulk d + 1
  | (_, d) => uptoBulk d + 1
 end
def uptoSmall : (H : Type) → List (DataW H) → Bool := fun _ ds => decide (uptoBulkAll ds ≤ 1048576)
def OpenSpec.upto (s : _root_.Go.ChangeSpec) : _root_.Go.OpenSpec := { _root_.Go.OpenSpec.ofChange s with cond := some uptoSmall }

/-- 'hairlinelaw09.PointGaps', WHERE WHAT IT READS IS OF BULK AT MOST 1048576: true; the input reads as it did. -/
def pointGapsUptoRow : OpenClaim := { program := "ytdglddpigeamaaagreat", sum := "31f496355913c7b52aa1e73d351fad320bba1c7b19f66ba766d25ec1a9cb83e8", func := "hairline/hairlinelaw09.PointGaps", spec := "pointGaps", inPlace := ["math/bits.Add64", "math/bits.Sub64"], unfollowed := true, recurses := true, named := ["math/bits.divideError", "math/bits.overflowError"], apart := false, narrowed := true }
def PointGapsUptoSaid : Prop := pointGapsUptoRow.holds Tryz.pinned (OpenSpec.upto pointGapsSpec)

/-- 'hairlinelaw09.PointLooks', WHERE WHAT IT READS IS OF BULK AT MOST 1048576: true; the input reads as it did. -/
def pointLooksUptoRow : OpenClaim := { program := "ytdglddpigeamaaagreat", sum := "31f496355913c7b52aa1e73d351fad320bba1c7b19f66ba766d25ec1a9cb83e8", func := "hairline/hairlinelaw09.PointLooks", spec := "pointLooks", inPlace := ["math/bits.Add64", "math/bits.Sub64"], unfollowed := true, recurses := true, named := ["math/bits.divideError", "math/bits.overflowError"], apart := false, narrowed := true }
def PointLooksUptoSaid : Prop := pointLooksUptoRow.holds Tryz.pinned (OpenSpec.upto pointLooksSpec)

/-- 'hairlinelaw09.PointBetween', WHERE WHAT IT READS IS OF BULK AT MOST 1048576: true; the input reads as it did. -/
def pointBetweenUptoRow : OpenClaim := { program := "ytdglddpigeamaaagreat", sum := "31f496355913c7b52aa1e73d351fad320bba1c7b19f66ba766d25ec1a9cb83e8", func := "hairline/hairlinelaw09.PointBetween", spec := "pointBetween", inPlace := ["math/bits.Add64", "math/bits.Sub64"], unfollowed := true, recurses := true, named := ["math/bits.divideError", "math/bits.overflowError"], apart := false, narrowed := true }
def PointBetweenUptoSaid : Prop := pointBetweenUptoRow.holds Tryz.pinned (OpenSpec.upto pointBetweenSpec)

/-- 'hairlinelaw09.PointFiner', WHERE WHAT IT READS IS OF BULK AT MOST 1048576: true; the input reads as it did. -/
def pointFinerUptoRow : OpenClaim := { program := "ytdglddpigeamaaagreat", sum := "31f496355913c7b52aa1e73d351fad320bba1c7b19f66ba766d25ec1a9cb83e8", func := "hairline/hairlinelaw09.PointFiner", spec := "pointFiner", inPlace := ["math/bits.Add64", "math/bits.Sub64"], unfollowed := true, recurses := true, named := ["math/bits.divideError", "math/bits.overflowError"], apart := false, narrowed := true }
def PointFinerUptoSaid : Prop := pointFinerUptoRow.holds Tryz.pinned (OpenSpec.upto pointFinerSpec)

/-- 'hairlinelaw09.PointExact', WHERE WHAT IT READS IS OF BULK AT MOST 1048576: true; the input reads as it did. -/
def pointExactUptoRow : OpenClaim := { program := "ytdglddpigeamaaagreat", sum := "31f496355913c7b52aa1e73d351fad320bba1c7b19f66ba766d25ec1a9cb83e8", func := "hairline/hairlinelaw09.PointExact", spec := "pointExact", inPlace := ["math/bits.Add64", "math/bits.Sub64"], unfollowed := true, recurses := true, named := ["math/bits.divideError", "math/bits.overflowError"], apart := false, narrowed := true }
def PointExactUptoSaid : Prop := pointExactUptoRow.holds Tryz.pinned (OpenSpec.upto pointExactSpec)

/-- 'hairlinelaw18.JobParts', WHERE WHAT IT READS IS OF BULK AT MOST 1048576: true; the input reads as it did. -/
def jobPartsUptoRow : OpenClaim := { program := "ytdglddpigeamaaagreat", sum := "31f496355913c7b52aa1e73d351fad320bba1c7b19f66ba766d25ec1a9cb83e8", func := "hairline/hairlinelaw18.JobParts", spec := "jobParts", inPlace := ["math/bits.Add64", "math/bits.Sub64"], unfollowed := true, recurses := true, named := ["math/bits.divideError", "math/bits.overflowError"], apart := false, narrowed := true }
def JobPartsUptoSaid : Prop := jobPartsUptoRow.holds Tryz.pinned (OpenSpec.upto jobPartsSpec)

/-- 'hairlinelaw18.JobInside', WHERE WHAT IT READS IS OF BULK AT MOST 1048576: true; the input reads as it did. -/
def jobInsideUptoRow : OpenClaim := { program := "ytdglddpigeamaaagreat", sum := "31f496355913c7b52aa1e73d351fad320bba1c7b19f66ba766d25ec1a9cb83e8", func := "hairline/hairlinelaw18.JobInside", spec := "jobInside", inPlace := ["math/bits.Add64", "math/bits.Sub64"], unfollowed := true, recurses := true, named := ["math/bits.divideError", "math/bits.overflowError"], apart := false, narrowed := true }
def JobInsideUptoSaid : Prop := jobInsideUptoRow.holds Tryz.pinned (OpenSpec.upto jobInsideSpec)

/-- 'hairlinelaw18.JobReads', WHERE WHAT IT READS IS OF BULK AT MOST 1048576: true; the input reads as it did. -/
def jobReadsUptoRow : OpenClaim := { program := "ytdglddpigeamaaagreat", sum := "31f496355913c7b52aa1e73d351fad320bba1c7b19f66ba766d25ec1a9cb83e8", func := "hairline/hairlinelaw18.JobReads", spec := "jobReads", inPlace := ["math/bits.Add64", "math/bits.Sub64"], unfollowed := true, recurses := true, named := ["math/bits.divideError", "math/bits.overflowError"], apart := false, narrowed := true }
def JobReadsUptoSaid : Prop := jobReadsUptoRow.holds Tryz.pinned (OpenSpec.upto jobReadsSpec)

end Rows
end Go.Proofs.YtdglddpigeamaaaGreat
