/-
  No cell of these rows narrows 'for every input' (looked for: loops, veiled, ifaces, maps, wideKeys, modest, calm, conditions, laid).
  DERIVED. THE GIVEN ROWS OF THIS SEAT. 10 by the template 'for every input the law returns true; each argument reads behind the call as it read before'; 0 by the template 'total and deterministic' (their statements: YtllgjggkchgpbaaGreatTotals.lean).
  GIVEN WITH THE SEED: the statements are not yours to turn. If you find one false, say at which input.
  Laid BY PROGRAM, IN A SANDBOX (cutbox-rows.mjs): the forced cells as the released guide's own fill.sh prints them over the translation e73df2f15af92df2… (all of the seat's roots in one cut). By AI agents, Wed Nov 11 2026. No macro, syntax, notation, axiom, sorry.
-/
import Derived.Test.YtllgjggkchgpbaaGreatChecked
import GoSem.Claim
import GoSem.ClaimJoined
import GoSem.ClaimMapViews
import Derived.JoinedTies
import Derived.KernelRfl
namespace Go.Proofs.YtllgjggkchgpbaaGreat
/- THE CELL 'sum', in the pinned program and in every row, IS THE sha256 OF THE DUMP (.gsa) THAT YtllgjggkchgpbaaGreatProg.lean LOADS. Nothing in Lean hashes anything: it is a label: what it is worth is what the hold of that sum in a sandbox is worth. -/
noncomputable def Tryz.pinned : Pinned := { name := "ytllgjggkchgpbaagreat", sum := "e73df2f15af92df2ee537f1d2a75d6e41562c7b8f44d5fb77122225f7b08caec", checked := Tryz.checked }
namespace Rows
def none {H : Type} : Left H := { results := [], args := [] }

/-- 'hairlinelaw09.PointLooks': WHATEVER THE INPUT: true; the input reads as it did. -/
def pointLooksSpec : ChangeSpec := { name := "pointLooks", fn := fun _ => fun
  | [d1, d2, d3] => { results := [.lit (.bool true)], args := [d1, d2, d3] }
  | _ => none }
def pointLooksRow : OpenClaim := { program := "ytllgjggkchgpbaagreat", sum := "e73df2f15af92df2ee537f1d2a75d6e41562c7b8f44d5fb77122225f7b08caec", func := "hairline/hairlinelaw09.PointLooks", spec := "pointLooks", inPlace := ["math/bits.Add64", "math/bits.Sub64"], unfollowed := true, recurses := true, named := ["math/bits.divideError", "math/bits.overflowError"], apart := false }
def PointLooksSaid : Prop := pointLooksRow.holds Tryz.pinned (OpenSpec.ofChange pointLooksSpec)

/-- ITS FALSE NEIGHBOUR: 'it returns false'. Refute it at one input. -/
def pointLooksWrong : ChangeSpec := { name := "pointLooks", fn := fun _ => fun
  | [d1, d2, d3] => { results := [.lit (.bool false)], args := [d1, d2, d3] }
  | _ => none }
def PointLooksWrongFalsely : Prop := pointLooksRow.holds Tryz.pinned (OpenSpec.ofChange pointLooksWrong)

/-- 'hairlinelaw09.PointFiner': WHATEVER THE INPUT: true; the input reads as it did. -/
def pointFinerSpec : ChangeSpec := { name := "pointFiner", fn := fun _ => fun
  | [d1, d2, d3, d4] => { results := [.lit (.bool true)], args := [d1, d2, d3, d4] }
  | _ => none }
def pointFinerRow : OpenClaim := { program := "ytllgjggkchgpbaagreat", sum := "e73df2f15af92df2ee537f1d2a75d6e41562c7b8f44d5fb77122225f7b08caec", func := "hairline/hairlinelaw09.PointFiner", spec := "pointFiner", inPlace := ["math/bits.Add64", "math/bits.Sub64"], unfollowed := true, recurses := true, named := ["math/bits.divideError", "math/bits.overflowError"], apart := false }
def PointFinerSaid : Prop := pointFinerRow.holds Tryz.pinned (OpenSpec.ofChange pointFinerSpec)

/-- ITS FALSE NEIGHBOUR: 'it returns false'. Refute it at one input. -/
def pointFinerWrong : ChangeSpec := { name := "pointFiner", fn := fun _ => fun
  | [d1, d2, d3, d4] => { results := [.lit (.bool false)], args := [d1, d2, d3, d4] }
  | _ => none }
def PointFinerWrongFalsely : Prop := pointFinerRow.holds Tryz.pinned (OpenSpec.ofChange pointFinerWrong)

/-- 'hairlinelaw18.JobInside': WHATEVER THE INPUT: true; the input reads as it did. -/
def jobInsideSpec : ChangeSpec := { name := "jobInside", fn := fun _ => fun
  | [d1, d2] => { results := [.lit (.bool true)], args := [d1, d2] }
  | _ => none }
def jobInsideRow : OpenClaim := { program := "ytllgjggkchgpbaagreat", sum := "e73df2f15af92df2ee537f1d2a75d6e41562c7b8f44d5fb77122225f7b08caec", func := "hairline/hairlinelaw18.JobInside", spec := "jobInside", inPlace := ["math/bits.Add64", "math/bits.Sub64"], unfollowed := true, recurses := true, named := ["math/bits.divideError", "math/bits.overflowError"], apart := false }
def JobInsideSaid : Prop := jobInsideRow.holds Tryz.pinned (OpenSpec.ofChange jobInsideSpec)

/-- ITS FALSE NEIGHBOUR: 'it returns false'. Refute it at one input. -/
def jobInsideWrong : ChangeSpec := { name := "jobInside", fn := fun _ => fun
  | [d1, d2] => { results := [.lit (.bool false)], args := [d1, d2] }
  | _ => none }
def JobInsideWrongFalsely : Prop := jobInsideRow.holds Tryz.pinned (OpenSpec.ofChange jobInsideWrong)

/-- 'hairlinelaw16.ChordMakes': WHATEVER THE INPUT: true; the input reads as it did. -/
def chordMakesSpec : ChangeSpec := { name := "chordMakes", fn := fun _ => fun
  | [d1, d2, d3] => { results := [.lit (.bool true)], args := [d1, d2, d3] }
  | _ => none }
def chordMakesRow : OpenClaim := { program := "ytllgjggkchgpbaagreat", sum := "e73df2f15af92df2ee537f1d2a75d6e41562c7b8f44d5fb77122225f7b08caec", func := "hairline/hairlinelaw16.ChordMakes", spec := "chordMakes", inPlace := ["math/bits.Add64", "math/bits.Sub64"], unfollowed := true, recurses := true, named := ["math/bits.divideError", "math/bits.overflowError"], apart := false }
def ChordMakesSaid : Prop := chordMakesRow.holds Tryz.pinned (OpenSpec.ofChange chordMakesSpec)

/-- ITS FALSE NEIGHBOUR: 'it returns false'. Refute it at one input. -/
def chordMakesWrong : ChangeSpec := { name := "chordMakes", fn := fun _ => fun
  | [d1, d2, d3] => { results := [.lit (.bool false)], args := [d1, d2, d3] }
  | _ => none }
def ChordMakesWrongFalsely : Prop := chordMakesRow.holds Tryz.pinned (OpenSpec.ofChange chordMakesWrong)

/-- 'hairlinelaw16.ChordClears': WHATEVER THE INPUT: true; the input reads as it did. -/
def chordClearsSpec : ChangeSpec := { name := "chordClears", fn := fun _ => fun
  | [d1, d2, d3] => { results := [.lit (.bool true)], args := [d1, d2, d3] }
  | _ => none }
def chordClearsRow : OpenClaim := { program := "ytllgjggkchgpbaagreat", sum := "e73df2f15af92df2ee537f1d2a75d6e41562c7b8f44d5fb77122225f7b08caec", func := "hairline/hairlinelaw16.ChordClears", spec := "chordClears", inPlace := ["math/bits.Add64", "math/bits.Sub64"], unfollowed := true, recurses := true, named := ["math/bits.divideError", "math/bits.overflowError"], apart := false }
def ChordClearsSaid : Prop := chordClearsRow.holds Tryz.pinned (OpenSpec.ofChange chordClearsSpec)

/-- ITS FALSE NEIGHBOUR: 'it returns false'. Refute it at one input. -/
def chordClearsWrong : ChangeSpec := { name := "chordClears", fn := fun _ => fun
  | [d1, d2, d3] => { results := [.lit (.bool false)], args := [d1, d2, d3] }
  | _ => none }
def ChordClearsWrongFalsely : Prop := chordClearsRow.holds Tryz.pinned (OpenSpec.ofChange chordClearsWrong)

/-- 'hairlinelaw16.ChordNear': WHATEVER THE INPUT: true; the input reads as it did. -/
def chordNearSpec : ChangeSpec := { name := "chordNear", fn := fun _ => fun
  | [d1, d2, d3, d4] => { results := [.lit (.bool true)], args := [d1, d2, d3, d4] }
  | _ => none }
def chordNearRow : OpenClaim := { program := "ytllgjggkchgpbaagreat", sum := "e73df2f15af92df2ee537f1d2a75d6e41562c7b8f44d5fb77122225f7b08caec", func := "hairline/hairlinelaw16.ChordNear", spec := "chordNear", inPlace := ["math/bits.Add64", "math/bits.Sub64"], unfollowed := true, recurses := true, named := ["math/bits.divideError", "math/bits.overflowError"], apart := false }
def ChordNearSaid : Prop := chordNearRow.holds Tryz.pinned (OpenSpec.ofChange chordNearSpec)

/-- ITS FALSE NEIGHBOUR: 'it returns false'. Refute it at one input. -/
def chordNearWrong : ChangeSpec := { name := "chordNear", fn := fun _ => fun
  | [d1, d2, d3, d4] => { results := [.lit (.bool false)], args := [d1, d2, d3, d4] }
  | _ => none }
def ChordNearWrongFalsely : Prop := chordNearRow.holds Tryz.pinned (OpenSpec.ofChange chordNearWrong)

/-- 'hairlinelaw16.ChordTrue': WHATEVER THE INPUT: true; the input reads as it did. -/
def chordTrueSpec : ChangeSpec := { name := "chordTrue", fn := fun _ => fun
  | [d1, d2, d3, d4, d5] => { results := [.lit (.bool true)], args := [d1, d2, d3, d4, d5] }
  | _ => none }
def chordTrueRow : OpenClaim := { program := "ytllgjggkchgpbaagreat", sum := "e73df2f15af92df2ee537f1d2a75d6e41562c7b8f44d5fb77122225f7b08caec", func := "hairline/hairlinelaw16.ChordTrue", spec := "chordTrue", inPlace := ["math/bits.Add64", "math/bits.Sub64"], unfollowed := true, recurses := true, named := ["math/bits.divideError", "math/bits.overflowError"], apart := false }
def ChordTrueSaid : Prop := chordTrueRow.holds Tryz.pinned (OpenSpec.ofChange chordTrueSpec)

/-- ITS FALSE NEIGHBOUR: 'it returns false'. Refute it at one input. -/
def chordTrueWrong : ChangeSpec := { name := "chordTrue", fn := fun _ => fun
  | [d1, d2, d3, d4, d5] => { results := [.lit (.bool false)], args := [d1, d2, d3, d4, d5] }
  | _ => none }
def ChordTrueWrongFalsely : Prop := chordTrueRow.holds Tryz.pinned (OpenSpec.ofChange chordTrueWrong)

/-- 'hairlinelaw19.SearchFinds': WHATEVER THE INPUT: true; the input reads as it did. -/
def searchFindsSpec : ChangeSpec := { name := "searchFinds", fn := fun _ => fun
  | [d1, d2, d3, d4] => { results := [.lit (.bool true)], args := [d1, d2, d3, d4] }
  | _ => none }
def searchFindsRow : OpenClaim := { program := "ytllgjggkchgpbaagreat", sum := "e73df2f15af92df2ee537f1d2a75d6e41562c7b8f44d5fb77122225f7b08caec", func := "hairline/hairlinelaw19.SearchFinds", spec := "searchFinds", inPlace := ["math/bits.Add64", "math/bits.Sub64"], unfollowed := true, recurses := true, named := ["math/bits.divideError", "math/bits.overflowError"], apart := false }
def SearchFindsSaid : Prop := searchFindsRow.holds Tryz.pinned (OpenSpec.ofChange searchFindsSpec)

/-- ITS FALSE NEIGHBOUR: 'it returns false'. Refute it at one input. -/
def searchFindsWrong : ChangeSpec := { name := "searchFinds", fn := fun _ => fun
  | [d1, d2, d3, d4] => { results := [.lit (.bool false)], args := [d1, d2, d3, d4] }
  | _ => none }
def SearchFindsWrongFalsely : Prop := searchFindsRow.holds Tryz.pinned (OpenSpec.ofChange searchFindsWrong)

/-- 'hairlinelaw19.SearchJoins': WHATEVER THE INPUT: true; the input reads as it did. -/
def searchJoinsSpec : ChangeSpec := { name := "searchJoins", fn := fun _ => fun
  | [d1, d2, d3, d4, d5] => { results := [.lit (.bool true)], args := [d1, d2, d3, d4, d5] }
  | _ => none }
def searchJoinsRow : OpenClaim := { program := "ytllgjggkchgpbaagreat", sum := "e73df2f15af92df2ee537f1d2a75d6e41562c7b8f44d5fb77122225f7b08caec", func := "hairline/hairlinelaw19.SearchJoins", spec := "searchJoins", inPlace := ["math/bits.Add64", "math/bits.Sub64"], unfollowed := true, recurses := true, named := ["math/bits.divideError", "math/bits.overflowError"], apart := false }
def SearchJoinsSaid : Prop := searchJoinsRow.holds Tryz.pinned (OpenSpec.ofChange searchJoinsSpec)

/-- ITS FALSE NEIGHBOUR: 'it returns false'. Refute it at one input. -/
def searchJoinsWrong : ChangeSpec := { name := "searchJoins", fn := fun _ => fun
  | [d1, d2, d3, d4, d5] => { results := [.lit (.bool false)], args := [d1, d2, d3, d4, d5] }
  | _ => none }
def SearchJoinsWrongFalsely : Prop := searchJoinsRow.holds Tryz.pinned (OpenSpec.ofChange searchJoinsWrong)

/-- 'hairlinelaw19.SearchHolds': WHATEVER THE INPUT: true; the input reads as it did. -/
def searchHoldsSpec : ChangeSpec := { name := "searchHolds", fn := fun _ => fun
  | [d1, d2, d3, d4] => { results := [.lit (.bool true)], args := [d1, d2, d3, d4] }
  | _ => none }
def searchHoldsRow : OpenClaim := { program := "ytllgjggkchgpbaagreat", sum := "e73df2f15af92df2ee537f1d2a75d6e41562c7b8f44d5fb77122225f7b08caec", func := "hairline/hairlinelaw19.SearchHolds", spec := "searchHolds", inPlace := ["math/bits.Add64", "math/bits.Sub64"], unfollowed := true, recurses := true, named := ["math/bits.divideError", "math/bits.overflowError"], apart := false }
def SearchHoldsSaid : Prop := searchHoldsRow.holds Tryz.pinned (OpenSpec.ofChange searchHoldsSpec)

/-- ITS FALSE NEIGHBOUR: 'it returns false'. Refute it at one input. -/
def searchHoldsWrong : ChangeSpec := { name := "searchHolds", fn := fun _ => fun
  | [d1, d2, d3, d4] => { results := [.lit (.bool false)], args := [d1, d2, d3, d4] }
  | _ => none }
def SearchHoldsWrongFalsely : Prop := searchHoldsRow.holds Tryz.pinned (OpenSpec.ofChange searchHoldsWrong)

/- THE SECOND FORM. 'bulk': how many values and letters a reading holds, each counted each time it is reached (what is shared counts as often as it is met; a slice's spare places count too). A statement '..UptoSaid' is the law's where the arguments, and the package variables that the reading takes, are together of bulk at most 1048576: NARROWER than '..Said'. Prove '..Said' where nothing that the law and all that it calls make is longer than what came in: it says more and counts as full. Else prove '..UptoSaid'. A law counts once. -/
mutual
def uptoBulk {H : Type} : DataW H → Nat
  | .lit (.string bytes) => bytes.length + 1
  | .lit _ => 1
  | .nil => 1
  | .ptr d => uptoBulk d + 1
  | .slice elems spare => uptoBulkAll elems + uptoBulkAll spare + 1
  | .agg parts => uptoBulkAll parts + 1
  | .iface _ d => uptoBulk d + 1
  | .map entries => uptoBulkEntries entries + 1
  | .held _ => 1
def uptoBulkAll {H : Type} : List (DataW H) → Nat
  | [] => 0
  | d :: r => uptoBulk d + uptoBulkAll r
def uptoBulkEntries {H : Type} : List (Lit × DataW H) → Nat
  | [] => 0
  | x :: r => uptoBulkEntry x + uptoBulkEntries r
def uptoBulkEntry {H : Type} : Lit × DataW H → Nat
  | (.string bytes, d) => bytes.length + uptoBulk d + 1
  | (_, d) => uptoBulk d + 1
 end
def uptoSmall : (H : Type) → List (DataW H) → Bool := fun _ ds => decide (uptoBulkAll ds ≤ 1048576)
def OpenSpec.upto (s : _root_.Go.ChangeSpec) : _root_.Go.OpenSpec := { _root_.Go.OpenSpec.ofChange s with cond := some uptoSmall }

/-- 'hairlinelaw09.PointLooks', WHERE WHAT IT READS IS OF BULK AT MOST 1048576: true; the input reads as it did. -/
def pointLooksUptoRow : OpenClaim := { program := "ytllgjggkchgpbaagreat", sum := "e73df2f15af92df2ee537f1d2a75d6e41562c7b8f44d5fb77122225f7b08caec", func := "hairline/hairlinelaw09.PointLooks", spec := "pointLooks", inPlace := ["math/bits.Add64", "math/bits.Sub64"], unfollowed := true, recurses := true, named := ["math/bits.divideError", "math/bits.overflowError"], apart := false, narrowed := true }
def PointLooksUptoSaid : Prop := pointLooksUptoRow.holds Tryz.pinned (OpenSpec.upto pointLooksSpec)

/-- 'hairlinelaw09.PointFiner', WHERE WHAT IT READS IS OF BULK AT MOST 1048576: true; the input reads as it did. -/
def pointFinerUptoRow : OpenClaim := { program := "ytllgjggkchgpbaagreat", sum := "e73df2f15af92df2ee537f1d2a75d6e41562c7b8f44d5fb77122225f7b08caec", func := "hairline/hairlinelaw09.PointFiner", spec := "pointFiner", inPlace := ["math/bits.Add64", "math/bits.Sub64"], unfollowed := true, recurses := true, named := ["math/bits.divideError", "math/bits.overflowError"], apart := false, narrowed := true }
def PointFinerUptoSaid : Prop := pointFinerUptoRow.holds Tryz.pinned (OpenSpec.upto pointFinerSpec)

/-- 'hairlinelaw18.JobInside', WHERE WHAT IT READS IS OF BULK AT MOST 1048576: true; the input reads as it did. -/
def jobInsideUptoRow : OpenClaim := { program := "ytllgjggkchgpbaagreat", sum := "e73df2f15af92df2ee537f1d2a75d6e41562c7b8f44d5fb77122225f7b08caec", func := "hairline/hairlinelaw18.JobInside", spec := "jobInside", inPlace := ["math/bits.Add64", "math/bits.Sub64"], unfollowed := true, recurses := true, named := ["math/bits.divideError", "math/bits.overflowError"], apart := false, narrowed := true }
def JobInsideUptoSaid : Prop := jobInsideUptoRow.holds Tryz.pinned (OpenSpec.upto jobInsideSpec)

/-- 'hairlinelaw16.ChordMakes', WHERE WHAT IT READS IS OF BULK AT MOST 1048576: true; the input reads as it did. -/
def chordMakesUptoRow : OpenClaim := { program := "ytllgjggkchgpbaagreat", sum := "e73df2f15af92df2ee537f1d2a75d6e41562c7b8f44d5fb77122225f7b08caec", func := "hairline/hairlinelaw16.ChordMakes", spec := "chordMakes", inPlace := ["math/bits.Add64", "math/bits.Sub64"], unfollowed := true, recurses := true, named := ["math/bits.divideError", "math/bits.overflowError"], apart := false, narrowed := true }
def ChordMakesUptoSaid : Prop := chordMakesUptoRow.holds Tryz.pinned (OpenSpec.upto chordMakesSpec)

/-- 'hairlinelaw16.ChordClears', WHERE WHAT IT READS IS OF BULK AT MOST 1048576: true; the input reads as it did. -/
def chordClearsUptoRow : OpenClaim := { program := "ytllgjggkchgpbaagreat", sum := "e73df2f15af92df2ee537f1d2a75d6e41562c7b8f44d5fb77122225f7b08caec", func := "hairline/hairlinelaw16.ChordClears", spec := "chordClears", inPlace := ["math/bits.Add64", "math/bits.Sub64"], unfollowed := true, recurses := true, named := ["math/bits.divideError", "math/bits.overflowError"], apart := false, narrowed := true }
def ChordClearsUptoSaid : Prop := chordClearsUptoRow.holds Tryz.pinned (OpenSpec.upto chordClearsSpec)

/-- 'hairlinelaw16.ChordNear', WHERE WHAT IT READS IS OF BULK AT MOST 1048576: true; the input reads as it did. -/
def chordNearUptoRow : OpenClaim := { program := "ytllgjggkchgpbaagreat", sum := "e73df2f15af92df2ee537f1d2a75d6e41562c7b8f44d5fb77122225f7b08caec", func := "hairline/hairlinelaw16.ChordNear", spec := "chordNear", inPlace := ["math/bits.Add64", "math/bits.Sub64"], unfollowed := true, recurses := true, named := ["math/bits.divideError", "math/bits.overflowError"], apart := false, narrowed := true }
def ChordNearUptoSaid : Prop := chordNearUptoRow.holds Tryz.pinned (OpenSpec.upto chordNearSpec)

/-- 'hairlinelaw16.ChordTrue', WHERE WHAT IT READS IS OF BULK AT MOST 1048576: true; the input reads as it did. -/
def chordTrueUptoRow : OpenClaim := { program := "ytllgjggkchgpbaagreat", sum := "e73df2f15af92df2ee537f1d2a75d6e41562c7b8f44d5fb77122225f7b08caec", func := "hairline/hairlinelaw16.ChordTrue", spec := "chordTrue", inPlace := ["math/bits.Add64", "math/bits.Sub64"], unfollowed := true, recurses := true, named := ["math/bits.divideError", "math/bits.overflowError"], apart := false, narrowed := true }
def ChordTrueUptoSaid : Prop := chordTrueUptoRow.holds Tryz.pinned (OpenSpec.upto chordTrueSpec)

/-- 'hairlinelaw19.SearchFinds', WHERE WHAT IT READS IS OF BULK AT MOST 1048576: true; the input reads as it did. -/
def searchFindsUptoRow : OpenClaim := { program := "ytllgjggkchgpbaagreat", sum := "e73df2f15af92df2ee537f1d2a75d6e41562c7b8f44d5fb77122225f7b08caec", func := "hairline/hairlinelaw19.SearchFinds", spec := "searchFinds", inPlace := ["math/bits.Add64", "math/bits.Sub64"], unfollowed := true, recurses := true, named := ["math/bits.divideError", "math/bits.overflowError"], apart := false, narrowed := true }
def SearchFindsUptoSaid : Prop := searchFindsUptoRow.holds Tryz.pinned (OpenSpec.upto searchFindsSpec)

/-- 'hairlinelaw19.SearchJoins', WHERE WHAT IT READS IS OF BULK AT MOST 1048576: true; the input reads as it did. -/
def searchJoinsUptoRow : OpenClaim := { program := "ytllgjggkchgpbaagreat", sum := "e73df2f15af92df2ee537f1d2a75d6e41562c7b8f44d5fb77122225f7b08caec", func := "hairline/hairlinelaw19.SearchJoins", spec := "searchJoins", inPlace := ["math/bits.Add64", "math/bits.Sub64"], unfollowed := true, recurses := true, named := ["math/bits.divideError", "math/bits.overflowError"], apart := false, narrowed := true }
def SearchJoinsUptoSaid : Prop := searchJoinsUptoRow.holds Tryz.pinned (OpenSpec.upto searchJoinsSpec)

/-- 'hairlinelaw19.SearchHolds', WHERE WHAT IT READS IS OF BULK AT MOST 1048576: true; the input reads as it did. -/
def searchHoldsUptoRow : OpenClaim := { program := "ytllgjggkchgpbaagreat", sum := "e73df2f15af92df2ee537f1d2a75d6e41562c7b8f44d5fb77122225f7b08caec", func := "hairline/hairlinelaw19.SearchHolds", spec := "searchHolds", inPlace := ["math/bits.Add64", "math/bits.Sub64"], unfollowed := true, recurses := true, named := ["math/bits.divideError", "math/bits.overflowError"], apart := false, narrowed := true }
def SearchHoldsUptoSaid : Prop := searchHoldsUptoRow.holds Tryz.pinned (OpenSpec.upto searchHoldsSpec)

end Rows
end Go.Proofs.YtllgjggkchgpbaaGreat
