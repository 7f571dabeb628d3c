/-
  No cell of these rows narrows 'for every input' (looked for: loops, veiled, ifaces, maps, wideKeys, modest, calm, conditions, laid).
  DERIVED. THE GIVEN ROWS OF THIS SEAT. 5 by the template 'for every input the law returns true; each argument reads behind the call as it read before'; 0 by the template 'total and deterministic' (their statements: YtnfbngiabdlclaaGreatTotals.lean).
  GIVEN WITH THE SEED: the statements are not yours to turn. If you find one false, say at which input.
  Laid BY PROGRAM, IN A SANDBOX (cutbox-rows.mjs): the forced cells as the released guide's own fill.sh prints them over the translation e48d2b3cecad32ca… (all of the seat's roots in one cut). By AI agents, Wed Nov 11 2026. No macro, syntax, notation, axiom, sorry.
-/
import Derived.Test.YtnfbngiabdlclaaGreatChecked
import GoSem.Claim
import GoSem.ClaimJoined
import GoSem.ClaimMapViews
import Derived.JoinedTies
import Derived.KernelRfl
namespace Go.Proofs.YtnfbngiabdlclaaGreat
/- THE CELL 'sum', in the pinned program and in every row, IS THE sha256 OF THE DUMP (.gsa) THAT YtnfbngiabdlclaaGreatProg.lean LOADS. Nothing in Lean hashes anything: it is a label: what it is worth is what the hold of that sum in a sandbox is worth. -/
noncomputable def Tryz.pinned : Pinned := { name := "ytnfbngiabdlclaagreat", sum := "e48d2b3cecad32ca396f5eb39e8a4adaa5a9b53904ab886ea2bbc906e8a7e518", checked := Tryz.checked }
namespace Rows
def none {H : Type} : Left H := { results := [], args := [] }

/-- 'hairlinelaw07.ConstsTell': WHATEVER THE INPUT: true; the input reads as it did. -/
def constsTellSpec : ChangeSpec := { name := "constsTell", fn := fun _ => fun
  | [d] => { results := [.lit (.bool true)], args := [d] }
  | _ => none }
def constsTellRow : OpenClaim := { program := "ytnfbngiabdlclaagreat", sum := "e48d2b3cecad32ca396f5eb39e8a4adaa5a9b53904ab886ea2bbc906e8a7e518", func := "hairline/hairlinelaw07.ConstsTell", spec := "constsTell", inPlace := ["math/bits.Add64", "math/bits.Sub64"], unfollowed := true, recurses := true, named := ["math/bits.divideError", "math/bits.overflowError"], apart := false }
def ConstsTellSaid : Prop := constsTellRow.holds Tryz.pinned (OpenSpec.ofChange constsTellSpec)

/-- ITS FALSE NEIGHBOUR: 'it returns false'. Refute it at one input. -/
def constsTellWrong : ChangeSpec := { name := "constsTell", fn := fun _ => fun
  | [d] => { results := [.lit (.bool false)], args := [d] }
  | _ => none }
def ConstsTellWrongFalsely : Prop := constsTellRow.holds Tryz.pinned (OpenSpec.ofChange constsTellWrong)

/-- 'hairlinelaw05.BallStands': WHATEVER THE INPUT: true; the input reads as it did. -/
def ballStandsSpec : ChangeSpec := { name := "ballStands", fn := fun _ => fun
  | [d1, d2, d3] => { results := [.lit (.bool true)], args := [d1, d2, d3] }
  | _ => none }
def ballStandsRow : OpenClaim := { program := "ytnfbngiabdlclaagreat", sum := "e48d2b3cecad32ca396f5eb39e8a4adaa5a9b53904ab886ea2bbc906e8a7e518", func := "hairline/hairlinelaw05.BallStands", spec := "ballStands", inPlace := ["math/bits.Add64", "math/bits.Sub64"], unfollowed := true, recurses := true, named := ["math/bits.divideError", "math/bits.overflowError"], apart := false }
def BallStandsSaid : Prop := ballStandsRow.holds Tryz.pinned (OpenSpec.ofChange ballStandsSpec)

/-- ITS FALSE NEIGHBOUR: 'it returns false'. Refute it at one input. -/
def ballStandsWrong : ChangeSpec := { name := "ballStands", fn := fun _ => fun
  | [d1, d2, d3] => { results := [.lit (.bool false)], args := [d1, d2, d3] }
  | _ => none }
def BallStandsWrongFalsely : Prop := ballStandsRow.holds Tryz.pinned (OpenSpec.ofChange ballStandsWrong)

/-- 'hairlinelaw05.BallLies': WHATEVER THE INPUT: true; the input reads as it did. -/
def ballLiesSpec : ChangeSpec := { name := "ballLies", fn := fun _ => fun
  | [d1, d2, d3] => { results := [.lit (.bool true)], args := [d1, d2, d3] }
  | _ => none }
def ballLiesRow : OpenClaim := { program := "ytnfbngiabdlclaagreat", sum := "e48d2b3cecad32ca396f5eb39e8a4adaa5a9b53904ab886ea2bbc906e8a7e518", func := "hairline/hairlinelaw05.BallLies", spec := "ballLies", inPlace := ["math/bits.Add64", "math/bits.Sub64"], unfollowed := true, recurses := true, named := ["math/bits.divideError", "math/bits.overflowError"], apart := false }
def BallLiesSaid : Prop := ballLiesRow.holds Tryz.pinned (OpenSpec.ofChange ballLiesSpec)

/-- ITS FALSE NEIGHBOUR: 'it returns false'. Refute it at one input. -/
def ballLiesWrong : ChangeSpec := { name := "ballLies", fn := fun _ => fun
  | [d1, d2, d3] => { results := [.lit (.bool false)], args := [d1, d2, d3] }
  | _ => none }
def BallLiesWrongFalsely : Prop := ballLiesRow.holds Tryz.pinned (OpenSpec.ofChange ballLiesWrong)

/-- 'hairlinelaw05.BallTimes': WHATEVER THE INPUT: true; the input reads as it did. -/
def ballTimesSpec : ChangeSpec := { name := "ballTimes", fn := fun _ => fun
  | [d1, d2, d3] => { results := [.lit (.bool true)], args := [d1, d2, d3] }
  | _ => none }
def ballTimesRow : OpenClaim := { program := "ytnfbngiabdlclaagreat", sum := "e48d2b3cecad32ca396f5eb39e8a4adaa5a9b53904ab886ea2bbc906e8a7e518", func := "hairline/hairlinelaw05.BallTimes", spec := "ballTimes", inPlace := ["math/bits.Add64", "math/bits.Sub64"], unfollowed := true, recurses := true, named := ["math/bits.divideError", "math/bits.overflowError"], apart := false }
def BallTimesSaid : Prop := ballTimesRow.holds Tryz.pinned (OpenSpec.ofChange ballTimesSpec)

/-- ITS FALSE NEIGHBOUR: 'it returns false'. Refute it at one input. -/
def ballTimesWrong : ChangeSpec := { name := "ballTimes", fn := fun _ => fun
  | [d1, d2, d3] => { results := [.lit (.bool false)], args := [d1, d2, d3] }
  | _ => none }
def BallTimesWrongFalsely : Prop := ballTimesRow.holds Tryz.pinned (OpenSpec.ofChange ballTimesWrong)

/-- 'hairlinelaw05.BallSums': WHATEVER THE INPUT: true; the input reads as it did. -/
def ballSumsSpec : ChangeSpec := { name := "ballSums", fn := fun _ => fun
  | [d1, d2] => { results := [.lit (.bool true)], args := [d1, d2] }
  | _ => none }
def ballSumsRow : OpenClaim := { program := "ytnfbngiabdlclaagreat", sum := "e48d2b3cecad32ca396f5eb39e8a4adaa5a9b53904ab886ea2bbc906e8a7e518", func := "hairline/hairlinelaw05.BallSums", spec := "ballSums", inPlace := ["math/bits.Add64", "math/bits.Sub64"], unfollowed := true, recurses := true, named := ["math/bits.divideError", "math/bits.overflowError"], apart := false }
def BallSumsSaid : Prop := ballSumsRow.holds Tryz.pinned (OpenSpec.ofChange ballSumsSpec)

/-- ITS FALSE NEIGHBOUR: 'it returns false'. Refute it at one input. -/
def ballSumsWrong : ChangeSpec := { name := "ballSums", fn := fun _ => fun
  | [d1, d2] => { results := [.lit (.bool false)], args := [d1, d2] }
  | _ => none }
def BallSumsWrongFalsely : Prop := ballSumsRow.holds Tryz.pinned (OpenSpec.ofChange ballSumsWrong)

/- THE SECOND FORM. 'bulk': how many values and letters a reading holds, each counted each time it is reached (what is shared counts as often as it is met; a slice's spare places count too). A statement '..UptoSaid' is the law's where the arguments, and the package variables that the reading takes, are together of bulk at most 1048576: NARROWER than '..Said'. Prove '..Said' where nothing that the law and all that it calls make is longer than what came in: it says more and counts as full. Else prove '..UptoSaid'. A law counts once. -/
mutual
def uptoBulk {H : Type} : DataW H → Nat
  | .lit (.string bytes) => bytes.length + 1
  | .lit _ => 1
  | .nil => 1
  | .ptr d => uptoBulk d + 1
  | .slice elems spare => uptoBulkAll elems + uptoBulkAll spare + 1
  | .agg parts => uptoBulkAll parts + 1
  | .iface _ d => uptoBulk d + 1
  | .map entries => uptoBulkEntries entries + 1
  | .held _ => 1
def uptoBulkAll {H : Type} : List (DataW H) → Nat
  | [] => 0
  | d :: r => uptoBulk d + uptoBulkAll r
def uptoBulkEntries {H : Type} : List (Lit × DataW H) → Nat
  | [] => 0
  | x :: r => uptoBulkEntry x + uptoBulkEntries r
def uptoBulkEntry {H : Type} : Lit × DataW H → Nat
  | (.string bytes, d) => bytes.length + uptoBulk d + 1
  | (_, d) => uptoBulk d + 1
 end
def uptoSmall : (H : Type) → List (DataW H) → Bool := fun _ ds => decide (uptoBulkAll ds ≤ 1048576)
def OpenSpec.upto (s : _root_.Go.ChangeSpec) : _root_.Go.OpenSpec := { _root_.Go.OpenSpec.ofChange s with cond := some uptoSmall }

/-- 'hairlinelaw07.ConstsTell', WHERE WHAT IT READS IS OF BULK AT MOST 1048576: true; the input reads as it did. -/
def constsTellUptoRow : OpenClaim := { program := "ytnfbngiabdlclaagreat", sum := "e48d2b3cecad32ca396f5eb39e8a4adaa5a9b53904ab886ea2bbc906e8a7e518", func := "hairline/hairlinelaw07.ConstsTell", spec := "constsTell", inPlace := ["math/bits.Add64", "math/bits.Sub64"], unfollowed := true, recurses := true, named := ["math/bits.divideError", "math/bits.overflowError"], apart := false, narrowed := true }
def ConstsTellUptoSaid : Prop := constsTellUptoRow.holds Tryz.pinned (OpenSpec.upto constsTellSpec)

/-- 'hairlinelaw05.BallStands', WHERE WHAT IT READS IS OF BULK AT MOST 1048576: true; the input reads as it did. -/
def ballStandsUptoRow : OpenClaim := { program := "ytnfbngiabdlclaagreat", sum := "e48d2b3cecad32ca396f5eb39e8a4adaa5a9b53904ab886ea2bbc906e8a7e518", func := "hairline/hairlinelaw05.BallStands", spec := "ballStands", inPlace := ["math/bits.Add64", "math/bits.Sub64"], unfollowed := true, recurses := true, named := ["math/bits.divideError", "math/bits.overflowError"], apart := false, narrowed := true }
def BallStandsUptoSaid : Prop := ballStandsUptoRow.holds Tryz.pinned (OpenSpec.upto ballStandsSpec)

/-- 'hairlinelaw05.BallLies', WHERE WHAT IT READS IS OF BULK AT MOST 1048576: true; the input reads as it did. -/
def ballLiesUptoRow : OpenClaim := { program := "ytnfbngiabdlclaagreat", sum := "e48d2b3cecad32ca396f5eb39e8a4adaa5a9b53904ab886ea2bbc906e8a7e518", func := "hairline/hairlinelaw05.BallLies", spec := "ballLies", inPlace := ["math/bits.Add64", "math/bits.Sub64"], unfollowed := true, recurses := true, named := ["math/bits.divideError", "math/bits.overflowError"], apart := false, narrowed := true }
def BallLiesUptoSaid : Prop := ballLiesUptoRow.holds Tryz.pinned (OpenSpec.upto ballLiesSpec)

/-- 'hairlinelaw05.BallTimes', WHERE WHAT IT READS IS OF BULK AT MOST 1048576: true; the input reads as it did. -/
def ballTimesUptoRow : OpenClaim := { program := "ytnfbngiabdlclaagreat", sum := "e48d2b3cecad32ca396f5eb39e8a4adaa5a9b53904ab886ea2bbc906e8a7e518", func := "hairline/hairlinelaw05.BallTimes", spec := "ballTimes", inPlace := ["math/bits.Add64", "math/bits.Sub64"], unfollowed := true, recurses := true, named := ["math/bits.divideError", "math/bits.overflowError"], apart := false, narrowed := true }
def BallTimesUptoSaid : Prop := ballTimesUptoRow.holds Tryz.pinned (OpenSpec.upto ballTimesSpec)

/-- 'hairlinelaw05.BallSums', WHERE WHAT IT READS IS OF BULK AT MOST 1048576: true; the input reads as it did. -/
def ballSumsUptoRow : OpenClaim := { program := "ytnfbngiabdlclaagreat", sum := "e48d2b3cecad32ca396f5eb39e8a4adaa5a9b53904ab886ea2bbc906e8a7e518", func := "hairline/hairlinelaw05.BallSums", spec := "ballSums", inPlace := ["math/bits.Add64", "math/bits.Sub64"], unfollowed := true, recurses := true, named := ["math/bits.divideError", "math/bits.overflowError"], apart := false, narrowed := true }
def BallSumsUptoSaid : Prop := ballSumsUptoRow.holds Tryz.pinned (OpenSpec.upto ballSumsSpec)

end Rows
end Go.Proofs.YtnfbngiabdlclaaGreat
