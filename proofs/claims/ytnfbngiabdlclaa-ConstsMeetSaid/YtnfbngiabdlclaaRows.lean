/-
  No cell of these rows narrows 'for every input' (looked for: loops, veiled, ifaces, maps, wideKeys, modest, calm, conditions, laid).
  DERIVED. THE GIVEN ROWS OF THIS SEAT. 4 by the template 'for every input the law returns true; each argument reads behind the call as it read before'; 0 by the template 'total and deterministic' (their statements: YtnfbngiabdlclaaTotals.lean).
  GIVEN WITH THE SEED: the statements are not yours to turn. If you find one false, say at which input.
  Laid BY PROGRAM, IN A SANDBOX (cutbox-rows.mjs): the forced cells as the released guide's own fill.sh prints them over the translation 84fd2ec06ce1ffc7… (all of the seat's roots in one cut). By AI agents, Wed Nov 11 2026. No macro, syntax, notation, axiom, sorry.
-/
import Derived.Test.YtnfbngiabdlclaaChecked
import GoSem.Claim
import GoSem.ClaimJoined
import GoSem.ClaimMapViews
import Derived.JoinedTies
import Derived.KernelRfl
namespace Go.Proofs.Ytnfbngiabdlclaa
/- THE CELL 'sum', in the pinned program and in every row, IS THE sha256 OF THE DUMP (.gsa) THAT YtnfbngiabdlclaaProg.lean LOADS. Nothing in Lean hashes anything: it is a label: what it is worth is what the hold of that sum in a sandbox is worth. -/
noncomputable def Try.pinned : Pinned := { name := "ytnfbngiabdlclaa", sum := "84fd2ec06ce1ffc7b970e7e64cdc547e232b7cc49c86b978fcfca1ee01489df3", checked := Try.checked }
namespace Rows
def none {H : Type} : Left H := { results := [], args := [] }

/-- 'hairlinelaw07.ConstsMeet': WHATEVER THE INPUT: true; the input reads as it did. -/
def constsMeetSpec : ChangeSpec := { name := "constsMeet", fn := fun _ => fun
  | [d1, d2] => { results := [.lit (.bool true)], args := [d1, d2] }
  | _ => none }
def constsMeetRow : OpenClaim := { program := "ytnfbngiabdlclaa", sum := "84fd2ec06ce1ffc7b970e7e64cdc547e232b7cc49c86b978fcfca1ee01489df3", func := "hairline/hairlinelaw07.ConstsMeet", spec := "constsMeet", inPlace := ["math/bits.Add64", "math/bits.Sub64"], unfollowed := true, recurses := true, named := ["math/bits.divideError", "math/bits.overflowError"], apart := false }
def ConstsMeetSaid : Prop := constsMeetRow.holds Try.pinned (OpenSpec.ofChange constsMeetSpec)

/-- ITS FALSE NEIGHBOUR: 'it returns false'. Refute it at one input. -/
def constsMeetWrong : ChangeSpec := { name := "constsMeet", fn := fun _ => fun
  | [d1, d2] => { results := [.lit (.bool false)], args := [d1, d2] }
  | _ => none }
def ConstsMeetWrongFalsely : Prop := constsMeetRow.holds Try.pinned (OpenSpec.ofChange constsMeetWrong)

/-- 'hairlinelaw05.BallOrder': WHATEVER THE INPUT: true; the input reads as it did. -/
def ballOrderSpec : ChangeSpec := { name := "ballOrder", fn := fun _ => fun
  | [d1, d2, d3, d4] => { results := [.lit (.bool true)], args := [d1, d2, d3, d4] }
  | _ => none }
def ballOrderRow : OpenClaim := { program := "ytnfbngiabdlclaa", sum := "84fd2ec06ce1ffc7b970e7e64cdc547e232b7cc49c86b978fcfca1ee01489df3", func := "hairline/hairlinelaw05.BallOrder", spec := "ballOrder", inPlace := ["math/bits.Add64", "math/bits.Sub64"], unfollowed := true, recurses := true, named := ["math/bits.divideError", "math/bits.overflowError"], apart := false }
def BallOrderSaid : Prop := ballOrderRow.holds Try.pinned (OpenSpec.ofChange ballOrderSpec)

/-- ITS FALSE NEIGHBOUR: 'it returns false'. Refute it at one input. -/
def ballOrderWrong : ChangeSpec := { name := "ballOrder", fn := fun _ => fun
  | [d1, d2, d3, d4] => { results := [.lit (.bool false)], args := [d1, d2, d3, d4] }
  | _ => none }
def BallOrderWrongFalsely : Prop := ballOrderRow.holds Try.pinned (OpenSpec.ofChange ballOrderWrong)

/-- 'hairlinelaw05.BallTight': WHATEVER THE INPUT: true; the input reads as it did. -/
def ballTightSpec : ChangeSpec := { name := "ballTight", fn := fun _ => fun
  | [d1, d2, d3] => { results := [.lit (.bool true)], args := [d1, d2, d3] }
  | _ => none }
def ballTightRow : OpenClaim := { program := "ytnfbngiabdlclaa", sum := "84fd2ec06ce1ffc7b970e7e64cdc547e232b7cc49c86b978fcfca1ee01489df3", func := "hairline/hairlinelaw05.BallTight", spec := "ballTight", inPlace := ["math/bits.Add64", "math/bits.Sub64"], unfollowed := true, recurses := true, named := ["math/bits.divideError", "math/bits.overflowError"], apart := false }
def BallTightSaid : Prop := ballTightRow.holds Try.pinned (OpenSpec.ofChange ballTightSpec)

/-- ITS FALSE NEIGHBOUR: 'it returns false'. Refute it at one input. -/
def ballTightWrong : ChangeSpec := { name := "ballTight", fn := fun _ => fun
  | [d1, d2, d3] => { results := [.lit (.bool false)], args := [d1, d2, d3] }
  | _ => none }
def BallTightWrongFalsely : Prop := ballTightRow.holds Try.pinned (OpenSpec.ofChange ballTightWrong)

/-- 'hairlinelaw05.BallHolds': WHATEVER THE INPUT: true; the input reads as it did. -/
def ballHoldsSpec : ChangeSpec := { name := "ballHolds", fn := fun _ => fun
  | [d1, d2, d3, d4, d5] => { results := [.lit (.bool true)], args := [d1, d2, d3, d4, d5] }
  | _ => none }
def ballHoldsRow : OpenClaim := { program := "ytnfbngiabdlclaa", sum := "84fd2ec06ce1ffc7b970e7e64cdc547e232b7cc49c86b978fcfca1ee01489df3", func := "hairline/hairlinelaw05.BallHolds", spec := "ballHolds", inPlace := ["math/bits.Add64", "math/bits.Sub64"], unfollowed := true, recurses := true, named := ["math/bits.divideError", "math/bits.overflowError"], apart := false }
def BallHoldsSaid : Prop := ballHoldsRow.holds Try.pinned (OpenSpec.ofChange ballHoldsSpec)

/-- ITS FALSE NEIGHBOUR: 'it returns false'. Refute it at one input. -/
def ballHoldsWrong : ChangeSpec := { name := "ballHolds", fn := fun _ => fun
  | [d1, d2, d3, d4, d5] => { results := [.lit (.bool false)], args := [d1, d2, d3, d4, d5] }
  | _ => none }
def BallHoldsWrongFalsely : Prop := ballHoldsRow.holds Try.pinned (OpenSpec.ofChange ballHoldsWrong)

/- THE SECOND FORM. 'bulk': how many values and letters a reading holds, each counted each time it is reached (what is shared counts as often as it is met; a slice's spare places count too). A statement '..UptoSaid' is the law's where the arguments, and the package variables that the reading takes, are together of bulk at most 1048576: NARROWER than '..Said'. Prove '..Said' where nothing that the law and all that it calls make is longer than what came in: it says more and counts as full. Else prove '..UptoSaid'. A law counts once. -/
mutual
def uptoBulk {H : Type} : DataW H → Nat
  | .lit (.string bytes) => bytes.length + 1
  | .lit _ => 1
  | .nil => 1
  | .ptr d => uptoBulk d + 1
  | .slice elems spare => uptoBulkAll elems + uptoBulkAll spare + 1
  | .agg parts => uptoBulkAll parts + 1
  | .iface _ d => uptoBulk d + 1
  | .map entries => uptoBulkEntries entries + 1
  | .held _ => 1
def uptoBulkAll {H : Type} : List (DataW H) → Nat
  | [] => 0
  | d :: r => uptoBulk d + uptoBulkAll r
def uptoBulkEntries {H : Type} : List (Lit × DataW H) → Nat
  | [] => 0
  | x :: r => uptoBulkEntry x + uptoBulkEntries r
def uptoBulkEntry {H : Type} : Lit × DataW H → Nat
  | (.string bytes, d) => bytes.length + uptoBulk d + 1
  | (_, d) => uptoBulk d + 1
 end
def uptoSmall : (H : Type) → List (DataW H) → Bool := fun _ ds => decide (uptoBulkAll ds ≤ 1048576)
def OpenSpec.upto (s : _root_.Go.ChangeSpec) : _root_.Go.OpenSpec := { _root_.Go.OpenSpec.ofChange s with cond := some uptoSmall }

/-- 'hairlinelaw07.ConstsMeet', WHERE WHAT IT READS IS OF BULK AT MOST 1048576: true; the input reads as it did. -/
def constsMeetUptoRow : OpenClaim := { program := "ytnfbngiabdlclaa", sum := "84fd2ec06ce1ffc7b970e7e64cdc547e232b7cc49c86b978fcfca1ee01489df3", func := "hairline/hairlinelaw07.ConstsMeet", spec := "constsMeet", inPlace := ["math/bits.Add64", "math/bits.Sub64"], unfollowed := true, recurses := true, named := ["math/bits.divideError", "math/bits.overflowError"], apart := false, narrowed := true }
def ConstsMeetUptoSaid : Prop := constsMeetUptoRow.holds Try.pinned (OpenSpec.upto constsMeetSpec)

/-- 'hairlinelaw05.BallOrder', WHERE WHAT IT READS IS OF BULK AT MOST 1048576: true; the input reads as it did. -/
def ballOrderUptoRow : OpenClaim := { program := "ytnfbngiabdlclaa", sum := "84fd2ec06ce1ffc7b970e7e64cdc547e232b7cc49c86b978fcfca1ee01489df3", func := "hairline/hairlinelaw05.BallOrder", spec := "ballOrder", inPlace := ["math/bits.Add64", "math/bits.Sub64"], unfollowed := true, recurses := true, named := ["math/bits.divideError", "math/bits.overflowError"], apart := false, narrowed := true }
def BallOrderUptoSaid : Prop := ballOrderUptoRow.holds Try.pinned (OpenSpec.upto ballOrderSpec)

/-- 'hairlinelaw05.BallTight', WHERE WHAT IT READS IS OF BULK AT MOST 1048576: true; the input reads as it did. -/
def ballTightUptoRow : OpenClaim := { program := "ytnfbngiabdlclaa", sum := "84fd2ec06ce1ffc7b970e7e64cdc547e232b7cc49c86b978fcfca1ee01489df3", func := "hairline/hairlinelaw05.BallTight", spec := "ballTight", inPlace := ["math/bits.Add64", "math/bits.Sub64"], unfollowed := true, recurses := true, named := ["math/bits.divideError", "math/bits.overflowError"], apart := false, narrowed := true }
def BallTightUptoSaid : Prop := ballTightUptoRow.holds Try.pinned (OpenSpec.upto ballTightSpec)

/-- 'hairlinelaw05.BallHolds', WHERE WHAT IT READS IS OF BULK AT MOST 1048576: true; the input reads as it did. -/
def ballHoldsUptoRow : OpenClaim := { program := "ytnfbngiabdlclaa", sum := "84fd2ec06ce1ffc7b970e7e64cdc547e232b7cc49c86b978fcfca1ee01489df3", func := "hairline/hairlinelaw05.BallHolds", spec := "ballHolds", inPlace := ["math/bits.Add64", "math/bits.Sub64"], unfollowed := true, recurses := true, named := ["math/bits.divideError", "math/bits.overflowError"], apart := false, narrowed := true }
def BallHoldsUptoSaid : Prop := ballHoldsUptoRow.holds Try.pinned (OpenSpec.upto ballHoldsSpec)

end Rows
end Go.Proofs.Ytnfbngiabdlclaa
