/-
  No cell of these rows narrows 'for every input' (looked for: loops, veiled, ifaces, maps, wideKeys, modest, calm, conditions, laid).
  DERIVED. THE GIVEN ROWS OF THIS SEAT. 6 by the template 'for every input the law returns true; each argument reads behind the call as it read before'; 0 by the template 'total and deterministic' (their statements: YtdlokmlcdlcfaaaTotals.lean).
  GIVEN WITH THE SEED: the statements are not yours to turn. If you find one false, say at which input.
  Laid BY PROGRAM, IN A SANDBOX (cutbox-rows.mjs): the forced cells as the released guide's own fill.sh prints them over the translation 334e2e4fe6dcbc8d… (all of the seat's roots in one cut). By AI agents, Wed Nov 11 2026. No macro, syntax, notation, axiom, sorry.
-/
import Derived.Test.YtdlokmlcdlcfaaaChecked
import GoSem.Claim
import GoSem.ClaimJoined
import GoSem.ClaimMapViews
import Derived.JoinedTies
import Derived.KernelRfl
namespace Go.Proofs.Ytdlokmlcdlcfaaa
/- THE CELL 'sum', in the pinned program and in every row, IS THE sha256 OF THE DUMP (.gsa) THAT YtdlokmlcdlcfaaaProg.lean LOADS. Nothing in Lean hashes anything: it is a label: what it is worth is what the hold of that sum in a sandbox is worth. -/
noncomputable def Try.pinned : Pinned := { name := "ytdlokmlcdlcfaaa", sum := "334e2e4fe6dcbc8d4b54cfd5ca74346847f965a4f17c2a5056438c084060f2e7", checked := Try.checked }
namespace Rows
def none {H : Type} : Left H := { results := [], args := [] }

/-- 'hairlinelaw20.DiskFuse': WHATEVER THE INPUT: true; the input reads as it did. -/
def diskFuseSpec : ChangeSpec := { name := "diskFuse", fn := fun _ => fun
  | [d1, d2] => { results := [.lit (.bool true)], args := [d1, d2] }
  | _ => none }
def diskFuseRow : OpenClaim := { program := "ytdlokmlcdlcfaaa", sum := "334e2e4fe6dcbc8d4b54cfd5ca74346847f965a4f17c2a5056438c084060f2e7", func := "hairline/hairlinelaw20.DiskFuse", spec := "diskFuse", inPlace := ["maps.clone"], unfollowed := true, recurses := true, apart := false }
def DiskFuseSaid : Prop := diskFuseRow.holds Try.pinned (OpenSpec.ofChange diskFuseSpec)

/-- ITS FALSE NEIGHBOUR: 'it returns false'. Refute it at one input. -/
def diskFuseWrong : ChangeSpec := { name := "diskFuse", fn := fun _ => fun
  | [d1, d2] => { results := [.lit (.bool false)], args := [d1, d2] }
  | _ => none }
def DiskFuseWrongFalsely : Prop := diskFuseRow.holds Try.pinned (OpenSpec.ofChange diskFuseWrong)

/-- 'hairlinelaw20.DiskFirm': WHATEVER THE INPUT: true; the input reads as it did. -/
def diskFirmSpec : ChangeSpec := { name := "diskFirm", fn := fun _ => fun
  | [d1, d2, d3, d4] => { results := [.lit (.bool true)], args := [d1, d2, d3, d4] }
  | _ => none }
def diskFirmRow : OpenClaim := { program := "ytdlokmlcdlcfaaa", sum := "334e2e4fe6dcbc8d4b54cfd5ca74346847f965a4f17c2a5056438c084060f2e7", func := "hairline/hairlinelaw20.DiskFirm", spec := "diskFirm", inPlace := ["maps.clone"], unfollowed := true, recurses := true, apart := false }
def DiskFirmSaid : Prop := diskFirmRow.holds Try.pinned (OpenSpec.ofChange diskFirmSpec)

/-- ITS FALSE NEIGHBOUR: 'it returns false'. Refute it at one input. -/
def diskFirmWrong : ChangeSpec := { name := "diskFirm", fn := fun _ => fun
  | [d1, d2, d3, d4] => { results := [.lit (.bool false)], args := [d1, d2, d3, d4] }
  | _ => none }
def DiskFirmWrongFalsely : Prop := diskFirmRow.holds Try.pinned (OpenSpec.ofChange diskFirmWrong)

/-- 'hairlinelaw20.DiskPlays': WHATEVER THE INPUT: true; the input reads as it did. -/
def diskPlaysSpec : ChangeSpec := { name := "diskPlays", fn := fun _ => fun
  | [d1, d2] => { results := [.lit (.bool true)], args := [d1, d2] }
  | _ => none }
def diskPlaysRow : OpenClaim := { program := "ytdlokmlcdlcfaaa", sum := "334e2e4fe6dcbc8d4b54cfd5ca74346847f965a4f17c2a5056438c084060f2e7", func := "hairline/hairlinelaw20.DiskPlays", spec := "diskPlays", inPlace := ["maps.clone"], unfollowed := true, recurses := true, apart := false }
def DiskPlaysSaid : Prop := diskPlaysRow.holds Try.pinned (OpenSpec.ofChange diskPlaysSpec)

/-- ITS FALSE NEIGHBOUR: 'it returns false'. Refute it at one input. -/
def diskPlaysWrong : ChangeSpec := { name := "diskPlays", fn := fun _ => fun
  | [d1, d2] => { results := [.lit (.bool false)], args := [d1, d2] }
  | _ => none }
def DiskPlaysWrongFalsely : Prop := diskPlaysRow.holds Try.pinned (OpenSpec.ofChange diskPlaysWrong)

/-- 'hairlinelaw21.WalEpochs': WHATEVER THE INPUT: true; the input reads as it did. -/
def walEpochsSpec : ChangeSpec := { name := "walEpochs", fn := fun _ => fun
  | [d1, d2, d3, d4] => { results := [.lit (.bool true)], args := [d1, d2, d3, d4] }
  | _ => none }
def walEpochsRow : OpenClaim := { program := "ytdlokmlcdlcfaaa", sum := "334e2e4fe6dcbc8d4b54cfd5ca74346847f965a4f17c2a5056438c084060f2e7", func := "hairline/hairlinelaw21.WalEpochs", spec := "walEpochs", inPlace := ["maps.clone"], unfollowed := true, recurses := true, apart := false }
def WalEpochsSaid : Prop := walEpochsRow.holds Try.pinned (OpenSpec.ofChange walEpochsSpec)

/-- ITS FALSE NEIGHBOUR: 'it returns false'. Refute it at one input. -/
def walEpochsWrong : ChangeSpec := { name := "walEpochs", fn := fun _ => fun
  | [d1, d2, d3, d4] => { results := [.lit (.bool false)], args := [d1, d2, d3, d4] }
  | _ => none }
def WalEpochsWrongFalsely : Prop := walEpochsRow.holds Try.pinned (OpenSpec.ofChange walEpochsWrong)

/-- 'hairlinelaw21.WalKeeps': WHATEVER THE INPUT: true; the input reads as it did. -/
def walKeepsSpec : ChangeSpec := { name := "walKeeps", fn := fun _ => fun
  | [d1, d2, d3, d4] => { results := [.lit (.bool true)], args := [d1, d2, d3, d4] }
  | _ => none }
def walKeepsRow : OpenClaim := { program := "ytdlokmlcdlcfaaa", sum := "334e2e4fe6dcbc8d4b54cfd5ca74346847f965a4f17c2a5056438c084060f2e7", func := "hairline/hairlinelaw21.WalKeeps", spec := "walKeeps", inPlace := ["maps.clone"], unfollowed := true, recurses := true, apart := false }
def WalKeepsSaid : Prop := walKeepsRow.holds Try.pinned (OpenSpec.ofChange walKeepsSpec)

/-- ITS FALSE NEIGHBOUR: 'it returns false'. Refute it at one input. -/
def walKeepsWrong : ChangeSpec := { name := "walKeeps", fn := fun _ => fun
  | [d1, d2, d3, d4] => { results := [.lit (.bool false)], args := [d1, d2, d3, d4] }
  | _ => none }
def WalKeepsWrongFalsely : Prop := walKeepsRow.holds Try.pinned (OpenSpec.ofChange walKeepsWrong)

/-- 'hairlinelaw21.WalSlots': WHATEVER THE INPUT: true; the input reads as it did. -/
def walSlotsSpec : ChangeSpec := { name := "walSlots", fn := fun _ => fun
  | [d1, d2, d3] => { results := [.lit (.bool true)], args := [d1, d2, d3] }
  | _ => none }
def walSlotsRow : OpenClaim := { program := "ytdlokmlcdlcfaaa", sum := "334e2e4fe6dcbc8d4b54cfd5ca74346847f965a4f17c2a5056438c084060f2e7", func := "hairline/hairlinelaw21.WalSlots", spec := "walSlots", inPlace := ["maps.clone"], unfollowed := true, recurses := true, apart := false }
def WalSlotsSaid : Prop := walSlotsRow.holds Try.pinned (OpenSpec.ofChange walSlotsSpec)

/-- ITS FALSE NEIGHBOUR: 'it returns false'. Refute it at one input. -/
def walSlotsWrong : ChangeSpec := { name := "walSlots", fn := fun _ => fun
  | [d1, d2, d3] => { results := [.lit (.bool false)], args := [d1, d2, d3] }
  | _ => none }
def WalSlotsWrongFalsely : Prop := walSlotsRow.holds Try.pinned (OpenSpec.ofChange walSlotsWrong)

/- THE SECOND FORM. 'bulk': how many values and letters a reading holds, each counted each time it is reached (what is shared counts as often as it is met; a slice's spare places count too). A statement '..UptoSaid' is the law's where the arguments, and the package variables that the reading takes, are together of bulk at most 1048576: NARROWER than '..Said'. Prove '..Said' where nothing that the law and all that it calls make is longer than what came in: it says more and counts as full. Else prove '..UptoSaid'. A law counts once. -/
mutual
def uptoBulk {H : Type} : DataW H → Nat
  | .lit (.string bytes) => bytes.length + 1
  | .lit _ => 1
  | .nil => 1
  | .ptr d => uptoBulk d + 1
  | .slice elems spare => uptoBulkAll elems + uptoBulkAll spare + 1
  | .agg parts => uptoBulkAll parts + 1
  | .iface _ d => uptoBulk d + 1
  | .map entries => uptoBulkEntries entries + 1
  | .held _ => 1
def uptoBulkAll {H : Type} : List (DataW H) → Nat
  | [] => 0
  | d :: r => uptoBulk d + uptoBulkAll r
def uptoBulkEntries {H : Type} : List (Lit × DataW H) → Nat
  | [] => 0
  | x :: r => uptoBulkEntry x + uptoBulkEntries r
def uptoBulkEntry {H : Type} : Lit × DataW H → Nat
  | (.string bytes, d) => bytes.length + uptoBulk d + 1
  | (_, d) => uptoBulk d + 1
 end
def uptoSmall : (H : Type) → List (DataW H) → Bool := fun _ ds => decide (uptoBulkAll ds ≤ 1048576)
def OpenSpec.upto (s : _root_.Go.ChangeSpec) : _root_.Go.OpenSpec := { _root_.Go.OpenSpec.ofChange s with cond := some uptoSmall }

/-- 'hairlinelaw20.DiskFuse', WHERE WHAT IT READS IS OF BULK AT MOST 1048576: true; the input reads as it did. -/
def diskFuseUptoRow : OpenClaim := { program := "ytdlokmlcdlcfaaa", sum := "334e2e4fe6dcbc8d4b54cfd5ca74346847f965a4f17c2a5056438c084060f2e7", func := "hairline/hairlinelaw20.DiskFuse", spec := "diskFuse", inPlace := ["maps.clone"], unfollowed := true, recurses := true, apart := false, narrowed := true }
def DiskFuseUptoSaid : Prop := diskFuseUptoRow.holds Try.pinned (OpenSpec.upto diskFuseSpec)

/-- 'hairlinelaw20.DiskFirm', WHERE WHAT IT READS IS OF BULK AT MOST 1048576: true; the input reads as it did. -/
def diskFirmUptoRow : OpenClaim := { program := "ytdlokmlcdlcfaaa", sum := "334e2e4fe6dcbc8d4b54cfd5ca74346847f965a4f17c2a5056438c084060f2e7", func := "hairline/hairlinelaw20.DiskFirm", spec := "diskFirm", inPlace := ["maps.clone"], unfollowed := true, recurses := true, apart := false, narrowed := true }
def DiskFirmUptoSaid : Prop := diskFirmUptoRow.holds Try.pinned (OpenSpec.upto diskFirmSpec)

/-- 'hairlinelaw20.DiskPlays', WHERE WHAT IT READS IS OF BULK AT MOST 1048576: true; the input reads as it did. -/
def diskPlaysUptoRow : OpenClaim := { program := "ytdlokmlcdlcfaaa", sum := "334e2e4fe6dcbc8d4b54cfd5ca74346847f965a4f17c2a5056438c084060f2e7", func := "hairline/hairlinelaw20.DiskPlays", spec := "diskPlays", inPlace := ["maps.clone"], unfollowed := true, recurses := true, apart := false, narrowed := true }
def DiskPlaysUptoSaid : Prop := diskPlaysUptoRow.holds Try.pinned (OpenSpec.upto diskPlaysSpec)

/-- 'hairlinelaw21.WalEpochs', WHERE WHAT IT READS IS OF BULK AT MOST 1048576: true; the input reads as it did. -/
def walEpochsUptoRow : OpenClaim := { program := "ytdlokmlcdlcfaaa", sum := "334e2e4fe6dcbc8d4b54cfd5ca74346847f965a4f17c2a5056438c084060f2e7", func := "hairline/hairlinelaw21.WalEpochs", spec := "walEpochs", inPlace := ["maps.clone"], unfollowed := true, recurses := true, apart := false, narrowed := true }
def WalEpochsUptoSaid : Prop := walEpochsUptoRow.holds Try.pinned (OpenSpec.upto walEpochsSpec)

/-- 'hairlinelaw21.WalKeeps', WHERE WHAT IT READS IS OF BULK AT MOST 1048576: true; the input reads as it did. -/
def walKeepsUptoRow : OpenClaim := { program := "ytdlokmlcdlcfaaa", sum := "334e2e4fe6dcbc8d4b54cfd5ca74346847f965a4f17c2a5056438c084060f2e7", func := "hairline/hairlinelaw21.WalKeeps", spec := "walKeeps", inPlace := ["maps.clone"], unfollowed := true, recurses := true, apart := false, narrowed := true }
def WalKeepsUptoSaid : Prop := walKeepsUptoRow.holds Try.pinned (OpenSpec.upto walKeepsSpec)

/-- 'hairlinelaw21.WalSlots', WHERE WHAT IT READS IS OF BULK AT MOST 1048576: true; the input reads as it did. -/
def walSlotsUptoRow : OpenClaim := { program := "ytdlokmlcdlcfaaa", sum := "334e2e4fe6dcbc8d4b54cfd5ca74346847f965a4f17c2a5056438c084060f2e7", func := "hairline/hairlinelaw21.WalSlots", spec := "walSlots", inPlace := ["maps.clone"], unfollowed := true, recurses := true, apart := false, narrowed := true }
def WalSlotsUptoSaid : Prop := walSlotsUptoRow.holds Try.pinned (OpenSpec.upto walSlotsSpec)

end Rows
end Go.Proofs.Ytdlokmlcdlcfaaa
