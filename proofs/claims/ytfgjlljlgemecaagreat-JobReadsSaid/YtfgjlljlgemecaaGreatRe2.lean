/- hairlineref18.get. -/
import Derived.WalkKit
import Derived.LoopN
import Derived.Laws.BytesArg
import Derived.Test.YtfgjlljlgemecaaGreatProg
set_option linter.unusedVariables false
set_option linter.unusedSimpArgs false
namespace Go.Proofs.YtfgjlljlgemecaaGreat
open Go.RowKit
/-- One more byte. -/
def stp (n c : Int) : Int := bits BinOp.or IntKind.u64 (IntKind.u64.wrap (n * 256)) (IntKind.u64.wrap c)
/-- The k last ones of eight bytes. -/
def g8 (c : Nat → Int) (a : Nat) : Nat → Int
  | 0 => 0
  | k + 1 => stp (g8 c a k) (c (a + (7 - k)))
def byteAt (s : ByteArray) (i : Nat) : Int := if h : i < s.size then (s[i].toNat : Int) else 0
set_option maxRecDepth 100000 in
set_option maxHeartbeats 4000000 in
theorem get_calls (w : World) (s : ByteArray) (a : Nat) (h : a + 8 ≤ s.size) (hs : s.size ≤ 1000) :
    Calls Tryz.prog 12 #[.string s, .int .i64 a] w fun e w' => e = .returned (.int .u64 (g8 (byteAt s) a 8)) ∧ w' = w := by
  go_enter Tryz.func12, Tryz.ntmps12
  go_wp2
  go_loopw [5, 6] (fun n i wr => ∃ k : Nat, k ≤ 8 ∧ n = .int .u64 (g8 (byteAt s) a k) ∧ i = .int .i64 (7 - (k : Int)) ∧ wr = w) (fun _ i _ => (intOf i + 1).toNat)
  case atStart => exact ⟨0, by omega, rfl, rfl, rfl⟩
  case round =>
    obtain ⟨k, hk, rfl, rfl, rfl⟩ := hrel
    by_cases hlt : k < 8
    · obtain ⟨m, hm⟩ : ∃ m : Nat, m = 7 - k := ⟨_, rfl⟩
      have hmi : (7 : Int) - k = (m : Int) := by omega
      rw [hmi]
      have hm7 : m ≤ 7 := by omega
      have hat : (a : Int) + (m : Int) = ((a + m : Nat) : Int) := by omega
      obtain ⟨n, hn⟩ : ∃ n, n = g8 (byteAt s) a k := ⟨_, rfl⟩
      rw [← hn]
      go_wp2
      have hs2 : a + (7 - k) < s.size := by omega
      refine ⟨⟨k + 1, by omega, ?_, ?_, trivial⟩, by simp only [intOf]; omega⟩
      · show Value.int .u64 _ = Value.int .u64 (stp (g8 (byteAt s) a k) (byteAt s (a + (7 - k))))
        unfold stp byteAt
        rw [dif_pos hs2]
      · congr 1
        omega
    · obtain rfl : k = 8 := by omega
      go_wp2
      go_ret
      exact ⟨rfl, rfl⟩
end Go.Proofs.YtfgjlljlgemecaaGreat
