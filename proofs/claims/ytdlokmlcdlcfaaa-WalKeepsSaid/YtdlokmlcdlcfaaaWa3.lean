/- wal: number. -/
import Derived.Test.YtdlokmlcdlcfaaaWa2
set_option linter.unusedVariables false
set_option linter.unusedSimpArgs false
namespace Go.Proofs.Ytdlokmlcdlcfaaa
open Go.RowKit Go.MapKept
/-- A number's bytes, so many of them. -/
def numk (x : Nat) : Nat → List UInt8
  | 0 => []
  | k + 1 => numk x k ++ [UInt8.ofNat (x / 2 ^ (8 * k))]
theorem numk_len (x : Nat) : ∀ k, (numk x k).length = k
  | 0 => rfl
  | k + 1 => by rw [numk, List.length_append, numk_len x k]; rfl
theorem le_numk (x : Nat) : ∀ k, le (numk x k) = x % 2 ^ (8 * k)
  | 0 => by simp [numk, le, Nat.mod_one]
  | k + 1 => by
    rw [numk, le_snoc, le_numk x k, numk_len, UInt8.toNat_ofNat', Nat.mul_add 8, Nat.pow_add, Nat.mod_mul]
    rw [Nat.mul_comm (2 ^ (8 * k))]
set_option maxRecDepth 100000 in
set_option maxHeartbeats 2000000 in
theorem number_calls (w : World) (base : Nat) (v : Value) (xs : List UInt8) (hown : w.ownsRow base 5 1 v xs.length (cel xs)) (hxl : xs.length ≤ 1000000) (hbase : base ≤ w.heap.size) (x : Nat) (hx : x < 18446744073709551616) :
    Calls Try.prog 54 #[v, .int .u64 (x : Int)] w fun e w' => ∃ v', e = .returned v' ∧ w'.ownsRow base 5 1 v' (xs ++ numk x 8).length (cel (xs ++ numk x 8)) ∧ Below base w w' := by
  obtain ⟨i0, hi, hz0, hz1, hz2⟩ := info_parts inf1
  obtain ⟨A, c, rfl⟩ := row_form hown
  go_enter Try.func54, Try.ntmps54
  go_wp2_with fail
  go_loopw [0, 6] (fun a i wr => ∃ k : Nat, k ≤ 8 ∧ wr.ownsRow base 5 1 a (xs ++ numk x k).length (cel (xs ++ numk x k)) ∧ i = .int .i64 (k : Int) ∧ Below base w wr) (fun _ i _ => 8 - (intOf i).toNat)
  case atStart => exact ⟨0, Nat.zero_le _, by simpa [numk] using hown, rfl, Below.refl _ _⟩
  case round =>
    obtain ⟨k, hk, hrow, rfl, hB⟩ := hrel
    have hk0 : (0 : Int) ≤ (k : Int) := by omega
    have hkb : (k : Int) ≤ 8 := by omega
    obtain ⟨A, c, rfl⟩ := row_form hrow
    by_cases hkl : k < 8
    · have hki : (k : Int) < 8 := by omega
      have hlt := hrow.lt
      have hnl := numk_len x k
      obtain ⟨N, hN⟩ : ∃ N, (xs ++ numk x k).length = N := ⟨_, rfl⟩
      have hN2 : N ≤ 1000008 := by rw [← hN, List.length_append, hnl]; omega
      rw [hN] at hrow hlt ⊢
      obtain ⟨y, hy⟩ : ∃ y, UInt8.ofNat (x / 2 ^ (8 * k)) = y := ⟨_, rfl⟩
      have hyv : (y.toNat : Int) = (x : Int) / 2 ^ (8 * k) % 256 := by rw [← hy, UInt8.toNat_ofNat']; simp
      have hsl := sl_byte wr y _ hyv (0, 0)
      have hrow2 := ownsRow_of (w' := wr.alloc (.cells #[.int .u8 ((x : Int) / 2 ^ (8 * k) % 256)] 5)) hrow fun b hb => Below.heap_alloc _ _ _ (hlt b hb).2
      have hnx : numk x (k + 1) = numk x k ++ [y] := by rw [numk, hy]
      clear hyv hy hnl
      go_wp2_with (at_builtin; refine append_any rfl _ _ 30 rfl base 5 i0 (.int .u8 0) 1 Try.underlying30 hi hz0 hz1 hz2 rfl _ N (cel (xs ++ numk x k)) rfl hrow2 _ (cel [y]) rfl hsl (cel_one _) ?q1 ?q2 ?q3 ?_)
      case q1 => rw [cel_length]; simp only [maxLen, List.length_singleton]; omega
      case q2 => rw [cel_length]; simp only [List.length_singleton]; omega
      case q3 => have := hB.size; simp; omega
      intro v' w1 hown1 hgrow hnil
      have hB1 : Below base w w1 := (hB.alloc (by have := hB.size; omega) _).grown hgrow (by have := hB.size; simp; omega) (fun b hb => (hlt b hb).1)
      go_wp2_with fail
      refine ⟨⟨k + 1, by omega, ?_, rfl, hB1⟩, by simp only [intOf]; omega⟩
      rw [hnx, ← List.append_assoc]
      have e1 : ((xs ++ numk x k) ++ [y]).length = N + (cel [y]).length := by rw [List.length_append, hN, cel_length]
      have e2 : cel ((xs ++ numk x k) ++ [y]) = cel (xs ++ numk x k) ++ cel [y] := by unfold cel; rw [List.map_append]
      rw [e1, e2]
      exact hown1
    · obtain rfl : k = 8 := by omega
      clear hown
      go_wp2_with fail
      go_ret
      exact ⟨_, rfl, hrow, hB⟩
end Go.Proofs.Ytdlokmlcdlcfaaa
