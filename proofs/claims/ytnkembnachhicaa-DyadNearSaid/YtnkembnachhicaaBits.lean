/- math/bits: Add64, Sub64, Mul64, Len64 as numbers. -/
import Derived.Test.YtnkembnachhicaaMem
import Derived.Test.YtnkembnachhicaaLen
import Derived.Lib.Mul64
import Derived.Laws.Externs
import Derived.Laws.MathBits
import Derived.Lib.BitFns
import Derived.Lib.ItoaNum
set_option linter.unusedVariables false
namespace Go.Proofs.Ytnkembnachhicaa
open Go.RowKit
open L (val dig)

/-- Add64, the carry 0 or 1: the sum's limb and its carry. -/
theorem add64_run (x y c s d : Nat) (hc : c ≤ 1) (h : x + y + c = s + 18446744073709551616 * d) (hs : s < 18446744073709551616) (w : World) :
    (callFunc 115 #[.int .u64 x, .int .u64 y, .int .u64 c]).run Try.prog w = .ok (.value (.tuple #[.int .u64 s, .int .u64 d])) w := by
  rw [run_callFunc_extern Try.func115 (by kernel_rfl) (by kernel_rfl) (by kernel_rfl) (e := add64Entry) (by kernel_rfl), run_add64 x y c (by omega) (by omega) (by omega) (by omega)]
  simp only [Result.andThen]
  have e1 : ((x : Int) + y + c) % 18446744073709551616 = s := by omega
  have e2 : ((x : Int) + y + c) / 18446744073709551616 = d := by omega
  rw [e1, e2]

/-- Sub64's entry in the model. -/
def sub64Entry : Array Value → Sem Value := fun args => do
  let (x, y, b) ← Extern.MathBitsCarry.three "Sub64" args
  pure (Extern.MathBitsCarry.pair ((x + Extern.MathBitsCarry.m64 - y - b) % Extern.MathBitsCarry.m64) (if x < y + b then 1 else 0))
theorem run_sub64 {P : Program} (x y b : Nat) (hb : b ≤ 1) (w : World) :
    (sub64Entry #[.int .u64 x, .int .u64 y, .int .u64 b]).run P w =
      .ok (.tuple #[.int .u64 (((x + 18446744073709551616 - y - b) % 18446744073709551616 : Nat) : Int), .int .u64 ((if x < y + b then 1 else 0 : Nat) : Int)]) w := by
  have : b = 0 ∨ b = 1 := by omega
  rcases this with rfl | rfl <;> rfl
/-- Sub64, the borrow 0 or 1: what is left, and what is borrowed. -/
theorem sub64_run (x y c s d : Nat) (hc : c ≤ 1) (h : x + 18446744073709551616 * d = s + y + c) (hx : x < 18446744073709551616) (hy : y < 18446744073709551616) (hs : s < 18446744073709551616) (w : World) :
    (callFunc 129 #[.int .u64 x, .int .u64 y, .int .u64 c]).run Try.prog w = .ok (.value (.tuple #[.int .u64 s, .int .u64 d])) w := by
  rw [run_callFunc_extern Try.func129 (by kernel_rfl) (by kernel_rfl) (by kernel_rfl) (e := sub64Entry) (by kernel_rfl), run_sub64 x y c hc]
  simp only [Result.andThen]
  have hd : d = if x < y + c then 1 else 0 := by split <;> omega
  have hs' : (x + 18446744073709551616 - y - c) % 18446744073709551616 = s := by
    by_cases h1 : x < y + c
    · simp [h1] at hd; omega
    · simp [h1] at hd; omega
  rw [hs', ← hd]

namespace M64
theorem maskN (a : Nat) (ha : a < 18446744073709551616) : bits .and .u64 (a : Int) 4294967295 = ((a % 4294967296 : Nat) : Int) := by
  have h := bits_and_u64_nat a 4294967295 ha (by omega)
  have e : a &&& 4294967295 = a % 4294967296 := Nat.and_two_pow_sub_one_eq_mod a 32
  rw [e] at h
  exact h
theorem divN (a : Nat) : (a : Int) / 4294967296 = ((a / 4294967296 : Nat) : Int) := by omega
theorem mulN (a b : Nat) : (a : Int) * (b : Int) = ((a * b : Nat) : Int) := (Int.natCast_mul a b).symm
theorem addN (a b : Nat) : (a : Int) + (b : Int) = ((a + b : Nat) : Int) := (Int.natCast_add a b).symm
theorem wrapN (a : Nat) (ha : a < 18446744073709551616) : IntKind.u64.wrap (a : Int) = (a : Int) := by rw [IntKind.wrap_u64]; omega
theorem wrapM (a : Nat) : IntKind.u64.wrap (a : Int) = ((a % 18446744073709551616 : Nat) : Int) := by rw [IntKind.wrap_u64]; omega
end M64

set_option maxHeartbeats 1000000 in
/-- Mul64: both limbs of the product. -/
theorem mul64_calls (x y : Nat) (hx : x < 18446744073709551616) (hy : y < 18446744073709551616) (w : World) :
    Calls Try.prog 121 #[.int .u64 x, .int .u64 y] w fun e w' => w = w' ∧ e = .returned (.tuple #[.int .u64 ((x * y / 18446744073709551616 : Nat) : Int), .int .u64 ((x * y % 18446744073709551616 : Nat) : Int)]) := by
  obtain ⟨bd, bt, bw, hhi⟩ := Lib.mul64_hi x y hx hy
  have ba := Lib.half_mul_le (a := x / 4294967296) (b := y / 4294967296) (by omega) (by omega)
  have bb := Lib.half_mul_le (a := x / 4294967296) (b := y % 4294967296) (by omega) (by omega)
  have bc := Lib.half_mul_le (a := x % 4294967296) (b := y / 4294967296) (by omega) (by omega)
  have ba' : x / 4294967296 * (y / 4294967296) < 18446744073709551616 := by omega
  have bb' : x / 4294967296 * (y % 4294967296) < 18446744073709551616 := by omega
  have bc' : x % 4294967296 * (y / 4294967296) < 18446744073709551616 := by omega
  have bh1 : x / 4294967296 * (y / 4294967296) + (x / 4294967296 * (y % 4294967296) + x % 4294967296 * (y % 4294967296) / 4294967296) / 4294967296 < 18446744073709551616 := by omega
  have bh : x / 4294967296 * (y / 4294967296) + (x / 4294967296 * (y % 4294967296) + x % 4294967296 * (y % 4294967296) / 4294967296) / 4294967296 + ((x / 4294967296 * (y % 4294967296) + x % 4294967296 * (y % 4294967296) / 4294967296) % 4294967296 + x % 4294967296 * (y / 4294967296)) / 4294967296 < 18446744073709551616 := by omega
  go_enter Try.func121, Try.ntmps121
  go_wp2
  simp only [M64.maskN x hx, M64.maskN y hy, M64.divN, M64.mulN, M64.addN, M64.wrapN _ bd, M64.wrapN _ bb', M64.wrapN _ bt, M64.maskN _ bt, M64.wrapN _ bc', M64.wrapN _ bw, M64.wrapN _ ba', M64.wrapN _ bh1, M64.wrapN _ bh, M64.wrapM (x * y)]
  rw [hhi]
  go_ret2
  exact ⟨rfl, rfl⟩

theorem mul64_calls' (x y h l : Nat) (hx : x < 18446744073709551616) (hy : y < 18446744073709551616) (he : x * y = l + 18446744073709551616 * h) (hl : l < 18446744073709551616) (w : World) :
    Calls Try.prog 121 #[.int .u64 x, .int .u64 y] w fun e w' => w = w' ∧ e = .returned (.tuple #[.int .u64 h, .int .u64 l]) := by
  refine (mul64_calls x y hx hy w).mono fun e w' ⟨h1, h2⟩ => ⟨h1, ?_⟩
  rw [h2, show x * y / 18446744073709551616 = h from by omega, show x * y % 18446744073709551616 = l from by omega]

/-- How many bits a number has. -/
def nbits (n : Nat) : Nat := (dig 2 n).length
theorem nbits_le (n m : Nat) : nbits n ≤ m ↔ n < 2 ^ m := L.dig_len (by omega) n m
theorem nbits_eq {n b : Nat} (h1 : n < 2 ^ b) (h2 : b = 0 ∨ 2 ^ (b - 1) ≤ n) : nbits n = b := by
  have h3 := (nbits_le n b).2 h1
  rcases h2 with h2 | h2
  · omega
  · have h4 : ¬ nbits n ≤ b - 1 := by rw [nbits_le]; omega
    omega
theorem bitLen_nbits (x : Nat) (hx : x < 18446744073709551616) : Lib.bitLen x = nbits x := by
  symm
  by_cases h0 : x = 0
  · subst h0
    have : Lib.bitLen 0 = 0 := by decide
    rw [this]
    exact nbits_eq (by omega) (.inl rfl)
  · obtain ⟨h1, h2, h3⟩ := Lib.bitLenAux_bounds 64 x (by omega) h0
    exact nbits_eq h3 (.inr h2)


theorem nbits_zero : nbits 0 = 0 := nbits_eq (by omega) (.inl rfl)
theorem nbits_pos {n : Nat} (h : n ≠ 0) : 0 < nbits n := by
  rcases Nat.eq_zero_or_pos (nbits n) with h0 | h0
  · have := (nbits_le n 0).1 (by omega)
    omega
  · exact h0
theorem nbits_ge {n : Nat} (h : n ≠ 0) : 2 ^ (nbits n - 1) ≤ n := by
  have h1 := nbits_pos h
  have h2 : ¬ nbits n ≤ nbits n - 1 := by omega
  rw [nbits_le] at h2
  omega
theorem nbits_lt (n : Nat) : n < 2 ^ nbits n := (nbits_le n _).1 (Nat.le_refl _)
theorem W_pow (m : Nat) : W ^ m = 2 ^ (64 * m) := by rw [Nat.pow_mul]; rfl
/-- The bits of limbs whose top one is not 0. -/
theorem nbits_val (d : List Nat) (m : Nat) (hm : d.length = m + 1) (hlt : ∀ x ∈ d, x < W) (ht : L.nth d m ≠ 0) :
    nbits (val W d) = 64 * m + nbits (L.nth d m) := by
  have e : val W d = val W (d.take m) + W ^ m * L.nth d m := by
    have := L.val_take_step W d m
    rwa [List.take_of_length_le (by omega)] at this
  have h1 : val W (d.take m) < W ^ m := by
    have := L.val_lt (b := W) (d.take m) (fun x hx => hlt x (List.mem_of_mem_take hx))
    rwa [List.length_take, Nat.min_eq_left (by omega)] at this
  have h2 := nbits_lt (L.nth d m)
  have h3 := nbits_ge ht
  have h4 := nbits_pos ht
  rw [W_pow] at e h1
  generalize nbits (L.nth d m) = b at *
  generalize L.nth d m = t at *
  apply nbits_eq
  · rw [e, Nat.pow_add]
    have : 2 ^ (64 * m) * (t + 1) ≤ 2 ^ (64 * m) * 2 ^ b := Nat.mul_le_mul_left _ h2
    rw [Nat.mul_add] at this
    omega
  · refine .inr ?_
    rw [e, show 64 * m + b - 1 = 64 * m + (b - 1) from by omega, Nat.pow_add]
    have : 2 ^ (64 * m) * 2 ^ (b - 1) ≤ 2 ^ (64 * m) * t := Nat.mul_le_mul_left _ h3
    omega

theorem len64_calls (n : Nat) (hn : n < 18446744073709551616) (w : World) :
    Calls Try.prog 101 #[.int .u64 n] w fun e w' => w = w' ∧ e = .returned (.int .i64 (nbits n : Nat)) := by
  refine (len64_int n w (by omega) (by omega)).mono fun e w' ⟨he, hw⟩ => ⟨hw.symm, ?_⟩
  rw [he, Int.toNat_natCast, bitLen_nbits n hn]

/-! ### shifts -/
theorem natpow (k : Nat) : ((2 : Int) ^ k) = ((2 ^ k : Nat) : Int) := by norm_cast
theorem W_split {s : Nat} (hs : s ≤ 64) : 2 ^ (64 - s) * 2 ^ s = W := by
  rw [← Nat.pow_add, show 64 - s + s = 64 from by omega]; rfl
theorem shr_nat (x s : Nat) : (x : Int) / 2 ^ s = ((x / 2 ^ s : Nat) : Int) := by rw [natpow]; norm_cast
theorem shr_top (x s : Nat) (hs : s ≤ 64) : x / 2 ^ (64 - s) = x * 2 ^ s / W := by
  rw [← W_split hs, Nat.mul_div_mul_right _ _ (Nat.two_pow_pos s)]
theorem shl_wrap (x s : Nat) : IntKind.u64.wrap ((x : Int) * 2 ^ s) = ((x * 2 ^ s % W : Nat) : Int) := by
  rw [natpow, ← Int.natCast_mul, M64.wrapM]; rfl
theorem shl_low (x s : Nat) (hs : s ≤ 64) : ∃ q, x * 2 ^ s % W = q * 2 ^ s ∧ q < 2 ^ (64 - s) := by
  refine ⟨x % 2 ^ (64 - s), ?_, Nat.mod_lt _ (Nat.two_pow_pos _)⟩
  rw [← W_split hs, Nat.mul_mod_mul_right]
theorem or_add (a q s : Nat) (ha : a < 2 ^ s) : a ||| q * 2 ^ s = a + q * 2 ^ s := by
  rw [Nat.or_comm, Nat.mul_comm q, ← Nat.two_pow_add_eq_or_of_lt ha, Nat.add_comm]
theorem or_shl (a x s : Nat) (hs : s ≤ 63) (ha : a < 2 ^ s) (hx : x < 18446744073709551616) :
    bits .or .u64 (a : Int) (IntKind.u64.wrap ((x : Int) * 2 ^ s)) = ((a + x * 2 ^ s % W : Nat) : Int) ∧ a + x * 2 ^ s % W < W := by
  obtain ⟨q, hq, hql⟩ := shl_low x s (by omega)
  have h1 : a + q * 2 ^ s < W := by
    rw [← W_split (s := s) (by omega)]
    have : (q + 1) * 2 ^ s ≤ 2 ^ (64 - s) * 2 ^ s := Nat.mul_le_mul_right _ hql
    rw [Nat.add_mul] at this
    omega
  have hW : W = 18446744073709551616 := rfl
  rw [shl_wrap, hq, bits_or_u64_nat a (q * 2 ^ s) (by omega) (by omega), or_add a q s ha]
  exact ⟨rfl, h1⟩
end Go.Proofs.Ytnkembnachhicaa
