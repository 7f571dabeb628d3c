/- wal: read. -/
import Derived.Test.YtdlokmlcdlcfaaaWa1
set_option linter.unusedVariables false
set_option linter.unusedSimpArgs false
namespace Go.Proofs.Ytdlokmlcdlcfaaa
open Go.RowKit Go.MapKept
/-- A number, of its bytes. -/
def le : List UInt8 → Nat
  | [] => 0
  | b :: l => b.toNat + 256 * le l
theorem le_lt : ∀ l : List UInt8, le l < 2 ^ (8 * l.length)
  | [] => Nat.one_pos
  | b :: l => by
    have h := le_lt l
    have hb := b.toNat_lt
    unfold le
    rw [List.length_cons, Nat.mul_add, Nat.pow_add]
    omega
theorem le_snoc : ∀ (l : List UInt8) (x : UInt8), le (l ++ [x]) = le l + x.toNat * 2 ^ (8 * l.length)
  | [], x => by simp [le]
  | b :: l, x => by
    have h := le_snoc l x
    show b.toNat + 256 * le (l ++ [x]) = b.toNat + 256 * le l + _
    rw [h, List.length_cons, Nat.mul_add 8, Nat.pow_add, Nat.mul_add, ← Nat.mul_assoc, ← Nat.add_assoc, Nat.mul_comm 256 x.toNat, Nat.mul_assoc, Nat.mul_comm 256, Nat.mul_comm 256 (2 ^ (8 * l.length))]
theorem u64_id {n : Int} (h : 0 ≤ n ∧ n < 18446744073709551616) : IntKind.u64.wrap n = n := by
  rw [IntKind.wrap_u64]
  omega
theorem or_nat {a b : Nat} (ha : a < 18446744073709551616) (hb : b < 18446744073709551616) : bits .or .u64 (a : Int) (b : Int) = ((a ||| b : Nat) : Int) := by
  have e : ∀ n : Nat, n < 18446744073709551616 → (BitVec.ofInt 64 (n : Int)).toNat = n := fun n h => by
    rw [BitVec.toNat_ofInt]
    omega
  show IntKind.u64.wrap ((BitVec.ofInt 64 (a : Int) ||| BitVec.ofInt 64 (b : Int)).toNat : Nat) = _
  rw [BitVec.toNat_or, e a ha, e b hb, u64_id]
  exact ⟨by omega, by have := Nat.or_lt_two_pow (n := 64) ha hb; omega⟩
theorem or_shift {n k : Nat} (x : UInt8) (hk : k < 8) (hn : n < 2 ^ (8 * k)) : bits .or .u64 (n : Int) (IntKind.u64.wrap (IntKind.u64.wrap (x.toNat : Int) * 2 ^ (8 * k))) = ((n + x.toNat * 2 ^ (8 * k) : Nat) : Int) := by
  have hx := x.toNat_lt
  have hp : 2 ^ (8 * k) ≤ 72057594037927936 := Nat.pow_le_pow_right (by decide) (show 8 * k ≤ 56 by omega)
  have hm : x.toNat * 2 ^ (8 * k) ≤ 255 * 72057594037927936 := Nat.mul_le_mul (by omega) hp
  rw [u64_id (n := (x.toNat : Int)) ⟨by omega, by omega⟩]
  have e : ((x.toNat : Int) * 2 ^ (8 * k)) = ((x.toNat * 2 ^ (8 * k) : Nat) : Int) := by simp
  rw [e, u64_id ⟨by omega, by omega⟩, or_nat (by omega) (by omega)]
  congr 1
  have := Nat.shiftLeft_add_eq_or_of_lt hn x.toNat
  rw [Nat.shiftLeft_eq] at this
  rw [Nat.or_comm, ← this]
  omega
set_option maxRecDepth 100000 in
set_option maxHeartbeats 2000000 in
theorem read8_calls (w : World) (v : Value) (l : List UInt8) (hv : Sl w v (cel l)) (hl : 8 ≤ l.length) :
    Calls Try.prog 48 #[v] w fun e w' => e = .returned (.int .u64 (le (l.take 8) : Int)) ∧ w' = w := by
  obtain ⟨A, c, rfl, hv1, hv2, hv3, hv4⟩ := hv
  rw [cel_length] at hv1 hv3 hv4 ⊢
  obtain ⟨b, o, rfl, hb, hr⟩ := hv4 (by omega)
  have h8 : (8 : Int) ≤ (l.length : Int) := by omega
  go_enter Try.func48, Try.ntmps48
  go_wp2_with fail
  go_loopw [3, 5] (fun a i wr => ∃ k : Nat, k ≤ 8 ∧ a = .int .u64 (le (l.take k) : Int) ∧ i = .int .i64 (k : Int) ∧ wr = w) (fun _ i _ => 8 - (intOf i).toNat)
  case atStart => exact ⟨0, Nat.zero_le _, rfl, rfl, rfl⟩
  case round =>
    obtain ⟨k, hk, rfl, rfl, rfl⟩ := hrel
    have hk0 : (0 : Int) ≤ (k : Int) := by omega
    have hkb : (k : Int) ≤ 8 := by omega
    by_cases hkl : k < 8
    · have hki : (k : Int) < 8 := by omega
      have hkj : (k : Int) < (l.length : Int) := by omega
      obtain ⟨x, hx⟩ : ∃ x, l[k]? = some x := ⟨_, List.getElem?_eq_getElem (by omega)⟩
      have hc : wr.cell? ⟨b, o + k, none⟩ = some (.int .u8 (x.toNat : Int)) := hr k _ (by unfold cel; rw [List.getElem?_map, hx]; rfl)
      go_wp2_with fail
      have hs : le (l.take (k + 1)) = le (l.take k) + x.toNat * 2 ^ (8 * k) := by
        rw [List.take_add_one, hx, Option.toList_some, le_snoc, List.length_take, Nat.min_eq_left (by omega)]
      have hlt := le_lt (l.take k)
      rw [List.length_take, Nat.min_eq_left (by omega)] at hlt
      rw [or_shift x hkl hlt]
      exact ⟨⟨k + 1, by omega, by rw [hs], rfl, trivial⟩, by simp only [intOf]; omega⟩
    · obtain rfl : k = 8 := by omega
      go_wp2_with fail
      go_ret
      exact ⟨rfl, rfl⟩
end Go.Proofs.Ytdlokmlcdlcfaaa
