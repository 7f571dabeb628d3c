/- bits: Parts, Normal, Binade, First. -/
import Derived.Test.YtnkembnachhicaaText
set_option linter.unusedVariables false
namespace Go.Proofs.Ytnkembnachhicaa
open Go.RowKit
open L (val dig nth)

def pNeg (b : Nat) : Bool := decide (9223372036854775808 ≤ b)
def pFld (b : Nat) : Nat := b / 4503599627370496 % 2048
def pFrc (b : Nat) : Nat := b % 4503599627370496
theorem and52 (m : Nat) (hm : m < 18446744073709551616) : bits .and .u64 (m : Int) 4503599627370495 = ((m % 4503599627370496 : Nat) : Int) := by
  have h := bits_and_u64_nat m 4503599627370495 hm (by omega)
  have e : m &&& 4503599627370495 = m % 4503599627370496 := Nat.and_two_pow_sub_one_eq_mod m 52
  rw [e] at h
  exact h

theorem and11 (m : Nat) (hm : m < 65536) : bits .and .u16 (m : Int) 2047 = ((m % 2048 : Nat) : Int) := by
  have e : m &&& 2047 = m % 2048 := Nat.and_two_pow_sub_one_eq_mod m 11
  have h1 : (BitVec.ofInt 16 (m : Int)).toNat = m := by
    rw [BitVec.ofInt_natCast, BitVec.toNat_ofNat]; exact Nat.mod_eq_of_lt (by omega)
  have h2 : (BitVec.ofInt 16 (2047 : Int)).toNat = 2047 := by decide
  show IntKind.u16.wrap ((BitVec.ofInt 16 (m : Int) &&& BitVec.ofInt 16 (2047 : Int)).toNat : Int) = _
  rw [BitVec.toNat_and, h1, h2, e]
  rw [IntKind.wrap_u16]
  omega

theorem parts_calls (w : World) (b : Nat) (hb : b < W) :
    Calls Try.prog 23 #[.int .u64 b] w fun e w' => w = w' ∧ e = .returned (.tuple #[.bool (pNeg b), .int .i64 (pFld b : Nat), .int .u64 (pFrc b : Nat)]) := by
  unfold W at hb
  have h52 := and52 b hb
  have h11 : bits .and .u16 ((b : Int) / 4503599627370496) 2047 = (pFld b : Nat) := by
    have := and11 (b / 4503599627370496) (by omega)
    exact this
  have hw : IntKind.i64.wrap (pFld b : Nat) = (pFld b : Nat) := IntWalk.i64_in _ (by unfold pFld; omega)
  go_enter Try.func23, Try.ntmps23
  go_wp2_with fail
  go_ret3
  refine ⟨rfl, ?_⟩
  have e1 : ((b : Int) / 9223372036854775808 != 0) = pNeg b := by
    unfold pNeg
    by_cases h : 9223372036854775808 ≤ b
    · rw [decide_eq_true h, bne_iff_ne]; omega
    · rw [decide_eq_false h, bne_eq_false_iff_eq]; omega
  have e2 : (b : Int) % 4503599627370496 = (pFrc b : Nat) := by unfold pFrc; omega
  simp [e1, e2]

theorem pFld_lt (b : Nat) : pFld b < 2048 := Nat.mod_lt _ (by omega)
def pNorm (b : Nat) : Bool := decide (pFld b ≠ 0 ∧ pFld b ≠ 2047)
theorem normal_calls (w : World) (b : Nat) (hb : b < W) : Calls Try.prog 30 #[.int .u64 b] w fun e w' => w = w' ∧ e = .returned (.bool (pNorm b)) := by
  go_enter Try.func30, Try.ntmps30
  go_wp2_with fail
  refine (parts_calls _ b hb).mono ?_
  rintro e w1 ⟨rfl, rfl⟩
  by_cases h0 : pFld b = 0
  · have h0' : (((pFld b : Nat) : Int) != 0) = false := by rw [bne_eq_false_iff_eq]; omega
    have HN : Hid (pNorm b = false) := hide (by unfold pNorm; simp [h0])
    clear h0
    go_wp2_with fail
    go_ret
    exact ⟨rfl, ret_bool HN.out.symm⟩
  · have h0' : (((pFld b : Nat) : Int) != 0) = true := by rw [bne_iff_ne]; omega
    have HN : Hid (pNorm b = (((pFld b : Nat) : Int) != 2047)) := hide (by
      unfold pNorm
      by_cases h : pFld b = 2047
      · rw [show (((pFld b : Nat) : Int) != 2047) = false from by rw [bne_eq_false_iff_eq]; omega]; simp [h]
      · rw [show (((pFld b : Nat) : Int) != 2047) = true from by rw [bne_iff_ne]; omega]; simp [h0, h])
    clear h0
    go_wp2_with fail
    go_ret
    exact ⟨rfl, ret_bool HN.out.symm⟩

def bnE (b : Nat) : Int := if pNorm b then (pFld b : Int) - 1023 else 0
def bnX (b : Nat) : Int := if pNorm b then 0 else 1
theorem binade_calls (w : World) (b : Nat) (hb : b < W) : Calls Try.prog 28 #[.int .u64 b] w fun e w' => w = w' ∧ e = .returned (.tuple #[.int .i64 (bnE b), .int .i64 (bnX b)]) := by
  go_enter Try.func28, Try.ntmps28
  go_wp2_with fail
  refine (normal_calls _ b hb).mono ?_
  rintro e w1 ⟨rfl, rfl⟩
  obtain ⟨p, HP⟩ : ∃ p, Hid (pNorm b = p) := ⟨_, hide rfl⟩
  rw [HP.out]
  have hf := pFld_lt b
  cases p with
  | false =>
    go_wp2_with fail
    go_ret2
    refine ⟨rfl, ?_⟩
    rw [show bnE b = 0 from by unfold bnE; rw [HP.out]; rfl, show bnX b = 1 from by unfold bnX; rw [HP.out]; rfl]
    rfl
  | true =>
    go_wp2_with fail
    refine (parts_calls _ b hb).mono ?_
    rintro e w1 ⟨rfl, rfl⟩
    have hw : IntKind.i64.wrap ((pFld b : Nat) - 1023 : Int) = (pFld b : Nat) - 1023 := IntWalk.i64_in _ (by omega)
    go_wp2_with fail
    go_ret2
    refine ⟨rfl, ?_⟩
    rw [show bnE b = (pFld b : Int) - 1023 from by unfold bnE; rw [HP.out]; rfl, show bnX b = 0 from by unfold bnX; rw [HP.out]; rfl]
    rfl

def fsB (e : Int) : Nat := if e < -1022 ∨ 1023 < e then 0 else (e + 1023).toNat * 4503599627370496
def fsX (e : Int) : Int := if e < -1022 ∨ 1023 < e then 1 else 0
theorem first_calls (w : World) (x : Int) : Calls Try.prog 59 #[.int .i64 x] w fun e w' => w = w' ∧ e = .returned (.tuple #[.int .u64 (fsB x : Nat), .int .i64 (fsX x)]) := by
  go_enter Try.func59, Try.ntmps59
  by_cases h1 : x < -1022
  · have E1 : Hid (fsB x = 0) := hide (by unfold fsB; rw [if_pos]; omega)
    have E2 : Hid (fsX x = 1) := hide (by unfold fsX; rw [if_pos]; omega)
    go_wp2_with fail
    go_ret2
    refine ⟨rfl, ?_⟩
    rw [E1.out, E2.out]
    rfl
  · by_cases h2 : 1023 < x
    · have E1 : Hid (fsB x = 0) := hide (by unfold fsB; rw [if_pos]; omega)
      have E2 : Hid (fsX x = 1) := hide (by unfold fsX; rw [if_pos]; omega)
      go_wp2_with fail
      go_ret2
      refine ⟨rfl, ?_⟩
      rw [E1.out, E2.out]
      rfl
    · have E1 : Hid (fsB x = (x + 1023).toNat * 4503599627370496) := hide (by unfold fsB; rw [if_neg]; omega)
      have E2 : Hid (fsX x = 0) := hide (by unfold fsX; rw [if_neg]; omega)
      have hw1 : IntKind.i64.wrap (x + 1023) = x + 1023 := IntWalk.i64_in _ (by omega)
      have hw2 : IntKind.u64.wrap (x + 1023) = x + 1023 := by rw [IntKind.wrap_u64]; omega
      have hw3 : IntKind.u64.wrap ((x + 1023) * 4503599627370496) = (x + 1023) * 4503599627370496 := by rw [IntKind.wrap_u64]; omega
      go_wp2_with fail
      go_ret2
      refine ⟨rfl, ?_⟩
      rw [E1.out, E2.out, show (((x + 1023).toNat * 4503599627370496 : Nat) : Int) = (x + 1023) * 4503599627370496 from by omega]
      rfl
end Go.Proofs.Ytnkembnachhicaa
