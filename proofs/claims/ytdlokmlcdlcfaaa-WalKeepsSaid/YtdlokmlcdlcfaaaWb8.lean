/- wal: lie, Save. -/
import Derived.Test.YtdlokmlcdlcfaaaWb7
set_option linter.unusedVariables false
set_option linter.unusedSimpArgs false
namespace Go.Proofs.Ytdlokmlcdlcfaaa
open Go.RowKit Go.MapKept Go.Shelf
theorem i64_and1 (n : Int) : bits .and .i64 n 1 = n % 2 := by
  have h1 : (BitVec.ofInt 64 1).toNat = 2 ^ 1 - 1 := by decide
  have key : (BitVec.ofInt 64 n &&& BitVec.ofInt 64 1).toNat = (n % ((2 ^ 64 : Nat) : Int)).toNat % 2 ^ 1 := by
    rw [BitVec.toNat_and, BitVec.toNat_ofInt, h1, Nat.and_two_pow_sub_one_eq_mod]
  show IntKind.i64.wrap ((BitVec.ofInt 64 n &&& BitVec.ofInt 64 1).toNat : Nat) = n % 2
  rw [key, IntKind.wrap_i64]
  omega
theorem u64_and1 (n : Int) (hn : 0 ≤ n ∧ n < 18446744073709551616) : bits .and .u64 n 1 = n % 2 := by
  have h1 : (BitVec.ofInt 64 1).toNat = 2 ^ 1 - 1 := by decide
  have key : (BitVec.ofInt 64 n &&& BitVec.ofInt 64 1).toNat = (n % ((2 ^ 64 : Nat) : Int)).toNat % 2 ^ 1 := by
    rw [BitVec.toNat_and, BitVec.toNat_ofInt, h1, Nat.and_two_pow_sub_one_eq_mod]
  show IntKind.u64.wrap ((BitVec.ofInt 64 n &&& BitVec.ofInt 64 1).toNat : Nat) = n % 2
  rw [key, IntKind.wrap_u64]
  omega
set_option maxRecDepth 100000 in
set_option maxHeartbeats 4000000 in
theorem lie_calls {w : World} {D : Nat} {F : Nat → Prop} {d : DS} (h : DiskAt w D F d) (fr ea : Int) (hfr : 0 ≤ fr) (hea : 1 ≤ ea) (hn : fr + 2 * ea ≤ d.n) :
    Calls Try.prog 47 #[.pointer (some ⟨D, 0, none⟩), .int .i64 fr, .int .i64 ea] w fun e w' => e = .returned (.bool true) ∧ w' = w := by
  have hdn := h.ok.n
  have e1 : ea ≤ d.n := by omega
  have e2 : IntKind.i64.wrap (2 * ea) = 2 * ea := IntWalk.i64_in _ (by omega)
  have e3 : IntKind.i64.wrap (d.n - 2 * ea) = d.n - 2 * ea := IntWalk.i64_in _ (by omega)
  have e4 : fr ≤ d.n - 2 * ea := by omega
  go_enter Try.func47, Try.ntmps47
  go_wp2_with (go_at_call 21; (refine (size_calls h).mono ?_); rintro e w1 ⟨rfl, hw1⟩; subst hw1)
  go_ret
  exact ⟨rfl, rfl⟩
def slot4 : List UInt8 := [83, 76, 79, 84]
namespace DS
def sav1 (d : DS) (a : Int) : Int × DS := d.firmly a [0]
def sav2 (d : DS) (a : Int) (b : List UInt8) : Int × DS := if (d.sav1 a).1 = 0 then (d.sav1 a).2.firmly (a + 1) b else d.sav1 a
def sav (d : DS) (a : Int) (gen : Nat) (b : List UInt8) : Int × DS := if (d.sav2 a b).1 = 0 then (d.sav2 a b).2.firmly a (headS slot4 gen 0 b) else d.sav2 a b
end DS
set_option maxRecDepth 100000 in
set_option maxHeartbeats 4000000 in
theorem save_calls {w0 w : World} {D : Nat} {F : Nat → Prop} {d : DS} (h : Own w0 w D F d) (hf : d.loose.length ≤ 700000) (hk : d.keep.length ≤ 140737488355328) (fr ea : Int) (hfr : 0 ≤ fr) (hea : 1 ≤ ea) (hn : fr + 2 * ea ≤ d.n) (gen : Nat) (hg : 1 ≤ gen ∧ gen ≤ 1000000)
    (v : Value) (b : List UInt8) (hv : Sl w v (cel b)) (hvF : 0 < b.length → ∀ q, v.ownBlock = some q → ¬F q) (hl : b.length ≤ 100000) (hs : (secs b.length : Int) ≤ ea - 1) :
    Calls Try.prog 27 #[.pointer (some ⟨D, 0, none⟩), .int .i64 fr, .int .i64 ea, .int .i64 (gen : Int), v] w fun e w' => e = .returned (.int .i64 (d.sav (fr + ea * ((gen : Int) % 2)) gen b).1) ∧ OwnL w0 w D F (d.sav (fr + ea * ((gen : Int) % 2)) gen b).2 w' := by
  obtain ⟨A, c, hv', hc1, -, -, -⟩ := id hv
  obtain ⟨m, hm⟩ : ∃ m, b.length = m := ⟨_, rfl⟩
  rw [cel_length, hm] at hv'
  subst hv'
  have hdn := h.disk.ok.n
  have hsc := sectors_calls w b.length (by omega)
  rw [show (b.length + 511) / 512 = secs b.length from rfl] at hsc
  have hse : secs b.length ≤ 4096 := by omega
  have L0 : secs [(0 : UInt8)].length = 1 := by decide
  obtain ⟨s, hss⟩ : ∃ s, secs b.length = s := ⟨_, rfl⟩
  obtain ⟨x, hx⟩ : ∃ x : Int, (gen : Int) % 2 = x := ⟨_, rfl⟩
  have hx2 : x = 0 ∨ x = 1 := by omega
  obtain ⟨y, hy⟩ : ∃ y : Int, ea * x = y := ⟨_, rfl⟩
  have hy2 : 0 ≤ y ∧ y ≤ ea := by rcases hx2 with rfl | rfl <;> omega
  have hand : bits .and .i64 (gen : Int) 1 = x := by rw [i64_and1, hx]
  have e1 : IntKind.i64.wrap (ea * x) = y := by rw [hy]; exact IntWalk.i64_in _ (by omega)
  have e1w : wrap64 (ea * x) = y := by rw [hy]; unfold wrap64; omega
  rw [hx, hy]
  rw [hss] at hsc hs hse
  rw [hm] at hsc hl
  obtain ⟨a, haa⟩ : ∃ a, fr + y = a := ⟨_, rfl⟩
  have e2 : IntKind.i64.wrap (fr + y) = a := by rw [haa]; exact IntWalk.i64_in _ (by omega)
  have e2w : wrap64 (fr + y) = a := by rw [haa]; unfold wrap64; omega
  have e3 : IntKind.i64.wrap (a + 1) = a + 1 := IntWalk.i64_in _ (by omega)
  have e4 : IntKind.i64.wrap (ea - 1) = ea - 1 := IntWalk.i64_in _ (by omega)
  have e5 : ¬ea - 1 < (s : Int) := by omega
  have hg0 : (1 : Int) ≤ (gen : Int) := by omega
  have hg1 : (gen : Int) ≤ 4611686018427387904 := by omega
  rw [haa]
  have ha : 0 ≤ a ∧ a ≤ 10000 := by omega
  clear hx hy haa
  have L1 := DS.firmly_len d a [0]
  obtain ⟨p1, hp1⟩ : ∃ p1, d.sav1 a = p1 := ⟨_, rfl⟩
  obtain ⟨p2, hp2⟩ : ∃ p2, d.sav2 a b = p2 := ⟨_, rfl⟩
  obtain ⟨p3, hp3⟩ : ∃ p3, d.sav a gen b = p3 := ⟨_, rfl⟩
  have E2 := hideK (show p2 = if p1.1 = 0 then p1.2.firmly (a + 1) b else p1 by rw [← hp2, ← hp1]; rfl)
  have E3 := hideK (show p3 = if p2.1 = 0 then p2.2.firmly a (headS slot4 gen 0 b) else p2 by rw [← hp3, ← hp2]; rfl)
  rw [hp3]
  have E1 : d.firmly a [0] = p1 := hp1
  rw [E1, L0] at L1
  clear hp1 hp2 hp3 L0
  obtain ⟨i0, hi, hz0, hz1, hz2⟩ := info_parts inf1
  go_enter Try.func27, Try.ntmps27
  go_wp2_with (first
    | (go_at_call 47; (refine (lie_calls h.disk fr ea hfr hea hn).mono ?_); rintro e w1 ⟨rfl, hw1⟩; subst hw1)
    | (go_at_call 43; (refine hsc.mono ?_); rintro e w2 ⟨rfl, hw2⟩; subst hw2)
    | (at_make; refine wpList_make_full _ rfl _ _ 30 rfl _ 5 i0 (.int .u8 0) 1 Try.underlying30 hi hz0 hz1 _ _ _ _ 1 rfl rfl rfl rfl (by rw [hz2]; omega) (by simp only [maxLen]; omega) (Nat.le_refl _) ?_; intro w3 hown hgr))
  have hB3 : Below w2.heap.size w2 w3 := (Below.refl _ w2).grown hgr (Nat.le_refl _) (by intro k hk; cases hk)
  have hO3 := h.over hB3
  have hmd : (madeCells (Value.int IntKind.u8 0).cells (1 * 1)).toList = cel [0] := by kernel_rfl
  rw [hmd] at hown
  have hz : Sl w3 (.slice (some ⟨w2.heap.size, 0, none⟩) 1 1) (cel [0]) := Sl.own (show w3.ownsRow w2.heap.size 5 1 (.slice (some ⟨w2.heap.size, 0, none⟩) 1 1) 1 (cel [0]) from hown)
  have hf1 := firmly_calls hO3 (by omega) hk a (by omega) _ [0] hz (fun _ q hq hF => by
    obtain rfl : w2.heap.size = q := by simpa [Value.ownBlock] using hq
    have := h.disk.lt _ hF
    omega) (by decide)
  rw [E1] at hf1
  clear hown hz hsc
  go_wp2_with fail
  refine hf1.mono ?_
  rintro e w4 ⟨rfl, G1, g1, g2, g3⟩
  have k2 : Chg F w2 w4 := (Chg.of_below hB3).trans g2
  have k3 : ∀ q, G1 q → F q ∨ w2.heap.size ≤ q := grow_step hB3.size (fun q hq => .inl hq) g3
  clear g2 g3
  by_cases h0 : p1.1 = 0
  · have h0b : (p1.1 == 0) = true := by simpa using h0
    have hp2 : p2 = p1.2.firmly (a + 1) b := by rw [E2.out, if_pos h0]
    have hsl4 : Sl w4 (.slice A m c) (cel b) := hv.chg k2 fun h0 q hq => hvF (by rwa [cel_length] at h0) q hq
    have hb4 : 0 < b.length → ∀ q, (Value.slice A m c).ownBlock = some q → ¬G1 q := fun h0 q hq hG => (k3 q hG).elim (hvF h0 q hq) fun h => by have := hv.block_lt (by rw [cel_length]; exact h0) q hq; omega
    have hf2 := firmly_calls g1 (by omega) (by omega) (a + 1) (by omega) _ b hsl4 hb4 (by omega)
    rw [← hp2] at hf2
    have L2 := DS.firmly_len p1.2 (a + 1) b
    rw [← hp2, hss] at L2
    clear hp2 h0
    go_wp2_with fail
    refine hf2.mono ?_
    rintro e w5 ⟨rfl, G2, g2, g3, g4⟩
    have k4 : Chg F w2 w5 := k2.step g3 k3
    have k5 : ∀ q, G2 q → F q ∨ w2.heap.size ≤ q := grow_step k2.size k3 g4
    clear g3 g4
    by_cases h0 : p2.1 = 0
    · have h0b : (p2.1 == 0) = true := by simpa using h0
      have hp3 := hideK (show p3 = p2.2.firmly a (headS slot4 gen 0 b) by rw [E3.out, if_pos h0])
      have hsl5 : Sl w5 (.slice A m c) (cel b) := hv.chg k4 fun h0 q hq => hvF (by rwa [cel_length] at h0) q hq
      have hhd := head_calls w5 slot4 (by decide) gen 0 (by omega) (by omega) _ b hsl5 (by omega)
      rw [show bstr slot4 = ⟨#[83, 76, 79, 84]⟩ from rfl, show (((0 : Nat)) : Int) = 0 from rfl] at hhd
      have hhl : (headS slot4 gen 0 b).length = 36 := by unfold headS; rw [List.length_append, hdk_len, num8_len]; rfl
      clear h0
      go_wp2_with fail
      refine hhd.mono ?_
      rintro e w6 ⟨v6, rfl, hm6, hB6, hO6⟩
      have hO7 := g2.over hB6
      have hf3 := firmly_calls hO7 (by omega) (by omega) a (by omega) v6 _ hm6.sl (fun h0 q hq hg => by have h1 := g2.disk.lt q hg; have h2 := hO6 q hq; omega) (by omega)
      rw [← hp3.out] at hf3
      go_wp2_with fail
      refine hf3.mono ?_
      rintro e w7 ⟨rfl, hL⟩
      go_wp2_with fail
      go_ret
      exact ⟨rfl, OwnL.next (k4.trans (Chg.of_below hB6)) k5 hL⟩
    · have h0b : (p2.1 == 0) = false := by simpa using h0
      have hp3 := hideK (show p3 = p2 by rw [E3.out, if_neg h0])
      clear h0
      go_wp2_with fail
      go_ret
      rw [hp3.out]
      exact ⟨rfl, G2, g2, k4, k5⟩
  · have h0b : (p1.1 == 0) = false := by simpa using h0
    have hp2 := hideK (show p2 = p1 by rw [E2.out, if_neg h0])
    have hp3 := hideK (show p3 = p1 by rw [E3.out, hp2.out, if_neg h0])
    clear h0
    go_wp2_with fail
    go_ret
    rw [hp3.out]
    exact ⟨rfl, G1, g1, k2, k3⟩
end Go.Proofs.Ytdlokmlcdlcfaaa
