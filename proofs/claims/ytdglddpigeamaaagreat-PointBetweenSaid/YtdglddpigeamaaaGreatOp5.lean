/- Floor and Ceil stand below and above a value. Plain facts. The place of a value's top bit. Plain facts. What is near is not above, and the next one is. Plain facts. Integer and dyad arguments opened to their cells. Integers and balls that came in, opened to their cells. -/
import Derived.Test.YtdglddpigeamaaaGreatEvs
import Derived.Test.YtdglddpigeamaaaGreatCons
import Derived.ProofKit
import Derived.OpenShut
import Derived.Lib.SmallJoins
set_option linter.unusedVariables false
set_option linter.unusedSimpArgs false
namespace Go.Proofs.YtdglddpigeamaaaGreat
section
section
section
open Go.RowKit
open L (val dig nth)
theorem jm3 {K J : Nat} {V p : Int} (hKJ : K ≤ J) (hp : 0 ≤ p - K + J) : vFloor K V p = sv J V (p - K) / 2 ^ J := by
  have hq : ∀ (t : Int) (i j : Nat), t * 2 ^ i / 2 ^ (i + j) = t / 2 ^ j := by
    intro t i j; rw [Int.pow_add, Int.mul_comm t]; exact Int.mul_ediv_mul_of_pos _ _ (jcc i)
  unfold vFloor sv
  by_cases h : 0 ≤ p
  · rw [if_pos h, show (p - K + J).toNat = p.toNat + (J - K) from by omega, Int.pow_add, ← Int.mul_assoc]
    conv => rhs; rw [show J = (J - K) + K from by omega]
    rw [show J - K + K - K = J - K from by omega, hq]
  · rw [if_neg h]
    conv => rhs; rw [show J = (p - K + J).toNat + (K + (-p).toNat) from by omega]
    rw [show (p - K + ((p - K + J).toNat + (K + (-p).toNat) : Nat)).toNat = (p - K + J).toNat from by omega, hq]
theorem jvn {K J : Nat} {V p : Int} (hKJ : K ≤ J) (hp : 0 ≤ p - K + J) : vCeil K V p = -(-sv J V (p - K) / 2 ^ J) := by
  unfold vCeil; rw [jm3 hKJ hp, jpa]
section
variable {X D f c : Int} (hD : 0 < D) (hf : f = X / D) (hc : c = -(-X / D))
include hD hf hc
theorem jzb : f * D ≤ X ∧ X ≤ c * D ∧ 0 ≤ c - f ∧ c - f ≤ 1 ∧ (c - f = 0 ↔ f * D = X) ∧ X < f * D + D ∧ c * D < X + D := by
  have h1 := Int.mul_ediv_add_emod X D; have h2 := Int.emod_nonneg X (show D ≠ 0 by omega); have h3 := Int.emod_lt_of_pos X hD; have h4 := Int.mul_ediv_add_emod (-X) D; have h5 := Int.emod_nonneg (-X) (show D ≠ 0 by omega); have h6 := Int.emod_lt_of_pos (-X) hD; rw [← hf, Int.mul_comm] at h1; rw [show -X / D = -c from by omega, Int.mul_neg, Int.mul_comm] at h4; have h7 : (c - f) * D = X % D + -X % D := by rw [Int.sub_mul]; omega
  have h8 : 0 ≤ c - f := by
    rcases Int.lt_or_le (c - f) 0 with h | h
    · have : (c - f) * D < 0 := Int.mul_neg_of_neg_of_pos h hD
      omega
    · exact h
  have h9 : c - f ≤ 1 := by
    rcases Int.lt_or_le 1 (c - f) with h | h
    · have : 2 * D ≤ (c - f) * D := Int.mul_le_mul_of_nonneg_right (by omega) (by omega)
      omega
    · exact h
  refine ⟨by omega, by omega, h8, h9, ?_, by omega, by omega⟩
  constructor
  · intro h; rw [h, Int.zero_mul] at h7; omega
  · intro h
    have h10 : (c - f) * D < 1 * D := by omega
    have := Int.lt_of_mul_lt_mul_right h10 (by omega)
    omega
end
section
variable {K J : Nat} {lo hi V p : Int}
theorem InV.shift (h : InV K lo hi V) (hp : 0 ≤ p - K + J) (hl : 0 ≤ lo + p + J) : InV J (lo + p) (hi + p) (sv J V (p - K)) := by
  obtain ⟨a, b, ⟨u, hu⟩, c⟩ := h; have hpos : 0 ≤ hi + p + J := by omega
  refine ⟨hl, hpos, ⟨u, ?_⟩, ?_⟩
  · rw [hu]; unfold sv
    rw [Int.mul_assoc, ← Int.pow_add]; congr 2; omega
  · rw [jdq, show (hi + p + J).toNat = (hi + K).toNat + (p - K + J).toNat from by omega, Nat.pow_add]
    exact Nat.mul_lt_mul_of_pos_right c (Nat.two_pow_pos _)
theorem InV.of_near {X L : Int} {h : Int} (hh : 0 ≤ h) (hX : X.natAbs < 2 ^ (h + J).toNat) (hL : (L - X).natAbs < 2 ^ J) : L.natAbs < 2 ^ (h + 1 + J).toNat := by
  have h1 : 2 ^ J ≤ 2 ^ (h + J).toNat := Nat.pow_le_pow_right (by omega) (by omega); rw [show (h + 1 + (J : Int)).toNat = (h + J).toNat + 1 from by omega, Nat.pow_succ]
  omega
theorem InV.floor (h : InV K lo hi V) (hKJ : K ≤ J) (hp : 0 ≤ p - K + J) (hl : 0 ≤ lo + p + J) (hh : 0 ≤ hi + p) : InV J 0 (hi + p + 1) (sv J (vFloor K V p) 0) ∧ InV J 0 (hi + p + 1) (sv J (vCeil K V p) 0) := by
  have hX := h.shift hp hl; have hD : (0 : Int) < 2 ^ J := jcc J; have hfl := jzb (X := sv J V (p - K)) hD (jm3 hKJ hp) (jvn hKJ hp); have hs : ∀ u, sv J u 0 = u * 2 ^ J := by intro u; unfold sv; rw [show (0 + (J : Int)).toNat = J from by omega]
  have hDn : ((2 : Int) ^ J) = ((2 ^ J : Nat) : Int) := natpow J; refine ⟨⟨by omega, by omega, ⟨_, rfl⟩, ?_⟩, ⟨by omega, by omega, ⟨_, rfl⟩, ?_⟩⟩
  · exact InV.of_near hh hX.2.2.2 (by rw [hs]; omega)
  · exact InV.of_near hh hX.2.2.2 (by rw [hs]; omega)
end
end
end
section
section
open Go.RowKit
open L (val dig nth)
section
variable {K J : Nat} {V V' lo hi : Int}
theorem InV.lg (h : InV K lo hi V) (h0 : V ≠ 0) : lo ≤ Proofs.YtdglddpigeamaaaGreat.lg K V ∧ Proofs.YtdglddpigeamaaaGreat.lg K V < hi := by
  obtain ⟨a, b, ⟨u, hu⟩, c⟩ := h; refine ⟨(jw1 h0 a).2 ?_, (jy3 h0 b).2 c⟩; rw [hu, jdq]; have : u ≠ 0 := by rintro rfl; exact h0 (by rw [hu, jff])
  exact Nat.le_mul_of_pos_left _ (by omega)
end
end
end
section
section
open Go.RowKit
open L (val dig nth)
section
variable {z x V : Int} {n : Int}
end
end
end
section
section
open Go.RowKit Go.ChangeShapes Go.WideShapes
open L (val dig nth)
theorem jg4 {n : Int} (h : (Lit.int .u64 n).wf = true) : 0 ≤ n ∧ n < 18446744073709551616 := by
  have := bounds_u64 h
  omega
section
variable {H : Type} {enc : TypeId × Value → H} {w : World} {base : Nat} {spare : Nat → Bool} {held : Bool}
set_option maxRecDepth 100000 in
theorem jos {fuel : Nat} {c : Value} {x : DataW H × List MemPlace} (h : DataW.trod enc Tryz.prog w base spare held fuel 22 [c] = some x) : ∃ A l k L, c = .slice A l k ∧ Nums w 0 (.slice A l k) L := by
  rcases open_ints Tryz.underlying22 Tryz.underlying36 (by kernel_rfl) h with ⟨hcs, -⟩ | ⟨a, len, cap, zs, hcs, -, hl, hm, hz, -, hcell, hwz⟩
  · injection hcs with hcs
    subst hcs; exact ⟨none, 0, 0, [], rfl, Nums.nil _ _⟩
  · injection hcs with hcs
    subst hcs; have hzl : len ≤ zs.length := by rw [hz]; split <;> omega
    refine ⟨some a, len, cap, (zs.take len).map Int.toNat, rfl, ?_⟩; have hlen : ((zs.take len).map Int.toNat).length = len := by simp; omega
    refine ⟨some a, cap, by rw [hlen], ⟨by omega, fun h0 => absurd h0 (Nat.lt_irrefl 0)⟩, by simpa only [maxLen] using hm, ?_, ?_⟩
    · intro y hy
      obtain ⟨n, hn, rfl⟩ := List.mem_map.1 hy; have := jg4 (hwz n (List.mem_of_mem_take hn)); unfold W; omega
    · intro h0
      rw [hlen] at h0; have h00 := hcell 0 (by omega); have hspot : (a.add 0).spot = none := World.cell?_spot h00; obtain ⟨b, off, spot⟩ := a; have hs : spot = none := by simpa [Addr.add] using hspot
      subst hs; refine ⟨b, off, rfl, Nat.zero_le _, ?_, ?_⟩
      · have := World.block_lt_of_cell? _ _ h00
        simpa [Addr.add] using this
      · intro i hi
        rw [hlen] at hi; have hi' := hcell i (by omega); have hadd : (⟨b, off, none⟩ : Addr).add i = ⟨b, off + i, none⟩ := by unfold Addr.add; split <;> simp_all
        rw [hadd] at hi'; rw [hi']; have hb := jg4 (hwz (zs.getD i 0) (by rw [List.getD_eq_getElem?_getD, List.getElem?_eq_getElem (by omega)]; exact List.getElem_mem _))
        congr 2
        rw [L.nth_def, List.getD_eq_getElem?_getD (l := List.map _ _), List.getElem?_map, List.getElem?_take_of_lt hi, List.getElem?_eq_getElem (by omega)]; rw [List.getD_eq_getElem?_getD, List.getElem?_eq_getElem (by omega)] at hb ⊢; simp only [Option.map_some, Option.getD_some] at hb ⊢
        omega
end
end
end
end
section
section
open Go.RowKit Go.ChangeShapes Go.WideShapes Go.ChangeAt
open L (val dig nth)
section
variable {H : Type} {enc : TypeId × Value → H} {w : World} {base : Nat} {spare : Nat → Bool} {held : Bool}
set_option maxRecDepth 100000 in
theorem jg5 {n : Nat} {c0 c1 : Value} {y : DataW H × List MemPlace} (g : DataW.trod enc Tryz.prog w base spare held n 24 [c0, c1] = some y) : ∃ n A l k, c0 = .bool n ∧ c1 = .slice A l k ∧ ∃ L, Nums w 0 (.slice A l k) L := by
  obtain ⟨xs', n', -, -, -, hlen', hg'⟩ := DataW.trod_struct Tryz.underlying24 g; have i0 := hg' 0 _ rfl; have i1 := hg' 1 _ rfl; clear hg'; have hl2' : xs'.length = 2 := hlen'
  obtain ⟨u0, u1, rfl⟩ : ∃ a b, xs' = [a, b] := by
    match xs', hl2' with
    | [a, b], _ => exact ⟨a, b, rfl⟩
  have i0' : DataW.trod enc Tryz.prog w base spare held n' 4 [c0] = some u0 := i0; have i1' : DataW.trod enc Tryz.prog w base spare held n' 22 [c1] = some u1 := i1; clear i0 i1; obtain ⟨A, ll, k, L, rfl, hL⟩ := jos i1'; obtain ⟨b, e0, -⟩ := DataW.trod_bool Tryz.underlying4 i0'; simp at e0; subst e0; exact ⟨b, A, ll, k, rfl, rfl, L, hL⟩
set_option maxRecDepth 100000 in
theorem jkf {r : Reach} {b0 : Nat} {v : Value} {d : DataW H} {p : List MemPlace} (hv : Value.okWide Tryz.prog w r b0 26 v) (h : DataW.Trod enc Tryz.prog w base spare held 26 v d p) :
    ∃ n A l k n' A' l' k' x, v = .agg #[.bool n, .slice A l k, .bool n', .slice A' l' k', .int .i64 x] ∧ (∃ L, Nums w 0 (.slice A l k) L) ∧ (∃ L, Nums w 0 (.slice A' l' k') L) ∧ (Lit.int .i64 x).wf = true := by
  obtain ⟨cs, rfl, hsz⟩ := okWide_struct Tryz.underlying26 hv; obtain ⟨l⟩ := cs; have hl3 : l.length = 5 := hsz
  obtain ⟨c0, c1, c2, c3, c4, rfl⟩ : ∃ a b c d e, l = [a, b, c, d, e] := by
    match l, hl3 with
    | [a, b, c, d, e], _ => exact ⟨a, b, c, d, e, rfl⟩
  obtain ⟨fuel, hf⟩ := h; obtain ⟨xs, n, -, -, -, hlen, hg⟩ := DataW.trod_struct Tryz.underlying26 hf; have g0 := hg 0 _ rfl; have g1 := hg 1 _ rfl; have g2 := hg 2 _ rfl; clear hg; have hl2 : xs.length = 3 := hlen
  obtain ⟨y0, y1, y2, rfl⟩ : ∃ a b c, xs = [a, b, c] := by
    match xs, hl2 with
    | [a, b, c], _ => exact ⟨a, b, c, rfl⟩
  have g0' : DataW.trod enc Tryz.prog w base spare held n 24 [c0, c1] = some y0 := g0; have g1' : DataW.trod enc Tryz.prog w base spare held n 24 [c2, c3] = some y1 := g1; have g2' : DataW.trod enc Tryz.prog w base spare held n 3 [c4] = some y2 := g2; clear g0 g1 g2; obtain ⟨n, A, l, k, rfl, rfl, hL⟩ := jg5 g0'; obtain ⟨n', A', l', k', rfl, rfl, hL'⟩ := jg5 g1'; obtain ⟨x, e1, -, wx⟩ := DataW.trod_int Tryz.underlying3 g2'; simp at e1; subst e1; exact ⟨n, A, l, k, n', A', l', k', x, rfl, hL, hL', wx⟩
end
end
end
end Go.Proofs.YtdglddpigeamaaaGreat