/- Integer and dyad arguments opened to their cells. -/
import Derived.Test.YtnkembnachhicaaCon
import Derived.ProofKit
import Derived.OpenShut
import Derived.Lib.SmallJoins
set_option linter.unusedVariables false
namespace Go.Proofs.Ytnkembnachhicaa
open Go.RowKit Go.ChangeShapes Go.WideShapes
open L (val dig nth)

theorem bounds_limb {n : Int} (h : (Lit.int .u64 n).wf = true) : 0 ≤ n ∧ n < 18446744073709551616 := by
  have := bounds_u64 h
  omega
section
variable {H : Type} {enc : TypeId × Value → H} {w : World} {base : Nat} {spare : Nat → Bool} {held : Bool}
/-- A slice of limbs that came in. -/
theorem open_limbs {fuel : Nat} {c : Value} {x : DataW H × List MemPlace} (h : DataW.trod enc Try.prog w base spare held fuel 22 [c] = some x) : ∃ A l k L, c = .slice A l k ∧ Nums w 0 (.slice A l k) L := by
  rcases open_ints Try.underlying22 Try.underlying32 (by kernel_rfl) h with ⟨hcs, -⟩ | ⟨a, len, cap, zs, hcs, -, hl, hm, hz, -, hcell, hwz⟩
  · injection hcs with hcs
    subst hcs
    exact ⟨none, 0, 0, [], rfl, Nums.nil _ _⟩
  · injection hcs with hcs
    subst hcs
    have hzl : len ≤ zs.length := by rw [hz]; split <;> omega
    refine ⟨some a, len, cap, (zs.take len).map Int.toNat, rfl, ?_⟩
    have hlen : ((zs.take len).map Int.toNat).length = len := by simp; omega
    refine ⟨some a, cap, by rw [hlen], by omega, by simpa only [maxLen] using hm, ?_, ?_⟩
    · intro y hy
      obtain ⟨n, hn, rfl⟩ := List.mem_map.1 hy
      have := bounds_limb (hwz n (List.mem_of_mem_take hn))
      unfold W; omega
    · intro h0
      rw [hlen] at h0
      have h00 := hcell 0 (by omega)
      have hspot : (a.add 0).spot = none := World.cell?_spot h00
      obtain ⟨b, off, spot⟩ := a
      have hs : spot = none := by simpa [Addr.add] using hspot
      subst hs
      refine ⟨b, off, rfl, Nat.zero_le _, ?_, ?_⟩
      · have := World.block_lt_of_cell? _ _ h00
        simpa [Addr.add] using this
      · intro i hi
        rw [hlen] at hi
        have hi' := hcell i (by omega)
        have hadd : (⟨b, off, none⟩ : Addr).add i = ⟨b, off + i, none⟩ := by unfold Addr.add; split <;> simp_all
        rw [hadd] at hi'
        rw [hi']
        have hb := bounds_limb (hwz (zs.getD i 0) (by rw [List.getD_eq_getElem?_getD, List.getElem?_eq_getElem (by omega)]; exact List.getElem_mem _))
        congr 2
        rw [L.nth_def, List.getD_eq_getElem?_getD (l := List.map _ _), List.getElem?_map, List.getElem?_take_of_lt hi, List.getElem?_eq_getElem (by omega)]
        rw [List.getD_eq_getElem?_getD, List.getElem?_eq_getElem (by omega)] at hb ⊢
        simp only [Option.map_some, Option.getD_some] at hb ⊢
        omega

/-- A dyad that came in. -/
theorem open_dyad {r : Reach} {b0 : Nat} {v : Value} {d : DataW H} {p : List MemPlace} (hv : Value.okWide Try.prog w r b0 26 v) (h : DataW.Trod enc Try.prog w base spare held 26 v d p) :
    ∃ n A l k x, v = .agg #[.bool n, .slice A l k, .int .i64 x] ∧ (∃ L, Nums w 0 (.slice A l k) L) ∧ (Lit.int .i64 x).wf = true := by
  obtain ⟨cs, rfl, hsz⟩ := okWide_struct Try.underlying26 hv
  obtain ⟨l⟩ := cs
  have hl3 : l.length = 3 := hsz
  obtain ⟨c0, c1, c2, rfl⟩ : ∃ a b c, l = [a, b, c] := by
    match l, hl3 with
    | [a, b, c], _ => exact ⟨a, b, c, rfl⟩
  obtain ⟨fuel, hf⟩ := h
  obtain ⟨xs, n, -, -, -, hlen, hg⟩ := DataW.trod_struct Try.underlying26 hf
  have g0 := hg 0 _ rfl
  have g1 := hg 1 _ rfl
  clear hg
  have hl2 : xs.length = 2 := hlen
  obtain ⟨y0, y1, rfl⟩ : ∃ a b, xs = [a, b] := by
    match xs, hl2 with
    | [a, b], _ => exact ⟨a, b, rfl⟩
  have g0' : DataW.trod enc Try.prog w base spare held n 24 [c0, c1] = some y0 := g0
  have g1' : DataW.trod enc Try.prog w base spare held n 3 [c2] = some y1 := g1
  clear g0 g1
  obtain ⟨xs', n', -, -, -, hlen', hg'⟩ := DataW.trod_struct Try.underlying24 g0'
  have i0 := hg' 0 _ rfl
  have i1 := hg' 1 _ rfl
  clear hg'
  have hl2' : xs'.length = 2 := hlen'
  obtain ⟨u0, u1, rfl⟩ : ∃ a b, xs' = [a, b] := by
    match xs', hl2' with
    | [a, b], _ => exact ⟨a, b, rfl⟩
  have i0' : DataW.trod enc Try.prog w base spare held n' 4 [c0] = some u0 := i0
  have i1' : DataW.trod enc Try.prog w base spare held n' 22 [c1] = some u1 := i1
  clear i0 i1
  obtain ⟨A, ll, k, L, rfl, hL⟩ := open_limbs i1'
  obtain ⟨b, e0, -⟩ := DataW.trod_bool Try.underlying4 i0'
  obtain ⟨x, e1, -, wx⟩ := DataW.trod_int Try.underlying3 g1'
  simp at e0 e1
  subst e0 e1
  exact ⟨b, A, ll, k, x, rfl, ⟨L, hL⟩, wx⟩
end
end Go.Proofs.Ytnkembnachhicaa
