/- Bytes that came in. -/
import Derived.ProofKit
import Derived.OpenShut
import Derived.SizedLaws
import Derived.Test.YtfgjlljlgemecaaGreatProg
set_option linter.unusedVariables false
namespace Go.Proofs.YtfgjlljlgemecaaGreat
open Go.RowKit Go.ChangeShapes Go.WideShapes
/-- A slice of bytes, as it is read. -/
def BytesIn (w : World) (A : Option Addr) (len cap : Nat) (xs : List Int) : Prop :=
  xs.length = len ∧ len ≤ cap ∧ cap ≤ maxLen ∧ (∀ x ∈ xs, 0 ≤ x ∧ x < 256) ∧ (A = none → len = 0 ∧ cap = 0) ∧
    (∀ ad, A = some ad → ∀ j u, (xs.map (Value.int .u8))[j]? = some u → w.cell? (ad.add j) = some u) ∧ (∀ ad, A = some ad → 0 < len → ad.block < w.heap.size)
section
variable {H : Type} {enc : TypeId × Value → H} {w : World} {base : Nat} {spare : Nat → Bool} {held : Bool}
theorem bounds_u8 {x : Int} (h : (Lit.int .u8 x).wf = true) : 0 ≤ x ∧ x < 256 := by
  simp [Lit.wf, IntKind.min, IntKind.max, IntKind.bits, IntKind.signed] at h
  omega
theorem open_bytes {fuel : Nat} {c : Value} {x : DataW H × List MemPlace} (h : DataW.trod enc Tryz.prog w base spare held fuel 22 [c] = some x) :
    ∃ A len cap xs, c = .slice A len cap ∧ BytesIn w A len cap xs ∧ ((x.1 = .nil ∧ len = 0) ∨ ∃ es ss, x.1 = .slice es ss ∧ len ≤ es.length + ss.length) := by
  rcases open_ints Tryz.underlying22 Tryz.underlying5 (by kernel_rfl) h with ⟨hcs, rfl⟩ | ⟨a, len, cap, zs, hcs, -, hl, hm, hz, rfl, hcell, hwz⟩
  · injection hcs with hcs
    subst hcs
    exact ⟨none, 0, 0, [], rfl, ⟨rfl, Nat.le_refl _, Nat.zero_le _, fun x hx => (by cases hx), fun _ => ⟨rfl, rfl⟩, fun ad h => (by cases h), fun ad h => (by cases h)⟩, .inl ⟨rfl, rfl⟩⟩
  · injection hcs with hcs
    subst hcs
    have hzl : len ≤ zs.length := by rw [hz]; split <;> omega
    have hcs : ∀ ad, some a = some ad → ∀ j u, ((zs.take len).map (Value.int .u8))[j]? = some u → w.cell? (ad.add j) = some u := by
      intro ad had j u hu
      cases had
      rw [List.getElem?_map, List.getElem?_take] at hu
      split at hu
      · rename_i hj
        have hj2 : j < zs.length := by omega
        rw [List.getElem?_eq_getElem hj2] at hu
        cases hu
        rw [hcell j hj2]
        simp [List.getD, List.getElem?_eq_getElem hj2]
      · cases hu
    refine ⟨some a, len, cap, zs.take len, rfl, ⟨by simp; omega, hl, hm, fun x hx => bounds_u8 (hwz x (List.mem_of_mem_take hx)), fun h => (by cases h), hcs, ?_⟩, .inr ⟨_, _, rfl, ?_⟩⟩
    · intro ad had h0
      cases had
      have := hcell 0 (by omega)
      have := World.block_lt_of_cell? _ _ this
      simpa [Addr.add] using this
    · simp [lits]
      omega
end
end Go.Proofs.YtfgjlljlgemecaaGreat
