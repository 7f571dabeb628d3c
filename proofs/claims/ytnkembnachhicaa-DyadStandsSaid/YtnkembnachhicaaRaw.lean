/- A limb of a slice of one's own is written. -/
import Derived.Test.YtnkembnachhicaaCons
set_option linter.unusedVariables false
namespace Go.Proofs.Ytnkembnachhicaa
open Go.RowKit
open L (val dig nth)

/-- A slice of one's own: where its cells lie, and that they may be written. -/
theorem Nums.room {w : World} {B len cap : Nat} {A : Option Addr} {l : List Nat} (h : Nums w B (.slice A len cap) l) {k : Nat} (hk : k < l.length) (hB : 0 < B) :
    ∃ b off, A = some ⟨b, off, none⟩ ∧ B ≤ b ∧ b < w.heap.size ∧ w.cell? ⟨b, off + k, none⟩ = some (.int .u64 (nth l k : Nat)) ∧ w.frozen? ⟨b, off + k, none⟩ = false ∧ len = l.length := by
  obtain ⟨A', cap', h1, h2, h3, h4, h5⟩ := h
  injection h1 with e1 e2 e3
  subst e1
  obtain ⟨b, off, a1, a2, a3, a4⟩ := h5 (by omega)
  exact ⟨b, off, a1, a2, a3, a4 k hk, by have := h2.2 hB _ a1 k hk; exact this, e2⟩
theorem Nums.set_ {w : World} {B b off len cap : Nat} {l : List Nat} (h : Nums w B (.slice (some ⟨b, off, none⟩) len cap) l) {k x : Nat} (hk : k < l.length) (hx : x < W) {z : Int} (hz : z = x) :
    Nums (w.setCell ⟨b, off + k, none⟩ (.int .u64 z)) B (.slice (some ⟨b, off, none⟩) len cap) (l.set k x) := by
  subst hz
  obtain ⟨A', cap', h1, h2, h3, h4, h5⟩ := h
  injection h1 with e1 e2 e3
  subst e1
  subst e3
  have hlen : (l.set k x).length = l.length := List.length_set
  refine ⟨_, cap, by rw [hlen, ← e2], ⟨by rw [hlen]; exact h2.1, fun hB a ha i hi => ?_⟩, h3, L.mem_set_lt l h4 k x hx, fun hp => ?_⟩
  · cases ha
    have := h2.2 hB _ rfl i (by omega)
    obtain ⟨b', off', a1, a2, a3, a4⟩ := h5 (by omega)
    cases a1
    unfold World.frozen? World.setCell at *
    simp only [Array.getElem?_modify, if_pos] at *
    revert this
    cases w.heap[b]? with
    | none => simp
    | some o => cases o <;> simp
  · obtain ⟨b', off', a1, a2, a3, a4⟩ := h5 (by omega)
    cases a1
    refine ⟨b, off, rfl, a2, by simpa [World.setCell] using a3, fun i hi => ?_⟩
    have hi' : i < l.length := by omega
    by_cases hik : i = k
    · subst hik
      rw [World.cell?_setCell_same w _ _ (a4 i hi'), L.getD_set_self _ _ _ hk]
    · rw [World.cell?_setCell_other _ _ _ _ (by intro hh; injection hh with _ h2 _; omega), L.getD_set_ne _ _ _ _ (by omega)]
      exact a4 i hi'
end Go.Proofs.Ytnkembnachhicaa
