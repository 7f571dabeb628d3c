/- hairlineref06: wave. -/
import Derived.Test.YtnephejalollfaaGreatRh
set_option linter.unusedVariables false
set_option linter.unusedSimpArgs false
namespace Go.Proofs.YtnephejalollfaaGreat
open Go.RowKit
open L (val dig nth)
theorem RowW.ne {w : World} {B k : Nat} {v : Value} {zs : List Int} (h : RowW w B k v zs) {g : Nat} (hg : g < B) : v.ownBlock ≠ some g := fun e => by have := (h.lt g e).1; omega
theorem RowR.congr {w : World} {g k L : Nat} {a b : Nat → Int} (h : RowR w g k L a) (e : ∀ j, j < L → a j = b j) : RowR w g k L b :=
  ⟨h.1, fun j hj => by rw [← e j hj]; exact h.2 j hj⟩
def Apart (u v : Value) : Prop := ∀ g, u.ownBlock = some g → v.ownBlock = some g → False
theorem Apart.nil : Apart (.slice none 0 0) (.slice none 0 0) := fun g h => by cases h
theorem Apart.symm {u v : Value} (h : Apart u v) : Apart v u := fun g a b => h g b a
theorem Apart.or {u v : Value} (h : Apart u v) : v.ownBlock = none ∨ v.ownBlock ≠ u.ownBlock := by
  cases hv : v.ownBlock with
  | none => exact Or.inl rfl
  | some g => exact Or.inr (fun e => h g e.symm hv)
theorem Apart.grow {u v u' : Value} {n : Nat} (h : Apart u v) (ho : u'.ownBlock = u.ownBlock ∨ ∃ b, u'.ownBlock = some b ∧ n ≤ b) (hv : ∀ g, v.ownBlock = some g → g < n) : Apart u' v := by
  intro g a b
  rcases ho with ho | ⟨c, ho, hc⟩
  · exact h g (ho ▸ a) b
  · rw [ho] at a
    have e : c = g := Option.some.inj a; have := hv g b
    omega
theorem RowW.read_lst {w : World} {B k L : Nat} {v : Value} {a : Nat → Int} (h : RowW w B k v (lst a L)) (hn : 0 < L) : ∃ g cap, v = .slice (some ⟨g, 0, none⟩) L cap ∧ B ≤ g ∧ RowR w g k L a := by
  obtain ⟨g, cap, hv, hr⟩ := h.read (by rw [lst_len]; exact hn); rw [lst_len] at hv hr; exact ⟨g, cap, hv, (h.lt g (by rw [hv]; rfl)).1, hr.congr (fun j hj => lst_get a L j hj)⟩
theorem alloc_below (w : World) (o : Obj) : Below w.heap.size w (w.alloc o) := (Below.refl _ _).alloc (Nat.le_refl _) _
end Go.Proofs.YtnephejalollfaaGreat
