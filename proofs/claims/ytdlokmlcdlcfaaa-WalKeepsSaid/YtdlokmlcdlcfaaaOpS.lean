/- Bytes and truths that came in. -/
import Derived.ProofKit
import Derived.OpenShut
import Derived.SizedLaws
import Derived.Deep.Grids
import Derived.Test.YtdlokmlcdlcfaaaDk1
set_option linter.unusedVariables false
namespace Go.Proofs.Ytdlokmlcdlcfaaa
open Go.RowKit Go.ChangeShapes Go.WideShapes
section
variable {H : Type} {enc : TypeId × Value → H} {w : World} {base : Nat} {held : Bool}
theorem sl_of_cells {a : Addr} {len cap : Nat} {us : List Value} (hl : us.length = len) (hc : len ≤ cap) (hm : cap ≤ maxLen) (h : ∀ j u, us[j]? = some u → w.cell? (a.add j) = some u) : Sl w (.slice (some a) len cap) us := by
  refine ⟨some a, cap, by rw [hl], by omega, hm, fun h => (by cases h), fun h0 => ?_⟩
  obtain ⟨u, hu⟩ : ∃ u, us[0]? = some u := ⟨_, List.getElem?_eq_getElem h0⟩
  have h00 := h 0 u hu
  have hspot : (a.add 0).spot = none := World.cell?_spot h00
  obtain ⟨b, off, spot⟩ := a
  obtain rfl : spot = none := by simpa [Addr.add] using hspot
  refine ⟨b, off, rfl, ?_, fun j v hj => ?_⟩
  · have := World.block_lt_of_cell? _ _ h00
    simpa [Addr.add] using this
  · have := h j v hj
    rwa [Addr.add_lit] at this
theorem open_boolv {fuel : Nat} {c : Value} {x : DataW H × List MemPlace} (h : DataW.trod enc Try.prog w base (fun _ => true) held fuel 22 [c] = some x) :
    ∃ l : List Bool, Sl w c (l.map Value.bool) ∧ ((x.1 = .nil ∧ l = []) ∨ ∃ es ss, x.1 = .slice es ss ∧ l.length ≤ es.length + ss.length) := by
  rcases Go.Deep.open_bools Try.underlying22 Try.underlying4 (by kernel_rfl) h with ⟨hcs, rfl⟩ | ⟨a, len, cap, B, hcs, -, hl, hm, rfl, hcell⟩
  · injection hcs with hcs
    subst hcs
    exact ⟨[], Sl.nil w, .inl ⟨rfl, rfl⟩⟩
  · injection hcs with hcs
    subst hcs
    refine ⟨(List.range len).map B, sl_of_cells (by simp) hl hm fun j u hu => ?_, .inr ⟨_, _, rfl, by simp⟩⟩
    rw [List.map_map, List.getElem?_map] at hu
    by_cases hj : j < len
    · rw [List.getElem?_range hj] at hu
      cases hu
      exact hcell j (by omega)
    · rw [List.getElem?_eq_none (by simpa using hj)] at hu
      cases hu
theorem bounds_oct {x : Int} (h : (Lit.int .u8 x).wf = true) : 0 ≤ x ∧ x < 256 := by
  simp [Lit.wf, IntKind.min, IntKind.max, IntKind.bits, IntKind.signed] at h
  omega
theorem open_bytev {spare : Nat → Bool} {fuel : Nat} {c : Value} {x : DataW H × List MemPlace} (h : DataW.trod enc Try.prog w base spare held fuel 30 [c] = some x) :
    ∃ l : List UInt8, Sl w c (cel l) ∧ ((x.1 = .nil ∧ l = []) ∨ ∃ es ss, x.1 = .slice es ss ∧ l.length ≤ es.length + ss.length) := by
  rcases open_ints Try.underlying30 Try.underlying5 (by kernel_rfl) h with ⟨hcs, rfl⟩ | ⟨a, len, cap, zs, hcs, -, hl, hm, hz, rfl, hcell, hwz⟩
  · injection hcs with hcs
    subst hcs
    exact ⟨[], Sl.nil w, .inl ⟨rfl, rfl⟩⟩
  · injection hcs with hcs
    subst hcs
    have hzl : len ≤ zs.length := by rw [hz]; split <;> omega
    refine ⟨(zs.take len).map fun n => UInt8.ofNat n.toNat, sl_of_cells (by simp [cel]; omega) hl hm fun j u hu => ?_, .inr ⟨_, _, rfl, by simp [lits]⟩⟩
    unfold cel at hu
    rw [List.map_map, List.getElem?_map, List.getElem?_take] at hu
    split at hu
    · rename_i hj
      have hj2 : j < zs.length := by omega
      rw [List.getElem?_eq_getElem hj2] at hu
      cases hu
      rw [hcell j hj2]
      have hb := bounds_oct (hwz _ (List.getElem_mem hj2))
      simp only [List.getD, List.getElem?_eq_getElem hj2, Option.getD_some, Function.comp, oct]
      congr 2
      rw [UInt8.toNat_ofNat', Nat.mod_eq_of_lt (by omega)]
      omega
    · cases hu
end
end Go.Proofs.Ytdlokmlcdlcfaaa
