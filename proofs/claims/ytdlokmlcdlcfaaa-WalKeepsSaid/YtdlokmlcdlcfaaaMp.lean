/- A map from numbers: what a look-up and a store do. -/
import Derived.MapKept
import Derived.WalkKit
import Derived.WideKeyElems
namespace Go.Proofs.Ytdlokmlcdlcfaaa
open Go.RowKit Go.MapKept
/-- The world with another block there. -/
def setB (w : World) (b : Nat) (o : Obj) : World := { w with heap := w.heap.setIfInBounds b o }
/-- Block b is a map from numbers; m says what stands where. -/
def MapR (w : World) (b : Nat) (m : Int → Option Value) : Prop :=
  ∃ es clock, w.heap[b]? = some (.map es clock) ∧ Stamped es clock ∧ (∀ x ∈ es.toList, IsKey (.int .i64) x.key) ∧ ∀ k v, m k = some v ↔ ∃ x ∈ es.toList, x.key = .int .i64 k ∧ x.val = v
theorem MapR.of {w w' : World} {b b' : Nat} {m : Int → Option Value} (h : MapR w b m) (e : w'.heap[b']? = w.heap[b]?) : MapR w' b' m := by
  obtain ⟨es, clock, h1, h2⟩ := h
  exact ⟨es, clock, e.trans h1, h2⟩
theorem MapR.lt {w : World} {b : Nat} {m : Int → Option Value} (h : MapR w b m) : b < w.heap.size := by
  obtain ⟨es, clock, h1, h2⟩ := h
  exact (Array.getElem?_eq_some_iff.1 h1).1
theorem MapR.made (w : World) : MapR (w.alloc (.map #[] 0)) w.heap.size (fun _ => none) :=
  ⟨#[], 0, (heap_alloc w _).1, stamped_empty 0, by simp, by simp⟩
theorem MapR.lookup {P : Program} {w : World} {b : Nat} {m : Int → Option Value} (h : MapR w b m) {t k e : TypeId} (ht : P.underlying t = some (.map k e)) (hk : P.underlying k = some (.int .i64)) {z : Value} (hz : (zeroValue e).run P w = .ok z w) (i : Int) :
    (Instr.lookup t (.map (some b)) (.int .i64 i) false).run P w = .ok ((m i).getD z) w := by
  obtain ⟨es, clock, h1, h2, h3, h4⟩ := h
  have hi : IsKey (.int .i64) (.int .i64 i) := rfl
  rcases findNow_spec hi es.toList 0 h3 with ⟨g1, g2⟩ | ⟨j, e0, g1, g2, g3⟩
  · have : m i = none := by
      cases hm : m i with
      | none => rfl
      | some v =>
        obtain ⟨x, hx, hx1, -⟩ := (h4 i v).1 hm
        exact absurd hx1 (g2 x hx)
    simp [Instr.lookup, run_underlying ht, MapKept.run_getObj_map h1, run_checkKey hk hi, run_findKey hk g1, hz, Result.andThen, this]
  · have : m i = some e0.val := (h4 i e0.val).2 ⟨e0, List.mem_of_getElem? g2, g3, rfl⟩
    simp [Instr.lookup, run_underlying ht, MapKept.run_getObj_map h1, run_checkKey hk hi, run_findKey hk g1, Result.andThen, this]
theorem MapR.update {P : Program} {w : World} {b : Nat} {m : Int → Option Value} (h : MapR w b m) {t k e : TypeId} (ht : P.underlying t = some (.map k e)) (hk : P.underlying k = some (.int .i64)) (i : Int) (v : Value) :
    ∃ o, (Instr.mapUpdate t (.map (some b)) (.int .i64 i) v).run P w = .ok () (setB w b o) ∧ ∀ w' : World, w'.heap[b]? = some o → MapR w' b (fun j => if j = i then some v else m j) := by
  obtain ⟨es, clock, h1, h2, h3, h4⟩ := h
  have hi : IsKey (.int .i64) (.int .i64 i) := rfl
  rcases findNow_spec hi es.toList 0 h3 with ⟨g1, g2⟩ | ⟨j, e0, g1, g2, g3⟩
  · refine ⟨.map (es.push ⟨.int .i64 i, v, clock⟩) (clock + 1), ?_, fun w' hw => ⟨_, _, hw, stamped_push h2 g2, ?_, fun k' v' => ?_⟩⟩
    · simp [Instr.mapUpdate, run_underlying ht, MapKept.run_getObj_map h1, run_checkKey hk hi, run_findKey hk g1, MapKept.run_setObj_map _ h1, Result.andThen, setB]
    · intro x hx
      simp only [Array.toList_push, List.mem_append, List.mem_singleton] at hx
      rcases hx with hx | rfl
      · exact h3 x hx
      · exact hi
    · simp only [Array.toList_push, List.mem_append, List.mem_singleton]
      constructor
      · intro hm
        split at hm
        · rename_i hk'
          cases hm
          exact ⟨_, .inr rfl, by rw [hk'], rfl⟩
        · obtain ⟨x, hx, hx1⟩ := (h4 k' v').1 hm
          exact ⟨x, .inl hx, hx1⟩
      · rintro ⟨x, hx | rfl, hx1, hx2⟩
        · have : k' ≠ i := fun hk' => g2 x hx (by rw [hx1, hk'])
          rw [if_neg this]
          exact (h4 k' v').2 ⟨x, hx, hx1, hx2⟩
        · simp only [Value.int.injEq, true_and] at hx1
          rw [if_pos hx1.symm]
          exact congrArg some hx2
  · have hj : es[j]? = some e0 := by simpa using g2
    have hkey : ∀ e', es[j]? = some e' → ({ e' with key := .int .i64 i, val := v } : MapEntry).key = e'.key := fun e' he' => by rw [hj] at he'; cases he'; exact g3.symm
    have hlist : (es.modify j (fun e' => { e' with key := .int .i64 i, val := v })).toList = es.toList.set j { e0 with key := .int .i64 i, val := v } := by
      rw [Array.toList_modify]
      apply List.ext_getElem?
      intro q
      rw [List.getElem?_modify, List.getElem?_set]
      split
      · rename_i hq
        subst hq
        have : j < es.toList.length := (List.getElem?_eq_some_iff.1 g2).1
        rw [if_pos this, g2]
        rfl
      · simp
    refine ⟨.map (es.modify j (fun e' => { e' with key := .int .i64 i, val := v })) clock, ?_, fun w' hw => ⟨_, _, hw, stamped_modify h2 _ _ (fun _ _ => rfl) (fun e' _ he' => hkey e' he'), isKey_modify h3 _ _ hkey, fun k' v' => ?_⟩⟩
    · simp [Instr.mapUpdate, run_underlying ht, MapKept.run_getObj_map h1, run_checkKey hk hi, run_findKey hk g1, hj, g3, run_keyThatStays hi, MapKept.run_setObj_map _ h1, Result.andThen, setB]
    · show (if k' = i then some v else m k') = some v' ↔ _
      rw [hlist]
      have hjl : j < es.toList.length := (List.getElem?_eq_some_iff.1 g2).1
      have other : ∀ (q : Nat) (x : MapEntry), q ≠ j → es.toList[q]? = some x → x.key ≠ .int .i64 i := by
        intro q x hq hx hx'
        have hnd := h2.2.2
        have e1 : (es.toList.map (·.key))[q]? = some (.int .i64 i) := by rw [List.getElem?_map, hx]; exact congrArg some hx'
        have e2 : (es.toList.map (·.key))[j]? = some (.int .i64 i) := by rw [List.getElem?_map, g2]; exact congrArg some g3
        obtain ⟨l1, m1⟩ := List.getElem?_eq_some_iff.1 e1
        obtain ⟨l2, m2⟩ := List.getElem?_eq_some_iff.1 e2
        exact hq ((List.getElem_inj (h₀ := l1) (h₁ := l2) hnd).1 (m1.trans m2.symm))
      constructor
      · intro hm
        split at hm
        · rename_i hk'
          cases hm
          exact ⟨_, List.mem_iff_getElem?.2 ⟨j, by rw [List.getElem?_set, if_pos rfl, if_pos hjl]⟩, by rw [hk'], rfl⟩
        · rename_i hk'
          obtain ⟨x, hx, hx1, hx2⟩ := (h4 k' v').1 hm
          obtain ⟨q, hq⟩ := List.mem_iff_getElem?.1 hx
          have hqj : j ≠ q := fun h => by
            subst h
            rw [g2] at hq
            cases hq
            rw [g3] at hx1
            cases hx1
            exact hk' rfl
          exact ⟨x, List.mem_iff_getElem?.2 ⟨q, by rw [List.getElem?_set, if_neg hqj]; exact hq⟩, hx1, hx2⟩
      · rintro ⟨x, hx, hx1, hx2⟩
        obtain ⟨q, hq⟩ := List.mem_iff_getElem?.1 hx
        rw [List.getElem?_set] at hq
        split at hq
        · rename_i hqj
          cases hq
          simp only [Value.int.injEq, true_and] at hx1
          rw [if_pos hx1.symm]
          exact congrArg some hx2
        · rename_i hqj
          have := other q x (fun h => hqj h.symm) hq
          have hk' : k' ≠ i := fun h => this (by rw [hx1, h])
          rw [if_neg hk']
          exact (h4 k' v').2 ⟨x, List.mem_of_getElem? hq, hx1, hx2⟩
end Go.Proofs.Ytdlokmlcdlcfaaa
