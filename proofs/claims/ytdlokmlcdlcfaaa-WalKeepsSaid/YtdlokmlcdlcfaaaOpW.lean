/- Slices in a slice that came in. -/
import Derived.Test.YtdlokmlcdlcfaaaWq2
import Derived.Test.YtdlokmlcdlcfaaaOpS
set_option linter.unusedVariables false
namespace Go.Proofs.Ytdlokmlcdlcfaaa
open Go.RowKit Go.ChangeShapes Go.WideShapes
section
variable {H : Type} {enc : TypeId × Value → H} {w : World} {base : Nat} {held : Bool}
theorem weights_all_in {P : Program} {e : TypeId} {n : Nat} {d : DataW H} (hn : n ∈ d.weights P e) : ∀ {l : List (DataW H)}, d ∈ l → n ∈ DataW.weightsAll P e l
  | x :: l, h => by
    rw [DataW.weightsAll, List.mem_append]
    rcases List.mem_cons.1 h with rfl | h
    · exact .inl hn
    · exact .inr (weights_all_in hn h)
set_option maxRecDepth 100000 in
theorem open_rows {fuel : Nat} {c : Value} {x : DataW H × List MemPlace} (h : DataW.trod enc Try.prog w base (fun _ => true) held fuel 52 [c] = some x) (hw : ∀ n ∈ x.1.weights Try.prog 52, n ≤ reachBytes) : ∃ l, Lst w c l ∧ l.length ≤ 140737488351232 ∧ ∀ b ∈ l, b.length ≤ 140737488351232 := by
  rcases Go.Deep.open_slice Try.underlying52 h with ⟨hcs, -⟩ | ⟨a, len, cap, m, n, D, Pl, hcs, -, hl, hm, hmm, rfl, hx⟩
  · injection hcs with hcs
    subst hcs
    exact ⟨[], ⟨[], Sl.nil w, rfl, fun k b hk => by cases hk⟩, by decide, fun b hb => by cases hb⟩
  · injection hcs with hcs
    subst hcs
    have hce : Try.prog.cellsOf 30 = 1 := by kernel_rfl
    obtain rfl : m = cap := hmm
    have hmem : ∀ i, i < len → ∀ q ∈ (D i).weights Try.prog 30, q ≤ reachBytes := fun i hi q hq => hw q (by
      show q ∈ DataW.weights Try.prog 52 (.slice _ _)
      rw [DataW.weights, Try.underlying52]
      exact List.mem_cons_of_mem _ (List.mem_append.2 (.inl (weights_all_in hq (List.mem_map.2 ⟨i, List.mem_range.2 hi, rfl⟩)))))
    have hlen : (len + (m - len)) * 24 ≤ reachBytes := hw _ (by
      show _ ∈ DataW.weights Try.prog 52 (.slice _ _)
      rw [DataW.weights, Try.underlying52]
      refine List.mem_cons.2 (.inl ?_)
      rw [List.length_map, List.length_range, List.length_map, List.length_range, show Try.prog.bytesOf 30 = 24 from by kernel_rfl])
    have each : ∀ i, i < len → ∃ o : List UInt8 × Value, Sl w o.2 (cel o.1) ∧ o.1.length ≤ 140737488351232 ∧ w.cell? (a.add i) = some o.2 := by
      intro i hi
      obtain ⟨cs', h1, h2⟩ := hx i (by omega)
      rw [hce] at h1
      obtain ⟨_, hcl, hcell⟩ := World.cells?_some h1
      obtain ⟨c0, rfl⟩ : ∃ a, cs' = [a] := by
        match cs', hcl with
        | [a], _ => exact ⟨a, rfl⟩
      have e0 := hcell 0 (by omega)
      rw [Go.Deep.add_add] at e0
      obtain ⟨s, hs, hsd⟩ := open_bytev h2
      have hsl : s.length ≤ 140737488351232 := by
        rcases hsd with ⟨-, h⟩ | ⟨es, ss, hd, hle⟩
        · rw [h]; exact Nat.zero_le _
        · have hd' : D i = .slice es ss := hd
          have := hmem i hi ((es.length + ss.length) * Try.prog.bytesOf 5) (by rw [hd', DataW.weights, Try.underlying30]; exact List.mem_cons_self)
          rw [show Try.prog.bytesOf 5 = 1 from by kernel_rfl] at this
          simp only [reachBytes] at this
          omega
      exact ⟨(s, c0), hs, hsl, by simpa using e0⟩
    obtain ⟨O, hO⟩ := Go.Deep.choose_lt each
    refine ⟨(List.range len).map fun i => (O i).1, ⟨(List.range len).map fun i => (O i).2, sl_of_cells (by simp) hl hm fun j u hu => ?_, by simp, fun k b hk => ?_⟩, ?_, fun b hb => ?_⟩
    · rw [List.getElem?_map] at hu
      by_cases hj : j < len
      · rw [List.getElem?_range hj] at hu
        cases hu
        exact (hO j hj).2.2
      · rw [List.getElem?_eq_none (by simpa using hj)] at hu
        cases hu
    · rw [List.getElem?_map] at hk
      by_cases hj : k < len
      · rw [List.getElem?_range hj] at hk
        cases hk
        exact ⟨(O k).2, by rw [List.getElem?_map, List.getElem?_range hj]; rfl, (hO k hj).1⟩
      · rw [List.getElem?_eq_none (by simpa using hj)] at hk
        cases hk
    · rw [List.length_map, List.length_range]
      simp only [reachBytes] at hlen
      omega
    · obtain ⟨i, hi, rfl⟩ := List.mem_map.1 hb
      exact (hO i (List.mem_range.1 hi)).2.1
end
end Go.Proofs.Ytdlokmlcdlcfaaa
