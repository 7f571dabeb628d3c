/- Steps that came in. -/
import Derived.Test.YtdlokmlcdlcfaaaDp
import Derived.Test.YtdlokmlcdlcfaaaOpS
set_option linter.unusedVariables false
namespace Go.Proofs.Ytdlokmlcdlcfaaa
open Go.RowKit Go.ChangeShapes Go.WideShapes
section
variable {H : Type} {enc : TypeId × Value → H} {w : World} {base : Nat} {held : Bool}
theorem weights_all_mem {P : Program} {e : TypeId} {n : Nat} {d : DataW H} (hn : n ∈ d.weights P e) : ∀ {l : List (DataW H)}, d ∈ l → n ∈ DataW.weightsAll P e l
  | x :: l, h => by
    rw [DataW.weightsAll, List.mem_append]
    rcases List.mem_cons.1 h with rfl | h
    · exact .inl hn
    · exact .inr (weights_all_mem hn h)
instance : Inhabited OpD := ⟨⟨0, 0, [], []⟩⟩
theorem spot_none {a : Addr} {v : Value} (h : w.cell? (a.add 0) = some v) : ∃ b p, a = ⟨b, p, none⟩ ∧ b < w.heap.size := by
  have hspot : (a.add 0).spot = none := World.cell?_spot h
  obtain ⟨b, off, spot⟩ := a
  obtain rfl : spot = none := by simpa [Addr.add] using hspot
  refine ⟨b, off, rfl, ?_⟩
  have := World.block_lt_of_cell? _ _ h
  simpa [Addr.add] using this
set_option maxRecDepth 100000 in
theorem open_ops {fuel : Nat} {c : Value} {x : DataW H × List MemPlace} (h : DataW.trod enc Try.prog w base (fun _ => true) held fuel 32 [c] = some x) (hw : ∀ n ∈ x.1.weights Try.prog 32, n ≤ reachBytes) : ∃ l, Ops w c l := by
  rcases Go.Deep.open_slice Try.underlying32 h with ⟨hcs, -⟩ | ⟨a, len, cap, m, n, D, Pl, hcs, -, hl, hm, hmm, rfl, hx⟩
  · injection hcs with hcs
    subst hcs
    exact ⟨[], none, 0, rfl, by decide, fun k o hk => by cases hk⟩
  · injection hcs with hcs
    subst hcs
    have hce : Try.prog.cellsOf 37 = 4 := by kernel_rfl
    obtain rfl : m = cap := hmm
    have hmem : ∀ i, i < len → ∀ q ∈ (D i).weights Try.prog 37, q ≤ reachBytes := fun i hi q hq => hw q (by
      show q ∈ DataW.weights Try.prog 32 (.slice _ _)
      rw [DataW.weights, Try.underlying32]
      exact List.mem_cons_of_mem _ (List.mem_append.2 (.inl (weights_all_mem hq (List.mem_map.2 ⟨i, List.mem_range.2 hi, rfl⟩)))))
    have hlen : (len + (m - len)) * 64 ≤ reachBytes := hw _ (by
      show _ ∈ DataW.weights Try.prog 32 (.slice _ _)
      rw [DataW.weights, Try.underlying32]
      refine List.mem_cons.2 (.inl ?_)
      rw [List.length_map, List.length_range, List.length_map, List.length_range, show Try.prog.bytesOf 37 = 64 from by kernel_rfl])
    have each : ∀ i, i < len → ∃ o : OpD, o.ok ∧ ∃ sv kv, Sl w sv (cel o.s) ∧ Sl w kv (o.keep.map Value.bool) ∧ w.cell? (a.add (i * 4)) = some (.int .i64 o.kind) ∧ w.cell? (a.add (i * 4 + 1)) = some (.int .i64 o.n) ∧ w.cell? (a.add (i * 4 + 2)) = some sv ∧ w.cell? (a.add (i * 4 + 3)) = some kv := by
      intro i hi
      obtain ⟨cs', h1, h2⟩ := hx i (by omega)
      rw [hce] at h1
      obtain ⟨_, hcl, hcell⟩ := World.cells?_some h1
      obtain ⟨c0, c1, c2, c3, rfl⟩ : ∃ a b c d, cs' = [a, b, c, d] := by
        match cs', hcl with
        | [a, b, c, d], _ => exact ⟨a, b, c, d, rfl⟩
      have e0 := hcell 0 (by omega)
      have e1 := hcell 1 (by omega)
      have e2 := hcell 2 (by omega)
      have e3 := hcell 3 (by omega)
      rw [Go.Deep.add_add] at e0 e1 e2 e3
      obtain ⟨xs, n', -, hxy, -, hxl, hg⟩ := DataW.trod_struct Try.underlying37 h2
      have g0 := hg 0 _ rfl
      have g1 := hg 1 _ rfl
      have g2 := hg 2 _ rfl
      have g3 := hg 3 _ rfl
      clear hg
      have hxl4 : xs.length = 4 := hxl
      obtain ⟨y0, y1, y2, y3, rfl⟩ : ∃ a b c d, xs = [a, b, c, d] := by
        match xs, hxl4 with
        | [a, b, c, d], _ => exact ⟨a, b, c, d, rfl⟩
      have g0' : DataW.trod enc Try.prog w base (fun _ => true) held n' 3 [c0] = some y0 := g0
      have g1' : DataW.trod enc Try.prog w base (fun _ => true) held n' 3 [c1] = some y1 := g1
      have g2' : DataW.trod enc Try.prog w base (fun _ => true) held n' 30 [c2] = some y2 := g2
      have g3' : DataW.trod enc Try.prog w base (fun _ => true) held n' 22 [c3] = some y3 := g3
      clear g0 g1 g2 g3
      obtain ⟨x0, f0, -, w0⟩ := DataW.trod_int Try.underlying3 g0'
      obtain ⟨x1, f1, -, w1⟩ := DataW.trod_int Try.underlying3 g1'
      simp at f0 f1
      subst f0 f1
      obtain ⟨s, hs, hsd⟩ := open_bytev g2'
      obtain ⟨k, hk, hkd⟩ := open_boolv g3'
      have hDi : D i = .agg [y0.1, y1.1, y2.1, y3.1] := by
        simp only [Prod.mk.injEq] at hxy
        exact hxy.1
      have hmi := hmem i hi
      rw [hDi] at hmi
      have hsub : ∀ q, (q ∈ y2.1.weights Try.prog 30 ∨ q ∈ y3.1.weights Try.prog 22) → q ≤ reachBytes := fun q hq => hmi q (by
        show q ∈ DataW.weights Try.prog 37 (.agg _)
        rw [DataW.weights, Try.underlying37]
        show q ∈ DataW.weightsEach Try.prog [3, 3, 30, 22] _
        simp only [DataW.weightsEach, List.mem_append]
        rcases hq with h | h
        · exact .inr (.inr (.inl h))
        · exact .inr (.inr (.inr (.inl h))))
      have hsl : s.length ≤ 140737488351232 := by
        rcases hsd with ⟨-, h⟩ | ⟨es, ss, hd, hle⟩
        · rw [h]; exact Nat.zero_le _
        · have := hsub ((es.length + ss.length) * Try.prog.bytesOf 5) (.inl (by rw [hd, DataW.weights, Try.underlying30]; exact List.mem_cons_self))
          rw [show Try.prog.bytesOf 5 = 1 from by kernel_rfl] at this
          simp only [reachBytes] at this
          omega
      have hkl : k.length ≤ 140737488351232 := by
        rcases hkd with ⟨-, h⟩ | ⟨es, ss, hd, hle⟩
        · rw [h]; exact Nat.zero_le _
        · have := hsub ((es.length + ss.length) * Try.prog.bytesOf 4) (.inr (by rw [hd, DataW.weights, Try.underlying22]; exact List.mem_cons_self))
          rw [show Try.prog.bytesOf 4 = 1 from by kernel_rfl] at this
          simp only [reachBytes] at this
          omega
      refine ⟨⟨x0, x1, s, k⟩, ⟨(bounds_i64 w1).2, hsl, hkl⟩, c2, c3, hs, hk, by simpa using e0, by simpa using e1, by simpa using e2, by simpa using e3⟩
    obtain ⟨O, hO⟩ := Go.Deep.choose_lt each
    refine ⟨(List.range len).map O, some a, m, by rw [List.length_map, List.length_range], ?_, fun k o hk => ?_⟩
    · rw [List.length_map, List.length_range]
      simp only [reachBytes] at hlen
      omega
    · rw [List.getElem?_map] at hk
      by_cases hkl : k < len
      · rw [List.getElem?_range hkl] at hk
        cases hk
        obtain ⟨ho, sv, kv, h1, h2, h3, h4, h5, h6⟩ := hO k hkl
        obtain ⟨-, sv0, kv0, -, -, h0, -⟩ := hO 0 (by omega)
        rw [Nat.zero_mul] at h0
        obtain ⟨b, p, rfl, hb⟩ := spot_none h0
        rw [Addr.add_lit] at h3 h4 h5 h6
        exact ⟨ho, b, p, sv, kv, rfl, hb, h1, h2, h3, by rw [Nat.add_assoc]; exact h4, by rw [Nat.add_assoc]; exact h5, by rw [Nat.add_assoc]; exact h6⟩
      · rw [List.getElem?_eq_none (by simpa using hkl)] at hk
        cases hk
end
end Go.Proofs.Ytdlokmlcdlcfaaa
