/- append of integers to a row of one's own; rows that are read. -/
import Derived.Test.YtnfbngiabdlclaaGreatFree
import Derived.Test.YtnfbngiabdlclaaGreatBa3
import Derived.Test.YtnfbngiabdlclaaGreatWk
import Derived.Laws.AppendOwn
section
set_option linter.unusedVariables false
set_option linter.unusedSimpArgs false
namespace Go.Proofs.YtnfbngiabdlclaaGreat
open Go.RowKit

theorem infoI : (Tryz.prog.info? 25).map (fun i => (i.zero, i.size, i.bytes)) = some (some (.agg #[.bool false, .slice none 0 0]), 2, 32) := by kernel_rfl
/-- The slice value v is the call's own row of n integers, with these cells. -/
def IRow (w : World) (B : Nat) (v : Value) (n : Nat) (cs : List Value) : Prop := w.ownsRow B 25 2 v n cs
theorem IRow.nil (w : World) (B : Nat) : IRow w B (.slice none 0 0) 0 [] := World.ownsRow_nil w B _ 2
theorem IRow.below {w w' : World} {B n : Nat} {v : Value} {cs : List Value} (h : IRow w B v n cs) (hb : Below w.heap.size w w') : IRow w' B v n cs :=
  World.ownsRow.kept (row := none) h ⟨hb.os, hb.tape, hb.output, hb.size, fun k hk _ => hb.block k hk⟩ (by cases v.ownBlock <;> simp)
theorem IRow.grown {w w' : World} {B n : Nat} {v : Value} {cs : List Value} {r : Option Nat} (h : IRow w B v n cs) (hg : w.grownBy w' r) (hne : v.ownBlock = none ∨ v.ownBlock ≠ r) : IRow w' B v n cs :=
  World.ownsRow.kept h hg hne
theorem IRow.lt {w : World} {B n : Nat} {v : Value} {cs : List Value} (h : IRow w B v n cs) : ∀ k, v.ownBlock = some k → B ≤ k ∧ k < w.heap.size := World.ownsRow.lt h
/-- No cell of a list is a limb. -/
def NoL (l : List Value) : Prop := ∀ u ∈ l, ∀ x : Int, u ≠ .int .u64 x
theorem noU_of {cs : Array Value} (h : NoL cs.toList) : NoU cs := by
  intro i x hx
  have : cs.toList[i]? = some (.int .u64 x) := by rw [Array.getElem?_toList]; exact hx
  exact h _ (List.mem_of_getElem? this) x rfl
theorem noL_of {cs : Array Value} (h : NoU cs) : NoL cs.toList := by
  intro u hu x hx
  obtain ⟨i, hi, he⟩ := List.mem_iff_getElem.1 hu
  refine h i x ?_
  rw [← hx, ← he, ← Array.getElem?_toList, List.getElem?_eq_getElem hi]
theorem NoL.append {l m : List Value} (h : NoL l) (k : NoL m) : NoL (l ++ m) := fun u hu => (List.mem_append.1 hu).elim (h u) (k u)
theorem NoL.take {l : List Value} (h : NoL l) (n : Nat) : NoL (l.take n) := fun u hu => h u (List.mem_of_mem_take hu)
theorem NoL.drop {l : List Value} (h : NoL l) (n : Nat) : NoL (l.drop n) := fun u hu => h u (List.mem_of_mem_drop hu)
theorem noL_zero (n : Nat) : NoL (Builtin.zeroCells (Value.cells (.agg #[.bool false, .slice none 0 0])) n).toList := by
  intro u hu x hx
  subst hx
  obtain ⟨i, hi, he⟩ := List.mem_iff_getElem.1 hu
  simp [Builtin.zeroCells, Value.cells] at he
  rcases (show i % 2 = 0 ∨ i % 2 = 1 by omega) with h | h <;> simp [h] at he
set_option maxRecDepth 100000 in
theorem appendI_run (w : World) (B : Nat) (v : Value) (n : Nat) (cs : List Value) (hown : IRow w B v n cs) (g : Nat) (x y : Value) (hx : x.oneCell' = true) (hy : y.oneCell' = true) (hb : Blk w g 25 #[x, y]) (hn : n ≤ 1000) (hB : B ≤ w.heap.size) (ty : TypeId) (hxy : NoU #[x, y]) (hbox : ∀ k, v.ownBlock = some k → BoxAt w k) :
    ∃ v' w', (Builtin.append_ #[63, 63] ty #[v, .slice (some ⟨g, 0, none⟩) 1 1]).run Tryz.prog w = .ok v' w' ∧ IRow w' B v' (n + 1) (cs ++ [x, y]) ∧ w.grownBy w' v.ownBlock ∧ (v'.ownBlock = v.ownBlock ∨ ∃ k, v'.ownBlock = some k ∧ w.heap.size ≤ k) ∧ (∀ k, v'.ownBlock = some k → BoxAt w' k) ∧ Ext w w' := by
  obtain ⟨i0, hi, hz0, hz1, hz2⟩ := info_parts infoI
  have hnews : ∀ j u, [x, y][j]? = some u → w.cell? ((⟨g, 0, none⟩ : Addr).add j) = some u := by
    intro j u hu
    have hadd : (⟨g, 0, none⟩ : Addr).add j = ⟨g, j, none⟩ := by unfold Addr.add; split <;> simp_all
    rw [hadd, hb.cell]
    match j with
    | 0 => simpa using hu
    | 1 => simpa using hu
    | j + 2 => simp at hu
  have hone : ∀ u ∈ [x, y], u.oneCell' = true := by
    intro u hu
    simp at hu
    rcases hu with rfl | rfl
    · exact hx
    · exact hy
  obtain ⟨v', w', h1, h2, h3, -⟩ := run_append_own (P := Tryz.prog) w B 63 ty 25 i0 _ 2 32 Tryz.underlying63 hi hz0 hz1 hz2 rfl (by omega) v n cs hown ⟨g, 0, none⟩ 1 1 [x, y] rfl hnews hone (by simp only [maxLen]; omega) (by omega) hB
  have hext : Ext w w' := ⟨h3.size, fun b hlt => by
    by_cases hr : v.ownBlock = some b
    · exact .inr (hbox b hr)
    · exact .inl (h3.block b hlt (fun e => hr e.symm))⟩
  have hxyl : NoL [x, y] := noL_of (cs := #[x, y]) hxy
  have hz2' : (Value.cells (.agg #[.bool false, .slice none 0 0])) = (Value.cells (.agg #[.bool false, .slice none 0 0])) := rfl
  suffices hh : (v'.ownBlock = v.ownBlock ∨ ∃ k, v'.ownBlock = some k ∧ w.heap.size ≤ k) ∧ (∀ k, v'.ownBlock = some k → BoxAt w' k) from ⟨v', w', h1, h2, h3, hh.1, hh.2, hext⟩
  rcases hown.2 with ⟨rfl, rfl⟩ | ⟨g', cap, cur, rfl, hbg, hg, hnc, hcm, hcs, htake⟩
  · have hr := run_append_nil (P := Tryz.prog) w 63 ty 25 i0 _ Tryz.underlying63 hi hz0 ⟨g, 0, none⟩ 1 1 [x, y] (by rw [hz1]; rfl) hnews (by omega) (by omega) (by rw [hz2]; omega)
    rw [h1] at hr
    cases hr
    refine ⟨.inr ⟨w.heap.size, rfl, Nat.le_refl _⟩, fun k hk => ?_⟩
    have hk' : w.heap.size = k := Option.some.inj hk
    subst hk'
    refine ⟨_, _, heap_alloc_new w.drew _, noU_of ?_⟩
    rw [Array.toList_append]
    exact hxyl.append (noL_zero _)
  · obtain ⟨cs0, t0, hb0, hn0⟩ := hbox g' rfl
    have hcur : NoL cur.toList := by
      have : cs0 = cur := by
        have h5 : w.heap[g']? = some (.cells cs0 t0 (0, 0)) := hb0
        rw [hg] at h5
        injection h5 with h5
        injection h5 with h5
        exact h5.symm
      exact this ▸ noL_of hn0
    by_cases hroom : n + 1 ≤ cap
    · have hfit : n * i0.size + [x, y].length ≤ cur.size := by rw [hz1, hcs]; simp; omega
      have hr := run_append_room (P := Tryz.prog) w 63 ty 25 i0 Tryz.underlying63 hi g' n cap cur hg ⟨g, 0, none⟩ 1 1 [x, y] (by rw [hz1]; rfl) hnews hone hroom hfit
      rw [h1] at hr
      cases hr
      refine ⟨.inl rfl, fun k hk => ?_⟩
      have hk' : g' = k := Option.some.inj hk
      subst hk'
      refine ⟨_, _, setRow_heap w g' cur _ _ _ hg, noU_of ?_⟩
      exact ((hcur.take _).append hxyl).append (hcur.drop _)
    · have holds : ∀ j u, cs[j]? = some u → w.cell? ((⟨g', 0, none⟩ : Addr).add j) = some u := World.ownsRow.cells hown (g := g') rfl
      have hr := run_append_grow (P := Tryz.prog) w 63 ty 25 i0 _ Tryz.underlying63 hi hz0 ⟨g', 0, none⟩ n cap cs (by rw [hz1]; exact hown.1) holds ⟨g, 0, none⟩ 1 1 [x, y] (by rw [hz1]; rfl) hnews (by omega) (by omega) (growslice_fits (by omega) (by rw [hz2]; omega))
      rw [h1] at hr
      cases hr
      refine ⟨.inr ⟨w.heap.size, rfl, Nat.le_refl _⟩, fun k hk => ?_⟩
      have hk' : w.heap.size = k := Option.some.inj hk
      subst hk'
      refine ⟨_, _, heap_alloc_new w.drew _, noU_of ?_⟩
      rw [Array.toList_append, Array.toList_append]
      have hcsl : NoL cs := by rw [← htake]; exact hcur.take _
      exact (NoL.append (l := cs) (m := [x, y]) hcsl hxyl).append (noL_zero _)
/-- What the row's cells are. -/
theorem IRow.cells {w : World} {B n : Nat} {v : Value} {cs : List Value} (h : IRow w B v n cs) (hn : 0 < n) : ∃ g cap, v = .slice (some ⟨g, 0, none⟩) n cap ∧ B ≤ g ∧ g < w.heap.size ∧ ∀ j u, cs[j]? = some u → w.cell? ⟨g, j, none⟩ = some u := by
  rcases h.2 with ⟨-, h0⟩ | ⟨g, cap, cur, rfl, hbg, hg, hnc, hcm, hcs, htake⟩
  · omega
  · refine ⟨g, cap, rfl, hbg, (h.lt g rfl).2, fun j u hu => ?_⟩
    have := World.ownsRow.cells h (g := g) rfl j u hu
    have hadd : (⟨g, 0, none⟩ : Addr).add j = ⟨g, j, none⟩ := by unfold Addr.add; split <;> simp_all
    rwa [hadd] at this
/-- A row of integers with these values. -/
def RowV (w : World) (B k : Nat) (v : Value) (zs : List Int) : Prop :=
  ∃ cs, IRow w B v zs.length cs ∧ (∀ g, v.ownBlock = some g → BoxAt w g) ∧ ∀ (j : Nat) (z : Int), zs[j]? = some z → ∃ n A l c, cs[2 * j]? = some (.bool n) ∧ cs[2 * j + 1]? = some (.slice A l c) ∧ QB w B k n A l c z
section
variable {w w' : World} {B k : Nat} {v : Value} {zs : List Int}
theorem RowV.nil (w : World) (B k : Nat) : RowV w B k (.slice none 0 0) [] := by
  refine ⟨[], IRow.nil w B, ?_, ?_⟩
  · intro g h
    cases h
  · intro j z h
    simp at h
theorem RowV.lt (h : RowV w B k v zs) : ∀ g, v.ownBlock = some g → B ≤ g ∧ g < w.heap.size := by
  obtain ⟨cs, h1, -, -⟩ := h
  exact h1.lt
/-- Another row may grow, or the world. -/
theorem RowV.step (h : RowV w B k v zs) {r : Option Nat} (hg : w.grownBy w' r) (hne : v.ownBlock = none ∨ v.ownBlock ≠ r) (he : Ext w w') : RowV w' B k v zs := by
  obtain ⟨cs, h1, h2, h3⟩ := h
  refine ⟨cs, h1.grown hg hne, fun g hgv => ?_, fun j z hz => ?_⟩
  · obtain ⟨cs', t, a, b⟩ := h2 g hgv
    refine ⟨cs', t, (hg.block g (h1.lt g hgv).2 (fun e => ?_)).trans a, b⟩
    rcases hne with h | h
    · rw [h] at hgv; cases hgv
    · exact h (hgv.trans e)
  · obtain ⟨n, A, l, c, a, b, d⟩ := h3 j z hz
    exact ⟨n, A, l, c, a, b, d.ext he⟩
theorem RowV.below (h : RowV w B k v zs) (hb : Below w.heap.size w w') : RowV w' B k v zs :=
  h.step (r := none) ⟨hb.os, hb.tape, hb.output, hb.size, fun k hk _ => hb.block k hk⟩ (by cases v.ownBlock <;> simp) (ext_of hb)
theorem RowV.push (h : RowV w B k v zs) {g : Nat} {n : Bool} {A : Option Addr} {l c : Nat} {z : Int} (hb : Blk w g 25 #[.bool n, .slice A l c]) (hq : QB w B k n A l c z) (hl : zs.length ≤ 1000) (hB : B ≤ w.heap.size) (ty : TypeId) :
    ∃ v' w', (Builtin.append_ #[63, 63] ty #[v, .slice (some ⟨g, 0, none⟩) 1 1]).run Tryz.prog w = .ok v' w' ∧ RowV w' B k v' (zs ++ [z]) ∧ w.grownBy w' v.ownBlock ∧ (v'.ownBlock = v.ownBlock ∨ ∃ k, v'.ownBlock = some k ∧ w.heap.size ≤ k) ∧ Ext w w' := by
  obtain ⟨cs, h1, h2, h3⟩ := h
  obtain ⟨v', w', a1, a2, a3, a4, a5, a6⟩ := appendI_run w B v zs.length cs h1 g (.bool n) (.slice A l c) rfl rfl hb hl hB ty (noU_int n A l c) h2
  have hlen : cs.length = 2 * zs.length := by have := h1.1; omega
  refine ⟨v', w', a1, ⟨cs ++ [.bool n, .slice A l c], by rw [List.length_append]; exact a2, a5, fun j y hy => ?_⟩, a3, a4, a6⟩
  rcases Nat.lt_or_ge j zs.length with hj | hj
  · rw [List.getElem?_append_left hj] at hy
    obtain ⟨n', A', l', c', b1, b2, b3⟩ := h3 j y hy
    exact ⟨n', A', l', c', by rw [List.getElem?_append_left (by omega)]; exact b1, by rw [List.getElem?_append_left (by omega)]; exact b2, b3.ext a6⟩
  · rw [List.getElem?_append_right hj] at hy
    have hj0 : j - zs.length = 0 := by
      rcases Nat.eq_zero_or_pos (j - zs.length) with h | h
      · exact h
      · rw [List.getElem?_eq_none (by simp; omega)] at hy; cases hy
    rw [hj0] at hy
    have hy' : z = y := Option.some.inj hy
    subst hy'
    refine ⟨n, A, l, c, ?_, ?_, hq.ext a6⟩
    · rw [List.getElem?_append_right (by omega), show 2 * j - cs.length = 0 by omega]; rfl
    · rw [List.getElem?_append_right (by omega), show 2 * j + 1 - cs.length = 1 by omega]; rfl
/-- Four of them, for 'least' and 'greatest'. -/
theorem RowV.four {z0 z1 z2 z3 : Int} (h : RowV w B k v [z0, z1, z2, z3]) : ∃ g cap n0 n1 n2 n3 A0 A1 A2 A3 l0 l1 l2 l3 c0 c1 c2 c3, v = .slice (some ⟨g, 0, none⟩) 4 cap ∧
    Ints w k B g 4 (pick n0 n1 n2 n3) (pick A0 A1 A2 A3) (pick l0 l1 l2 l3) (pick c0 c1 c2 c3) (pick z0 z1 z2 z3) := by
  obtain ⟨cs, h1, -, h3⟩ := h
  obtain ⟨g, cap, hv, -, hlt, hc⟩ := h1.cells (by simp)
  obtain ⟨n0, A0, l0, c0, a0, b0, q0⟩ := h3 0 z0 rfl
  obtain ⟨n1, A1, l1, c1, a1, b1, q1⟩ := h3 1 z1 rfl
  obtain ⟨n2, A2, l2, c2, a2, b2, q2⟩ := h3 2 z2 rfl
  obtain ⟨n3, A3, l3, c3, a3, b3, q3⟩ := h3 3 z3 rfl
  refine ⟨g, cap, n0, n1, n2, n3, A0, A1, A2, A3, l0, l1, l2, l3, c0, c1, c2, c3, hv, hlt, fun i hi => ?_, fun i hi => ?_, fun i hi => ?_⟩
  all_goals obtain rfl | rfl | rfl | rfl : i = 0 ∨ i = 1 ∨ i = 2 ∨ i = 3 := by omega
  · exact hc _ _ a0
  · exact hc _ _ a1
  · exact hc _ _ a2
  · exact hc _ _ a3
  · exact hc _ _ b0
  · exact hc _ _ b1
  · exact hc _ _ b2
  · exact hc _ _ b3
  · exact q0
  · exact q1
  · exact q2
  · exact q3
end
/-- The operation 'append' in a region. -/
theorem wp_append {P : Program} {o : Oper} {a : Act} {w w' : World} {v' : Value} {K : Act → World → Prop} {Q : Exit → Act → World → Prop} (s x : Operand) (t : TypeId) (v vs : Value)
    (ho : o.op = .call { callee := .builtin .append, args := #[s, x], argTypes := #[t, t] }) (hs : a.eval s = v) (hx : a.eval x = vs)
    (hr : (Builtin.append_ #[t, t] o.type #[v, vs]).run P w = .ok v' w') (h : K (a.put o.dst v') w') : o.wp P a w K Q := by
  unfold Oper.wp execOp
  simp only [ho, resolve, invoke, builtin, Sem.run_bind, Sem.run_pure, Result.andThen_ok, List.map_toArray, List.map_cons, List.map_nil, hs, hx, hr]
  exact h
end Go.Proofs.YtnfbngiabdlclaaGreat
end
section
set_option linter.unusedVariables false
set_option linter.unusedSimpArgs false
namespace Go.Proofs.YtnfbngiabdlclaaGreat
open Go.RowKit
theorem Low.cell_ {X : List Nat} {w w' : World} (h : Low X w w') {g j : Nat} {v : Value} (hg : g < w.heap.size) (hX : g ∉ X) (hc : w.cell? ⟨g, j, none⟩ = some v) : w'.cell? ⟨g, j, none⟩ = some v := by
  rw [← hc]
  simp only [World.cell?, h.block g hg hX]
/-- A row of integers in a block, to be read. -/
def RowR (w : World) (g k L : Nat) (a : Nat → Int) : Prop := g < w.heap.size ∧ ∀ j, j < L → ∃ n A l c, w.cell? ⟨g, j * 2, none⟩ = some (.bool n) ∧ w.cell? ⟨g, j * 2 + 1, none⟩ = some (.slice A l c) ∧ QB w 0 k n A l c (a j)
theorem RowR.low {X : List Nat} {w w' : World} {g k L : Nat} {a : Nat → Int} (h : RowR w g k L a) (hl : Low X w w') (hX : g ∉ X) : RowR w' g k L a := by
  refine ⟨Nat.lt_of_lt_of_le h.1 hl.size, fun j hj => ?_⟩
  obtain ⟨n, A, l, c, h1, h2, h3⟩ := h.2 j hj
  exact ⟨n, A, l, c, hl.cell_ h.1 hX h1, hl.cell_ h.1 hX h2, h3.ext hl.ext⟩
end Go.Proofs.YtnfbngiabdlclaaGreat
end
section
set_option linter.unusedVariables false
set_option linter.unusedSimpArgs false
namespace Go.Proofs.YtnfbngiabdlclaaGreat
open Go.RowKit
open L (val dig nth)
/-- A row of one's own, of integers that may be elder. -/
def RowW (w : World) (B k : Nat) (v : Value) (zs : List Int) : Prop :=
  ∃ cs, IRow w B v zs.length cs ∧ (∀ g, v.ownBlock = some g → BoxAt w g) ∧ ∀ (j : Nat) (z : Int), zs[j]? = some z → ∃ n A l c, cs[2 * j]? = some (.bool n) ∧ cs[2 * j + 1]? = some (.slice A l c) ∧ QB w 0 k n A l c z
section
variable {w w' : World} {B k : Nat} {v : Value} {zs : List Int}
theorem RowW.nil (w : World) (B k : Nat) : RowW w B k (.slice none 0 0) [] := by
  refine ⟨[], IRow.nil w B, ?_, ?_⟩
  · intro g h
    cases h
  · intro j z h
    simp at h
theorem RowW.lt (h : RowW w B k v zs) : ∀ g, v.ownBlock = some g → B ≤ g ∧ g < w.heap.size := by
  obtain ⟨cs, h1, -, -⟩ := h
  exact h1.lt
/-- Another row may grow, or the world. -/
theorem RowW.step (h : RowW w B k v zs) {r : Option Nat} (hg : w.grownBy w' r) (hne : v.ownBlock = none ∨ v.ownBlock ≠ r) (he : Ext w w') : RowW w' B k v zs := by
  obtain ⟨cs, h1, h2, h3⟩ := h
  refine ⟨cs, h1.grown hg hne, fun g hgv => ?_, fun j z hz => ?_⟩
  · obtain ⟨cs', t, a, b⟩ := h2 g hgv
    refine ⟨cs', t, (hg.block g (h1.lt g hgv).2 (fun e => ?_)).trans a, b⟩
    rcases hne with h | h
    · rw [h] at hgv; cases hgv
    · exact h (hgv.trans e)
  · obtain ⟨n, A, l, c, a, b, d⟩ := h3 j z hz
    exact ⟨n, A, l, c, a, b, d.ext he⟩
theorem RowW.below (h : RowW w B k v zs) (hb : Below w.heap.size w w') : RowW w' B k v zs :=
  h.step (r := none) ⟨hb.os, hb.tape, hb.output, hb.size, fun k hk _ => hb.block k hk⟩ (by cases v.ownBlock <;> simp) (ext_of hb)
theorem RowW.push (h : RowW w B k v zs) {g : Nat} {n : Bool} {A : Option Addr} {l c : Nat} {z : Int} (hb : Blk w g 25 #[.bool n, .slice A l c]) (hq : QB w 0 k n A l c z) (hl : zs.length ≤ 1000) (hB : B ≤ w.heap.size) (ty : TypeId) :
    ∃ v' w', (Builtin.append_ #[63, 63] ty #[v, .slice (some ⟨g, 0, none⟩) 1 1]).run Tryz.prog w = .ok v' w' ∧ RowW w' B k v' (zs ++ [z]) ∧ w.grownBy w' v.ownBlock ∧ (v'.ownBlock = v.ownBlock ∨ ∃ k, v'.ownBlock = some k ∧ w.heap.size ≤ k) ∧ Ext w w' := by
  obtain ⟨cs, h1, h2, h3⟩ := h
  obtain ⟨v', w', a1, a2, a3, a4, a5, a6⟩ := appendI_run w B v zs.length cs h1 g (.bool n) (.slice A l c) rfl rfl hb hl hB ty (noU_int n A l c) h2
  have hlen : cs.length = 2 * zs.length := by have := h1.1; omega
  refine ⟨v', w', a1, ⟨cs ++ [.bool n, .slice A l c], by rw [List.length_append]; exact a2, a5, fun j y hy => ?_⟩, a3, a4, a6⟩
  rcases Nat.lt_or_ge j zs.length with hj | hj
  · rw [List.getElem?_append_left hj] at hy
    obtain ⟨n', A', l', c', b1, b2, b3⟩ := h3 j y hy
    exact ⟨n', A', l', c', by rw [List.getElem?_append_left (by omega)]; exact b1, by rw [List.getElem?_append_left (by omega)]; exact b2, b3.ext a6⟩
  · rw [List.getElem?_append_right hj] at hy
    have hj0 : j - zs.length = 0 := by
      rcases Nat.eq_zero_or_pos (j - zs.length) with h | h
      · exact h
      · rw [List.getElem?_eq_none (by simp; omega)] at hy; cases hy
    rw [hj0] at hy
    have hy' : z = y := Option.some.inj hy
    subst hy'
    refine ⟨n, A, l, c, ?_, ?_, hq.ext a6⟩
    · rw [List.getElem?_append_right (by omega), show 2 * j - cs.length = 0 by omega]; rfl
    · rw [List.getElem?_append_right (by omega), show 2 * j + 1 - cs.length = 1 by omega]; rfl
/-- One box was written. -/
theorem RowW.low1 (h : RowW w B k v zs) {X : List Nat} {g : Nat} (hl : Low X w w') (hX : ∀ x ∈ X, x = g) (hne : v.ownBlock ≠ some g) : RowW w' B k v zs :=
  h.step (r := some g) ⟨hl.os, hl.tape, hl.output, hl.size, fun k hk hn => hl.block k hk (fun hm => hn (by rw [hX k hm]))⟩ (Or.inr hne) hl.ext
/-- What 'append' writes, as a list of blocks. -/
theorem low_own {r : Option Nat} (hg : w.grownBy w' r) (he : Ext w w') : Low r.toList w w' :=
  ⟨hg.os, hg.tape, hg.output, hg.size, fun i hi hX => hg.block i hi (fun e => hX (by rw [← e]; simp)), he⟩
theorem RowW.far (h : RowW w B k v zs) {g : Nat} (hg : g < B) : g ∉ v.ownBlock.toList := by
  intro hm
  cases hv : v.ownBlock with
  | none => rw [hv] at hm; simp at hm
  | some x =>
    rw [hv] at hm
    simp at hm
    have := (h.lt x hv).1
    omega
theorem RowW.near (h : RowW w B k v zs) {b : Nat} (hb : b ≤ B) : ∀ x ∈ v.ownBlock.toList, b ≤ x := by
  intro x hm
  cases hv : v.ownBlock with
  | none => rw [hv] at hm; simp at hm
  | some y =>
    rw [hv] at hm
    simp at hm
    have := (h.lt y hv).1
    omega
theorem RowW.read (h : RowW w B k v zs) (hn : 0 < zs.length) : ∃ g cap, v = .slice (some ⟨g, 0, none⟩) zs.length cap ∧ RowR w g k zs.length (fun j => zs.getD j 0) := by
  obtain ⟨cs, h1, -, h3⟩ := h
  obtain ⟨g, cap, hv, -, hlt, hc⟩ := h1.cells hn
  refine ⟨g, cap, hv, hlt, fun j hj => ?_⟩
  obtain ⟨n, A, l, c, a0, b0, q0⟩ := h3 j (zs.getD j 0) (by rw [List.getD_eq_getElem?_getD, List.getElem?_eq_getElem hj]; rfl)
  exact ⟨n, A, l, c, by rw [Nat.mul_comm]; exact hc _ _ a0, by rw [Nat.mul_comm]; exact hc _ _ b0, q0⟩
end
/-- The first so many values. -/
def lst (a : Nat → Int) : Nat → List Int
  | 0 => []
  | n + 1 => lst a n ++ [a n]
theorem lst_len (a : Nat → Int) : ∀ n, (lst a n).length = n
  | 0 => rfl
  | n + 1 => by rw [lst, List.length_append, lst_len a n]; rfl
theorem lst_get (a : Nat → Int) (n : Nat) : ∀ j, j < n → (lst a n).getD j 0 = a j := by
  induction n with
  | zero => intro j hj; omega
  | succ n ih =>
    intro j hj
    rw [lst, List.getD_eq_getElem?_getD]
    rcases Nat.lt_or_ge j n with h | h
    · rw [List.getElem?_append_left (by rw [lst_len]; exact h), ← List.getD_eq_getElem?_getD]
      exact ih j h
    · obtain rfl : j = n := by omega
      rw [List.getElem?_append_right (by rw [lst_len]; exact Nat.le_refl _), lst_len]
      simp
theorem wpList_appendW {ops : Array Oper} {rest : List Oper} {o : Oper} {a : Act} {Q : Exit → Act → World → Prop} {w : World} {B k : Nat} {v : Value} {zs : List Int} (hgd : o.guard = none) (s x : Operand)
    (ho : o.op = .call { callee := .builtin .append, args := #[s, x], argTypes := #[63, 63] })
    (hs : a.eval s = v) (h : RowW w B k v zs) {g : Nat} {n : Bool} {A : Option Addr} {l c : Nat} {z : Int} (hx : a.eval x = .slice (some ⟨g, 0, none⟩) 1 1) (hb : Blk w g 25 #[.bool n, .slice A l c]) (hq : QB w 0 k n A l c z) (hl : zs.length ≤ 1000) (hB : B ≤ w.heap.size)
    (hk : ∀ v' w', RowW w' B k v' (zs ++ [z]) → w.grownBy w' v.ownBlock → (v'.ownBlock = v.ownBlock ∨ ∃ k, v'.ownBlock = some k ∧ w.heap.size ≤ k) → Low v.ownBlock.toList w w' → wpList Tryz.prog ops Q rest (a.put o.dst v') w') : wpList Tryz.prog ops Q (o :: rest) a w :=
  wpList_plain hgd fun _ hK => by
    obtain ⟨v', w', hrun, h2, h3, h4, h5⟩ := h.push hb hq hl hB o.type
    unfold Oper.wp execOp
    simp only [ho, resolve, invoke, builtin, Sem.run_bind, Sem.run_pure, Result.andThen_ok, List.map_toArray, List.map_cons, List.map_nil, hs, hx, hrun]
    exact hK _ _ (hk v' w' h2 h3 h4 (low_own h3 h5))
end Go.Proofs.YtnfbngiabdlclaaGreat
end
