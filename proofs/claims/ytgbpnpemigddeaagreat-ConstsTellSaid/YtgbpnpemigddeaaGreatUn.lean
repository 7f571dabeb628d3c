/- append of integers to a row of one's own; rows that are read. Rows of integers that are read; hairlineref06.turned. hairlineref06: wave. hairlineref06: Atan. -/
import Derived.Test.YtgbpnpemigddeaaGreatFree
import Derived.Test.YtgbpnpemigddeaaGreatBa1
import Derived.Test.YtgbpnpemigddeaaGreatWk
import Derived.Laws.AppendOwn
import Derived.Test.YtgbpnpemigddeaaGreatUg
set_option linter.unusedVariables false
set_option linter.unusedSimpArgs false
namespace Go.Proofs.YtgbpnpemigddeaaGreat
section
section
section
open Go.RowKit
theorem infoI : (Tryz.prog.info? 25).map (fun i => (i.zero, i.size, i.bytes)) = some (some (.agg #[.bool false, .slice none 0 0]), 2, 32) := by kernel_rfl
def IRow (w : World) (B : Nat) (v : Value) (n : Nat) (cs : List Value) : Prop := w.ownsRow B 25 2 v n cs
theorem IRow.nil (w : World) (B : Nat) : IRow w B (.slice none 0 0) 0 [] := World.ownsRow_nil w B _ 2
theorem IRow.below {w w' : World} {B n : Nat} {v : Value} {cs : List Value} (h : IRow w B v n cs) (hb : Below w.heap.size w w') : IRow w' B v n cs :=
  World.ownsRow.kept (row := none) h ⟨hb.os, hb.tape, hb.output, hb.size, fun k hk _ => hb.block k hk⟩ (by cases v.ownBlock <;> simp)
theorem IRow.grown {w w' : World} {B n : Nat} {v : Value} {cs : List Value} {r : Option Nat} (h : IRow w B v n cs) (hg : w.grownBy w' r) (hne : v.ownBlock = none ∨ v.ownBlock ≠ r) : IRow w' B v n cs :=
  World.ownsRow.kept h hg hne
theorem IRow.lt {w : World} {B n : Nat} {v : Value} {cs : List Value} (h : IRow w B v n cs) : ∀ k, v.ownBlock = some k → B ≤ k ∧ k < w.heap.size := World.ownsRow.lt h
def NoL (l : List Value) : Prop := ∀ u ∈ l, ∀ x : Int, u ≠ .int .u64 x
theorem jnp {cs : Array Value} (h : NoL cs.toList) : NoU cs := by
  intro i x hx; have : cs.toList[i]? = some (.int .u64 x) := by rw [Array.getElem?_toList]; exact hx
  exact h _ (List.mem_of_getElem? this) x rfl
theorem jq5 {cs : Array Value} (h : NoU cs) : NoL cs.toList := by
  intro u hu x hx; obtain ⟨i, hi, he⟩ := List.mem_iff_getElem.1 hu; refine h i x ?_; rw [← hx, ← he, ← Array.getElem?_toList, List.getElem?_eq_getElem hi]
theorem NoL.append {l m : List Value} (h : NoL l) (k : NoL m) : NoL (l ++ m) := fun u hu => (List.mem_append.1 hu).elim (h u) (k u)
theorem NoL.take {l : List Value} (h : NoL l) (n : Nat) : NoL (l.take n) := fun u hu => h u (List.mem_of_mem_take hu)
theorem NoL.drop {l : List Value} (h : NoL l) (n : Nat) : NoL (l.drop n) := fun u hu => h u (List.mem_of_mem_drop hu)
theorem jky (n : Nat) : NoL (Builtin.zeroCells (Value.cells (.agg #[.bool false, .slice none 0 0])) n).toList := by
  intro u hu x hx; subst hx; obtain ⟨i, hi, he⟩ := List.mem_iff_getElem.1 hu; simp [Builtin.zeroCells, Value.cells] at he
  rcases (show i % 2 = 0 ∨ i % 2 = 1 by omega) with h | h <;> simp [h] at he
set_option maxRecDepth 100000 in
theorem jfy (w : World) (B : Nat) (v : Value) (n : Nat) (cs : List Value) (hown : IRow w B v n cs) (g : Nat) (x y : Value) (hx : x.oneCell' = true) (hy : y.oneCell' = true) (hb : Blk w g 25 #[x, y]) (hn : n ≤ 1000) (hB : B ≤ w.heap.size) (ty : TypeId) (hxy : NoU #[x, y]) (hbox : ∀ k, v.ownBlock = some k → BoxAt w k) :
    ∃ v' w', (Builtin.append_ #[66, 66] ty #[v, .slice (some ⟨g, 0, none⟩) 1 1]).run Tryz.prog w = .ok v' w' ∧ IRow w' B v' (n + 1) (cs ++ [x, y]) ∧ w.grownBy w' v.ownBlock ∧ (v'.ownBlock = v.ownBlock ∨ ∃ k, v'.ownBlock = some k ∧ w.heap.size ≤ k) ∧ (∀ k, v'.ownBlock = some k → BoxAt w' k) ∧ Ext w w' := by
  obtain ⟨i0, hi, hz0, hz1, hz2⟩ := info_parts infoI
  have hnews : ∀ j u, [x, y][j]? = some u → w.cell? ((⟨g, 0, none⟩ : Addr).add j) = some u := by
    intro j u hu; have hadd : (⟨g, 0, none⟩ : Addr).add j = ⟨g, j, none⟩ := by unfold Addr.add; split <;> simp_all
    rw [hadd, hb.cell]
    match j with
    | 0 => simpa using hu
    | 1 => simpa using hu
    | j + 2 => simp at hu
  have hone : ∀ u ∈ [x, y], u.oneCell' = true := by
    intro u hu; simp at hu
    rcases hu with rfl | rfl
    · exact hx
    · exact hy
  obtain ⟨v', w', h1, h2, h3, -⟩ := run_append_own (P := Tryz.prog) w B 66 ty 25 i0 _ 2 32 Tryz.underlying66 hi hz0 hz1 hz2 rfl (by omega) v n cs hown ⟨g, 0, none⟩ 1 1 [x, y] rfl hnews hone (by simp only [maxLen]; omega) (by omega) hB
  have hext : Ext w w' := ⟨h3.size, fun b hlt => by
    by_cases hr : v.ownBlock = some b
    · exact .inr (hbox b hr)
    · exact .inl (h3.block b hlt (fun e => hr e.symm))⟩
  have hxyl : NoL [x, y] := jq5 (cs := #[x, y]) hxy; have hz2' : (Value.cells (.agg #[.bool false, .slice none 0 0])) = (Value.cells (.agg #[.bool false, .slice none 0 0])) := rfl
  suffices hh : (v'.ownBlock = v.ownBlock ∨ ∃ k, v'.ownBlock = some k ∧ w.heap.size ≤ k) ∧ (∀ k, v'.ownBlock = some k → BoxAt w' k) from ⟨v', w', h1, h2, h3, hh.1, hh.2, hext⟩
  rcases hown.2 with ⟨rfl, rfl⟩ | ⟨g', cap, cur, rfl, hbg, hg, hnc, hcm, hcs, htake⟩
  · have hr := run_append_nil (P := Tryz.prog) w 66 ty 25 i0 _ Tryz.underlying66 hi hz0 ⟨g, 0, none⟩ 1 1 [x, y] (by rw [hz1]; rfl) hnews (by omega) (by omega) (by rw [hz2]; omega)
    rw [h1] at hr
    cases hr
    refine ⟨.inr ⟨w.heap.size, rfl, Nat.le_refl _⟩, fun k hk => ?_⟩; have hk' : w.heap.size = k := Option.some.inj hk; subst hk'; refine ⟨_, _, heap_alloc_new w.drew _, jnp ?_⟩; rw [Array.toList_append]; exact hxyl.append (jky _)
  · obtain ⟨cs0, t0, hb0, hn0⟩ := hbox g' rfl
    have hcur : NoL cur.toList := by
      have : cs0 = cur := by
        have h5 : w.heap[g']? = some (.cells cs0 t0 (0, 0)) := hb0; rw [hg] at h5; injection h5 with h5
        injection h5 with h5
        exact h5.symm
      exact this ▸ jq5 hn0
    by_cases hroom : n + 1 ≤ cap
    · have hfit : n * i0.size + [x, y].length ≤ cur.size := by rw [hz1, hcs]; simp; omega
      have hr := run_append_room (P := Tryz.prog) w 66 ty 25 i0 Tryz.underlying66 hi g' n cap cur hg ⟨g, 0, none⟩ 1 1 [x, y] (by rw [hz1]; rfl) hnews hone hroom hfit; rw [h1] at hr
      cases hr
      refine ⟨.inl rfl, fun k hk => ?_⟩; have hk' : g' = k := Option.some.inj hk; subst hk'; refine ⟨_, _, setRow_heap w g' cur _ _ _ hg, jnp ?_⟩; exact ((hcur.take _).append hxyl).append (hcur.drop _)
    · have holds : ∀ j u, cs[j]? = some u → w.cell? ((⟨g', 0, none⟩ : Addr).add j) = some u := World.ownsRow.cells hown (g := g') rfl
      have hr := run_append_grow (P := Tryz.prog) w 66 ty 25 i0 _ Tryz.underlying66 hi hz0 ⟨g', 0, none⟩ n cap cs (by rw [hz1]; exact hown.1) holds ⟨g, 0, none⟩ 1 1 [x, y] (by rw [hz1]; rfl) hnews (by omega) (by omega) (growslice_fits (by omega) (by rw [hz2]; omega)); rw [h1] at hr
      cases hr
      refine ⟨.inr ⟨w.heap.size, rfl, Nat.le_refl _⟩, fun k hk => ?_⟩; have hk' : w.heap.size = k := Option.some.inj hk; subst hk'; refine ⟨_, _, heap_alloc_new w.drew _, jnp ?_⟩; rw [Array.toList_append, Array.toList_append]; have hcsl : NoL cs := by rw [← htake]; exact hcur.take _
      exact (NoL.append (l := cs) (m := [x, y]) hcsl hxyl).append (jky _)
theorem IRow.cells {w : World} {B n : Nat} {v : Value} {cs : List Value} (h : IRow w B v n cs) (hn : 0 < n) : ∃ g cap, v = .slice (some ⟨g, 0, none⟩) n cap ∧ B ≤ g ∧ g < w.heap.size ∧ ∀ j u, cs[j]? = some u → w.cell? ⟨g, j, none⟩ = some u := by
  rcases h.2 with ⟨-, h0⟩ | ⟨g, cap, cur, rfl, hbg, hg, hnc, hcm, hcs, htake⟩
  · omega
  · refine ⟨g, cap, rfl, hbg, (h.lt g rfl).2, fun j u hu => ?_⟩
    have := World.ownsRow.cells h (g := g) rfl j u hu; have hadd : (⟨g, 0, none⟩ : Addr).add j = ⟨g, j, none⟩ := by unfold Addr.add; split <;> simp_all
    rwa [hadd] at this
def RowV (w : World) (B k : Nat) (v : Value) (zs : List Int) : Prop :=
  ∃ cs, IRow w B v zs.length cs ∧ (∀ g, v.ownBlock = some g → BoxAt w g) ∧ ∀ (j : Nat) (z : Int), zs[j]? = some z → ∃ n A l c, cs[2 * j]? = some (.bool n) ∧ cs[2 * j + 1]? = some (.slice A l c) ∧ QB w B k n A l c z
section
variable {w w' : World} {B k : Nat} {v : Value} {zs : List Int}
theorem RowV.nil (w : World) (B k : Nat) : RowV w B k (.slice none 0 0) [] := by
  refine ⟨[], IRow.nil w B, ?_, ?_⟩
  · intro g h
    cases h
  · intro j z h
    simp at h
theorem RowV.lt (h : RowV w B k v zs) : ∀ g, v.ownBlock = some g → B ≤ g ∧ g < w.heap.size := by
  obtain ⟨cs, h1, -, -⟩ := h; exact h1.lt
theorem RowV.step (h : RowV w B k v zs) {r : Option Nat} (hg : w.grownBy w' r) (hne : v.ownBlock = none ∨ v.ownBlock ≠ r) (he : Ext w w') : RowV w' B k v zs := by
  obtain ⟨cs, h1, h2, h3⟩ := h; refine ⟨cs, h1.grown hg hne, fun g hgv => ?_, fun j z hz => ?_⟩
  · obtain ⟨cs', t, a, b⟩ := h2 g hgv
    refine ⟨cs', t, (hg.block g (h1.lt g hgv).2 (fun e => ?_)).trans a, b⟩
    rcases hne with h | h
    · rw [h] at hgv; cases hgv
    · exact h (hgv.trans e)
  · obtain ⟨n, A, l, c, a, b, d⟩ := h3 j z hz
    exact ⟨n, A, l, c, a, b, d.ext he⟩
theorem RowV.below (h : RowV w B k v zs) (hb : Below w.heap.size w w') : RowV w' B k v zs :=
  h.step (r := none) ⟨hb.os, hb.tape, hb.output, hb.size, fun k hk _ => hb.block k hk⟩ (by cases v.ownBlock <;> simp) (jah hb)
theorem RowV.push (h : RowV w B k v zs) {g : Nat} {n : Bool} {A : Option Addr} {l c : Nat} {z : Int} (hb : Blk w g 25 #[.bool n, .slice A l c]) (hq : QB w B k n A l c z) (hl : zs.length ≤ 1000) (hB : B ≤ w.heap.size) (ty : TypeId) :
    ∃ v' w', (Builtin.append_ #[66, 66] ty #[v, .slice (some ⟨g, 0, none⟩) 1 1]).run Tryz.prog w = .ok v' w' ∧ RowV w' B k v' (zs ++ [z]) ∧ w.grownBy w' v.ownBlock ∧ (v'.ownBlock = v.ownBlock ∨ ∃ k, v'.ownBlock = some k ∧ w.heap.size ≤ k) ∧ Ext w w' := by
  obtain ⟨cs, h1, h2, h3⟩ := h; obtain ⟨v', w', a1, a2, a3, a4, a5, a6⟩ := jfy w B v zs.length cs h1 g (.bool n) (.slice A l c) rfl rfl hb hl hB ty (jen n A l c) h2; have hlen : cs.length = 2 * zs.length := by have := h1.1; omega
  refine ⟨v', w', a1, ⟨cs ++ [.bool n, .slice A l c], by rw [List.length_append]; exact a2, a5, fun j y hy => ?_⟩, a3, a4, a6⟩
  rcases Nat.lt_or_ge j zs.length with hj | hj
  · rw [List.getElem?_append_left hj] at hy
    obtain ⟨n', A', l', c', b1, b2, b3⟩ := h3 j y hy; exact ⟨n', A', l', c', by rw [List.getElem?_append_left (by omega)]; exact b1, by rw [List.getElem?_append_left (by omega)]; exact b2, b3.ext a6⟩
  · rw [List.getElem?_append_right hj] at hy
    have hj0 : j - zs.length = 0 := by
      rcases Nat.eq_zero_or_pos (j - zs.length) with h | h
      · exact h
      · rw [List.getElem?_eq_none (by simp; omega)] at hy; cases hy
    rw [hj0] at hy; have hy' : z = y := Option.some.inj hy; subst hy'; refine ⟨n, A, l, c, ?_, ?_, hq.ext a6⟩
    · rw [List.getElem?_append_right (by omega), show 2 * j - cs.length = 0 by omega]; rfl
    · rw [List.getElem?_append_right (by omega), show 2 * j + 1 - cs.length = 1 by omega]; rfl
end
end
end
section
section
open Go.RowKit
theorem Low.cell_ {X : List Nat} {w w' : World} (h : Low X w w') {g j : Nat} {v : Value} (hg : g < w.heap.size) (hX : g ∉ X) (hc : w.cell? ⟨g, j, none⟩ = some v) : w'.cell? ⟨g, j, none⟩ = some v := by
  rw [← hc]; simp only [World.cell?, h.block g hg hX]
def RowR (w : World) (g k L : Nat) (a : Nat → Int) : Prop := g < w.heap.size ∧ ∀ j, j < L → ∃ n A l c, w.cell? ⟨g, j * 2, none⟩ = some (.bool n) ∧ w.cell? ⟨g, j * 2 + 1, none⟩ = some (.slice A l c) ∧ QB w 0 k n A l c (a j)
theorem RowR.low {X : List Nat} {w w' : World} {g k L : Nat} {a : Nat → Int} (h : RowR w g k L a) (hl : Low X w w') (hX : g ∉ X) : RowR w' g k L a := by
  refine ⟨Nat.lt_of_lt_of_le h.1 hl.size, fun j hj => ?_⟩; obtain ⟨n, A, l, c, h1, h2, h3⟩ := h.2 j hj; exact ⟨n, A, l, c, hl.cell_ h.1 hX h1, hl.cell_ h.1 hX h2, h3.ext hl.ext⟩
end
end
section
section
open Go.RowKit
open L (val dig nth)
def RowW (w : World) (B k : Nat) (v : Value) (zs : List Int) : Prop :=
  ∃ cs, IRow w B v zs.length cs ∧ (∀ g, v.ownBlock = some g → BoxAt w g) ∧ ∀ (j : Nat) (z : Int), zs[j]? = some z → ∃ n A l c, cs[2 * j]? = some (.bool n) ∧ cs[2 * j + 1]? = some (.slice A l c) ∧ QB w 0 k n A l c z
section
variable {w w' : World} {B k : Nat} {v : Value} {zs : List Int}
theorem RowW.nil (w : World) (B k : Nat) : RowW w B k (.slice none 0 0) [] := by
  refine ⟨[], IRow.nil w B, ?_, ?_⟩
  · intro g h
    cases h
  · intro j z h
    simp at h
theorem RowW.lt (h : RowW w B k v zs) : ∀ g, v.ownBlock = some g → B ≤ g ∧ g < w.heap.size := by
  obtain ⟨cs, h1, -, -⟩ := h; exact h1.lt
theorem RowW.step (h : RowW w B k v zs) {r : Option Nat} (hg : w.grownBy w' r) (hne : v.ownBlock = none ∨ v.ownBlock ≠ r) (he : Ext w w') : RowW w' B k v zs := by
  obtain ⟨cs, h1, h2, h3⟩ := h; refine ⟨cs, h1.grown hg hne, fun g hgv => ?_, fun j z hz => ?_⟩
  · obtain ⟨cs', t, a, b⟩ := h2 g hgv
    refine ⟨cs', t, (hg.block g (h1.lt g hgv).2 (fun e => ?_)).trans a, b⟩
    rcases hne with h | h
    · rw [h] at hgv; cases hgv
    · exact h (hgv.trans e)
  · obtain ⟨n, A, l, c, a, b, d⟩ := h3 j z hz
    exact ⟨n, A, l, c, a, b, d.ext he⟩
theorem RowW.below (h : RowW w B k v zs) (hb : Below w.heap.size w w') : RowW w' B k v zs :=
  h.step (r := none) ⟨hb.os, hb.tape, hb.output, hb.size, fun k hk _ => hb.block k hk⟩ (by cases v.ownBlock <;> simp) (jah hb)
theorem RowW.push (h : RowW w B k v zs) {g : Nat} {n : Bool} {A : Option Addr} {l c : Nat} {z : Int} (hb : Blk w g 25 #[.bool n, .slice A l c]) (hq : QB w 0 k n A l c z) (hl : zs.length ≤ 1000) (hB : B ≤ w.heap.size) (ty : TypeId) :
    ∃ v' w', (Builtin.append_ #[66, 66] ty #[v, .slice (some ⟨g, 0, none⟩) 1 1]).run Tryz.prog w = .ok v' w' ∧ RowW w' B k v' (zs ++ [z]) ∧ w.grownBy w' v.ownBlock ∧ (v'.ownBlock = v.ownBlock ∨ ∃ k, v'.ownBlock = some k ∧ w.heap.size ≤ k) ∧ Ext w w' := by
  obtain ⟨cs, h1, h2, h3⟩ := h; obtain ⟨v', w', a1, a2, a3, a4, a5, a6⟩ := jfy w B v zs.length cs h1 g (.bool n) (.slice A l c) rfl rfl hb hl hB ty (jen n A l c) h2; have hlen : cs.length = 2 * zs.length := by have := h1.1; omega
  refine ⟨v', w', a1, ⟨cs ++ [.bool n, .slice A l c], by rw [List.length_append]; exact a2, a5, fun j y hy => ?_⟩, a3, a4, a6⟩
  rcases Nat.lt_or_ge j zs.length with hj | hj
  · rw [List.getElem?_append_left hj] at hy
    obtain ⟨n', A', l', c', b1, b2, b3⟩ := h3 j y hy; exact ⟨n', A', l', c', by rw [List.getElem?_append_left (by omega)]; exact b1, by rw [List.getElem?_append_left (by omega)]; exact b2, b3.ext a6⟩
  · rw [List.getElem?_append_right hj] at hy
    have hj0 : j - zs.length = 0 := by
      rcases Nat.eq_zero_or_pos (j - zs.length) with h | h
      · exact h
      · rw [List.getElem?_eq_none (by simp; omega)] at hy; cases hy
    rw [hj0] at hy; have hy' : z = y := Option.some.inj hy; subst hy'; refine ⟨n, A, l, c, ?_, ?_, hq.ext a6⟩
    · rw [List.getElem?_append_right (by omega), show 2 * j - cs.length = 0 by omega]; rfl
    · rw [List.getElem?_append_right (by omega), show 2 * j + 1 - cs.length = 1 by omega]; rfl
theorem RowW.low1 (h : RowW w B k v zs) {X : List Nat} {g : Nat} (hl : Low X w w') (hX : ∀ x ∈ X, x = g) (hne : v.ownBlock ≠ some g) : RowW w' B k v zs :=
  h.step (r := some g) ⟨hl.os, hl.tape, hl.output, hl.size, fun k hk hn => hl.block k hk (fun hm => hn (by rw [hX k hm]))⟩ (Or.inr hne) hl.ext
theorem jsb {r : Option Nat} (hg : w.grownBy w' r) (he : Ext w w') : Low r.toList w w' :=
  ⟨hg.os, hg.tape, hg.output, hg.size, fun i hi hX => hg.block i hi (fun e => hX (by rw [← e]; simp)), he⟩
theorem RowW.far (h : RowW w B k v zs) {g : Nat} (hg : g < B) : g ∉ v.ownBlock.toList := by
  intro hm
  cases hv : v.ownBlock with
  | none => rw [hv] at hm; simp at hm
  | some x =>
    rw [hv] at hm; simp at hm; have := (h.lt x hv).1
    omega
theorem RowW.near (h : RowW w B k v zs) {b : Nat} (hb : b ≤ B) : ∀ x ∈ v.ownBlock.toList, b ≤ x := by
  intro x hm
  cases hv : v.ownBlock with
  | none => rw [hv] at hm; simp at hm
  | some y =>
    rw [hv] at hm; simp at hm; have := (h.lt y hv).1
    omega
theorem RowW.read (h : RowW w B k v zs) (hn : 0 < zs.length) : ∃ g cap, v = .slice (some ⟨g, 0, none⟩) zs.length cap ∧ RowR w g k zs.length (fun j => zs.getD j 0) := by
  obtain ⟨cs, h1, -, h3⟩ := h; obtain ⟨g, cap, hv, -, hlt, hc⟩ := h1.cells hn; refine ⟨g, cap, hv, hlt, fun j hj => ?_⟩; obtain ⟨n, A, l, c, a0, b0, q0⟩ := h3 j (zs.getD j 0) (by rw [List.getD_eq_getElem?_getD, List.getElem?_eq_getElem hj]; rfl); exact ⟨n, A, l, c, by rw [Nat.mul_comm]; exact hc _ _ a0, by rw [Nat.mul_comm]; exact hc _ _ b0, q0⟩
end
def lst (a : Nat → Int) : Nat → List Int
  | 0 => []
  | n + 1 => lst a n ++ [a n]
theorem jda (a : Nat → Int) : ∀ n, (lst a n).length = n
  | 0 => rfl
  | n + 1 => by rw [lst, List.length_append, jda a n]; rfl
theorem jsc (a : Nat → Int) (n : Nat) : ∀ j, j < n → (lst a n).getD j 0 = a j := by
  induction n with
  | zero => intro j hj; omega
  | succ n ih =>
    intro j hj; rw [lst, List.getD_eq_getElem?_getD]
    rcases Nat.lt_or_ge j n with h | h
    · rw [List.getElem?_append_left (by rw [jda]; exact h), ← List.getD_eq_getElem?_getD]
      exact ih j h
    · obtain rfl : j = n := by omega
      rw [List.getElem?_append_right (by rw [jda]; exact Nat.le_refl _), jda]; simp
theorem jdv {ops : Array Oper} {rest : List Oper} {o : Oper} {a : Act} {Q : Exit → Act → World → Prop} {w : World} {B k : Nat} {v : Value} {zs : List Int} (hgd : o.guard = none) (s x : Operand)
    (ho : o.op = .call { callee := .builtin .append, args := #[s, x], argTypes := #[66, 66] })
    (hs : a.eval s = v) (h : RowW w B k v zs) {g : Nat} {n : Bool} {A : Option Addr} {l c : Nat} {z : Int} (hx : a.eval x = .slice (some ⟨g, 0, none⟩) 1 1) (hb : Blk w g 25 #[.bool n, .slice A l c]) (hq : QB w 0 k n A l c z) (hl : zs.length ≤ 1000) (hB : B ≤ w.heap.size)
    (hk : ∀ v' w', RowW w' B k v' (zs ++ [z]) → w.grownBy w' v.ownBlock → (v'.ownBlock = v.ownBlock ∨ ∃ k, v'.ownBlock = some k ∧ w.heap.size ≤ k) → Low v.ownBlock.toList w w' → wpList Tryz.prog ops Q rest (a.put o.dst v') w') : wpList Tryz.prog ops Q (o :: rest) a w :=
  wpList_plain hgd fun _ hK => by
    obtain ⟨v', w', hrun, h2, h3, h4, h5⟩ := h.push hb hq hl hB o.type; unfold Oper.wp execOp; simp only [ho, resolve, invoke, builtin, Sem.run_bind, Sem.run_pure, Result.andThen_ok, List.map_toArray, List.map_cons, List.map_nil, hs, hx, hrun]; exact hK _ _ (hk v' w' h2 h3 h4 (jsb h3 h5))
end
end
end
section
section
open Go.RowKit
open L (val dig nth)
theorem jkz {a b : Nat → Int} {i N : Nat} (h : i < 2 * N) : tu a b (min i (2 * N)) = tu a b i := by rw [Nat.min_eq_left (by omega)]
theorem jnq {a b : Nat → Int} {i N : Nat} (h : i < 2 * N) : tu a b (min (i + 1) (2 * N)) = tu a b (i + 1) := by rw [Nat.min_eq_left (by omega)]
set_option maxHeartbeats 4000000 in
set_option maxRecDepth 100000 in
theorem jiq {w : World} {g1 g2 c1 c2 L N M : Nat} {a b : Nat → Int}  (hr1 : RowR w g1 M L a) (hr2 : RowR w g2 M L b) (hL : Hid (L = 2 * N + 1)) (hN : N ≤ 400) (hM : M ≤ 400) (HS : Hid (∀ i, i ≤ L → (tu a b i).natAbs < W ^ M)) (HT : Hid (∀ i, i ≤ L → (tu b a i).natAbs < W ^ M)) :
    Calls Tryz.prog 93 #[.slice (some ⟨g1, 0, none⟩) L c1, .slice (some ⟨g2, 0, none⟩) L c2] w fun e w' => Below w.heap.size w w' ∧ VF (Fact.t2 (Fact.z M (tu a b (2 * N))) (Fact.z M (tu b a (2 * N + 1)))) e w' := by
 have hg1 := hr1.1; have hg2 := hr2.1; have hLN : L ≤ 801 := by have := hL.out; omega
 have hLp : (0 : Int) ≤ (L : Int) := by omega
 go_enter Tryz.func93, Tryz.ntmps93
 have HB : Hid (Below w.heap.size w w) := hide (Below.refl _ _)
 go_upto_region 0 with (fail)
 refine F2.regionS [.al 25 #[.bool false, .slice none 0 0], .al 25 #[.bool false, .slice none 0 0]] [Fact.any, Fact.any] [4, 5] [4, 5] (by kernel_rfl) ?soa ?sopa (by kernel_rfl) ?sta ?fina
 case soa => exact fun x hx => by cases hx
 case sopa => exact List.Pairwise.nil
 case sta =>
  refine F2.Steps.consA rfl ⟨NoU.two nB nS, ?_⟩ ?_
  ·
   intro vz wz hBz K hK; simp only [zy, F2.Wp] at hK ⊢; go_simp; exact hK
  refine F2.Steps.consA rfl ⟨NoU.two nB nS, ?_⟩ ?_
  ·
   intro vz wz hBz K hK; simp only [zy, F2.Wp] at hK ⊢; go_simp; exact hK
  exact F2.Steps.nil
 intro va w1 hBz ⟨hOz, hAz, hNz, hSz⟩; obtain ⟨g4, cs4, E4, hg4, bx4, hs4, hz4⟩ := hAz 0 _ _ (by decide) rfl; have hzz := hz4 (F2.nost (by kernel_rfl)); subst hzz; obtain ⟨g5, cs5, E5, hg5, bx5, hs5, hz5⟩ := hAz 1 _ _ (by decide) rfl; have hzz := hz5 (F2.nost (by kernel_rfl)); subst hzz; have hne4_5 : Hid (¬ g4 = g5) := hide (fun h => hNz 0 1 _ _ _ _ (by decide) (by decide) (by decide) rfl rfl (by rw [E4, E5, h])); simp only [Act.put, actv, fill, fC, fN, tA, cS, cZ]; simp only [(show va 4 = _ from E4), (show va 5 = _ from E5)]; clear E4 E5; have hge4 : w.heap.size ≤ g4 := Nat.le_trans HB.out.size hg4; have hge5 : w.heap.size ≤ g5 := Nat.le_trans HB.out.size hg5; replace hr1 := hr1.low hBz zN; replace hr2 := hr2.low hBz zN; replace HB := hide (HB.out.trans (hBz.below (B := w.heap.size) HB.out.size zE)); clear hOz hAz hNz hSz hs4 hz4 hs5 hz5 hBz
 go_upto_region 1 with (fail)
 refine F2.regionS [.o, .al 25 #[.bool false, .slice none 0 0], .st 1] [Fact.eq ?cb9_, Fact.any, Fact.z ?kbs6_ ?zbs6_] [9, 6] [9, 6, 0] (by kernel_rfl) ?sob ?sopb (by kernel_rfl) ?stb ?finb
 case sob => exact fun x hx => by cases hx
 case sopb => exact List.Pairwise.nil
 case stb =>
  refine F2.Steps.consO rfl ?_ ?_
  ·
   intro vz wz hBz hDz hTz K hK; have HW := hBz.ext; simp only [zy, F2.Wp] at hK ⊢; go_simp; refine hK _ wz zB (Fact.eq_mk ?_); with_reducible rfl
  refine F2.Steps.consA rfl ⟨NoU.two nB nS, ?_⟩ ?_
  ·
   intro vz wz hBz K hK; simp only [zy, F2.Wp] at hK ⊢; go_simp; exact hK
  refine F2.Steps.consS rfl rfl ?_ ?_
  ·
   intro vz wz gz hBz hDz E6' hgz hbz K hK; obtain ⟨zc0, zc1, zc2, zc3⟩ := hbz.two; have E9 : vz 9 = _ := hDz 0 (by kernel_rfl) rfl; have E6 : vz 6 = .pointer (some ⟨gz, 0, none⟩) := E6'; have HW := hBz.ext; simp only [zy, F2.Wp] at hK ⊢; simp only [E6, E9] at hK ⊢; go_simp; refine hK _ ((Far.set _ gz 0 _).trans (Far.set _ gz 1 _)) ⟨_, jab hbz, NoU.two nB nS, Fact.cast (Fact.z_mk (QB.zero _ 0 0)) ?_⟩; with_reducible rfl
  exact F2.Steps.nil
 intro vb w2 hBz ⟨hOz, hAz, hNz, hSz⟩; have E9 : vb 9 = _ := hOz 0 (by decide) rfl; obtain ⟨g6, cs6, E6, hg6, bx6, hs6, hz6⟩ := hAz 1 _ _ (by decide) rfl; obtain ⟨n6sb_, A6sb_, l6sb_, c6sb_, E6sb, q6sb⟩ : IntV 0 _ _ w2 (.agg cs6) := hs6 2 (by decide) rfl; injection E6sb with E6sb
 subst E6sb; simp only [Act.put, actv, fill, fC, fN, tA, cS, cZ]; simp only [E9, (show vb 6 = _ from E6)]; clear E9 E6; have hge6 : w.heap.size ≤ g6 := Nat.le_trans HB.out.size hg6; have hne6_4 := hide (Nat.ne_of_gt (Nat.lt_of_lt_of_le bx4.lt (show w1.heap.size ≤ g6 from hg6))); have hne6_5 := hide (Nat.ne_of_gt (Nat.lt_of_lt_of_le bx5.lt (show w1.heap.size ≤ g6 from hg6))); replace bx4 := hBz.blk bx4 zN; replace bx5 := hBz.blk bx5 zN; replace hr1 := hr1.low hBz zN; replace hr2 := hr2.low hBz zN; replace HB := hide (HB.out.trans (hBz.below (B := w.heap.size) HB.out.size zE)); clear hOz hAz hNz hSz hs6 hz6 hBz
 go_upto_region 2 with (fail)
 refine F2.regionS [.o, .al 25 #[.bool false, .slice none 0 0], .st 1] [Fact.eq ?cc10_, Fact.any, Fact.z ?kcs7_ ?zcs7_] [10, 7] [10, 7, 0] (by kernel_rfl) ?soc ?sopc (by kernel_rfl) ?stc ?finc
 case soc => exact fun x hx => by cases hx
 case sopc => exact List.Pairwise.nil
 case stc =>
  refine F2.Steps.consO rfl ?_ ?_
  ·
   intro vz wz hBz hDz hTz K hK; have HW := hBz.ext; simp only [zy, F2.Wp] at hK ⊢; go_simp; refine hK _ wz zB (Fact.eq_mk ?_); with_reducible rfl
  refine F2.Steps.consA rfl ⟨NoU.two nB nS, ?_⟩ ?_
  ·
   intro vz wz hBz K hK; simp only [zy, F2.Wp] at hK ⊢; go_simp; exact hK
  refine F2.Steps.consS rfl rfl ?_ ?_
  ·
   intro vz wz gz hBz hDz E7' hgz hbz K hK; obtain ⟨zc0, zc1, zc2, zc3⟩ := hbz.two; have E10 : vz 10 = _ := hDz 0 (by kernel_rfl) rfl; have E7 : vz 7 = .pointer (some ⟨gz, 0, none⟩) := E7'; have HW := hBz.ext; simp only [zy, F2.Wp] at hK ⊢; simp only [E7, E10] at hK ⊢; go_simp; refine hK _ ((Far.set _ gz 0 _).trans (Far.set _ gz 1 _)) ⟨_, jab hbz, NoU.two nB nS, Fact.cast (Fact.z_mk (QB.zero _ 0 0)) ?_⟩; with_reducible rfl
  exact F2.Steps.nil
 intro vc w3 hBz ⟨hOz, hAz, hNz, hSz⟩; have E10 : vc 10 = _ := hOz 0 (by decide) rfl; obtain ⟨g7, cs7, E7, hg7, bx7, hs7, hz7⟩ := hAz 1 _ _ (by decide) rfl; obtain ⟨n7sc_, A7sc_, l7sc_, c7sc_, E7sc, q7sc⟩ : IntV 0 _ _ w3 (.agg cs7) := hs7 2 (by decide) rfl; injection E7sc with E7sc
 subst E7sc; simp only [Act.put, actv, fill, fC, fN, tA, cS, cZ]; simp only [E10, (show vc 7 = _ from E7)]; clear E10 E7; have hge7 : w.heap.size ≤ g7 := Nat.le_trans HB.out.size hg7; have hne7_4 := hide (Nat.ne_of_gt (Nat.lt_of_lt_of_le bx4.lt (show w2.heap.size ≤ g7 from hg7))); have hne7_5 := hide (Nat.ne_of_gt (Nat.lt_of_lt_of_le bx5.lt (show w2.heap.size ≤ g7 from hg7))); have hne7_6 := hide (Nat.ne_of_gt (Nat.lt_of_lt_of_le bx6.lt (show w2.heap.size ≤ g7 from hg7))); replace q6sb := q6sb.ext hBz.ext; replace bx4 := hBz.blk bx4 zN; replace bx5 := hBz.blk bx5 zN; replace bx6 := hBz.blk bx6 zN; replace hr1 := hr1.low hBz zN; replace hr2 := hr2.low hBz zN; replace HB := hide (HB.out.trans (hBz.below (B := w.heap.size) HB.out.size zE)); clear hOz hAz hNz hSz hs7 hz7 hBz
 go_upto_region 3 with (fail)
 refine F2.regionS [.o] [Fact.eq ?cd8_] [8] [8] (by kernel_rfl) ?sod ?sopd (by kernel_rfl) ?std ?find
 case sod => exact fun x hx => by cases hx
 case sopd => exact List.Pairwise.nil
 case std =>
  refine F2.Steps.consO rfl ?_ ?_
  ·
   intro vz wz hBz hDz hTz K hK; have HW := hBz.ext; simp only [zy, F2.Wp] at hK ⊢; go_simp; refine hK _ wz zB (Fact.eq_mk ?_); with_reducible rfl
  exact F2.Steps.nil
 intro vd w4 hBz ⟨hOz, hAz, hNz, hSz⟩; have E8 : vd 8 = _ := hOz 0 (by decide) rfl; simp only [Act.put, actv, fill, fC, fN, tA, cS, cZ]; simp only [E8]; clear E8; replace q6sb := q6sb.ext hBz.ext; replace q7sc := q7sc.ext hBz.ext; replace bx4 := hBz.blk bx4 zN; replace bx5 := hBz.blk bx5 zN; replace bx6 := hBz.blk bx6 zN; replace bx7 := hBz.blk bx7 zN; replace hr1 := hr1.low hBz zN; replace hr2 := hr2.low hBz zN; replace HB := hide (HB.out.trans (hBz.below (B := w.heap.size) HB.out.size zE)); clear hOz hAz hNz hSz hBz
 go_wp2_with fail
 go_loopw [8] (fun iv wr5 => ∃ i : Nat, i ≤ L ∧ iv = .int .i64 i ∧ Low [g6, g7] w4 wr5 ∧ True ∧ (∃ n6a A6a l6a c6a, Blk wr5 (g6) 25 #[.bool n6a, .slice A6a l6a c6a] ∧ QB wr5 0 (M) n6a A6a l6a c6a ((tu a b (min i (2 * N))))) ∧ (∃ n7a A7a l7a c7a, Blk wr5 (g7) 25 #[.bool n7a, .slice A7a l7a c7a] ∧ QB wr5 0 (M) n7a A7a l7a c7a ((tu b a i)))) (fun iv _ => L + 0 - (intOf iv).toNat)
 case atStart => exact ⟨0, by omega, rfl, Low.refl _ _, trivial, ⟨_, _, _, _, bx6, ((q6sb.up (by omega)).cast_ (by rw [Nat.zero_min]; rfl))⟩, ⟨_, _, _, _, bx7, (q7sc.up (by omega))⟩⟩
 case round =>
  obtain ⟨i, hi, rfl, HL5, hmore, ⟨n6a, A6a, l6a, c6a, bx6, q6a⟩, ⟨n7a, A7a, l7a, c7a, bx7, q7a⟩⟩ := hrel; replace bx4 := HL5.blk bx4 (zM (Ne.symm hne6_4.out) (zM (Ne.symm hne7_4.out) zN)); replace bx5 := HL5.blk bx5 (zM (Ne.symm hne6_5.out) (zM (Ne.symm hne7_5.out) zN)); replace hr1 := hr1.low HL5 (zM (Nat.ne_of_lt (Nat.lt_of_lt_of_le hg1 hge6)) (zM (Nat.ne_of_lt (Nat.lt_of_lt_of_le hg1 hge7)) zN)); replace hr2 := hr2.low HL5 (zM (Nat.ne_of_lt (Nat.lt_of_lt_of_le hg2 hge6)) (zM (Nat.ne_of_lt (Nat.lt_of_lt_of_le hg2 hge7)) zN)); replace HB := hide (HB.out.trans (HL5.below (B := w.heap.size) HB.out.size (zA hge6 (zA hge7 zE)))); have hszHL5 := HL5.size
  by_cases hlti : i < L
  ·
   have hlti' : (i : Int) < (L : Nat) := by omega
   have hsm : w.heap.size ≤ wr.heap.size := HB.out.size
   by_cases hpar : i % 2 = 0
   ·
    have hrm : Int.tmod (i : Int) 2 = 0 := by rw [Int.tmod_eq_emod_of_nonneg (by omega)]; omega
    have hpo : ¬ i % 2 = 1 := by omega
    obtain ⟨nb, Ab, lb, cb, kb0, kb1, qb⟩ := hr2.2 i (by omega)
    go_upto_region 7 with (fail)
    clear hrm; replace hpar := hide hpar; replace hpo := hide hpo; refine F2.region [.o, .o, .o, .o, .o, .o, .so (g7) 25 #[.bool n7a, .slice A7a l7a c7a]] [Fact.eq ?cf20_, Fact.eq ?cf21_, Fact.eq ?cf22_, Fact.eq ?cf23_, Fact.eq ?cf24_, Fact.z ?kf25_ ?zf25_, Fact.z ?kfs7_ ?zfs7_] [20, 21, 22, 23, 24, 25] [20, 21, 22, 23, 24, 25, 0] (by kernel_rfl) ?sof ?sopf (by kernel_rfl) ?stf ?finf
    case sof => exact List.forall_mem_cons.2 ⟨⟨bx7, NoU.two nB nS⟩, fun x hx => by cases hx⟩
    case sopf => exact List.Pairwise.cons (fun y hy => by cases hy) (List.Pairwise.nil)
    case stf =>
     refine F2.Steps.consO rfl ?_ ?_
     ·
      intro vz wz hBz hDz hTz K hK; have HW := jaa hBz.ext; have bx7z := hTz 6 _ _ _ _ rfl rfl (by kernel_rfl); obtain ⟨zl0, zl1, -⟩ := bx7z.two; simp only [zy, F2.Wp] at hK ⊢; go_simp; refine hK _ wz zB (Fact.eq_mk ?_); with_reducible rfl
     refine F2.Steps.consO rfl ?_ ?_
     ·
      intro vz wz hBz hDz hTz K hK; have HW := jaa hBz.ext; simp only [zy, F2.Wp] at hK ⊢; go_simp; refine hK _ wz zB (Fact.eq_mk ?_); with_reducible rfl
     refine F2.Steps.consO rfl ?_ ?_
     ·
      intro vz wz hBz hDz hTz K hK; have HW := jaa hBz.ext; simp only [zy, F2.Wp] at hK ⊢; go_simp; refine hK _ wz zB (Fact.eq_mk ?_); with_reducible rfl
     refine F2.Steps.consO rfl ?_ ?_
     ·
      intro vz wz hBz hDz hTz K hK; have E21 : vz 21 = _ := hDz 1 (by kernel_rfl) rfl; have E22 : vz 22 = _ := hDz 2 (by kernel_rfl) rfl; have HW := jaa hBz.ext; simp only [zy, F2.Wp] at hK ⊢; simp only [E21, E22] at hK ⊢; go_simp; refine hK _ wz zB (Fact.eq_mk ?_); with_reducible rfl
     refine F2.Steps.consO rfl ?_ ?_
     ·
      intro vz wz hBz hDz hTz K hK; have E23 : vz 23 = _ := hDz 3 (by kernel_rfl) rfl; have HW := jaa hBz.ext; have zl0 := hBz.cell_ hr2.1 (zM (Nat.ne_of_lt (Nat.lt_of_lt_of_le hg2 hge7)) zN) kb0; have zl1 := hBz.cell_ hr2.1 (zM (Nat.ne_of_lt (Nat.lt_of_lt_of_le hg2 hge7)) zN) kb1; simp only [zy, F2.Wp] at hK ⊢; simp only [E23] at hK ⊢; go_simp; refine hK _ wz zB (Fact.eq_mk ?_); with_reducible rfl
     refine F2.Steps.consO rfl ?_ ?_
     ·
      intro vz wz hBz hDz hTz K hK; have E20 : vz 20 = _ := hDz 0 (by kernel_rfl) rfl; have E24 : vz 24 = _ := hDz 4 (by kernel_rfl) rfl; have HW := jaa hBz.ext; simp only [zy, F2.Wp] at hK ⊢; simp only [E20, E24] at hK ⊢; go_simp; refine Calls.mono (jkh (q7a.ext HW).q (qb.ext HW).q (by omega) (by omega)) ?_; rintro e w2z ⟨hb2, uz, rfl, hf⟩; refine hK _ w2z hb2 (Fact.cast (hf) ?_); with_reducible rfl
     refine F2.Steps.consT rfl ?_ ?_
     ·
      intro vz wz hBz hDz hbz K hK; obtain ⟨zc0, zc1, zc2, zc3⟩ := hbz.two; obtain ⟨n25_, A25_, l25_, c25_, E25, q25⟩ : IntV 0 _ _ wz (vz 25) := hDz 5 (by kernel_rfl) rfl; have HW := jaa hBz.ext; simp only [zy, F2.Wp] at hK ⊢; simp only [E25] at hK ⊢; go_simp; refine hK _ ((Far.set _ _ 0 _).trans (Far.set _ _ 1 _)) ⟨_, jab hbz, NoU.two nB nS, Fact.cast (Fact.z_mk q25) ?_⟩; with_reducible rfl
     exact F2.Steps.nil
    intro vf w6 hBz ⟨hOz, hAz, hNz, hSz⟩; have E20 : vf 20 = _ := hOz 0 (by decide) rfl; have E21 : vf 21 = _ := hOz 1 (by decide) rfl; have E22 : vf 22 = _ := hOz 2 (by decide) rfl; have E23 : vf 23 = _ := hOz 3 (by decide) rfl; have E24 : vf 24 = _ := hOz 4 (by decide) rfl; obtain ⟨n25_, A25_, l25_, c25_, E25, q25⟩ : IntV 0 _ _ w6 (vf 25) := hOz 5 (by decide) rfl; obtain ⟨cs7, bx7n, hs7⟩ := hSz 6 _ _ _ (by decide) rfl; obtain ⟨n7sf_, A7sf_, l7sf_, c7sf_, E7sf, q7sf⟩ : IntV 0 _ _ w6 (.agg cs7) := hs7; injection E7sf with E7sf
    subst E7sf; simp only [Act.put, actv, fill, fC, fN, tA, cS, cZ]; simp only [E20, E21, E22, E23, E24, E25]; clear E20 E21 E22 E23 E24 E25; replace q6a := q6a.ext hBz.ext; replace q7a := q7a.ext hBz.ext; replace bx4 := hBz.blk bx4 (zM (Ne.symm hne7_4.out) zN); replace bx5 := hBz.blk bx5 (zM (Ne.symm hne7_5.out) zN); replace bx6 := hBz.blk bx6 (zM (Ne.symm hne7_6.out) zN); replace hr1 := hr1.low hBz (zM (Nat.ne_of_lt (Nat.lt_of_lt_of_le hg1 hge7)) zN); replace hr2 := hr2.low hBz (zM (Nat.ne_of_lt (Nat.lt_of_lt_of_le hg2 hge7)) zN); replace HL5 := HL5.step hBz (zA (Or.inl (by simp)) zE); replace HB := hide (HB.out.trans (hBz.below (B := w.heap.size) HB.out.size (zA hge7 zE))); clear bx7; have bx7 := bx7n; clear bx7n; clear hOz hAz hNz hSz hBz; clear kb0 kb1 qb
    by_cases hlast : i < 2 * N
    ·
     have hl1 : (i : Int) < (L : Int) - 1 := by have := hL.out; omega
     obtain ⟨nb, Ab, lb, cb, kb0, kb1, qb⟩ := hr1.2 i (by omega)
     go_upto_region 9 with (fail)
     clear hl1; refine F2.region [.o, .o, .o, .o, .o, .o, .so (g6) 25 #[.bool n6a, .slice A6a l6a c6a]] [Fact.eq ?cg31_, Fact.eq ?cg32_, Fact.eq ?cg33_, Fact.eq ?cg34_, Fact.eq ?cg35_, Fact.z ?kg36_ ?zg36_, Fact.z ?kgs6_ ?zgs6_] [31, 32, 33, 34, 35, 36] [31, 32, 33, 34, 35, 36, 0] (by kernel_rfl) ?sog ?sopg (by kernel_rfl) ?stg ?fing
     case sog => exact List.forall_mem_cons.2 ⟨⟨bx6, NoU.two nB nS⟩, fun x hx => by cases hx⟩
     case sopg => exact List.Pairwise.cons (fun y hy => by cases hy) (List.Pairwise.nil)
     case stg =>
      refine F2.Steps.consO rfl ?_ ?_
      ·
       intro vz wz hBz hDz hTz K hK; have HW := jaa hBz.ext; have bx6z := hTz 6 _ _ _ _ rfl rfl (by kernel_rfl); obtain ⟨zl0, zl1, -⟩ := bx6z.two; simp only [zy, F2.Wp] at hK ⊢; go_simp; refine hK _ wz zB (Fact.eq_mk ?_); with_reducible rfl
      refine F2.Steps.consO rfl ?_ ?_
      ·
       intro vz wz hBz hDz hTz K hK; have HW := jaa hBz.ext; simp only [zy, F2.Wp] at hK ⊢; go_simp; refine hK _ wz zB (Fact.eq_mk ?_); with_reducible rfl
      refine F2.Steps.consO rfl ?_ ?_
      ·
       intro vz wz hBz hDz hTz K hK; have HW := jaa hBz.ext; simp only [zy, F2.Wp] at hK ⊢; go_simp; refine hK _ wz zB (Fact.eq_mk ?_); with_reducible rfl
      refine F2.Steps.consO rfl ?_ ?_
      ·
       intro vz wz hBz hDz hTz K hK; have E32 : vz 32 = _ := hDz 1 (by kernel_rfl) rfl; have E33 : vz 33 = _ := hDz 2 (by kernel_rfl) rfl; have HW := jaa hBz.ext; simp only [zy, F2.Wp] at hK ⊢; simp only [E32, E33] at hK ⊢; go_simp; refine hK _ wz zB (Fact.eq_mk ?_); with_reducible rfl
      refine F2.Steps.consO rfl ?_ ?_
      ·
       intro vz wz hBz hDz hTz K hK; have E34 : vz 34 = _ := hDz 3 (by kernel_rfl) rfl; have HW := jaa hBz.ext; have zl0 := hBz.cell_ hr1.1 (zM (Nat.ne_of_lt (Nat.lt_of_lt_of_le hg1 hge6)) zN) kb0; have zl1 := hBz.cell_ hr1.1 (zM (Nat.ne_of_lt (Nat.lt_of_lt_of_le hg1 hge6)) zN) kb1; simp only [zy, F2.Wp] at hK ⊢; simp only [E34] at hK ⊢; go_simp; refine hK _ wz zB (Fact.eq_mk ?_); with_reducible rfl
      refine F2.Steps.consO rfl ?_ ?_
      ·
       intro vz wz hBz hDz hTz K hK; have E31 : vz 31 = _ := hDz 0 (by kernel_rfl) rfl; have E35 : vz 35 = _ := hDz 4 (by kernel_rfl) rfl; have HW := jaa hBz.ext; simp only [zy, F2.Wp] at hK ⊢; simp only [E31, E35] at hK ⊢; go_simp; refine Calls.mono (jkh (q6a.ext HW).q (qb.ext HW).q (by omega) (by omega)) ?_; rintro e w2z ⟨hb2, uz, rfl, hf⟩; refine hK _ w2z hb2 (Fact.cast (hf) ?_); with_reducible rfl
      refine F2.Steps.consT rfl ?_ ?_
      ·
       intro vz wz hBz hDz hbz K hK; obtain ⟨zc0, zc1, zc2, zc3⟩ := hbz.two; obtain ⟨n36_, A36_, l36_, c36_, E36, q36⟩ : IntV 0 _ _ wz (vz 36) := hDz 5 (by kernel_rfl) rfl; have HW := jaa hBz.ext; simp only [zy, F2.Wp] at hK ⊢; simp only [E36] at hK ⊢; go_simp; refine hK _ ((Far.set _ _ 0 _).trans (Far.set _ _ 1 _)) ⟨_, jab hbz, NoU.two nB nS, Fact.cast (Fact.z_mk q36) ?_⟩; with_reducible rfl
      exact F2.Steps.nil
     intro vg w7 hBz ⟨hOz, hAz, hNz, hSz⟩; have E31 : vg 31 = _ := hOz 0 (by decide) rfl; have E32 : vg 32 = _ := hOz 1 (by decide) rfl; have E33 : vg 33 = _ := hOz 2 (by decide) rfl; have E34 : vg 34 = _ := hOz 3 (by decide) rfl; have E35 : vg 35 = _ := hOz 4 (by decide) rfl; obtain ⟨n36_, A36_, l36_, c36_, E36, q36⟩ : IntV 0 _ _ w7 (vg 36) := hOz 5 (by decide) rfl; obtain ⟨cs6, bx6n, hs6⟩ := hSz 6 _ _ _ (by decide) rfl; obtain ⟨n6sg_, A6sg_, l6sg_, c6sg_, E6sg, q6sg⟩ : IntV 0 _ _ w7 (.agg cs6) := hs6; injection E6sg with E6sg
     subst E6sg; simp only [Act.put, actv, fill, fC, fN, tA, cS, cZ]; simp only [E31, E32, E33, E34, E35, E36]; clear E31 E32 E33 E34 E35 E36; replace q6a := q6a.ext hBz.ext; replace q7sf := q7sf.ext hBz.ext; replace bx4 := hBz.blk bx4 (zM (Ne.symm hne6_4.out) zN); replace bx5 := hBz.blk bx5 (zM (Ne.symm hne6_5.out) zN); replace bx7 := hBz.blk bx7 (zM hne7_6.out zN); replace hr1 := hr1.low hBz (zM (Nat.ne_of_lt (Nat.lt_of_lt_of_le hg1 hge6)) zN); replace hr2 := hr2.low hBz (zM (Nat.ne_of_lt (Nat.lt_of_lt_of_le hg2 hge6)) zN); replace HL5 := HL5.step hBz (zA (Or.inl (by simp)) zE); replace HB := hide (HB.out.trans (hBz.below (B := w.heap.size) HB.out.size (zA hge6 zE))); clear bx6; have bx6 := bx6n; clear bx6n; clear hOz hAz hNz hSz hBz; clear kb0 kb1 qb
     go_wp2_with fail
     go_roundw
     case rel => exact ⟨i + 1, by omega, by go_num, HL5, trivial, ⟨_, _, _, _, bx6, (by rw [jnq hlast, jdw hpo.out]; exact ((q6sg.fit (by rw [jkz hlast]; have h9 := HS.out (i + 1) (by omega); rw [jdw hpo.out] at h9; exact h9)).cast_ (by rw [jkz hlast])))⟩, ⟨_, _, _, _, bx7, (by rw [jdw hpo.out]; exact (q7sf.fit (by have h9 := HT.out (i + 1) (by omega); rw [jdw hpo.out] at h9; exact h9)))⟩⟩
     case measure => simp [intOf]; omega
    ·
     have hl1 : ¬ (i : Int) < (L : Int) - 1 := by have := hL.out; omega
     have hi2 : i = 2 * N := by have := hL.out; omega
     replace hi2 := hide hi2
     go_wp2_with fail
     go_roundw
     case rel => exact ⟨i + 1, by omega, by go_num, HL5, trivial, ⟨_, _, _, _, bx6, (q6a.cast_ (by rw [hi2.out, Nat.min_eq_left (Nat.le_refl _), Nat.min_eq_right (by omega)]))⟩, ⟨_, _, _, _, bx7, (by rw [jdw hpo.out]; exact (q7sf.fit (by have h9 := HT.out (i + 1) (by omega); rw [jdw hpo.out] at h9; exact h9)))⟩⟩
     case measure => simp [intOf]; omega
   ·
    have hrm : ((i : Int) % 2 == 0) = false := by simp; omega
    have hpo : i % 2 = 1 := by omega
    have hlast : i < 2 * N := by have := hL.out; omega
    obtain ⟨nb, Ab, lb, cb, kb0, kb1, qb⟩ := hr1.2 i (by omega)
    go_upto_region 10 with (fail)
    clear hrm; replace hpar := hide hpar; replace hpo := hide hpo; refine F2.region [.o, .o, .o, .o, .o, .o, .so (g7) 25 #[.bool n7a, .slice A7a l7a c7a]] [Fact.eq ?ch37_, Fact.eq ?ch38_, Fact.eq ?ch39_, Fact.eq ?ch40_, Fact.eq ?ch41_, Fact.z ?kh42_ ?zh42_, Fact.z ?khs7_ ?zhs7_] [37, 38, 39, 40, 41, 42] [37, 38, 39, 40, 41, 42, 0] (by kernel_rfl) ?soh ?soph (by kernel_rfl) ?sth ?finh
    case soh => exact List.forall_mem_cons.2 ⟨⟨bx7, NoU.two nB nS⟩, fun x hx => by cases hx⟩
    case soph => exact List.Pairwise.cons (fun y hy => by cases hy) (List.Pairwise.nil)
    case sth =>
     refine F2.Steps.consO rfl ?_ ?_
     ·
      intro vz wz hBz hDz hTz K hK; have HW := jaa hBz.ext; have bx7z := hTz 6 _ _ _ _ rfl rfl (by kernel_rfl); obtain ⟨zl0, zl1, -⟩ := bx7z.two; simp only [zy, F2.Wp] at hK ⊢; go_simp; refine hK _ wz zB (Fact.eq_mk ?_); with_reducible rfl
     refine F2.Steps.consO rfl ?_ ?_
     ·
      intro vz wz hBz hDz hTz K hK; have HW := jaa hBz.ext; simp only [zy, F2.Wp] at hK ⊢; go_simp; refine hK _ wz zB (Fact.eq_mk ?_); with_reducible rfl
     refine F2.Steps.consO rfl ?_ ?_
     ·
      intro vz wz hBz hDz hTz K hK; have HW := jaa hBz.ext; simp only [zy, F2.Wp] at hK ⊢; go_simp; refine hK _ wz zB (Fact.eq_mk ?_); with_reducible rfl
     refine F2.Steps.consO rfl ?_ ?_
     ·
      intro vz wz hBz hDz hTz K hK; have E38 : vz 38 = _ := hDz 1 (by kernel_rfl) rfl; have E39 : vz 39 = _ := hDz 2 (by kernel_rfl) rfl; have HW := jaa hBz.ext; simp only [zy, F2.Wp] at hK ⊢; simp only [E38, E39] at hK ⊢; go_simp; refine hK _ wz zB (Fact.eq_mk ?_); with_reducible rfl
     refine F2.Steps.consO rfl ?_ ?_
     ·
      intro vz wz hBz hDz hTz K hK; have E40 : vz 40 = _ := hDz 3 (by kernel_rfl) rfl; have HW := jaa hBz.ext; have zl0 := hBz.cell_ hr1.1 (zM (Nat.ne_of_lt (Nat.lt_of_lt_of_le hg1 hge7)) zN) kb0; have zl1 := hBz.cell_ hr1.1 (zM (Nat.ne_of_lt (Nat.lt_of_lt_of_le hg1 hge7)) zN) kb1; simp only [zy, F2.Wp] at hK ⊢; simp only [E40] at hK ⊢; go_simp; refine hK _ wz zB (Fact.eq_mk ?_); with_reducible rfl
     refine F2.Steps.consO rfl ?_ ?_
     ·
      intro vz wz hBz hDz hTz K hK; have E37 : vz 37 = _ := hDz 0 (by kernel_rfl) rfl; have E41 : vz 41 = _ := hDz 4 (by kernel_rfl) rfl; have HW := jaa hBz.ext; simp only [zy, F2.Wp] at hK ⊢; simp only [E37, E41] at hK ⊢; go_simp; refine Calls.mono (jsy (q7a.ext HW).q (qb.ext HW).q (by omega) (by omega)) ?_; rintro e w2z ⟨hb2, uz, rfl, hf⟩; refine hK _ w2z hb2 (Fact.cast (hf) ?_); with_reducible rfl
     refine F2.Steps.consT rfl ?_ ?_
     ·
      intro vz wz hBz hDz hbz K hK; obtain ⟨zc0, zc1, zc2, zc3⟩ := hbz.two; obtain ⟨n42_, A42_, l42_, c42_, E42, q42⟩ : IntV 0 _ _ wz (vz 42) := hDz 5 (by kernel_rfl) rfl; have HW := jaa hBz.ext; simp only [zy, F2.Wp] at hK ⊢; simp only [E42] at hK ⊢; go_simp; refine hK _ ((Far.set _ _ 0 _).trans (Far.set _ _ 1 _)) ⟨_, jab hbz, NoU.two nB nS, Fact.cast (Fact.z_mk q42) ?_⟩; with_reducible rfl
     exact F2.Steps.nil
    intro vh w8 hBz ⟨hOz, hAz, hNz, hSz⟩; have E37 : vh 37 = _ := hOz 0 (by decide) rfl; have E38 : vh 38 = _ := hOz 1 (by decide) rfl; have E39 : vh 39 = _ := hOz 2 (by decide) rfl; have E40 : vh 40 = _ := hOz 3 (by decide) rfl; have E41 : vh 41 = _ := hOz 4 (by decide) rfl; obtain ⟨n42_, A42_, l42_, c42_, E42, q42⟩ : IntV 0 _ _ w8 (vh 42) := hOz 5 (by decide) rfl; obtain ⟨cs7, bx7n, hs7⟩ := hSz 6 _ _ _ (by decide) rfl; obtain ⟨n7sh_, A7sh_, l7sh_, c7sh_, E7sh, q7sh⟩ : IntV 0 _ _ w8 (.agg cs7) := hs7; injection E7sh with E7sh
    subst E7sh; simp only [Act.put, actv, fill, fC, fN, tA, cS, cZ]; simp only [E37, E38, E39, E40, E41, E42]; clear E37 E38 E39 E40 E41 E42; replace q6a := q6a.ext hBz.ext; replace q7a := q7a.ext hBz.ext; replace bx4 := hBz.blk bx4 (zM (Ne.symm hne7_4.out) zN); replace bx5 := hBz.blk bx5 (zM (Ne.symm hne7_5.out) zN); replace bx6 := hBz.blk bx6 (zM (Ne.symm hne7_6.out) zN); replace hr1 := hr1.low hBz (zM (Nat.ne_of_lt (Nat.lt_of_lt_of_le hg1 hge7)) zN); replace hr2 := hr2.low hBz (zM (Nat.ne_of_lt (Nat.lt_of_lt_of_le hg2 hge7)) zN); replace HL5 := HL5.step hBz (zA (Or.inl (by simp)) zE); replace HB := hide (HB.out.trans (hBz.below (B := w.heap.size) HB.out.size (zA hge7 zE))); clear bx7; have bx7 := bx7n; clear bx7n; clear hOz hAz hNz hSz hBz; clear kb0 kb1 qb; obtain ⟨nb, Ab, lb, cb, kb0, kb1, qb⟩ := hr2.2 i (by omega)
    go_upto_region 11 with (fail)
    refine F2.region [.o, .o, .o, .o, .o, .o, .so (g6) 25 #[.bool n6a, .slice A6a l6a c6a]] [Fact.eq ?ci43_, Fact.eq ?ci44_, Fact.eq ?ci45_, Fact.eq ?ci46_, Fact.eq ?ci47_, Fact.z ?ki48_ ?zi48_, Fact.z ?kis6_ ?zis6_] [43, 44, 45, 46, 47, 48] [43, 44, 45, 46, 47, 48, 0] (by kernel_rfl) ?soi ?sopi (by kernel_rfl) ?sti ?fini
    case soi => exact List.forall_mem_cons.2 ⟨⟨bx6, NoU.two nB nS⟩, fun x hx => by cases hx⟩
    case sopi => exact List.Pairwise.cons (fun y hy => by cases hy) (List.Pairwise.nil)
    case sti =>
     refine F2.Steps.consO rfl ?_ ?_
     ·
      intro vz wz hBz hDz hTz K hK; have HW := jaa hBz.ext; have bx6z := hTz 6 _ _ _ _ rfl rfl (by kernel_rfl); obtain ⟨zl0, zl1, -⟩ := bx6z.two; simp only [zy, F2.Wp] at hK ⊢; go_simp; refine hK _ wz zB (Fact.eq_mk ?_); with_reducible rfl
     refine F2.Steps.consO rfl ?_ ?_
     ·
      intro vz wz hBz hDz hTz K hK; have HW := jaa hBz.ext; simp only [zy, F2.Wp] at hK ⊢; go_simp; refine hK _ wz zB (Fact.eq_mk ?_); with_reducible rfl
     refine F2.Steps.consO rfl ?_ ?_
     ·
      intro vz wz hBz hDz hTz K hK; have HW := jaa hBz.ext; simp only [zy, F2.Wp] at hK ⊢; go_simp; refine hK _ wz zB (Fact.eq_mk ?_); with_reducible rfl
     refine F2.Steps.consO rfl ?_ ?_
     ·
      intro vz wz hBz hDz hTz K hK; have E44 : vz 44 = _ := hDz 1 (by kernel_rfl) rfl; have E45 : vz 45 = _ := hDz 2 (by kernel_rfl) rfl; have HW := jaa hBz.ext; simp only [zy, F2.Wp] at hK ⊢; simp only [E44, E45] at hK ⊢; go_simp; refine hK _ wz zB (Fact.eq_mk ?_); with_reducible rfl
     refine F2.Steps.consO rfl ?_ ?_
     ·
      intro vz wz hBz hDz hTz K hK; have E46 : vz 46 = _ := hDz 3 (by kernel_rfl) rfl; have HW := jaa hBz.ext; have zl0 := hBz.cell_ hr2.1 (zM (Nat.ne_of_lt (Nat.lt_of_lt_of_le hg2 hge6)) zN) kb0; have zl1 := hBz.cell_ hr2.1 (zM (Nat.ne_of_lt (Nat.lt_of_lt_of_le hg2 hge6)) zN) kb1; simp only [zy, F2.Wp] at hK ⊢; simp only [E46] at hK ⊢; go_simp; refine hK _ wz zB (Fact.eq_mk ?_); with_reducible rfl
     refine F2.Steps.consO rfl ?_ ?_
     ·
      intro vz wz hBz hDz hTz K hK; have E43 : vz 43 = _ := hDz 0 (by kernel_rfl) rfl; have E47 : vz 47 = _ := hDz 4 (by kernel_rfl) rfl; have HW := jaa hBz.ext; simp only [zy, F2.Wp] at hK ⊢; simp only [E43, E47] at hK ⊢; go_simp; refine Calls.mono (jsy (q6a.ext HW).q (qb.ext HW).q (by omega) (by omega)) ?_; rintro e w2z ⟨hb2, uz, rfl, hf⟩; refine hK _ w2z hb2 (Fact.cast (hf) ?_); with_reducible rfl
     refine F2.Steps.consT rfl ?_ ?_
     ·
      intro vz wz hBz hDz hbz K hK; obtain ⟨zc0, zc1, zc2, zc3⟩ := hbz.two; obtain ⟨n48_, A48_, l48_, c48_, E48, q48⟩ : IntV 0 _ _ wz (vz 48) := hDz 5 (by kernel_rfl) rfl; have HW := jaa hBz.ext; simp only [zy, F2.Wp] at hK ⊢; simp only [E48] at hK ⊢; go_simp; refine hK _ ((Far.set _ _ 0 _).trans (Far.set _ _ 1 _)) ⟨_, jab hbz, NoU.two nB nS, Fact.cast (Fact.z_mk q48) ?_⟩; with_reducible rfl
     exact F2.Steps.nil
    intro vi w9 hBz ⟨hOz, hAz, hNz, hSz⟩; have E43 : vi 43 = _ := hOz 0 (by decide) rfl; have E44 : vi 44 = _ := hOz 1 (by decide) rfl; have E45 : vi 45 = _ := hOz 2 (by decide) rfl; have E46 : vi 46 = _ := hOz 3 (by decide) rfl; have E47 : vi 47 = _ := hOz 4 (by decide) rfl; obtain ⟨n48_, A48_, l48_, c48_, E48, q48⟩ : IntV 0 _ _ w9 (vi 48) := hOz 5 (by decide) rfl; obtain ⟨cs6, bx6n, hs6⟩ := hSz 6 _ _ _ (by decide) rfl; obtain ⟨n6si_, A6si_, l6si_, c6si_, E6si, q6si⟩ : IntV 0 _ _ w9 (.agg cs6) := hs6; injection E6si with E6si
    subst E6si; simp only [Act.put, actv, fill, fC, fN, tA, cS, cZ]; simp only [E43, E44, E45, E46, E47, E48]; clear E43 E44 E45 E46 E47 E48; replace q6a := q6a.ext hBz.ext; replace q7sh := q7sh.ext hBz.ext; replace bx4 := hBz.blk bx4 (zM (Ne.symm hne6_4.out) zN); replace bx5 := hBz.blk bx5 (zM (Ne.symm hne6_5.out) zN); replace bx7 := hBz.blk bx7 (zM hne7_6.out zN); replace hr1 := hr1.low hBz (zM (Nat.ne_of_lt (Nat.lt_of_lt_of_le hg1 hge6)) zN); replace hr2 := hr2.low hBz (zM (Nat.ne_of_lt (Nat.lt_of_lt_of_le hg2 hge6)) zN); replace HL5 := HL5.step hBz (zA (Or.inl (by simp)) zE); replace HB := hide (HB.out.trans (hBz.below (B := w.heap.size) HB.out.size (zA hge6 zE))); clear bx6; have bx6 := bx6n; clear bx6n; clear hOz hAz hNz hSz hBz; clear kb0 kb1 qb
    go_wp2_with fail
    go_roundw
    case rel => exact ⟨i + 1, by omega, by go_num, HL5, trivial, ⟨_, _, _, _, bx6, (by rw [jnq hlast, jey hpo.out]; exact ((q6si.fit (by rw [jkz hlast]; have h9 := HS.out (i + 1) (by omega); rw [jey hpo.out] at h9; exact h9)).cast_ (by rw [jkz hlast])))⟩, ⟨_, _, _, _, bx7, (by rw [jey hpo.out]; exact (q7sh.fit (by have h9 := HT.out (i + 1) (by omega); rw [jey hpo.out] at h9; exact h9)))⟩⟩
    case measure => simp [intOf]; omega
  ·
   skip
   obtain rfl : i = L := by omega
   clear hlti
   go_upto_region 12 with (fail)
   refine F2.region [.o, .o, .so (g4) 25 #[.bool false, .slice none 0 0], .so (g5) 25 #[.bool false, .slice none 0 0]] [Fact.eq ?cj49_, Fact.eq ?cj50_, Fact.z ?kjs4_ ?zjs4_, Fact.z ?kjs5_ ?zjs5_] [49, 50] [49, 50, 0, 0] (by kernel_rfl) ?soj ?sopj (by kernel_rfl) ?stj ?finj
   case soj => exact List.forall_mem_cons.2 ⟨⟨bx4, NoU.two nB nS⟩, List.forall_mem_cons.2 ⟨⟨bx5, NoU.two nB nS⟩, fun x hx => by cases hx⟩⟩
   case sopj => exact List.Pairwise.cons (by intro y hy; simp [F2.sos] at hy; have hne4_5 := hne4_5.out; first | (subst hy; simp; done) | (subst hy; simp; omega) | (rcases hy with rfl | rfl <;> simp <;> omega)) (List.Pairwise.cons (fun y hy => by cases hy) (List.Pairwise.nil))
   case stj =>
    refine F2.Steps.consO rfl ?_ ?_
    ·
     intro vz wz hBz hDz hTz K hK; have HW := jaa hBz.ext; have bx6z := hBz.blk bx6.drew (zM hne6_4.out (zM hne6_5.out zN)); obtain ⟨zl0, zl1, -⟩ := bx6z.two; simp only [zy, F2.Wp] at hK ⊢; go_simp; refine hK _ wz zB (Fact.eq_mk ?_); with_reducible rfl
    refine F2.Steps.consO rfl ?_ ?_
    ·
     intro vz wz hBz hDz hTz K hK; have HW := jaa hBz.ext; have bx7z := hBz.blk bx7.drew (zM hne7_4.out (zM hne7_5.out zN)); obtain ⟨zl0, zl1, -⟩ := bx7z.two; simp only [zy, F2.Wp] at hK ⊢; go_simp; refine hK _ wz zB (Fact.eq_mk ?_); with_reducible rfl
    refine F2.Steps.consT rfl ?_ ?_
    ·
     intro vz wz hBz hDz hbz K hK; obtain ⟨zc0, zc1, zc2, zc3⟩ := hbz.two; have E49 : vz 49 = _ := hDz 0 (by kernel_rfl) rfl; have HW := jaa hBz.ext; simp only [zy, F2.Wp] at hK ⊢; simp only [E49] at hK ⊢; go_simp; refine hK _ ((Far.set _ _ 0 _).trans (Far.set _ _ 1 _)) ⟨_, jab hbz, NoU.two nB nS, Fact.cast (Fact.z_mk (q6a.ext HW)) ?_⟩; with_reducible rfl
    refine F2.Steps.consT rfl ?_ ?_
    ·
     intro vz wz hBz hDz hbz K hK; obtain ⟨zc0, zc1, zc2, zc3⟩ := hbz.two; have E50 : vz 50 = _ := hDz 1 (by kernel_rfl) rfl; have HW := jaa hBz.ext; simp only [zy, F2.Wp] at hK ⊢; simp only [E50] at hK ⊢; go_simp; refine hK _ ((Far.set _ _ 0 _).trans (Far.set _ _ 1 _)) ⟨_, jab hbz, NoU.two nB nS, Fact.cast (Fact.z_mk (q7a.ext HW)) ?_⟩; with_reducible rfl
    exact F2.Steps.nil
   intro vj w10 hBz ⟨hOz, hAz, hNz, hSz⟩; have E49 : vj 49 = _ := hOz 0 (by decide) rfl; have E50 : vj 50 = _ := hOz 1 (by decide) rfl; obtain ⟨cs4, bx4n, hs4⟩ := hSz 2 _ _ _ (by decide) rfl; obtain ⟨n4sj_, A4sj_, l4sj_, c4sj_, E4sj, q4sj⟩ : IntV 0 _ _ w10 (.agg cs4) := hs4; injection E4sj with E4sj
   subst E4sj; obtain ⟨cs5, bx5n, hs5⟩ := hSz 3 _ _ _ (by decide) rfl; obtain ⟨n5sj_, A5sj_, l5sj_, c5sj_, E5sj, q5sj⟩ : IntV 0 _ _ w10 (.agg cs5) := hs5; injection E5sj with E5sj
   subst E5sj; simp only [Act.put, actv, fill, fC, fN, tA, cS, cZ]; simp only [E49, E50]; clear E49 E50; replace q6a := q6a.ext hBz.ext; replace q7a := q7a.ext hBz.ext; replace bx6 := hBz.blk bx6 (zM hne6_4.out (zM hne6_5.out zN)); replace bx7 := hBz.blk bx7 (zM hne7_4.out (zM hne7_5.out zN)); replace hr1 := hr1.low hBz (zM (Nat.ne_of_lt (Nat.lt_of_lt_of_le hg1 hge4)) (zM (Nat.ne_of_lt (Nat.lt_of_lt_of_le hg1 hge5)) zN)); replace hr2 := hr2.low hBz (zM (Nat.ne_of_lt (Nat.lt_of_lt_of_le hg2 hge4)) (zM (Nat.ne_of_lt (Nat.lt_of_lt_of_le hg2 hge5)) zN)); replace HB := hide (HB.out.trans (hBz.below (B := w.heap.size) HB.out.size (zA hge4 (zA hge5 zE)))); clear bx4; clear bx5; have bx4 := bx4n; clear bx4n; have bx5 := bx5n; clear bx5n; clear hOz hAz hNz hSz hBz
   go_wp2_with fail
   refine bodyPost_ret (jfe rfl _ _ _ _ _ _ _ _ _ _ rfl bx4 rfl bx5) rfl ⟨HB.out, ?_⟩; exact VF.mk (Fact.t2_mk (Fact.z_mk (q4sj.cast_ (by rw [hL.out, Nat.min_eq_right (by omega)]))) (Fact.z_mk (q5sj.cast_ (by rw [hL.out]))))
end
end
section
section
open Go.RowKit
open L (val dig nth)
theorem RowW.ne {w : World} {B k : Nat} {v : Value} {zs : List Int} (h : RowW w B k v zs) {g : Nat} (hg : g < B) : v.ownBlock ≠ some g := fun e => by have := (h.lt g e).1; omega
theorem RowR.congr {w : World} {g k L : Nat} {a b : Nat → Int} (h : RowR w g k L a) (e : ∀ j, j < L → a j = b j) : RowR w g k L b :=
  ⟨h.1, fun j hj => by rw [← e j hj]; exact h.2 j hj⟩
def Apart (u v : Value) : Prop := ∀ g, u.ownBlock = some g → v.ownBlock = some g → False
theorem Apart.nil : Apart (.slice none 0 0) (.slice none 0 0) := fun g h => by cases h
theorem Apart.symm {u v : Value} (h : Apart u v) : Apart v u := fun g a b => h g b a
theorem Apart.or {u v : Value} (h : Apart u v) : v.ownBlock = none ∨ v.ownBlock ≠ u.ownBlock := by
  cases hv : v.ownBlock with
  | none => exact Or.inl rfl
  | some g => exact Or.inr (fun e => h g e.symm hv)
theorem Apart.grow {u v u' : Value} {n : Nat} (h : Apart u v) (ho : u'.ownBlock = u.ownBlock ∨ ∃ b, u'.ownBlock = some b ∧ n ≤ b) (hv : ∀ g, v.ownBlock = some g → g < n) : Apart u' v := by
  intro g a b
  rcases ho with ho | ⟨c, ho, hc⟩
  · exact h g (ho ▸ a) b
  · rw [ho] at a
    have e : c = g := Option.some.inj a; have := hv g b
    omega
theorem RowW.read_lst {w : World} {B k L : Nat} {v : Value} {a : Nat → Int} (h : RowW w B k v (lst a L)) (hn : 0 < L) : ∃ g cap, v = .slice (some ⟨g, 0, none⟩) L cap ∧ B ≤ g ∧ RowR w g k L a := by
  obtain ⟨g, cap, hv, hr⟩ := h.read (by rw [jda]; exact hn); rw [jda] at hv hr; exact ⟨g, cap, hv, (h.lt g (by rw [hv]; rfl)).1, hr.congr (fun j hj => jsc a L j hj)⟩
theorem jfz (w : World) (o : Obj) : Below w.heap.size w (w.alloc o) := (Below.refl _ _).alloc (Nat.le_refl _) _
end
end
section
section
open Go.RowKit
open L (val dig nth)
set_option maxHeartbeats 4000000 in
set_option maxRecDepth 100000 in
theorem jj2 {w : World}  {k0 : Nat} {n0 : Bool} {A0 : Option Addr} {l0 c0 : Nat} {x0 : Int} {q n : Int} (h0 : Q w k0 n0 A0 l0 c0 x0) (hk0 : k0 ≤ 40) :
    Calls Tryz.prog 57 #[.agg #[.bool n0, .slice A0 l0 c0], .int .i64 q, .int .i64 n] w fun e w' => Below w.heap.size w w' ∧ VF (Fact.t3 (Fact.z 340 (if mayR x0 q n 1 = true then atanLo x0 q n.toNat else 0)) (Fact.z 340 (if mayR x0 q n 1 = true then atanHi x0 q n.toNat else 0)) (Fact.eq (.int .i64 (if mayR x0 q n 1 = true then 0 else 1)))) e w' := by
 obtain ⟨mm, HM⟩ : ∃ m, Hid (mayR x0 q n 1 = m) := ⟨_, hide rfl⟩; have HM2 : Hid (mayD x0 q n 1 1 = mm) := hide (by rw [jkx, HM.out]); rw [HM.out]
 go_enter Tryz.func57, Tryz.ntmps57
 have HB : Hid (Below w.heap.size w w) := hide (Below.refl _ _)
 go_upto_region 0 with (fail)
 refine F2.regionS [.al 25 #[.bool n0, .slice A0 l0 c0], .al 25 #[.bool false, .slice none 0 0], .al 25 #[.bool false, .slice none 0 0], .o] [Fact.any, Fact.any, Fact.any, Fact.eq ?ca8_] [3, 6, 7, 8] [3, 6, 7, 8] (by kernel_rfl) ?soa ?sopa (by kernel_rfl) ?sta ?fina
 case soa => exact fun x hx => by cases hx
 case sopa => exact List.Pairwise.nil
 case sta =>
  refine F2.Steps.consA rfl ⟨NoU.two nB nS, ?_⟩ ?_
  ·
   intro vz wz hBz K hK; simp only [zy, F2.Wp] at hK ⊢; go_simp; exact hK
  refine F2.Steps.consA rfl ⟨NoU.two nB nS, ?_⟩ ?_
  ·
   intro vz wz hBz K hK; simp only [zy, F2.Wp] at hK ⊢; go_simp; exact hK
  refine F2.Steps.consA rfl ⟨NoU.two nB nS, ?_⟩ ?_
  ·
   intro vz wz hBz K hK; simp only [zy, F2.Wp] at hK ⊢; go_simp; exact hK
  refine F2.Steps.consO rfl ?_ ?_
  ·
   intro vz wz hBz hDz hTz K hK; have HW := hBz.ext; simp only [zy, F2.Wp] at hK ⊢; go_simp; refine hK _ wz zB (Fact.eq_mk ?_); with_reducible rfl
  exact F2.Steps.nil
 intro va w1 hBz ⟨hOz, hAz, hNz, hSz⟩; obtain ⟨g3, cs3, E3, hg3, bx3, hs3, hz3⟩ := hAz 0 _ _ (by decide) rfl; have hzz := hz3 (F2.nost (by kernel_rfl)); subst hzz; obtain ⟨g6, cs6, E6, hg6, bx6, hs6, hz6⟩ := hAz 1 _ _ (by decide) rfl; have hzz := hz6 (F2.nost (by kernel_rfl)); subst hzz; obtain ⟨g7, cs7, E7, hg7, bx7, hs7, hz7⟩ := hAz 2 _ _ (by decide) rfl; have hzz := hz7 (F2.nost (by kernel_rfl)); subst hzz; have E8 : va 8 = _ := hOz 3 (by decide) rfl; have hne3_6 : Hid (¬ g3 = g6) := hide (fun h => hNz 0 1 _ _ _ _ (by decide) (by decide) (by decide) rfl rfl (by rw [E3, E6, h])); have hne3_7 : Hid (¬ g3 = g7) := hide (fun h => hNz 0 2 _ _ _ _ (by decide) (by decide) (by decide) rfl rfl (by rw [E3, E7, h])); have hne6_7 : Hid (¬ g6 = g7) := hide (fun h => hNz 1 2 _ _ _ _ (by decide) (by decide) (by decide) rfl rfl (by rw [E6, E7, h])); simp only [Act.put, actv, fill, fC, fN, tA, cS, cZ]; simp only [(show va 3 = _ from E3), (show va 6 = _ from E6), (show va 7 = _ from E7), E8]; clear E3 E6 E7 E8; have hge3 : w.heap.size ≤ g3 := Nat.le_trans HB.out.size hg3; have hge6 : w.heap.size ≤ g6 := Nat.le_trans HB.out.size hg6; have hge7 : w.heap.size ≤ g7 := Nat.le_trans HB.out.size hg7; replace h0 := h0.ext hBz.ext; replace HB := hide (HB.out.trans (hBz.below (B := w.heap.size) HB.out.size zE)); clear hOz hAz hNz hSz hs3 hz3 hs6 hz6 hs7 hz7 hBz
 go_upto_region 1 with (fail)
 refine F2.regionS [.o, .o, .o, .o, .o] [Fact.eq ?cb19_, Fact.eq ?cb20_, Fact.eq ?cb21_, Fact.eq ?cb22_, Fact.eq ?cb9_] [19, 20, 21, 22, 9] [19, 20, 21, 22, 9] (by kernel_rfl) ?sob ?sopb (by kernel_rfl) ?stb ?finb
 case sob => exact fun x hx => by cases hx
 case sopb => exact List.Pairwise.nil
 case stb =>
  refine F2.Steps.consO rfl ?_ ?_
  ·
   intro vz wz hBz hDz hTz K hK; have HW := hBz.ext; have bx3z := hBz.blk bx3 zN; obtain ⟨zl0, zl1, -⟩ := bx3z.two; simp only [zy, F2.Wp] at hK ⊢; go_simp; refine hK _ wz zB (Fact.eq_mk ?_); with_reducible rfl
  refine F2.Steps.consO rfl ?_ ?_
  ·
   intro vz wz hBz hDz hTz K hK; have HW := hBz.ext; simp only [zy, F2.Wp] at hK ⊢; go_simp; refine hK _ wz zB (Fact.eq_mk ?_); with_reducible rfl
  refine F2.Steps.consO rfl ?_ ?_
  ·
   intro vz wz hBz hDz hTz K hK; have HW := hBz.ext; simp only [zy, F2.Wp] at hK ⊢; go_simp; refine hK _ wz zB (Fact.eq_mk ?_); with_reducible rfl
  refine F2.Steps.consO rfl ?_ ?_
  ·
   intro vz wz hBz hDz hTz K hK; have E19 : vz 19 = _ := hDz 0 (by kernel_rfl) rfl; have E20 : vz 20 = _ := hDz 1 (by kernel_rfl) rfl; have E21 : vz 21 = _ := hDz 2 (by kernel_rfl) rfl; have HW := hBz.ext; simp only [zy, F2.Wp] at hK ⊢; simp only [E19, E20, E21] at hK ⊢; go_simp; refine Calls.mono (HM2.out ▸ jgs (h0.ext HW) (by omega) (by omega) (by omega) (by omega) (by omega)) ?_; rintro e w2z ⟨hb2, uz, rfl, hf⟩; refine hK _ w2z hb2 (Fact.cast (hf) ?_); with_reducible rfl
  refine F2.Steps.consO rfl ?_ ?_
  ·
   intro vz wz hBz hDz hTz K hK; have E22 : vz 22 = _ := hDz 3 (by kernel_rfl) rfl; have HW := hBz.ext; simp only [zy, F2.Wp] at hK ⊢; simp only [E22] at hK ⊢; go_simp; refine hK _ wz zB (Fact.eq_mk ?_); with_reducible rfl
  exact F2.Steps.nil
 intro vb w2 hBz ⟨hOz, hAz, hNz, hSz⟩; have E19 : vb 19 = _ := hOz 0 (by decide) rfl; have E20 : vb 20 = _ := hOz 1 (by decide) rfl; have E21 : vb 21 = _ := hOz 2 (by decide) rfl; have E22 : vb 22 = _ := hOz 3 (by decide) rfl; have E9 : vb 9 = _ := hOz 4 (by decide) rfl; simp only [Act.put, actv, fill, fC, fN, tA, cS, cZ]; simp only [E19, E20, E21, E22, E9]; clear E19 E20 E21 E22 E9; replace h0 := h0.ext hBz.ext; replace bx3 := hBz.blk bx3 zN; replace bx6 := hBz.blk bx6 zN; replace bx7 := hBz.blk bx7 zN; replace HB := hide (HB.out.trans (hBz.below (B := w.heap.size) HB.out.size zE)); clear hOz hAz hNz hSz hBz
 go_upto_region 2 with (fail)
 refine F2.regionS [.o, .o] [Fact.eq ?cc23_, Fact.eq ?cc24_] [23, 24] [23, 24] (by kernel_rfl) ?soc ?sopc (by kernel_rfl) ?stc ?finc
 case soc => exact fun x hx => by cases hx
 case sopc => exact List.Pairwise.nil
 case stc =>
  refine F2.Steps.consO rfl ?_ ?_
  ·
   intro vz wz hBz hDz hTz K hK; have HW := hBz.ext; simp only [zy, F2.Wp] at hK ⊢; go_simp; refine hK _ wz zB (Fact.eq_mk ?_); with_reducible rfl
  refine F2.Steps.consO rfl ?_ ?_
  ·
   intro vz wz hBz hDz hTz K hK; have E23 : vz 23 = _ := hDz 0 (by kernel_rfl) rfl; have HW := hBz.ext; simp only [zy, F2.Wp] at hK ⊢; simp only [E23] at hK ⊢; go_simp; refine hK _ wz zB (Fact.eq_mk ?_); with_reducible rfl
  exact F2.Steps.nil
 intro vc w3 hBz ⟨hOz, hAz, hNz, hSz⟩; have E23 : vc 23 = _ := hOz 0 (by decide) rfl; have E24 : vc 24 = _ := hOz 1 (by decide) rfl; simp only [Act.put, actv, fill, fC, fN, tA, cS, cZ]; simp only [E23, E24]; clear E23 E24; replace h0 := h0.ext hBz.ext; replace bx3 := hBz.blk bx3 zN; replace bx6 := hBz.blk bx6 zN; replace bx7 := hBz.blk bx7 zN; replace HB := hide (HB.out.trans (hBz.below (B := w.heap.size) HB.out.size zE)); clear hOz hAz hNz hSz hBz
 cases mm with
 | false =>
  go_upto_region 3 with (fail)
  refine F2.regionS [.o, .o, .so (g6) 25 #[.bool false, .slice none 0 0], .so (g7) 25 #[.bool false, .slice none 0 0], .o] [Fact.eq ?cd25_, Fact.eq ?cd26_, Fact.z ?kds6_ ?zds6_, Fact.z ?kds7_ ?zds7_, Fact.eq ?cd8_] [25, 26, 8] [25, 26, 0, 0, 8] (by kernel_rfl) ?sod ?sopd (by kernel_rfl) ?std ?find
  case sod => exact List.forall_mem_cons.2 ⟨⟨bx6, NoU.two nB nS⟩, List.forall_mem_cons.2 ⟨⟨bx7, NoU.two nB nS⟩, fun x hx => by cases hx⟩⟩
  case sopd => exact List.Pairwise.cons (by intro y hy; simp [F2.sos] at hy; have hne6_7 := hne6_7.out; first | (subst hy; simp; done) | (subst hy; simp; omega) | (rcases hy with rfl | rfl <;> simp <;> omega)) (List.Pairwise.cons (fun y hy => by cases hy) (List.Pairwise.nil))
  case std =>
   refine F2.Steps.consO rfl ?_ ?_
   ·
    intro vz wz hBz hDz hTz K hK; have HW := hBz.ext; simp only [zy, F2.Wp] at hK ⊢; go_simp; refine hK _ wz zB (Fact.eq_mk ?_); with_reducible rfl
   refine F2.Steps.consO rfl ?_ ?_
   ·
    intro vz wz hBz hDz hTz K hK; have HW := hBz.ext; simp only [zy, F2.Wp] at hK ⊢; go_simp; refine hK _ wz zB (Fact.eq_mk ?_); with_reducible rfl
   refine F2.Steps.consT rfl ?_ ?_
   ·
    intro vz wz hBz hDz hbz K hK; obtain ⟨zc0, zc1, zc2, zc3⟩ := hbz.two; have E25 : vz 25 = _ := hDz 0 (by kernel_rfl) rfl; have HW := hBz.ext; simp only [zy, F2.Wp] at hK ⊢; simp only [E25] at hK ⊢; go_simp; refine hK _ ((Far.set _ _ 0 _).trans (Far.set _ _ 1 _)) ⟨_, jab hbz, NoU.two nB nS, Fact.cast (Fact.z_mk (QB.zero _ 0 0)) ?_⟩; with_reducible rfl
   refine F2.Steps.consT rfl ?_ ?_
   ·
    intro vz wz hBz hDz hbz K hK; obtain ⟨zc0, zc1, zc2, zc3⟩ := hbz.two; have E26 : vz 26 = _ := hDz 1 (by kernel_rfl) rfl; have HW := hBz.ext; simp only [zy, F2.Wp] at hK ⊢; simp only [E26] at hK ⊢; go_simp; refine hK _ ((Far.set _ _ 0 _).trans (Far.set _ _ 1 _)) ⟨_, jab hbz, NoU.two nB nS, Fact.cast (Fact.z_mk (QB.zero _ 0 0)) ?_⟩; with_reducible rfl
   refine F2.Steps.consO rfl ?_ ?_
   ·
    intro vz wz hBz hDz hTz K hK; have HW := hBz.ext; simp only [zy, F2.Wp] at hK ⊢; go_simp; refine hK _ wz zB (Fact.eq_mk ?_); with_reducible rfl
   exact F2.Steps.nil
  intro vd w4 hBz ⟨hOz, hAz, hNz, hSz⟩; have E25 : vd 25 = _ := hOz 0 (by decide) rfl; have E26 : vd 26 = _ := hOz 1 (by decide) rfl; obtain ⟨cs6, bx6n, hs6⟩ := hSz 2 _ _ _ (by decide) rfl; obtain ⟨n6sd_, A6sd_, l6sd_, c6sd_, E6sd, q6sd⟩ : IntV 0 _ _ w4 (.agg cs6) := hs6; injection E6sd with E6sd
  subst E6sd; obtain ⟨cs7, bx7n, hs7⟩ := hSz 3 _ _ _ (by decide) rfl; obtain ⟨n7sd_, A7sd_, l7sd_, c7sd_, E7sd, q7sd⟩ : IntV 0 _ _ w4 (.agg cs7) := hs7; injection E7sd with E7sd
  subst E7sd; have E8 : vd 8 = _ := hOz 4 (by decide) rfl; simp only [Act.put, actv, fill, fC, fN, tA, cS, cZ]; simp only [E25, E26, E8]; clear E25 E26 E8; replace h0 := h0.ext hBz.ext; replace bx3 := hBz.blk bx3 (zM hne3_6.out (zM hne3_7.out zN)); replace HB := hide (HB.out.trans (hBz.below (B := w.heap.size) HB.out.size (zA hge6 (zA hge7 zE)))); clear bx6; clear bx7; have bx6 := bx6n; clear bx6n; have bx7 := bx7n; clear bx7n; clear hOz hAz hNz hSz hBz
  go_wp2_with fail
  refine bodyPost_ret (jad rfl _ _ _ _ _ _ _ _ _ _ rfl bx6 rfl bx7) rfl ⟨HB.out, ?_⟩; exact VF.mk (Fact.t3_mk (Fact.z_mk (q6sd.up (by omega))) (Fact.z_mk (q7sd.up (by omega))) (Fact.eq_self _ _))
 | true =>
  obtain ⟨hq, hn, ht0, hT⟩ := jek HM.out; have HT0 := hide hT; clear hT; obtain ⟨N, rfl⟩ : ∃ N : Nat, n = (N : Int) := ⟨n.toNat, by omega⟩; obtain ⟨L, hL⟩ : ∃ L, Hid (L = 2 * N + 1) := ⟨_, hide rfl⟩; have hLN : L ≤ 801 := by have := hL.out; omega
  have HL0 := hide (jh1 (q := q) hq.1 ht0 HT0.out); have HLo := hide (jd1 (q := q) hq.1 ht0 HT0.out); have HX := hide (jl4 hq.2 (by omega) HT0.out); have HA := hide (HL0.out.la HX.out); have HB_ := hide (HL0.out.lb HX.out); have HC := hide (HLo.out.la HX.out); have HD := hide (HLo.out.lb HX.out); have HS := hide (HLo.out.ta HX.out); have HT := hide (HLo.out.tb HX.out); clear HL0 HLo HX
  go_upto_region 4 with (fail)
  refine F2.regionS [.o, .o, .o, .al 25 #[.bool false, .slice none 0 0], .st 3] [Fact.eq ?ce27_, Fact.eq ?ce28_, Fact.z ?ke29_ ?ze29_, Fact.any, Fact.z ?kes10_ ?zes10_] [27, 28, 29, 10] [27, 28, 29, 10, 0] (by kernel_rfl) ?soe ?sope (by kernel_rfl) ?ste ?fine
  case soe => exact fun x hx => by cases hx
  case sope => exact List.Pairwise.nil
  case ste =>
   refine F2.Steps.consO rfl ?_ ?_
   ·
    intro vz wz hBz hDz hTz K hK; have HW := hBz.ext; have bx3z := hBz.blk bx3 zN; obtain ⟨zl0, zl1, -⟩ := bx3z.two; simp only [zy, F2.Wp] at hK ⊢; go_simp; refine hK _ wz zB (Fact.eq_mk ?_); with_reducible rfl
   refine F2.Steps.consO rfl ?_ ?_
   ·
    intro vz wz hBz hDz hTz K hK; have HW := hBz.ext; have bx3z := hBz.blk bx3 zN; obtain ⟨zl0, zl1, -⟩ := bx3z.two; simp only [zy, F2.Wp] at hK ⊢; go_simp; refine hK _ wz zB (Fact.eq_mk ?_); with_reducible rfl
   refine F2.Steps.consO rfl ?_ ?_
   ·
    intro vz wz hBz hDz hTz K hK; have E27 : vz 27 = _ := hDz 0 (by kernel_rfl) rfl; have E28 : vz 28 = _ := hDz 1 (by kernel_rfl) rfl; have HW := hBz.ext; simp only [zy, F2.Wp] at hK ⊢; simp only [E27, E28] at hK ⊢; go_simp; refine Calls.mono (jpa (h0.ext HW) (h0.ext HW) (by omega) (by omega)) ?_; rintro e w2z ⟨hb2, uz, rfl, hf⟩; refine hK _ w2z hb2 (Fact.cast (hf) ?_); with_reducible rfl
   refine F2.Steps.consA rfl ⟨NoU.two nB nS, ?_⟩ ?_
   ·
    intro vz wz hBz K hK; simp only [zy, F2.Wp] at hK ⊢; go_simp; exact hK
   refine F2.Steps.consS rfl rfl ?_ ?_
   ·
    intro vz wz gz hBz hDz E10' hgz hbz K hK; obtain ⟨zc0, zc1, zc2, zc3⟩ := hbz.two; obtain ⟨n29_, A29_, l29_, c29_, E29, q29⟩ : IntV 0 _ _ wz (vz 29) := hDz 2 (by kernel_rfl) rfl; have E10 : vz 10 = .pointer (some ⟨gz, 0, none⟩) := E10'; have HW := hBz.ext; simp only [zy, F2.Wp] at hK ⊢; simp only [E10, E29] at hK ⊢; go_simp; refine hK _ ((Far.set _ gz 0 _).trans (Far.set _ gz 1 _)) ⟨_, jab hbz, NoU.two nB nS, Fact.cast (Fact.z_mk q29) ?_⟩; with_reducible rfl
   exact F2.Steps.nil
  intro ve w5 hBz ⟨hOz, hAz, hNz, hSz⟩; have E27 : ve 27 = _ := hOz 0 (by decide) rfl; have E28 : ve 28 = _ := hOz 1 (by decide) rfl; obtain ⟨n29_, A29_, l29_, c29_, E29, q29⟩ : IntV 0 _ _ w5 (ve 29) := hOz 2 (by decide) rfl; obtain ⟨g10, cs10, E10, hg10, bx10, hs10, hz10⟩ := hAz 3 _ _ (by decide) rfl; obtain ⟨n10se_, A10se_, l10se_, c10se_, E10se, q10se⟩ : IntV 0 _ _ w5 (.agg cs10) := hs10 4 (by decide) rfl; injection E10se with E10se
  subst E10se; simp only [Act.put, actv, fill, fC, fN, tA, cS, cZ]; simp only [E27, E28, E29, (show ve 10 = _ from E10)]; clear E27 E28 E29 E10; have hge10 : w.heap.size ≤ g10 := Nat.le_trans HB.out.size hg10; have hne10_3 := hide (Nat.ne_of_gt (Nat.lt_of_lt_of_le bx3.lt (show w3.heap.size ≤ g10 from hg10))); have hne10_6 := hide (Nat.ne_of_gt (Nat.lt_of_lt_of_le bx6.lt (show w3.heap.size ≤ g10 from hg10))); have hne10_7 := hide (Nat.ne_of_gt (Nat.lt_of_lt_of_le bx7.lt (show w3.heap.size ≤ g10 from hg10))); replace h0 := h0.ext hBz.ext; replace bx3 := hBz.blk bx3 zN; replace bx6 := hBz.blk bx6 zN; replace bx7 := hBz.blk bx7 zN; replace HB := hide (HB.out.trans (hBz.below (B := w.heap.size) HB.out.size zE)); clear hOz hAz hNz hSz hs10 hz10 hBz
  go_upto_region 5 with (fail)
  refine F2.regionS [.o, .o, .al 25 #[.bool false, .slice none 0 0], .st 2] [Fact.eq ?cf30_, Fact.z ?kf31_ ?zf31_, Fact.any, Fact.z ?kfs11_ ?zfs11_] [30, 31, 11] [30, 31, 11, 0] (by kernel_rfl) ?sof ?sopf (by kernel_rfl) ?stf ?finf
  case sof => exact fun x hx => by cases hx
  case sopf => exact List.Pairwise.nil
  case stf =>
   refine F2.Steps.consO rfl ?_ ?_
   ·
    intro vz wz hBz hDz hTz K hK; have HW := hBz.ext; have bx3z := hBz.blk bx3 zN; obtain ⟨zl0, zl1, -⟩ := bx3z.two; simp only [zy, F2.Wp] at hK ⊢; go_simp; refine hK _ wz zB (Fact.eq_mk ?_); with_reducible rfl
   refine F2.Steps.consO rfl ?_ ?_
   ·
    intro vz wz hBz hDz hTz K hK; have E30 : vz 30 = _ := hDz 0 (by kernel_rfl) rfl; have HW := hBz.ext; simp only [zy, F2.Wp] at hK ⊢; simp only [E30] at hK ⊢; go_simp; refine Calls.mono (jo9 (h0.ext HW) (by omega)) ?_; rintro e w2z ⟨hb2, uz, rfl, hf⟩; refine hK _ w2z hb2 (Fact.cast (hf) ?_); with_reducible rfl
   refine F2.Steps.consA rfl ⟨NoU.two nB nS, ?_⟩ ?_
   ·
    intro vz wz hBz K hK; simp only [zy, F2.Wp] at hK ⊢; go_simp; exact hK
   refine F2.Steps.consS rfl rfl ?_ ?_
   ·
    intro vz wz gz hBz hDz E11' hgz hbz K hK; obtain ⟨zc0, zc1, zc2, zc3⟩ := hbz.two; obtain ⟨n31_, A31_, l31_, c31_, E31, q31⟩ : IntV 0 _ _ wz (vz 31) := hDz 1 (by kernel_rfl) rfl; have E11 : vz 11 = .pointer (some ⟨gz, 0, none⟩) := E11'; have HW := hBz.ext; simp only [zy, F2.Wp] at hK ⊢; simp only [E11, E31] at hK ⊢; go_simp; refine hK _ ((Far.set _ gz 0 _).trans (Far.set _ gz 1 _)) ⟨_, jab hbz, NoU.two nB nS, Fact.cast (Fact.z_mk q31) ?_⟩; with_reducible rfl
   exact F2.Steps.nil
  intro vf w6 hBz ⟨hOz, hAz, hNz, hSz⟩; have E30 : vf 30 = _ := hOz 0 (by decide) rfl; obtain ⟨n31_, A31_, l31_, c31_, E31, q31⟩ : IntV 0 _ _ w6 (vf 31) := hOz 1 (by decide) rfl; obtain ⟨g11, cs11, E11, hg11, bx11, hs11, hz11⟩ := hAz 2 _ _ (by decide) rfl; obtain ⟨n11sf_, A11sf_, l11sf_, c11sf_, E11sf, q11sf⟩ : IntV 0 _ _ w6 (.agg cs11) := hs11 3 (by decide) rfl; injection E11sf with E11sf
  subst E11sf; simp only [Act.put, actv, fill, fC, fN, tA, cS, cZ]; simp only [E30, E31, (show vf 11 = _ from E11)]; clear E30 E31 E11; have hge11 : w.heap.size ≤ g11 := Nat.le_trans HB.out.size hg11; have hne11_3 := hide (Nat.ne_of_gt (Nat.lt_of_lt_of_le bx3.lt (show w5.heap.size ≤ g11 from hg11))); have hne11_6 := hide (Nat.ne_of_gt (Nat.lt_of_lt_of_le bx6.lt (show w5.heap.size ≤ g11 from hg11))); have hne11_7 := hide (Nat.ne_of_gt (Nat.lt_of_lt_of_le bx7.lt (show w5.heap.size ≤ g11 from hg11))); have hne11_10 := hide (Nat.ne_of_gt (Nat.lt_of_lt_of_le bx10.lt (show w5.heap.size ≤ g11 from hg11))); replace h0 := h0.ext hBz.ext; replace q10se := q10se.ext hBz.ext; replace bx3 := hBz.blk bx3 zN; replace bx6 := hBz.blk bx6 zN; replace bx7 := hBz.blk bx7 zN; replace bx10 := hBz.blk bx10 zN; replace HB := hide (HB.out.trans (hBz.below (B := w.heap.size) HB.out.size zE)); clear hOz hAz hNz hSz hs11 hz11 hBz
  go_upto_region 6 with (fail)
  refine F2.regionS [.o, .al 25 #[.bool false, .slice none 0 0], .st 1] [Fact.eq ?cg32_, Fact.any, Fact.z ?kgs12_ ?zgs12_] [32, 12] [32, 12, 0] (by kernel_rfl) ?sog ?sopg (by kernel_rfl) ?stg ?fing
  case sog => exact fun x hx => by cases hx
  case sopg => exact List.Pairwise.nil
  case stg =>
   refine F2.Steps.consO rfl ?_ ?_
   ·
    intro vz wz hBz hDz hTz K hK; have HW := hBz.ext; have bx11z := hBz.blk bx11 zN; obtain ⟨zl0, zl1, -⟩ := bx11z.two; simp only [zy, F2.Wp] at hK ⊢; go_simp; refine hK _ wz zB (Fact.eq_mk ?_); with_reducible rfl
   refine F2.Steps.consA rfl ⟨NoU.two nB nS, ?_⟩ ?_
   ·
    intro vz wz hBz K hK; simp only [zy, F2.Wp] at hK ⊢; go_simp; exact hK
   refine F2.Steps.consS rfl rfl ?_ ?_
   ·
    intro vz wz gz hBz hDz E12' hgz hbz K hK; obtain ⟨zc0, zc1, zc2, zc3⟩ := hbz.two; have E32 : vz 32 = _ := hDz 0 (by kernel_rfl) rfl; have E12 : vz 12 = .pointer (some ⟨gz, 0, none⟩) := E12'; have HW := hBz.ext; simp only [zy, F2.Wp] at hK ⊢; simp only [E12, E32] at hK ⊢; go_simp; refine hK _ ((Far.set _ gz 0 _).trans (Far.set _ gz 1 _)) ⟨_, jab hbz, NoU.two nB nS, Fact.cast (Fact.z_mk (q11sf.ext HW)) ?_⟩; with_reducible rfl
   exact F2.Steps.nil
  intro vg w7 hBz ⟨hOz, hAz, hNz, hSz⟩; have E32 : vg 32 = _ := hOz 0 (by decide) rfl; obtain ⟨g12, cs12, E12, hg12, bx12, hs12, hz12⟩ := hAz 1 _ _ (by decide) rfl; obtain ⟨n12sg_, A12sg_, l12sg_, c12sg_, E12sg, q12sg⟩ : IntV 0 _ _ w7 (.agg cs12) := hs12 2 (by decide) rfl; injection E12sg with E12sg
  subst E12sg; simp only [Act.put, actv, fill, fC, fN, tA, cS, cZ]; simp only [E32, (show vg 12 = _ from E12)]; clear E32 E12; have hge12 : w.heap.size ≤ g12 := Nat.le_trans HB.out.size hg12; have hne12_3 := hide (Nat.ne_of_gt (Nat.lt_of_lt_of_le bx3.lt (show w6.heap.size ≤ g12 from hg12))); have hne12_6 := hide (Nat.ne_of_gt (Nat.lt_of_lt_of_le bx6.lt (show w6.heap.size ≤ g12 from hg12))); have hne12_7 := hide (Nat.ne_of_gt (Nat.lt_of_lt_of_le bx7.lt (show w6.heap.size ≤ g12 from hg12))); have hne12_10 := hide (Nat.ne_of_gt (Nat.lt_of_lt_of_le bx10.lt (show w6.heap.size ≤ g12 from hg12))); have hne12_11 := hide (Nat.ne_of_gt (Nat.lt_of_lt_of_le bx11.lt (show w6.heap.size ≤ g12 from hg12))); replace h0 := h0.ext hBz.ext; replace q10se := q10se.ext hBz.ext; replace q11sf := q11sf.ext hBz.ext; replace bx3 := hBz.blk bx3 zN; replace bx6 := hBz.blk bx6 zN; replace bx7 := hBz.blk bx7 zN; replace bx10 := hBz.blk bx10 zN; replace bx11 := hBz.blk bx11 zN; replace HB := hide (HB.out.trans (hBz.below (B := w.heap.size) HB.out.size zE)); clear hOz hAz hNz hSz hs12 hz12 hBz
  go_upto_region 7 with (fail)
  refine F2.regionS [.o, .al 25 #[.bool false, .slice none 0 0], .st 1] [Fact.z ?kh33_ ?zh33_, Fact.any, Fact.z ?khs13_ ?zhs13_] [33, 13] [33, 13, 0] (by kernel_rfl) ?soh ?soph (by kernel_rfl) ?sth ?finh
  case soh => exact fun x hx => by cases hx
  case soph => exact List.Pairwise.nil
  case sth =>
   refine F2.Steps.consO rfl ?_ ?_
   ·
    intro vz wz hBz hDz hTz K hK; have HW := hBz.ext; simp only [zy, F2.Wp] at hK ⊢; go_simp; refine Calls.mono (u_of  (by omega) (by omega)) ?_; rintro e w2z ⟨hb2, uz, rfl, hf⟩; refine hK _ w2z hb2 (Fact.cast (hf) ?_); with_reducible rfl
   refine F2.Steps.consA rfl ⟨NoU.two nB nS, ?_⟩ ?_
   ·
    intro vz wz hBz K hK; simp only [zy, F2.Wp] at hK ⊢; go_simp; exact hK
   refine F2.Steps.consS rfl rfl ?_ ?_
   ·
    intro vz wz gz hBz hDz E13' hgz hbz K hK; obtain ⟨zc0, zc1, zc2, zc3⟩ := hbz.two; obtain ⟨n33_, A33_, l33_, c33_, E33, q33⟩ : IntV 0 _ _ wz (vz 33) := hDz 0 (by kernel_rfl) rfl; have E13 : vz 13 = .pointer (some ⟨gz, 0, none⟩) := E13'; have HW := hBz.ext; simp only [zy, F2.Wp] at hK ⊢; simp only [E13, E33] at hK ⊢; go_simp; refine hK _ ((Far.set _ gz 0 _).trans (Far.set _ gz 1 _)) ⟨_, jab hbz, NoU.two nB nS, Fact.cast (Fact.z_mk q33) ?_⟩; with_reducible rfl
   exact F2.Steps.nil
  intro vh w8 hBz ⟨hOz, hAz, hNz, hSz⟩; obtain ⟨n33_, A33_, l33_, c33_, E33, q33⟩ : IntV 0 _ _ w8 (vh 33) := hOz 0 (by decide) rfl; obtain ⟨g13, cs13, E13, hg13, bx13, hs13, hz13⟩ := hAz 1 _ _ (by decide) rfl; obtain ⟨n13sh_, A13sh_, l13sh_, c13sh_, E13sh, q13sh⟩ : IntV 0 _ _ w8 (.agg cs13) := hs13 2 (by decide) rfl; injection E13sh with E13sh
  subst E13sh; simp only [Act.put, actv, fill, fC, fN, tA, cS, cZ]; simp only [E33, (show vh 13 = _ from E13)]; clear E33 E13; have hge13 : w.heap.size ≤ g13 := Nat.le_trans HB.out.size hg13; have hne13_3 := hide (Nat.ne_of_gt (Nat.lt_of_lt_of_le bx3.lt (show w7.heap.size ≤ g13 from hg13))); have hne13_6 := hide (Nat.ne_of_gt (Nat.lt_of_lt_of_le bx6.lt (show w7.heap.size ≤ g13 from hg13))); have hne13_7 := hide (Nat.ne_of_gt (Nat.lt_of_lt_of_le bx7.lt (show w7.heap.size ≤ g13 from hg13))); have hne13_10 := hide (Nat.ne_of_gt (Nat.lt_of_lt_of_le bx10.lt (show w7.heap.size ≤ g13 from hg13))); have hne13_11 := hide (Nat.ne_of_gt (Nat.lt_of_lt_of_le bx11.lt (show w7.heap.size ≤ g13 from hg13))); have hne13_12 := hide (Nat.ne_of_gt (Nat.lt_of_lt_of_le bx12.lt (show w7.heap.size ≤ g13 from hg13))); replace h0 := h0.ext hBz.ext; replace q10se := q10se.ext hBz.ext; replace q11sf := q11sf.ext hBz.ext; replace q12sg := q12sg.ext hBz.ext; replace bx3 := hBz.blk bx3 zN; replace bx6 := hBz.blk bx6 zN; replace bx7 := hBz.blk bx7 zN; replace bx10 := hBz.blk bx10 zN; replace bx11 := hBz.blk bx11 zN; replace bx12 := hBz.blk bx12 zN; replace HB := hide (HB.out.trans (hBz.below (B := w.heap.size) HB.out.size zE)); clear hOz hAz hNz hSz hs13 hz13 hBz
  go_wp2_with fail
  have hl3 := bx3.lt; have hl6 := bx6.lt; have hl7 := bx7.lt; have hl10 := bx10.lt; have hl11 := bx11.lt; have hl12 := bx12.lt; have hl13 := bx13.lt; have hbL := HB.out.size
  go_loopw [14, 15, 16] (fun ra_ rb_ iv wr1 => ∃ i : Nat, i ≤ L ∧ iv = .int .i64 ((i : Int)) ∧ Low [g11, g12] w8 wr1 ∧ RowW wr1 w8.heap.size 40 ra_ (lst (oA (rA (dPow q) (x0 * x0) x0)) i) ∧ RowW wr1 w8.heap.size 40 rb_ (lst (oB (rB (dPow q) (x0 * x0) x0)) i) ∧ Apart ra_ rb_ ∧ (∃ n11a A11a l11a c11a, Blk wr1 (g11) 25 #[.bool n11a, .slice A11a l11a c11a] ∧ QB wr1 0 (40) n11a A11a l11a c11a ((rA (dPow q) (x0 * x0) x0) i)) ∧ (∃ n12a A12a l12a c12a, Blk wr1 (g12) 25 #[.bool n12a, .slice A12a l12a c12a] ∧ QB wr1 0 (40) n12a A12a l12a c12a ((rB (dPow q) (x0 * x0) x0) i))) (fun _ _ iv _ => L + 0 - (intOf iv).toNat)
  case atStart => exact ⟨0, by omega, rfl, Low.refl _ _, RowW.nil _ _ _, RowW.nil _ _ _, Apart.nil, ⟨_, _, _, _, bx11, (q11sf.up (by omega))⟩, ⟨_, _, _, _, bx12, (q12sg.up (by omega))⟩⟩
  case round =>
   obtain ⟨i, hi, rfl, HL, ha, hb, hap, ⟨n11a, A11a, l11a, c11a, bx11, q11a⟩, ⟨n12a, A12a, l12a, c12a, bx12, q12a⟩⟩ := hrel; replace h0 := h0.ext HL.ext; replace q10se := q10se.ext HL.ext; replace q13sh := q13sh.ext HL.ext; replace bx3 := HL.blk bx3 (zM (Ne.symm hne11_3.out) (zM (Ne.symm hne12_3.out) zN)); replace bx6 := HL.blk bx6 (zM (Ne.symm hne11_6.out) (zM (Ne.symm hne12_6.out) zN)); replace bx7 := HL.blk bx7 (zM (Ne.symm hne11_7.out) (zM (Ne.symm hne12_7.out) zN)); replace bx10 := HL.blk bx10 (zM (Ne.symm hne11_10.out) (zM (Ne.symm hne12_10.out) zN)); replace bx13 := HL.blk bx13 (zM hne13_11.out (zM hne13_12.out zN)); replace HB := hide (HB.out.trans (HL.below (B := w.heap.size) HB.out.size (zA hge11 (zA hge12 zE))))
   by_cases hlt : i < L
   ·
    have hlt' : (i : Int) ≤ 2 * (N : Int) := by have := hL.out; omega
    go_upto_region 13 with (fail)
    obtain ⟨bx3c0, bx3c1, -⟩ := bx3.two; obtain ⟨bx6c0, bx6c1, -⟩ := bx6.two; obtain ⟨bx7c0, bx7c1, -⟩ := bx7.two; obtain ⟨bx10c0, bx10c1, -⟩ := bx10.two; obtain ⟨bx11c0, bx11c1, -⟩ := bx11.two; obtain ⟨bx12c0, bx12c1, -⟩ := bx12.two; obtain ⟨bx13c0, bx13c1, -⟩ := bx13.two
    go_wp2_with fail
    refine Calls.mono (jcu q11a.q q13sh.q (by omega) (by omega) (by omega) (by omega) (by omega) (by omega)) ?_; rintro e w9 ⟨hb2, uz9, rfl, hf⟩; clear bx3c0 bx3c1 bx6c0 bx6c1 bx7c0 bx7c1 bx10c0 bx10c1 bx11c0 bx11c1 bx12c0 bx12c1 bx13c0 bx13c1; obtain ⟨n46_, A46_, l46_, c46_, rfl, q46⟩ : IntV 0 _ _ w9 uz9 := hf; have HW := jah hb2; replace h0 := h0.ext HW; replace q10se := q10se.ext HW; replace q11a := q11a.ext HW; replace q12a := q12a.ext HW; replace q13sh := q13sh.ext HW; replace bx3 := bx3.below hb2 bx3.lt; replace bx6 := bx6.below hb2 bx6.lt; replace bx7 := bx7.below hb2 bx7.lt; replace bx10 := bx10.below hb2 bx10.lt; replace bx11 := bx11.below hb2 bx11.lt; replace bx12 := bx12.below hb2 bx12.lt; replace bx13 := bx13.below hb2 bx13.lt; replace ha := ha.low1 (g := g11) (jg1 hb2) zE (ha.ne hl11); replace hb := hb.low1 (g := g11) (jg1 hb2) zE (hb.ne hl11); replace HL := HL.step (jg1 hb2) zE; replace HB := hide (HB.out.trans (hb2.mono HB.out.size)); clear HW hb2; obtain ⟨bx3c0, bx3c1, -⟩ := bx3.two; obtain ⟨bx6c0, bx6c1, -⟩ := bx6.two; obtain ⟨bx7c0, bx7c1, -⟩ := bx7.two; obtain ⟨bx10c0, bx10c1, -⟩ := bx10.two; obtain ⟨bx11c0, bx11c1, -⟩ := bx11.two; obtain ⟨bx12c0, bx12c1, -⟩ := bx12.two; obtain ⟨bx13c0, bx13c1, -⟩ := bx13.two; have HBA := jfz w9 (.cells #[.bool n46_, .slice A46_ l46_ c46_] 25); have hszA : w8.heap.size ≤ (w9.alloc (.cells #[.bool n46_, .slice A46_ l46_ c46_] 25)).heap.size := Nat.le_trans HL.size HBA.size
    go_upto_region 14 with (at_builtin; refine jdv rfl _ _ rfl rfl (ha.below HBA) rfl (Blk.new _ _ _) ((show QB _ 0 40 _ _ _ _ ((oA (rA (dPow q) (x0 * x0) x0)) i) from q46.fit (HC.out i (by omega))).ext (jah HBA)) (by rw [jda]; omega) hszA ?_; intro va13 w10 han hgr hown hlow)
    clear bx3c0 bx3c1 bx6c0 bx6c1 bx7c0 bx7c1 bx10c0 bx10c1 bx11c0 bx11c1 bx12c0 bx12c1 bx13c0 bx13c1; have HZ : Low u14.ownBlock.toList w9 w10 := ((Low.refl u14.ownBlock.toList w9).grow HBA).step hlow (fun g hg => Or.inl hg); have hap0 : Apart u14 u15 := hap; replace hap := hap0.grow hown (fun g hg => ((hb.below HBA).lt g hg).2); replace hb := (hb.below HBA).step hgr (Apart.or hap0) hlow.ext; replace h0 := h0.ext HZ.ext; replace q10se := q10se.ext HZ.ext; replace q11a := q11a.ext HZ.ext; replace q12a := q12a.ext HZ.ext; replace q13sh := q13sh.ext HZ.ext; replace bx3 := HZ.blk bx3 (ha.far hl3); replace bx6 := HZ.blk bx6 (ha.far hl6); replace bx7 := HZ.blk bx7 (ha.far hl7); replace bx10 := HZ.blk bx10 (ha.far hl10); replace bx11 := HZ.blk bx11 (ha.far hl11); replace bx12 := HZ.blk bx12 (ha.far hl12); replace bx13 := HZ.blk bx13 (ha.far hl13); replace HB := hide (HB.out.trans (HZ.below (B := w.heap.size) HB.out.size (ha.near hbL))); replace HL := HL.step HZ (fun g hg => Or.inr (ha.near (Nat.le_refl _) g hg)); clear ha HBA hszA hgr hown hlow HZ hap0; have ha := han; clear han; clear q46
    go_upto_region 14 with (fail)
    obtain ⟨bx3c0, bx3c1, -⟩ := bx3.two; obtain ⟨bx6c0, bx6c1, -⟩ := bx6.two; obtain ⟨bx7c0, bx7c1, -⟩ := bx7.two; obtain ⟨bx10c0, bx10c1, -⟩ := bx10.two; obtain ⟨bx11c0, bx11c1, -⟩ := bx11.two; obtain ⟨bx12c0, bx12c1, -⟩ := bx12.two; obtain ⟨bx13c0, bx13c1, -⟩ := bx13.two
    go_wp2_with fail
    refine Calls.mono (jc9 q12a.q q13sh.q (by omega) (by omega) (by omega) (by omega) (by omega) (by omega)) ?_; rintro e w11 ⟨hb2, uz11, rfl, hf⟩; clear bx3c0 bx3c1 bx6c0 bx6c1 bx7c0 bx7c1 bx10c0 bx10c1 bx11c0 bx11c1 bx12c0 bx12c1 bx13c0 bx13c1; obtain ⟨n55_, A55_, l55_, c55_, rfl, q55⟩ : IntV 0 _ _ w11 uz11 := hf; have HW := jah hb2; replace h0 := h0.ext HW; replace q10se := q10se.ext HW; replace q11a := q11a.ext HW; replace q12a := q12a.ext HW; replace q13sh := q13sh.ext HW; replace bx3 := bx3.below hb2 bx3.lt; replace bx6 := bx6.below hb2 bx6.lt; replace bx7 := bx7.below hb2 bx7.lt; replace bx10 := bx10.below hb2 bx10.lt; replace bx11 := bx11.below hb2 bx11.lt; replace bx12 := bx12.below hb2 bx12.lt; replace bx13 := bx13.below hb2 bx13.lt; replace ha := ha.low1 (g := g11) (jg1 hb2) zE (ha.ne hl11); replace hb := hb.low1 (g := g11) (jg1 hb2) zE (hb.ne hl11); replace HL := HL.step (jg1 hb2) zE; replace HB := hide (HB.out.trans (hb2.mono HB.out.size)); clear HW hb2; obtain ⟨bx3c0, bx3c1, -⟩ := bx3.two; obtain ⟨bx6c0, bx6c1, -⟩ := bx6.two; obtain ⟨bx7c0, bx7c1, -⟩ := bx7.two; obtain ⟨bx10c0, bx10c1, -⟩ := bx10.two; obtain ⟨bx11c0, bx11c1, -⟩ := bx11.two; obtain ⟨bx12c0, bx12c1, -⟩ := bx12.two; obtain ⟨bx13c0, bx13c1, -⟩ := bx13.two; have HBA := jfz w11 (.cells #[.bool n55_, .slice A55_ l55_ c55_] 25); have hszA : w8.heap.size ≤ (w11.alloc (.cells #[.bool n55_, .slice A55_ l55_ c55_] 25)).heap.size := Nat.le_trans HL.size HBA.size
    go_upto_region 15 with (at_builtin; refine jdv rfl _ _ rfl rfl (hb.below HBA) rfl (Blk.new _ _ _) ((show QB _ 0 40 _ _ _ _ ((oB (rB (dPow q) (x0 * x0) x0)) i) from q55.fit (HD.out i (by omega))).ext (jah HBA)) (by rw [jda]; omega) hszA ?_; intro vb14 w12 hbn hgr hown hlow)
    clear bx3c0 bx3c1 bx6c0 bx6c1 bx7c0 bx7c1 bx10c0 bx10c1 bx11c0 bx11c1 bx12c0 bx12c1 bx13c0 bx13c1; have HZ : Low u15.ownBlock.toList w11 w12 := ((Low.refl u15.ownBlock.toList w11).grow HBA).step hlow (fun g hg => Or.inl hg); have hap0 : Apart u15 va13 := hap.symm; replace hap := (hap0.grow hown (fun g hg => ((ha.below HBA).lt g hg).2)).symm; replace ha := (ha.below HBA).step hgr (Apart.or hap0) hlow.ext; replace h0 := h0.ext HZ.ext; replace q10se := q10se.ext HZ.ext; replace q11a := q11a.ext HZ.ext; replace q12a := q12a.ext HZ.ext; replace q13sh := q13sh.ext HZ.ext; replace bx3 := HZ.blk bx3 (hb.far hl3); replace bx6 := HZ.blk bx6 (hb.far hl6); replace bx7 := HZ.blk bx7 (hb.far hl7); replace bx10 := HZ.blk bx10 (hb.far hl10); replace bx11 := HZ.blk bx11 (hb.far hl11); replace bx12 := HZ.blk bx12 (hb.far hl12); replace bx13 := HZ.blk bx13 (hb.far hl13); replace HB := hide (HB.out.trans (HZ.below (B := w.heap.size) HB.out.size (hb.near hbL))); replace HL := HL.step HZ (fun g hg => Or.inr (hb.near (Nat.le_refl _) g hg)); clear hb HBA hszA hgr hown hlow HZ hap0; have hb := hbn; clear hbn; clear q55
    go_upto_region 15 with (fail)
    refine F2.regionS [.o, .o, .o, .o, .o, .so (g11) 25 #[.bool n11a, .slice A11a l11a c11a]] [Fact.eq ?cm58_, Fact.eq ?cm59_, Fact.eq ?cm60_, Fact.eq ?cm61_, Fact.z ?km62_ ?zm62_, Fact.z ?kms11_ ?zms11_] [58, 59, 60, 61, 62] [58, 59, 60, 61, 62, 0] (by kernel_rfl) ?som ?sopm (by kernel_rfl) ?stm ?finm
    case som => exact List.forall_mem_cons.2 ⟨⟨bx11, NoU.two nB nS⟩, fun x hx => by cases hx⟩
    case sopm => exact List.Pairwise.cons (fun y hy => by cases hy) (List.Pairwise.nil)
    case stm =>
     refine F2.Steps.consO rfl ?_ ?_
     ·
      intro vz wz hBz hDz hTz K hK; have HW := hBz.ext; have bx11z := hTz 5 _ _ _ _ rfl rfl (by kernel_rfl); obtain ⟨zl0, zl1, -⟩ := bx11z.two; simp only [zy, F2.Wp] at hK ⊢; go_simp; refine hK _ wz zB (Fact.eq_mk ?_); with_reducible rfl
     refine F2.Steps.consO rfl ?_ ?_
     ·
      intro vz wz hBz hDz hTz K hK; have HW := hBz.ext; have bx10z := hBz.blk bx10 (zM (Ne.symm hne11_10.out) zN); obtain ⟨zl0, zl1, -⟩ := bx10z.two; simp only [zy, F2.Wp] at hK ⊢; go_simp; refine hK _ wz zB (Fact.eq_mk ?_); with_reducible rfl
     refine F2.Steps.consO rfl ?_ ?_
     ·
      intro vz wz hBz hDz hTz K hK; have HW := hBz.ext; simp only [zy, F2.Wp] at hK ⊢; go_simp; refine hK _ wz zB (Fact.eq_mk ?_); with_reducible rfl
     refine F2.Steps.consO rfl ?_ ?_
     ·
      intro vz wz hBz hDz hTz K hK; have E60 : vz 60 = _ := hDz 2 (by kernel_rfl) rfl; have HW := hBz.ext; simp only [zy, F2.Wp] at hK ⊢; simp only [E60] at hK ⊢; go_simp
      try simp (disch := omega) only [IntWalk.i64_in]
      refine hK _ wz zB (Fact.eq_mk ?_); with_reducible rfl
     refine F2.Steps.consO rfl ?_ ?_
     ·
      intro vz wz hBz hDz hTz K hK; have E58 : vz 58 = _ := hDz 0 (by kernel_rfl) rfl; have E59 : vz 59 = _ := hDz 1 (by kernel_rfl) rfl; have E61 : vz 61 = _ := hDz 3 (by kernel_rfl) rfl; have HW := hBz.ext; simp only [zy, F2.Wp] at hK ⊢; simp only [E58, E59, E61] at hK ⊢; go_simp; refine Calls.mono (jcu (q11a.ext HW).q (q10se.ext HW).q (by omega) (by omega) (by omega) (by omega) (by omega) (by omega)) ?_; rintro e w2z ⟨hb2, uz, rfl, hf⟩; refine hK _ w2z hb2 (Fact.cast (hf) ?_); with_reducible rfl
     refine F2.Steps.consT rfl ?_ ?_
     ·
      intro vz wz hBz hDz hbz K hK; obtain ⟨zc0, zc1, zc2, zc3⟩ := hbz.two; obtain ⟨n62_, A62_, l62_, c62_, E62, q62⟩ : IntV 0 _ _ wz (vz 62) := hDz 4 (by kernel_rfl) rfl; have HW := hBz.ext; simp only [zy, F2.Wp] at hK ⊢; simp only [E62] at hK ⊢; go_simp; refine hK _ ((Far.set _ _ 0 _).trans (Far.set _ _ 1 _)) ⟨_, jab hbz, NoU.two nB nS, Fact.cast (Fact.z_mk q62) ?_⟩; with_reducible rfl
     exact F2.Steps.nil
    intro vm w13 hBz ⟨hOz, hAz, hNz, hSz⟩; have E58 : vm 58 = _ := hOz 0 (by decide) rfl; have E59 : vm 59 = _ := hOz 1 (by decide) rfl; have E60 : vm 60 = _ := hOz 2 (by decide) rfl; have E61 : vm 61 = _ := hOz 3 (by decide) rfl; obtain ⟨n62_, A62_, l62_, c62_, E62, q62⟩ : IntV 0 _ _ w13 (vm 62) := hOz 4 (by decide) rfl; obtain ⟨cs11, bx11n, hs11⟩ := hSz 5 _ _ _ (by decide) rfl; obtain ⟨n11sm_, A11sm_, l11sm_, c11sm_, E11sm, q11sm⟩ : IntV 0 _ _ w13 (.agg cs11) := hs11; injection E11sm with E11sm
    subst E11sm; simp only [Act.put, actv, fill, fC, fN, tA, cS, cZ]; simp only [E58, E59, E60, E61, E62]; clear E58 E59 E60 E61 E62; replace h0 := h0.ext hBz.ext; replace q10se := q10se.ext hBz.ext; replace q11a := q11a.ext hBz.ext; replace q12a := q12a.ext hBz.ext; replace q13sh := q13sh.ext hBz.ext; replace bx3 := hBz.blk bx3 (zM (Ne.symm hne11_3.out) zN); replace bx6 := hBz.blk bx6 (zM (Ne.symm hne11_6.out) zN); replace bx7 := hBz.blk bx7 (zM (Ne.symm hne11_7.out) zN); replace bx10 := hBz.blk bx10 (zM (Ne.symm hne11_10.out) zN); replace bx12 := hBz.blk bx12 (zM hne12_11.out zN); replace bx13 := hBz.blk bx13 (zM hne13_11.out zN); replace ha := ha.low1 (g := g11) hBz (zA rfl zE) (ha.ne hl11); replace hb := hb.low1 (g := g11) hBz (zA rfl zE) (hb.ne hl11); replace HL := HL.step hBz (zA (Or.inl (by simp)) zE); replace HB := hide (HB.out.trans (hBz.below (B := w.heap.size) HB.out.size (zA hge11 zE))); clear bx11; have bx11 := bx11n; clear bx11n; clear hOz hAz hNz hSz hBz
    go_upto_region 16 with (fail)
    refine F2.regionS [.o, .o, .o, .o, .o, .so (g12) 25 #[.bool n12a, .slice A12a l12a c12a]] [Fact.eq ?cn63_, Fact.eq ?cn64_, Fact.eq ?cn65_, Fact.eq ?cn66_, Fact.z ?kn67_ ?zn67_, Fact.z ?kns12_ ?zns12_] [63, 64, 65, 66, 67] [63, 64, 65, 66, 67, 0] (by kernel_rfl) ?son ?sopn (by kernel_rfl) ?stn ?finn
    case son => exact List.forall_mem_cons.2 ⟨⟨bx12, NoU.two nB nS⟩, fun x hx => by cases hx⟩
    case sopn => exact List.Pairwise.cons (fun y hy => by cases hy) (List.Pairwise.nil)
    case stn =>
     refine F2.Steps.consO rfl ?_ ?_
     ·
      intro vz wz hBz hDz hTz K hK; have HW := hBz.ext; have bx12z := hTz 5 _ _ _ _ rfl rfl (by kernel_rfl); obtain ⟨zl0, zl1, -⟩ := bx12z.two; simp only [zy, F2.Wp] at hK ⊢; go_simp; refine hK _ wz zB (Fact.eq_mk ?_); with_reducible rfl
     refine F2.Steps.consO rfl ?_ ?_
     ·
      intro vz wz hBz hDz hTz K hK; have HW := hBz.ext; have bx10z := hBz.blk bx10 (zM (Ne.symm hne12_10.out) zN); obtain ⟨zl0, zl1, -⟩ := bx10z.two; simp only [zy, F2.Wp] at hK ⊢; go_simp; refine hK _ wz zB (Fact.eq_mk ?_); with_reducible rfl
     refine F2.Steps.consO rfl ?_ ?_
     ·
      intro vz wz hBz hDz hTz K hK; have HW := hBz.ext; simp only [zy, F2.Wp] at hK ⊢; go_simp; refine hK _ wz zB (Fact.eq_mk ?_); with_reducible rfl
     refine F2.Steps.consO rfl ?_ ?_
     ·
      intro vz wz hBz hDz hTz K hK; have E65 : vz 65 = _ := hDz 2 (by kernel_rfl) rfl; have HW := hBz.ext; simp only [zy, F2.Wp] at hK ⊢; simp only [E65] at hK ⊢; go_simp
      try simp (disch := omega) only [IntWalk.i64_in]
      refine hK _ wz zB (Fact.eq_mk ?_); with_reducible rfl
     refine F2.Steps.consO rfl ?_ ?_
     ·
      intro vz wz hBz hDz hTz K hK; have E63 : vz 63 = _ := hDz 0 (by kernel_rfl) rfl; have E64 : vz 64 = _ := hDz 1 (by kernel_rfl) rfl; have E66 : vz 66 = _ := hDz 3 (by kernel_rfl) rfl; have HW := hBz.ext; simp only [zy, F2.Wp] at hK ⊢; simp only [E63, E64, E66] at hK ⊢; go_simp; refine Calls.mono (jc9 (q12a.ext HW).q (q10se.ext HW).q (by omega) (by omega) (by omega) (by omega) (by omega) (by omega)) ?_; rintro e w2z ⟨hb2, uz, rfl, hf⟩; refine hK _ w2z hb2 (Fact.cast (hf) ?_); with_reducible rfl
     refine F2.Steps.consT rfl ?_ ?_
     ·
      intro vz wz hBz hDz hbz K hK; obtain ⟨zc0, zc1, zc2, zc3⟩ := hbz.two; obtain ⟨n67_, A67_, l67_, c67_, E67, q67⟩ : IntV 0 _ _ wz (vz 67) := hDz 4 (by kernel_rfl) rfl; have HW := hBz.ext; simp only [zy, F2.Wp] at hK ⊢; simp only [E67] at hK ⊢; go_simp; refine hK _ ((Far.set _ _ 0 _).trans (Far.set _ _ 1 _)) ⟨_, jab hbz, NoU.two nB nS, Fact.cast (Fact.z_mk q67) ?_⟩; with_reducible rfl
     exact F2.Steps.nil
    intro vn w14 hBz ⟨hOz, hAz, hNz, hSz⟩; have E63 : vn 63 = _ := hOz 0 (by decide) rfl; have E64 : vn 64 = _ := hOz 1 (by decide) rfl; have E65 : vn 65 = _ := hOz 2 (by decide) rfl; have E66 : vn 66 = _ := hOz 3 (by decide) rfl; obtain ⟨n67_, A67_, l67_, c67_, E67, q67⟩ : IntV 0 _ _ w14 (vn 67) := hOz 4 (by decide) rfl; obtain ⟨cs12, bx12n, hs12⟩ := hSz 5 _ _ _ (by decide) rfl; obtain ⟨n12sn_, A12sn_, l12sn_, c12sn_, E12sn, q12sn⟩ : IntV 0 _ _ w14 (.agg cs12) := hs12; injection E12sn with E12sn
    subst E12sn; simp only [Act.put, actv, fill, fC, fN, tA, cS, cZ]; simp only [E63, E64, E65, E66, E67]; clear E63 E64 E65 E66 E67; replace h0 := h0.ext hBz.ext; replace q10se := q10se.ext hBz.ext; replace q11sm := q11sm.ext hBz.ext; replace q12a := q12a.ext hBz.ext; replace q13sh := q13sh.ext hBz.ext; replace bx3 := hBz.blk bx3 (zM (Ne.symm hne12_3.out) zN); replace bx6 := hBz.blk bx6 (zM (Ne.symm hne12_6.out) zN); replace bx7 := hBz.blk bx7 (zM (Ne.symm hne12_7.out) zN); replace bx10 := hBz.blk bx10 (zM (Ne.symm hne12_10.out) zN); replace bx11 := hBz.blk bx11 (zM (Ne.symm hne12_11.out) zN); replace bx13 := hBz.blk bx13 (zM hne13_12.out zN); replace ha := ha.low1 (g := g12) hBz (zA rfl zE) (ha.ne hl12); replace hb := hb.low1 (g := g12) hBz (zA rfl zE) (hb.ne hl12); replace HL := HL.step hBz (zA (Or.inl (by simp)) zE); replace HB := hide (HB.out.trans (hBz.below (B := w.heap.size) HB.out.size (zA hge12 zE))); clear bx12; have bx12 := bx12n; clear bx12n; clear hOz hAz hNz hSz hBz
    go_wp2_with fail
    go_roundw
    case rel => (repeat apply Exists.intro); exact ⟨⟨i + 1, by omega, by go_num, HL, ha, hb, hap, ⟨_, _, _, _, bx11, (q11sm.fit (HA.out (i + 1) (by omega)))⟩, ⟨_, _, _, _, bx12, (q12sn.fit (HB_.out (i + 1) (by omega)))⟩⟩, rfl⟩
    case measure => simp [intOf]; omega
   ·
    have hge : ¬ ((i : Int) ≤ 2 * (N : Int)) := by have := hL.out; omega
    have hie := hide (show i = L by omega); clear hlt; obtain ⟨g1, cp1, rfl, hB1, hr1⟩ := ha.read_lst (L := i) (by have := hL.out; have := hie.out; omega); obtain ⟨g2, cp2, rfl, hB2, hr2⟩ := hb.read_lst (L := i) (by have := hL.out; have := hie.out; omega); clear ha hb hap; replace hL : Hid (i = 2 * N + 1) := hide (hie.out.trans hL.out); clear hie
    go_upto_region 17 with (fail)
    clear hge; refine F2.regionS [.o, .o, .o, .o, .o, .o, .al 25 #[.bool false, .slice none 0 0], .al 25 #[.bool false, .slice none 0 0], .st 6, .st 7] [Fact.eq ?co69_, Fact.eq ?co70_, Fact.t2 (Fact.z ?ko71_p ?zo71_p) (Fact.z ?ko71_q ?zo71_q), Fact.t2 (Fact.z ?ko68_p ?zo68_p) (Fact.z ?ko68_q ?zo68_q), Fact.z ?ko72_ ?zo72_, Fact.z ?ko73_ ?zo73_, Fact.any, Fact.any, Fact.z ?kos17_ ?zos17_, Fact.z ?kos18_ ?zos18_] [69, 70, 71, 68, 72, 73, 17, 18] [69, 70, 71, 68, 72, 73, 17, 18, 0, 0] (by kernel_rfl) ?soo ?sopo (by kernel_rfl) ?sto ?fino
    case soo => exact fun x hx => by cases hx
    case sopo => exact List.Pairwise.nil
    case sto =>
     refine F2.Steps.consO rfl ?_ ?_
     ·
      intro vz wz hBz hDz hTz K hK; have HW := hBz.ext; simp only [zy, F2.Wp] at hK ⊢; go_simp; refine hK _ wz zB (Fact.eq_mk ?_); with_reducible rfl
     refine F2.Steps.consO rfl ?_ ?_
     ·
      intro vz wz hBz hDz hTz K hK; have HW := hBz.ext; simp only [zy, F2.Wp] at hK ⊢; go_simp; refine hK _ wz zB (Fact.eq_mk ?_); with_reducible rfl
     refine F2.Steps.consO rfl ?_ ?_
     ·
      intro vz wz hBz hDz hTz K hK; have E69 : vz 69 = _ := hDz 0 (by kernel_rfl) rfl; have E70 : vz 70 = _ := hDz 1 (by kernel_rfl) rfl; have HW := hBz.ext; simp only [zy, F2.Wp] at hK ⊢; simp only [E69, E70] at hK ⊢; go_simp; refine Calls.mono (jiq   (hr1.low hBz zN) (hr2.low hBz zN) hL (show N ≤ 400 by omega) (by omega) (hide (fun i hi => HS.out i (by have := hL.out; omega))) (hide (fun i hi => HT.out i (by have := hL.out; omega)))) ?_; rintro e w2z ⟨hb2, uz, rfl, hf⟩; refine hK _ w2z hb2 (Fact.cast (hf) ?_); with_reducible rfl
     refine F2.Steps.consO rfl ?_ ?_
     ·
      intro vz wz hBz hDz hTz K hK; obtain ⟨x71p_, x71q_, E71, h71p, h71q⟩ : TV2 _ _ wz (vz 71) := hDz 2 (by kernel_rfl) rfl; have HW := hBz.ext; simp only [zy, F2.Wp] at hK ⊢; simp only [E71] at hK ⊢; go_simp; refine hK _ wz zB (Fact.cast (Fact.t2_mk h71p h71q) ?_); with_reducible rfl
     refine F2.Steps.consO rfl ?_ ?_
     ·
      intro vz wz hBz hDz hTz K hK; obtain ⟨x68p_, x68q_, E68, h68p, h68q⟩ : TV2 _ _ wz (vz 68) := hDz 3 (by kernel_rfl) rfl; have HW := hBz.ext; simp only [zy, F2.Wp] at hK ⊢; simp only [E68] at hK ⊢; go_simp; refine hK _ wz zB (Fact.cast (h68p) ?_); with_reducible rfl
     refine F2.Steps.consO rfl ?_ ?_
     ·
      intro vz wz hBz hDz hTz K hK; obtain ⟨x68p_, x68q_, E68, h68p, h68q⟩ : TV2 _ _ wz (vz 68) := hDz 3 (by kernel_rfl) rfl; have HW := hBz.ext; simp only [zy, F2.Wp] at hK ⊢; simp only [E68] at hK ⊢; go_simp; refine hK _ wz zB (Fact.cast (h68q) ?_); with_reducible rfl
     refine F2.Steps.consA rfl ⟨NoU.two nB nS, ?_⟩ ?_
     ·
      intro vz wz hBz K hK; simp only [zy, F2.Wp] at hK ⊢; go_simp; exact hK
     refine F2.Steps.consA rfl ⟨NoU.two nB nS, ?_⟩ ?_
     ·
      intro vz wz hBz K hK; simp only [zy, F2.Wp] at hK ⊢; go_simp; exact hK
     refine F2.Steps.consS rfl rfl ?_ ?_
     ·
      intro vz wz gz hBz hDz E17' hgz hbz K hK; obtain ⟨zc0, zc1, zc2, zc3⟩ := hbz.two; obtain ⟨n72_, A72_, l72_, c72_, E72, q72⟩ : IntV 0 _ _ wz (vz 72) := hDz 4 (by kernel_rfl) rfl; have E17 : vz 17 = .pointer (some ⟨gz, 0, none⟩) := E17'; have HW := hBz.ext; simp only [zy, F2.Wp] at hK ⊢; simp only [E17, E72] at hK ⊢; go_simp; refine hK _ ((Far.set _ gz 0 _).trans (Far.set _ gz 1 _)) ⟨_, jab hbz, NoU.two nB nS, Fact.cast (Fact.z_mk q72) ?_⟩; with_reducible rfl
     refine F2.Steps.consS rfl rfl ?_ ?_
     ·
      intro vz wz gz hBz hDz E18' hgz hbz K hK; obtain ⟨zc0, zc1, zc2, zc3⟩ := hbz.two; obtain ⟨n73_, A73_, l73_, c73_, E73, q73⟩ : IntV 0 _ _ wz (vz 73) := hDz 5 (by kernel_rfl) rfl; have E18 : vz 18 = .pointer (some ⟨gz, 0, none⟩) := E18'; have HW := hBz.ext; simp only [zy, F2.Wp] at hK ⊢; simp only [E18, E73] at hK ⊢; go_simp; refine hK _ ((Far.set _ gz 0 _).trans (Far.set _ gz 1 _)) ⟨_, jab hbz, NoU.two nB nS, Fact.cast (Fact.z_mk q73) ?_⟩; with_reducible rfl
     exact F2.Steps.nil
    intro vo w15 hBz ⟨hOz, hAz, hNz, hSz⟩; have E69 : vo 69 = _ := hOz 0 (by decide) rfl; have E70 : vo 70 = _ := hOz 1 (by decide) rfl; obtain ⟨x71p_, x71q_, E71, h71p, h71q⟩ : TV2 _ _ w15 (vo 71) := hOz 2 (by decide) rfl; obtain ⟨x68p_, x68q_, E68, h68p, h68q⟩ : TV2 _ _ w15 (vo 68) := hOz 3 (by decide) rfl; obtain ⟨n72_, A72_, l72_, c72_, E72, q72⟩ : IntV 0 _ _ w15 (vo 72) := hOz 4 (by decide) rfl; obtain ⟨n73_, A73_, l73_, c73_, E73, q73⟩ : IntV 0 _ _ w15 (vo 73) := hOz 5 (by decide) rfl; obtain ⟨g17, cs17, E17, hg17, bx17, hs17, hz17⟩ := hAz 6 _ _ (by decide) rfl; obtain ⟨g18, cs18, E18, hg18, bx18, hs18, hz18⟩ := hAz 7 _ _ (by decide) rfl; obtain ⟨n17so_, A17so_, l17so_, c17so_, E17so, q17so⟩ : IntV 0 _ _ w15 (.agg cs17) := hs17 8 (by decide) rfl; injection E17so with E17so
    subst E17so; obtain ⟨n18so_, A18so_, l18so_, c18so_, E18so, q18so⟩ : IntV 0 _ _ w15 (.agg cs18) := hs18 9 (by decide) rfl; injection E18so with E18so
    subst E18so; have hne17_18 : Hid (¬ g17 = g18) := hide (fun h => hNz 6 7 _ _ _ _ (by decide) (by decide) (by decide) rfl rfl (by rw [E17, E18, h])); simp only [Act.put, actv, fill, fC, fN, tA, cS, cZ]; simp only [E69, E70, E71, E68, E72, E73, (show vo 17 = _ from E17), (show vo 18 = _ from E18)]; clear E69 E70 E71 E68 E72 E73 E17 E18; have hge17 : w.heap.size ≤ g17 := Nat.le_trans HB.out.size hg17; have hne17_3 := hide (Nat.ne_of_gt (Nat.lt_of_lt_of_le bx3.lt (show wr.heap.size ≤ g17 from hg17))); have hne17_6 := hide (Nat.ne_of_gt (Nat.lt_of_lt_of_le bx6.lt (show wr.heap.size ≤ g17 from hg17))); have hne17_7 := hide (Nat.ne_of_gt (Nat.lt_of_lt_of_le bx7.lt (show wr.heap.size ≤ g17 from hg17))); have hne17_10 := hide (Nat.ne_of_gt (Nat.lt_of_lt_of_le bx10.lt (show wr.heap.size ≤ g17 from hg17))); have hne17_11 := hide (Nat.ne_of_gt (Nat.lt_of_lt_of_le bx11.lt (show wr.heap.size ≤ g17 from hg17))); have hne17_12 := hide (Nat.ne_of_gt (Nat.lt_of_lt_of_le bx12.lt (show wr.heap.size ≤ g17 from hg17))); have hne17_13 := hide (Nat.ne_of_gt (Nat.lt_of_lt_of_le bx13.lt (show wr.heap.size ≤ g17 from hg17))); have hge18 : w.heap.size ≤ g18 := Nat.le_trans HB.out.size hg18; have hne18_3 := hide (Nat.ne_of_gt (Nat.lt_of_lt_of_le bx3.lt (show wr.heap.size ≤ g18 from hg18))); have hne18_6 := hide (Nat.ne_of_gt (Nat.lt_of_lt_of_le bx6.lt (show wr.heap.size ≤ g18 from hg18))); have hne18_7 := hide (Nat.ne_of_gt (Nat.lt_of_lt_of_le bx7.lt (show wr.heap.size ≤ g18 from hg18))); have hne18_10 := hide (Nat.ne_of_gt (Nat.lt_of_lt_of_le bx10.lt (show wr.heap.size ≤ g18 from hg18))); have hne18_11 := hide (Nat.ne_of_gt (Nat.lt_of_lt_of_le bx11.lt (show wr.heap.size ≤ g18 from hg18))); have hne18_12 := hide (Nat.ne_of_gt (Nat.lt_of_lt_of_le bx12.lt (show wr.heap.size ≤ g18 from hg18))); have hne18_13 := hide (Nat.ne_of_gt (Nat.lt_of_lt_of_le bx13.lt (show wr.heap.size ≤ g18 from hg18))); replace h0 := h0.ext hBz.ext; replace q10se := q10se.ext hBz.ext; replace q11a := q11a.ext hBz.ext; replace q12a := q12a.ext hBz.ext; replace q13sh := q13sh.ext hBz.ext; replace bx3 := hBz.blk bx3 zN; replace bx6 := hBz.blk bx6 zN; replace bx7 := hBz.blk bx7 zN; replace bx10 := hBz.blk bx10 zN; replace bx11 := hBz.blk bx11 zN; replace bx12 := hBz.blk bx12 zN; replace bx13 := hBz.blk bx13 zN; replace HB := hide (HB.out.trans (hBz.below (B := w.heap.size) HB.out.size zE)); clear hOz hAz hNz hSz hs17 hz17 hs18 hz18 hBz
    go_upto_region 18 with (fail)
    refine F2.region [.o, .o, .so (g6) 25 #[.bool false, .slice none 0 0], .so (g7) 25 #[.bool false, .slice none 0 0], .o] [Fact.eq ?cp74_, Fact.eq ?cp75_, Fact.z ?kps6_ ?zps6_, Fact.z ?kps7_ ?zps7_, Fact.eq ?cp8_] [74, 75, 8] [74, 75, 0, 0, 8] (by kernel_rfl) ?sop ?sopp (by kernel_rfl) ?stp ?finp
    case sop => exact List.forall_mem_cons.2 ⟨⟨bx6, NoU.two nB nS⟩, List.forall_mem_cons.2 ⟨⟨bx7, NoU.two nB nS⟩, fun x hx => by cases hx⟩⟩
    case sopp => exact List.Pairwise.cons (by intro y hy; simp [F2.sos] at hy; have hne6_7 := hne6_7.out; first | (subst hy; simp; done) | (subst hy; simp; omega) | (rcases hy with rfl | rfl <;> simp <;> omega)) (List.Pairwise.cons (fun y hy => by cases hy) (List.Pairwise.nil))
    case stp =>
     refine F2.Steps.consO rfl ?_ ?_
     ·
      intro vz wz hBz hDz hTz K hK; have HW := jaa hBz.ext; have bx17z := hBz.blk bx17.drew (zM hne17_6.out (zM hne17_7.out zN)); obtain ⟨zl0, zl1, -⟩ := bx17z.two; simp only [zy, F2.Wp] at hK ⊢; go_simp; refine hK _ wz zB (Fact.eq_mk ?_); with_reducible rfl
     refine F2.Steps.consO rfl ?_ ?_
     ·
      intro vz wz hBz hDz hTz K hK; have HW := jaa hBz.ext; have bx18z := hBz.blk bx18.drew (zM hne18_6.out (zM hne18_7.out zN)); obtain ⟨zl0, zl1, -⟩ := bx18z.two; simp only [zy, F2.Wp] at hK ⊢; go_simp; refine hK _ wz zB (Fact.eq_mk ?_); with_reducible rfl
     refine F2.Steps.consT rfl ?_ ?_
     ·
      intro vz wz hBz hDz hbz K hK; obtain ⟨zc0, zc1, zc2, zc3⟩ := hbz.two; have E74 : vz 74 = _ := hDz 0 (by kernel_rfl) rfl; have HW := jaa hBz.ext; simp only [zy, F2.Wp] at hK ⊢; simp only [E74] at hK ⊢; go_simp; refine hK _ ((Far.set _ _ 0 _).trans (Far.set _ _ 1 _)) ⟨_, jab hbz, NoU.two nB nS, Fact.cast (Fact.z_mk (q17so.ext HW)) ?_⟩; with_reducible rfl
     refine F2.Steps.consT rfl ?_ ?_
     ·
      intro vz wz hBz hDz hbz K hK; obtain ⟨zc0, zc1, zc2, zc3⟩ := hbz.two; have E75 : vz 75 = _ := hDz 1 (by kernel_rfl) rfl; have HW := jaa hBz.ext; simp only [zy, F2.Wp] at hK ⊢; simp only [E75] at hK ⊢; go_simp; refine hK _ ((Far.set _ _ 0 _).trans (Far.set _ _ 1 _)) ⟨_, jab hbz, NoU.two nB nS, Fact.cast (Fact.z_mk (q18so.ext HW)) ?_⟩; with_reducible rfl
     refine F2.Steps.consO rfl ?_ ?_
     ·
      intro vz wz hBz hDz hTz K hK; have HW := jaa hBz.ext; simp only [zy, F2.Wp] at hK ⊢; go_simp; refine hK _ wz zB (Fact.eq_mk ?_); with_reducible rfl
     exact F2.Steps.nil
    intro vp w16 hBz ⟨hOz, hAz, hNz, hSz⟩; have E74 : vp 74 = _ := hOz 0 (by decide) rfl; have E75 : vp 75 = _ := hOz 1 (by decide) rfl; obtain ⟨cs6, bx6n, hs6⟩ := hSz 2 _ _ _ (by decide) rfl; obtain ⟨n6sp_, A6sp_, l6sp_, c6sp_, E6sp, q6sp⟩ : IntV 0 _ _ w16 (.agg cs6) := hs6; injection E6sp with E6sp
    subst E6sp; obtain ⟨cs7, bx7n, hs7⟩ := hSz 3 _ _ _ (by decide) rfl; obtain ⟨n7sp_, A7sp_, l7sp_, c7sp_, E7sp, q7sp⟩ : IntV 0 _ _ w16 (.agg cs7) := hs7; injection E7sp with E7sp
    subst E7sp; have E8 : vp 8 = _ := hOz 4 (by decide) rfl; simp only [Act.put, actv, fill, fC, fN, tA, cS, cZ]; simp only [E74, E75, E8]; clear E74 E75 E8; replace h0 := h0.ext hBz.ext; replace q10se := q10se.ext hBz.ext; replace q11a := q11a.ext hBz.ext; replace q12a := q12a.ext hBz.ext; replace q13sh := q13sh.ext hBz.ext; replace q17so := q17so.ext hBz.ext; replace q18so := q18so.ext hBz.ext; replace bx3 := hBz.blk bx3 (zM hne3_6.out (zM hne3_7.out zN)); replace bx10 := hBz.blk bx10 (zM hne10_6.out (zM hne10_7.out zN)); replace bx11 := hBz.blk bx11 (zM hne11_6.out (zM hne11_7.out zN)); replace bx12 := hBz.blk bx12 (zM hne12_6.out (zM hne12_7.out zN)); replace bx13 := hBz.blk bx13 (zM hne13_6.out (zM hne13_7.out zN)); replace bx17 := hBz.blk bx17 (zM hne17_6.out (zM hne17_7.out zN)); replace bx18 := hBz.blk bx18 (zM hne18_6.out (zM hne18_7.out zN)); replace HB := hide (HB.out.trans (hBz.below (B := w.heap.size) HB.out.size (zA hge6 (zA hge7 zE)))); clear bx6; clear bx7; have bx6 := bx6n; clear bx6n; have bx7 := bx7n; clear bx7n; clear hOz hAz hNz hSz hBz
    go_wp2_with fail
    refine bodyPost_ret (jad rfl _ _ _ _ _ _ _ _ _ _ rfl bx6 rfl bx7) rfl ⟨HB.out, ?_⟩; exact VF.mk (Fact.t3_mk (Fact.z_mk (q6sp.up (by omega))) (Fact.z_mk ((q7sp.up (by omega)).cast_ (jpd _ _ _))) (Fact.eq_self _ _))
end
end
end Go.Proofs.YtgbpnpemigddeaaGreat