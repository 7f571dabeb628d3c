/- The disk: Read. -/
import Derived.Test.YtdlokmlcdlcfaaaDk8
import Derived.StillTailTactics
set_option linter.unusedVariables false
set_option linter.unusedSimpArgs false
namespace Go.Proofs.Ytdlokmlcdlcfaaa
open Go.RowKit Go.MapKept Go.Shelf
attribute [local go_sem] Oper.semAt_some
theorem res2 {fn : Func} {t u : Tmp} {tmps : Array Value} {P : Program} {w : World} {v0 v1 : Value} (h : fn.results = #[.tmp t, .tmp u]) (h0 : tmps.getD t undef = v0) (h1 : tmps.getD u undef = v1) : (results fn tmps).run P w = .ok (.tuple #[v0, v1]) w := by
  rw [results_tmp2 h, h0, h1]
theorem hideK {p : Prop} (h : p) : Hid p := h
theorem lk_yields {P : Program} {ops : Array Oper} {S : World → Prop} {dst : Option Tmp} {ty : TypeId} {pos : String} {aft : Array Edge} {a : Act} {t : TypeId} {m x : Operand} (b : Nat) (i : Int) (val : Value) (hm : a.eval m = .map (some b)) (hx : a.eval x = .int .i64 i)
    (hL : ∀ w, S w → (Instr.lookup t (.map (some b)) (.int .i64 i) false).run P w = .ok val w) : YieldsIf P ops S { dst := dst, op := .lookup t m x false, type := ty, pos := pos, after := aft, guard := none } val a :=
  .inl ⟨by simp [Region.wanted], fun w hS => by
    unfold execOp
    simp only [hm, hx, hL w hS, Sem.run_bind, Sem.run_pure, Result.andThen_ok]⟩
theorem step_of_wp {P : Program} {ops : Array Oper} {o : Oper} {a : Act} {w : World} {K : Act → World → Prop} {Q : Exit → Act → World → Prop} {E : Prop} (hg : o.guard = none) (h : Oper.wp P o a w K Q) : if Region.wanted o (yielded ops a.tmps) = true then Oper.wp P o a w K Q else E := by
  have hw : Region.wanted o (yielded ops a.tmps) = true := by simp [Region.wanted, hg]
  rw [if_pos hw]
  exact h
theorem bkw_at {l : List (Int × Sec)} {j : Nat} (h : j < l.length) : ∃ x, l[l.length - 1 - j]? = some x ∧ bkw l j = (l.length - 1 - j, x) := by
  obtain ⟨x, hx⟩ : ∃ x, l[l.length - 1 - j]? = some x := ⟨_, List.getElem?_eq_getElem (by omega)⟩
  exact ⟨x, hx, by unfold bkw; simp [List.getD, hx]⟩
theorem look_none {d : DS} {i : Int} (h : ∀ x ∈ upto (bkw d.loose) d.loose.length, x.2.1 ≠ i) : d.look i = d.firm i := by
  refine DS.put_none fun x hx => ?_
  obtain ⟨m, hm⟩ := List.mem_iff_getElem?.1 hx
  have hml : m < d.loose.length := (List.getElem?_eq_some_iff.1 hm).1
  obtain ⟨y, hy, hb⟩ := bkw_at (l := d.loose) (j := d.loose.length - 1 - m) (by omega)
  rw [show d.loose.length - 1 - (d.loose.length - 1 - m) = m by omega] at hy
  rw [hm] at hy
  cases hy
  have := h (bkw d.loose (d.loose.length - 1 - m)) (List.mem_map.2 ⟨_, List.mem_range.2 (by omega), rfl⟩)
  rwa [hb] at this
theorem look_some {d : DS} {i : Int} {k : Nat} {q : List WI} {x : WI} (hk : k ≤ d.loose.length) (h : upto (bkw d.loose) k = q ++ [x]) (hx : x.2.1 = i) (hq : ∀ y ∈ q, y.2.1 ≠ i) (hl : ∀ y ∈ d.loose, y.2.length = 512) : d.look i = fx x.2.2 := by
  obtain ⟨k', rfl⟩ : ∃ k', k = k' + 1 := by
    cases k with
    | zero => simp [upto] at h
    | succ k' => exact ⟨k', rfl⟩
  rw [upto_succ] at h
  obtain ⟨h1, h2⟩ := List.append_inj' h rfl
  obtain ⟨y, hy, hb⟩ := bkw_at (l := d.loose) (j := k') (by omega)
  have hxe : x = (d.loose.length - 1 - k', y) := by rw [← hb]; simpa using h2.symm
  subst hxe
  have hi : y.1 = i := hx
  subst hi
  rw [fx_id (hl y (List.mem_of_getElem? hy))]
  refine DS.put_last hy fun j z hj hz => ?_
  have hjl : j < d.loose.length := (List.getElem?_eq_some_iff.1 hz).1
  obtain ⟨z', hz', hb'⟩ := bkw_at (l := d.loose) (j := d.loose.length - 1 - j) (by omega)
  rw [show d.loose.length - 1 - (d.loose.length - 1 - j) = j by omega] at hz'
  rw [hz] at hz'
  cases hz'
  have := hq (bkw d.loose (d.loose.length - 1 - j)) (by rw [← h1]; exact List.mem_map.2 ⟨_, List.mem_range.2 (by omega), rfl⟩)
  rwa [hb'] at this
theorem keepsFrom_below {B : Nat} {W W' : World} (h : Below W.heap.size W W') : KeepsFrom B W W' := ⟨h.size, fun k o _ hk _ => (h.block k (Array.getElem?_eq_some_iff.1 hk).1).trans hk⟩
theorem keepsFrom_only {B b : Nat} {W W' : World} {cs : Array Value} {t : TypeId} (h : Only b W W') (hb : W.heap[b]? = some (.cells cs t)) : KeepsFrom B W W' :=
  ⟨Nat.le_of_eq h.size.symm, fun k o _ hk ho => (h.block k (fun e => by subst e; rw [hb] at hk; cases hk; cases ho)).trans hk⟩
theorem cells_kept {W W' : World} {row : Option Nat} {b : Nat} {cs : Array Value} {t : TypeId} (h : W.heap[b]? = some (.cells cs t)) (hg : W.grownBy W' row) (hrow : ∀ r, row = some r → ∃ o : Obj, W.heap[r]? = some o ∧ o.isCells = false) : W'.heap[b]? = some (.cells cs t) :=
  (grownBy_keeps_cells hg hrow h rfl).trans h
theorem actOf {F : Fence} {n : Nat} {P : Program} {c : Code} {Q : Exit → Act → World → Prop} {a : Act} {w : World} (h : ∀ a0, a0 = a → c.wpIn F n P Q a0 w) : c.wpIn F n P Q a w := h a rfl
/-- Between two rounds of a read. -/
def RdI (w : World) (B1 : Nat) (i : Int) (s : Sec) (pre : List WI) (W : World) : Prop :=
  (W.heap[B1]? = some (.cells (cel s).toArray 71) ∧ W.heap[w.heap.size]? = some (.cells #[.int .i64 i] 3)) ∧ (Below w.heap.size w W ∧ w.heap.size + 3 ≤ W.heap.size ∧ ∀ x ∈ pre, x.2.1 ≠ i)
/-- What was sought is found. -/
def RdX (w : World) (B1 : Nat) (i : Int) (c : Code) (pre : List WI) (W : World) : Prop :=
  (∃ q x, (pre = q ++ [x] ∧ c = .exit 0 ∧ x.2.1 = i ∧ ∀ y ∈ q, y.2.1 ≠ i) ∧ W.heap[B1]? = some (.cells (cel (fx x.2.2)).toArray 71)) ∧ Below w.heap.size w W
/-- The write at hand lies in a box. -/
def RdA (B1 : Nat) (T : Array Value) (x : WI) (a' : Act) (W : World) : Prop :=
  ∃ Bx, B1 < Bx ∧ W.heap[Bx]? = some (.cells (wcel (x.2.1, fx x.2.2)).toArray 73) ∧ a' = { tmps := ((T.setIfInBounds 27 (.int .i64 (x.1 : Int))).setIfInBounds 28 (.agg (wcel (x.2.1, fx x.2.2)).toArray)).setIfInBounds 9 (.pointer (some ⟨Bx, 0, none⟩)), defers := [] }
/-- What a read tells. -/
def ReadV (w : World) (s : Sec) (e : Ending) (w' : World) : Prop :=
  ∃ v, e = .returned (.tuple #[v, .int .i64 0]) ∧ Sl w' v (cel s) ∧ (∃ A n c, v = .slice A n c) ∧ (∀ b, v.ownBlock = some b → w.heap.size ≤ b ∧ b < w'.heap.size ∧ ∀ o, w'.frozen? ⟨b, o, none⟩ = false) ∧ Below w.heap.size w w'
set_option maxRecDepth 100000 in
set_option maxHeartbeats 8000000 in
theorem read_ok {w : World} {D : Nat} {F : Nat → Prop} {d : DS} (h : DiskAt w D F d) (hn : d.loose.length ≤ 1000000) (i : Int) (ha : d.at_ i = 0) :
    Calls Try.prog 17 #[.pointer (some ⟨D, 0, none⟩), .int .i64 i] w (ReadV w (d.look i)) := by
  obtain ⟨M, lv, kv, m, hM, ho, fD, fM, fl, fk, hlt⟩ := h
  have hat := at_calls (hM.of (w' := w.alloc (.cells #[.int .i64 i] 3)) (by simp) fun k hk => Below.heap_alloc _ _ _ (by
    rcases hk with rfl | rfl | hk | ⟨h1, h2⟩
    · exact hM.lt
    · exact hM.map.lt
    · exact hlt _ (fl _ hk)
    · exact hlt _ (fk h1 _ h2))) i
  rw [ha] at hat
  refine (callsIn_wide (n := 9)).1 ?_
  refine callsIn_of_wp_marks Try.func17 rfl trivial ?_ rfl
  simp only [Try.ntmps17, List.size_toArray, List.length_cons, List.length_nil, Nat.reduceAdd, Nat.reduceSub, Array.replicate_succ, Array.replicate_zero, List.push_toArray, List.append_toArray, List.nil_append, List.cons_append]
  refine wpIn_wide.2 ?_
  go_wp2_with (go_at_call 32; refine hat.mono ?_; rintro e w1 ⟨rfl, rfl⟩)
  refine wp_region_noPanic ?_
  obtain ⟨W1, hW1⟩ : ∃ W1, w.alloc (.cells #[.int .i64 i] 3) = W1 := ⟨_, rfl⟩
  have hB1 : Below w.heap.size w W1 := by rw [← hW1]; exact (Below.refl _ w).alloc (Nat.le_refl _) _
  have hs1 : W1.heap.size = w.heap.size + 1 := by rw [← hW1]; exact World.size_alloc ..
  have hiB : W1.heap[w.heap.size]? = some (.cells #[.int .i64 i] 3) := by rw [← hW1]; exact heap_alloc_new w _
  have hbi : W1.cell? ⟨w.heap.size, 0, none⟩ = some (.int .i64 i) := cell_of_row _ _ 0 _ _ _ hiB
  rw [hW1]
  clear hW1 hat
  have hDl := hM.lt
  have hMl := hM.map.lt
  have k1 : W1.cell? ⟨D, 1, none⟩ = some (.map (some M)) := (hB1.cell (p := ⟨D, 1, none⟩) hDl).trans hM.cell.2.1
  have k3 : MapR W1 M m := hM.map.of (hB1.block _ hMl)
  have hfi := hM.firm i
  refine wp_region_held_drew (S := fun w' => w'.cell? ⟨D, 1, none⟩ = some (.map (some M)) ∧ w'.cell? ⟨w.heap.size, 0, none⟩ = some (.int .i64 i) ∧ MapR w' M m) (by kernel_rfl) ⟨k1, hbi, k3⟩ (fun hHeld => ?_)
  refine wpAnyH_take (i := 0) (oi := ⟨_, _, _, _, _, _⟩) (v := .pointer (some ⟨D, 0, none⟩)) rfl (by kernel_rfl) (by kernel_rfl) (by kernel_rfl) (fun _ _ _ h => h) (Or.inl ⟨by rfl, ?_⟩) (by assumption) ?_
  · intro w' hS
    obtain ⟨hS1, hS2, hS3⟩ := hS
    go_simp
  try simp only [Act.put, List.setIfInBounds_toArray, List.set_cons_zero, List.set_cons_succ]
  refine wpAnyH_take (i := 1) (oi := ⟨_, _, _, _, _, _⟩) (v := .pointer (some ⟨D, 0, none⟩)) rfl (by kernel_rfl) (by kernel_rfl) (by kernel_rfl) (fun _ _ _ h => h) (Or.inl ⟨by rfl, ?_⟩) (by assumption) ?_
  · intro w' hS
    obtain ⟨hS1, hS2, hS3⟩ := hS
    go_simp
  try simp only [Act.put, List.setIfInBounds_toArray, List.set_cons_zero, List.set_cons_succ]
  refine wpAnyH_take (i := 2) (oi := ⟨_, _, _, _, _, _⟩) (v := .pointer (some ⟨D, 1, none⟩)) rfl (by kernel_rfl) (by kernel_rfl) (by kernel_rfl) (fun _ _ _ h => h) (Or.inl ⟨by rfl, ?_⟩) (by assumption) ?_
  · intro w' hS
    obtain ⟨hS1, hS2, hS3⟩ := hS
    go_simp
  try simp only [Act.put, List.setIfInBounds_toArray, List.set_cons_zero, List.set_cons_succ]
  refine wpAnyH_take (i := 3) (oi := ⟨_, _, _, _, _, _⟩) (v := .map (some M)) rfl (by kernel_rfl) (by kernel_rfl) (by kernel_rfl) (fun _ _ _ h => h) (Or.inl ⟨by rfl, ?_⟩) (by assumption) ?_
  · intro w' hS
    obtain ⟨hS1, hS2, hS3⟩ := hS
    go_simp
  try simp only [Act.put, List.setIfInBounds_toArray, List.set_cons_zero, List.set_cons_succ]
  refine wpAnyH_take (i := 4) (oi := ⟨_, _, _, _, _, _⟩) (v := .int .i64 i) rfl (by kernel_rfl) (by kernel_rfl) (by kernel_rfl) (fun _ _ _ h => h) (Or.inl ⟨by rfl, ?_⟩) (by assumption) ?_
  · intro w' hS
    obtain ⟨hS1, hS2, hS3⟩ := hS
    go_simp
  try simp only [Act.put, List.setIfInBounds_toArray, List.set_cons_zero, List.set_cons_succ]
  refine wpAnyH_take (i := 5) (oi := ⟨_, _, _, _, _, _⟩) (v := .agg (cel (d.firm i)).toArray) rfl (by kernel_rfl) (by kernel_rfl) (by kernel_rfl) (fun _ _ _ h => h) (lk_yields M i _ (by rfl) (by rfl) (fun w' hS => by
      have hL := hS.2.2.lookup (P := Try.prog) (t := 64) Try.underlying64 Try.underlying3 (zero_sec w') i
      rw [hfi] at hL
      exact hL)) (by assumption) ?_
  try simp only [Act.put, List.setIfInBounds_toArray, List.set_cons_zero, List.set_cons_succ]
  refine wpAnyH_ready (rs := [6]) (by kernel_rfl) (by simp) ?_
  refine AllReadyH.cons (o := ⟨_, _, _, _, _, _⟩) rfl (fun K hK => ?_) AllReadyH.nil
  refine step_of_wp rfl (al_wp (secV zeros) (zero_sec _) ?_)
  intro W2 B1 hBs0 hb2 hbl0 hs2
  have hBs : W1.heap.size = B1 := hBs0
  have hbl2 : Below W1.heap.size W1 W2 := ⟨hbl0.os, hbl0.tape, hbl0.output, hbl0.size, hbl0.block⟩
  clear hBs0 hbl0
  have hb2' : W2.heap[B1]? = some (.cells (cel zeros).toArray 71) := hb2
  have hMW1 : M < W1.heap.size := by omega
  have m1 := (hbl2.cell (p := ⟨D, 1, none⟩) (show D < W1.heap.size by omega)).trans k1
  have m2 := (hbl2.cell (p := ⟨w.heap.size, 0, none⟩) (show w.heap.size < W1.heap.size by omega)).trans hbi
  have m3 : MapR W2 M m := k3.of (hbl2.block M hMW1)
  refine hK.out _ _ ⟨m1, m2, m3⟩ (fun hHeld => ?_)
  clear hK K
  try simp only [Act.put, List.setIfInBounds_toArray, List.set_cons_zero, List.set_cons_succ]
  refine wpAnyH_ready (rs := [7]) (by kernel_rfl) (by simp) ?_
  refine AllReadyH.cons (o := ⟨_, _, _, _, _, _⟩) rfl (fun K hK => ?_) AllReadyH.nil
  refine step_of_wp rfl (st_wp B1 _ (cel (d.firm i)).toArray (by rfl) (by rfl) hb2' (by rw [List.size_toArray, List.size_toArray, cel_length, cel_length, ho.firm i]; rfl) (by rw [List.size_toArray]; exact size_c (x := (i, d.firm i)) (ho.firm i)) (all_oneCell_toArray (cel_one _)) ?_)
  intro W3 hb3 ho3
  refine hK.out _ _ ⟨(ho3.cell (a := ⟨D, 1, none⟩) (show D ≠ B1 by omega)).trans m1, (ho3.cell (a := ⟨w.heap.size, 0, none⟩) (show w.heap.size ≠ B1 by omega)).trans m2, m3.of (ho3.block M (by omega))⟩ (fun hHeld => ?_)
  clear hK K
  try simp only [Act.put, List.setIfInBounds_toArray, List.set_cons_zero, List.set_cons_succ]
  refine wpAnyH_done (by kernel_rfl) ?_ _
  refine NoPanic.normal ?_
  have hB3 : Below w.heap.size w W3 := (hB1.trans (hbl2.mono (by omega))).trans (ho3.below (by omega))
  have hs3 : W3.heap.size = w.heap.size + 2 := by rw [ho3.size, hs2]; omega
  have c2 : W3.cell? ⟨D, 2, none⟩ = some lv := (hB3.cell (p := ⟨D, 2, none⟩) hDl).trans hM.cell.2.2.1
  have ci : W3.cell? ⟨w.heap.size, 0, none⟩ = some (.int .i64 i) := (ho3.cell (a := ⟨w.heap.size, 0, none⟩) (show w.heap.size ≠ B1 by omega)).trans m2
  obtain ⟨A, cp, hlv⟩ := row_form hM.row
  subst hlv
  go_wp2_with (go_at_call 38; refine (callsIn_wide.1 (backw_in Fence.wide 9 trivial rfl _ ⟨_, _, _, rfl⟩ _)).mono ?_; rintro e w4 ⟨rfl, rfl⟩)
  obtain ⟨W4, hW4⟩ : ∃ W4, W3.alloc (.cells #[.slice A d.loose.length cp] 65) = W4 := ⟨_, rfl⟩
  have hB4 : Below W3.heap.size W3 W4 := by rw [← hW4]; exact (Below.refl _ W3).alloc (Nat.le_refl _) _
  have hs4 : W4.heap.size = w.heap.size + 3 := by rw [← hW4, World.size_alloc]; omega
  have hbs : W4.heap[w.heap.size + 2]? = some (.cells #[.slice A d.loose.length cp] 65) := by rw [← hs3, ← hW4]; exact heap_alloc_new W3 _
  have hBw : Below w.heap.size w W4 := hB3.trans (hB4.mono hB3.size)
  rw [hW4]
  clear hW4
  obtain ⟨b, hbl, hA, hc2⟩ : ∃ b, b < w.heap.size ∧ (0 < d.loose.length → A = some ⟨b, 0, none⟩) ∧ ∀ (j : Nat) x, d.loose[j]? = some x → W4.rangeAt b (j * 513) (wcel x) := by
    by_cases h0 : d.loose = []
    · exact ⟨D, hDl, fun h => (by rw [h0] at h; exact absurd h (Nat.lt_irrefl 0)), fun j x hx => (by rw [h0] at hx; cases hx)⟩
    · have hn0 : 0 < d.loose.length := List.length_pos_iff.2 h0
      obtain ⟨g, c', e, -, -⟩ := hM.row.form hn0
      injection e with e1 e2 e3
      subst e1
      have hgl := hlt _ (fl g rfl)
      refine ⟨g, hgl, fun _ => rfl, fun j x hx => ?_⟩
      obtain ⟨g', c'', e', hr⟩ := loose_at hM.row (fun y hy => (ho.loose y hy).1) hx
      injection e' with e1 e2 e3
      cases e1
      exact rangeAt_of hr (hBw.block _ hgl)
  have hib : W4.heap[w.heap.size]? = some (.cells #[.int .i64 i] 3) := (hB4.block _ (by omega)).trans ((ho3.block _ (by omega)).trans ((hbl2.block _ (by omega)).trans hiB))
  have hb4 : W4.heap[B1]? = some (.cells (cel (d.firm i)).toArray 71) := (hB4.block _ (by omega)).trans hb3
  have hleave : ∀ (s : Sec) (W : World), W.heap[B1]? = some (.cells (cel s).toArray 71) → s.length = 512 → Sl W (.slice (some ⟨B1, 0, none⟩) 512 512) (cel s) := fun s W hW hl => by
    have hcl : (cel s).length = 512 := by rw [cel_length, hl]
    refine ⟨some ⟨B1, 0, none⟩, 512, by rw [hcl], by omega, by simp [maxLen], fun h => (by cases h), fun _ => ⟨B1, 0, rfl, (Array.getElem?_eq_some_iff.1 hW).1, fun j u hj => ?_⟩⟩
    rw [Nat.zero_add, cell_of_row W B1 j _ _ _ hW]
    simpa using hj
  clear hb2 hb2' hfi m1 m2 m3 k1 k3 hHeld c2 ci hbi
  refine (wpIn_wide (n := 9)).1 ?_
  refine actOf ?_
  intro a0 ha0
  refine wpIn_rangeFunc_ownH rfl (by omega) (gf := 50) (lb := #[.pointer (some ⟨w.heap.size + 2, 0, none⟩)]) (by rw [ha0]; rfl) trivial (enters_of Try.func50 (by kernel_rfl) rfl)
    (backw_stops Fence.wide _ trivial rfl (by omega) (w.heap.size + 2) b cp A d.loose hn (fun x hx => (ho.loose x hx).1) hA W4 (by omega) (by omega) (cell_of_row W4 _ 0 _ _ _ hbs) hc2)
    keepTwo_t (fun W l o o' hl h g1 g2 => by
      have hh := belowK_b (w := W4) (Nat.le_refl _) W l o o' hl h g1 g2
      exact ⟨hh.block _ (by omega), hh.block _ (by omega)⟩) (Below.refl _ _) (fun _ => rfl)
    (RdI w B1 i (d.firm i)) (RdX w B1 i)
    (OwnFrom.and (Own.from (fun s A B row hs hg hr => ⟨cells_kept hs.1 hg hr, cells_kept hs.2 hg hr⟩) _) (OwnFrom.and (ownFrom_below (Nat.le_refl _) (by omega)) (fun s A B row hs hg hr => ⟨Nat.le_trans hs.1 hg.size, hs.2⟩)))
    (fun c => OwnFrom.and (fun s A B row hs hg hr => by
      obtain ⟨q, x, h1, h2⟩ := hs
      exact ⟨q, x, h1, cells_kept h2 hg (fun r e => (hr r e).2)⟩) (ownFrom_below (Nat.le_refl _) (by omega)))
    ⟨⟨hb4, hib⟩, hBw, by omega, fun x hx => (by cases hx)⟩
    (RdA B1 a0.tmps) (fun x a' s A B row hs hg hr => by
      obtain ⟨Bx, h1, h2, h3⟩ := hs
      exact ⟨Bx, h1, cells_kept h2 hg (fun r e => (hr r e).2), h3⟩) ?assign ?body ?done ?stop
  case assign =>
    rintro l pre x W K ⟨⟨hI1, hI2⟩, hI3, hI5, hI4⟩ hK
    subst ha0
    unfold encW
    gi_wp2_with (first
      | (with_reducible refine al_in (t := 73) zw (zero_w _) ?_; intro V1 Bx hBx hv1 hbv1 hsv1)
      | (with_reducible refine st_in (t := 73) Bx _ _ (by with_unfolding_all rfl) (by with_unfolding_all rfl) hv1 (i3 (fx_len x.2.2)) (i2 (x := (x.2.1, fx x.2.2)) (fx_len x.2.2)) (all_oneCell_toArray (wcel_one _)) ?_; intro V2 hv2 hov2))
    have hk : ∀ k, k < W.heap.size → V2.heap[k]? = W.heap[k]? := fun k hk => (hov2.block k (by omega)).trans (hbv1.block k hk)
    exact hK _ _ ((keepsFrom_below hbv1).trans (keepsFrom_only hov2 hv1)) ⟨hk _ (by omega), hk _ (by omega)⟩
      ⟨⟨(hk _ (by omega)).trans hI1, (hk _ (by omega)).trans hI2⟩, (hI3.trans (hbv1.mono hI3.size)).trans (hov2.below (by have := hI3.size; omega)), by rw [hov2.size, hsv1]; omega, hI4⟩ ⟨Bx, by omega, hv2, rfl⟩
  case body =>
    rintro l pre x a' W hl ⟨r, hr⟩ ⟨⟨hI1, hI2⟩, hI3, hI5, hI4⟩ ⟨Bx, hBx, hbx, rfl⟩ hlt
    subst ha0
    have c9 := wcel_0 hbx
    have r9 := wcel_1 hbx
    have ci := cell_of_row W w.heap.size 0 _ _ _ hI2
    simp only [List.setIfInBounds_toArray, List.set_cons_zero, List.set_cons_succ]
    by_cases hxi : x.2.1 = i
    · have he : (x.2.1 == i) = true := by simpa using hxi
      have hxi := hideK hxi
      gi_wp2_with (first
        | (with_reducible refine ld_in (t := 71) Bx 1 (by with_unfolding_all rfl) (cel (fx x.2.2)) _ r9 Try.underlying71 rfl (size_c (x := (x.2.1, fx x.2.2)) (fx_len _)) ?_)
        | (with_reducible refine st_in (t := 71) B1 _ _ (by with_unfolding_all rfl) (by with_unfolding_all rfl) hI1 (by rw [List.size_toArray, List.size_toArray, cel_length, cel_length, ho.firm i, fx_len]) (by rw [List.size_toArray]; exact size_c (x := (x.2.1, fx x.2.2)) (fx_len _)) (all_oneCell_toArray (cel_one _)) ?_; intro V2 hv2 hov2))
      exact ⟨keepsFrom_only hov2 hI1, ⟨pre, x, ⟨rfl, rfl, hxi.out, hI4⟩, hv2⟩, hI3.trans (hov2.below (by omega))⟩
    · have he : (x.2.1 == i) = false := by simpa using hxi
      have hxi := hideK hxi
      gi_wp2
      exact ⟨KeepsFrom.refl _ _, ⟨rfl, rfl⟩, ⟨hI1, hI2⟩, hI3, hI5, fun y hy => by
        rcases List.mem_append.1 hy with h | h
        · exact hI4 y h
        · obtain rfl : y = x := by simpa using h
          exact hxi.out⟩
  case done =>
    rintro D ys W hD rfl ⟨⟨hI1, hI2⟩, hI3, hI5, hI4⟩ hK
    subst ha0
    go_wp2_with fail
    refine (clone_bytes W _ (d.firm i) (hleave _ W hI1 (ho.firm i)) (by rw [ho.firm i]; decide)).mono ?_
    rintro e W5 ⟨v, rfl, hv, hvs, hvb, hB5⟩
    have hDW : D < W.heap.size := (Array.getElem?_eq_some_iff.1 hK).1
    have hK5 := (hB5.block D hDW).trans hK
    obtain ⟨vA, vn, vc, rfl⟩ := hvs
    go_wp2_with fail
    refine ⟨by simp, .inl ⟨_, _, rfl, run_takeDeferred hK5, ?_⟩⟩
    refine ⟨.tuple #[.slice vA vn vc, .int .i64 0], res2 (t := 4) (u := 5) (by kernel_rfl) rfl rfl, ?_⟩
    have hput : ∀ k, k ≠ D → (W5.putObj D (.deferred none)).heap[k]? = W5.heap[k]? := fun k hk => World.putObj_heap_other hk
    have hBP : Below w.heap.size W5 (W5.putObj D (.deferred none)) := (Below.refl w.heap.size W5).grown (grownBy_putObj' W5 D _) (by have := hB5.size; have := hI3.size; omega) (fun k e => by cases e; omega)
    have hBW := hI3.size
    rw [look_none hI4]
    exact ⟨_, rfl, hv.of (by simp) fun h0 b hb => hput b (by have := (hvb b hb).1; omega), ⟨_, _, _, rfl⟩, fun b hb => ⟨by have := (hvb b hb).1; omega, by have := (hvb b hb).2.1; simpa using this, fun o => (World.frozen?_of_block (hput b (by have := (hvb b hb).1; omega))).trans ((hvb b hb).2.2 o)⟩, (hI3.trans (hB5.mono hBW)).trans hBP⟩
  case stop =>
    rintro D c pre W hD ⟨k, hk, hpre⟩ ⟨⟨q, x, ⟨rfl, rfl, hxi, hq⟩, hI1⟩, hI3⟩ hK
    subst ha0
    have hlk := look_some hk hpre.symm hxi hq (fun y hy => (ho.loose y hy).1)
    have hxi := hideK hxi
    refine (wpIn_wide (n := 9)).2 ?_
    go_wp2_with fail
    refine (clone_bytes W _ (fx x.2.2) (hleave _ W hI1 (fx_len _)) (by rw [fx_len]; decide)).mono ?_
    rintro e W5 ⟨v, rfl, hv, hvs, hvb, hB5⟩
    have hDW : D < W.heap.size := (Array.getElem?_eq_some_iff.1 hK).1
    have hK5 := (hB5.block D hDW).trans hK
    obtain ⟨vA, vn, vc, rfl⟩ := hvs
    go_wp2_with fail
    refine ⟨by simp, .inl ⟨_, _, rfl, run_takeDeferred hK5, ?_⟩⟩
    refine ⟨.tuple #[.slice vA vn vc, .int .i64 0], res2 (t := 4) (u := 5) (by kernel_rfl) rfl rfl, ?_⟩
    have hput : ∀ k, k ≠ D → (W5.putObj D (.deferred none)).heap[k]? = W5.heap[k]? := fun k hk => World.putObj_heap_other hk
    have hBP : Below w.heap.size W5 (W5.putObj D (.deferred none)) := (Below.refl w.heap.size W5).grown (grownBy_putObj' W5 D _) (by have := hB5.size; have := hI3.size; omega) (fun k e => by cases e; omega)
    have hBW := hI3.size
    rw [hlk]
    exact ⟨_, rfl, hv.of (by simp) fun h0 b hb => hput b (by have := (hvb b hb).1; omega), ⟨_, _, _, rfl⟩, fun b hb => ⟨by have := (hvb b hb).1; omega, by have := (hvb b hb).2.1; simpa using this, fun o => (World.frozen?_of_block (hput b (by have := (hvb b hb).1; omega))).trans ((hvb b hb).2.2 o)⟩, (hI3.trans (hB5.mono hBW)).trans hBP⟩
set_option maxRecDepth 100000 in
set_option maxHeartbeats 4000000 in
theorem read_bad {w : World} {D : Nat} {F : Nat → Prop} {d : DS} (h : DiskAt w D F d) (i : Int) (ha : d.at_ i ≠ 0) :
    Calls Try.prog 17 #[.pointer (some ⟨D, 0, none⟩), .int .i64 i] w fun e w' => e = .returned (.tuple #[.slice none 0 0, .int .i64 (d.at_ i)]) ∧ Below w.heap.size w w' := by
  obtain ⟨M, lv, kv, m, hM, ho, fD, fM, fl, fk, hlt⟩ := h
  have hat := at_calls (hM.of (w' := w.alloc (.cells #[.int .i64 i] 3)) (by simp) fun k hk => Below.heap_alloc _ _ _ (by
    rcases hk with rfl | rfl | hk | ⟨h1, h2⟩
    · exact hM.lt
    · exact hM.map.lt
    · exact hlt _ (fl _ hk)
    · exact hlt _ (fk h1 _ h2))) i
  obtain ⟨q, hq⟩ : ∃ q, d.at_ i = q := ⟨_, rfl⟩
  rw [hq] at hat ha ⊢
  have ha : (q == 0) = false := by simpa using ha
  have hB : Below w.heap.size w (w.alloc (.cells #[.int .i64 i] 3)) := (Below.refl _ w).alloc (Nat.le_refl _) _
  go_enter Try.func17, Try.ntmps17
  go_wp2_with (go_at_call 32; refine hat.mono ?_; rintro e w1 ⟨rfl, rfl⟩)
  go_ret2
  exact ⟨rfl, hB⟩
end Go.Proofs.Ytdlokmlcdlcfaaa
