/- The disk: Crash. -/
import Derived.Test.YtdlokmlcdlcfaaaDk3
import Derived.Test.YtdlokmlcdlcfaaaBg
import Derived.Deep.DeepCutAuto
import Derived.LoopN
set_option linter.unusedVariables false
set_option linter.unusedSimpArgs false
namespace Go.Proofs.Ytdlokmlcdlcfaaa
open Go.RowKit Go.MapKept
def pm (m : Int → Option Value) : List (Int × Sec) → Int → Option Value
  | [] => m
  | (i, s) :: l => pm (fun j => if j = i then some (secV s) else m j) l
theorem pm_snoc (m : Int → Option Value) (l : List (Int × Sec)) (x : Int × Sec) : pm m (l ++ [x]) = fun j => if j = x.1 then some (secV x.2) else pm m l j := by
  induction l generalizing m with
  | nil => rfl
  | cons y l ih => obtain ⟨i, s⟩ := y; exact ih _
theorem pm_firm : ∀ (l : List (Int × Sec)) (m : Int → Option Value) (f : Int → Sec) (z : Value), (∀ i, (m i).getD z = secV (f i)) → ∀ i, (pm m l i).getD z = secV (DS.put f l i)
  | [], m, f, z, h, i => h i
  | (k, s) :: l, m, f, z, h, i => by
    refine pm_firm l _ _ z (fun j => ?_) i
    by_cases e : j = k
    · simp [e]
    · simp [e, h]
theorem put_len {f : Int → Sec} : ∀ (l : List (Int × Sec)) (f : Int → Sec), (∀ x ∈ l, x.2.length = 512) → (∀ i, (f i).length = 512) → ∀ i, (DS.put f l i).length = 512
  | [], f, _, h, i => h i
  | (k, s) :: l, f, hl, h, i => by
    refine put_len (f := f) l _ (fun x hx => hl x (List.mem_cons_of_mem _ hx)) (fun j => ?_) i
    by_cases e : j = k
    · simpa [e] using hl _ List.mem_cons_self
    · simpa [e] using h j
def zw : Value := .agg (wcel (0, zeros)).toArray
theorem zero_w (w : World) : (zeroValue 73).run Try.prog w = .ok zw w := by kernel_rfl
theorem zw_size : zw.cells.size = 513 := by kernel_rfl
theorem size_w : (Try.prog.info? 73).map (·.size) = some 513 := by kernel_rfl
theorem size_s : (Try.prog.info? 71).map (·.size) = some 512 := by kernel_rfl
theorem wcel_len (x : Int × Sec) (h : x.2.length = 512) : (wcel x).length = 513 := by unfold wcel; rw [List.length_cons, cel_length, h]
theorem i1 {x : Int × Sec} (h : x.2.length = 512) : (Try.prog.info? 73).map (·.size) = some (wcel x).length := size_w.trans (congrArg some (wcel_len x h).symm)
theorem i2 {x : Int × Sec} (h : x.2.length = 512) : (Try.prog.info? 73).map (·.size) = some (wcel x).toArray.size := by rw [List.size_toArray]; exact i1 h
theorem i3 {x : Int × Sec} (h : x.2.length = 512) : zw.cells.size = (wcel x).toArray.size := by rw [zw_size, List.size_toArray, wcel_len x h]
theorem wcel_length (x : Int × Sec) (h : x.2.length = 512) : (wcel x).length = 513 := by unfold wcel; rw [List.length_cons, cel_length, h]
/-- The k-th that is loose lies there. -/
theorem loose_at {w : World} {lv : Value} {l : List (Int × Sec)} (h : w.ownsRow 0 73 513 lv l.length (lcel l)) (hl : ∀ x ∈ l, x.2.length = 512) {k : Nat} {x : Int × Sec} (hk : l[k]? = some x) :
    ∃ g c, lv = .slice (some ⟨g, 0, none⟩) l.length c ∧ w.rangeAt g (k * 513) (wcel x) := by
  have hn : 0 < l.length := by have := (List.getElem?_eq_some_iff.1 hk).1; omega
  obtain ⟨g, c, rfl, -, -⟩ := h.form hn
  refine ⟨g, c, rfl, fun j u hj => ?_⟩
  have := h.cells (g := g) rfl (k * 513 + j) u (lcel_at l hl k x hk j u hj)
  rwa [Addr.add_lit, Nat.zero_add] at this
theorem wcel_0 {W : World} {B : Nat} {x : Int × Sec} {t : TypeId} (h : W.heap[B]? = some (.cells (wcel x).toArray t)) : W.cell? ⟨B, 0, none⟩ = some (.int .i64 x.1) := cell_of_row W B 0 _ _ _ h
theorem wcel_1 {W : World} {B : Nat} {x : Int × Sec} {t : TypeId} (h : W.heap[B]? = some (.cells (wcel x).toArray t)) : W.rangeAt B 1 (cel x.2) := fun j u hj => by
  rw [cell_of_row W B (1 + j) _ _ _ h, Nat.add_comm]
  simpa [wcel] using hj
theorem size_c {x : Int × Sec} (h : x.2.length = 512) : (Try.prog.info? 71).map (·.size) = some (cel x.2).length := size_s.trans (congrArg some (by rw [cel_length, h]))
theorem Only.trans {b : Nat} {u v w : World} (h : Only b u v) (k : Only b v w) : Only b u w := ⟨k.os.trans h.os, k.tape.trans h.tape, k.output.trans h.output, k.size.trans h.size, fun i hi => (k.block i hi).trans (h.block i hi)⟩
theorem only_set {w : World} {b o : Nat} {v : Value} : Only b w (w.setCell ⟨b, o, none⟩ v) := ⟨rfl, rfl, rfl, by simp [World.setCell], fun k hk => Below.heap_setCell _ _ _ _ hk⟩
/-- What stands in a disk's world behind the calls of a crash: kept. -/
theorem crash_leaves {w W W' : World} {D M : Nat} {F : Nat → Prop} {d : DS} {lv kv : Value} {m : Int → Option Value} {keep : List Bool} (hM : DiskM w D M lv kv m d) (ho : d.ok) (fD : F D) (hlt : ∀ k, F k → k < w.heap.size) (hd : d.down = false)
    (hR : MapR W w.heap.size (pm m (DS.kept d.loose keep))) (hB : Below w.heap.size w W) (hS : w.heap.size < W.heap.size)
    (hbx : W'.heap[D]? = some (.cells #[.int .i64 d.n, .map (some w.heap.size), .slice none 0 0, .bool true, .int .i64 0, .slice none 0 0] 69)) (hon : Only D W W') : Leaves F w W' D (d.crash keep) := by
  have hD := hM.lt
  have e : d.crash keep = { d with firm := DS.put d.firm (DS.kept d.loose keep), loose := [], down := true, left := 0, keep := [] } := by unfold DS.crash; rw [if_neg (by rw [hd]; simp)]
  rw [e]
  refine ⟨⟨w.heap.size, .slice none 0 0, .slice none 0 0, pm m (DS.kept d.loose keep), ⟨hbx, hR.of (hon.block _ (by omega)), pm_firm _ _ _ _ hM.firm, World.ownsRow_nil _ _ _ _, Sl.nil _, by omega, fun b hb => (by cases hb), fun h0 => absurd rfl h0⟩,
    ⟨ho.n, ⟨Int.le_refl _, show (0 : Int) ≤ 9223372036854775807 by decide⟩, fun x hx => (by cases hx), put_len (f := d.firm) _ _ (fun x hx => (ho.loose x (DS.kept_sub _ _ x hx)).1) ho.firm⟩, .of fD, .inr ⟨Nat.le_refl _, by rw [hon.size]; exact hS⟩, fun b hb => (by cases hb), fun h0 => absurd rfl h0,
    grow_lt (by rw [hon.size]; exact hB.size) hlt⟩, (Chg.of_below hB).trans (hon.chg fD)⟩
set_option maxRecDepth 100000 in
set_option maxHeartbeats 4000000 in
theorem crash_calls {w : World} {D : Nat} {F : Nat → Prop} {d : DS} (h : DiskAt w D F d) (hn : d.loose.length ≤ 1000000) (v : Value) (keep : List Bool) (hv : Sl w v (keep.map Value.bool)) (hl : keep.length ≤ 140737488355328) :
    Calls Try.prog 18 #[.pointer (some ⟨D, 0, none⟩), v] w fun e w' => e = .returned (.tuple #[]) ∧ Leaves F w w' D (d.crash keep) := by
  obtain ⟨M, lv, kv, m, hM, ho, fD, fM, fl, fk, hlt⟩ := h
  by_cases hd : d.down = true
  · obtain ⟨c0, c1, c2, c3, c4, c5⟩ := hM.cell
    have hP : Leaves F w w D (d.crash keep) := by
      rw [show d.crash keep = d by unfold DS.crash; rw [if_pos hd]]
      exact ⟨⟨M, lv, kv, m, hM, ho, .of fD, .of fM, fun b hb => .of (fl b hb), fun h0 b hb => .of (fk h0 b hb), grow_lt (Nat.le_refl _) hlt⟩, Chg.refl _ _⟩
    rw [hd] at c3
    clear hM
    go_enter Try.func18, Try.ntmps18
    go_wp2
    refine bodyPost_ret (results_none rfl _ _ _) rfl ?_
    exact ⟨rfl, hP⟩
  · have hd : d.down = false := by simpa using hd
    obtain ⟨c0, c1, c2, c3, c4, c5⟩ := hM.cell
    rw [hd] at c3
    have hcl := clone_map hM.map
    obtain ⟨A, c, hlv⟩ := row_form hM.row
    subst hlv
    obtain ⟨A', c', hv', hv1, hv2, hv3, hv4⟩ := hv
    rw [List.length_map] at hv' hv1 hv3 hv4
    subst hv'
    go_enter Try.func18, Try.ntmps18
    go_wp2_with fail
    refine hcl.mono ?_
    rintro e w1 ⟨rfl, hR1, hB1, hS1⟩
    have hM1 : DiskM w1 D M _ kv m d := hM.of (w' := w1) hB1.size fun k hk => hB1.block k (by
      rcases hk with rfl | rfl | hk | ⟨h1, h2⟩
      · exact hM.lt
      · exact hM.map.lt
      · exact hlt _ (fl _ hk)
      · exact hlt _ (fk h1 _ h2))
    obtain ⟨e0, e1, e2, e3, e4, e5⟩ := hM1.cell
    clear hM1
    go_wp2_with fail
    clear c0 c1 c2 c3 c4 c5 e0 e1 e2 e3 e4 e5
    go_loopw [21] (fun i wr => ∃ k : Nat, k ≤ d.loose.length ∧ i = .int .i64 (k : Int) ∧ MapR wr w.heap.size (pm m (DS.kept (d.loose.take k) keep)) ∧ Below w.heap.size w wr ∧ w.heap.size < wr.heap.size)
      (fun i _ => d.loose.length - (intOf i).toNat)
    case atStart => exact ⟨0, Nat.zero_le _, rfl, by rw [List.take_zero]; cases keep <;> exact hR1, hB1, by omega⟩
    case round =>
      obtain ⟨k, hk, rfl, hRr, hBr, hSr⟩ := hrel
      by_cases hkl : k < d.loose.length
      · obtain ⟨x, hx⟩ : ∃ x, d.loose[k]? = some x := ⟨_, List.getElem?_eq_getElem hkl⟩
        have hxl := (ho.loose x (List.mem_of_getElem? hx)).1
        obtain ⟨g, c', hgv, hgr⟩ := loose_at hM.row (fun y hy => (ho.loose y hy).1) hx
        injection hgv with hA hlen hc
        subst hA hc
        have hgl : g < w.heap.size := hlt _ (fl g rfl)
        have hgw : wr.rangeAt g (k * 513) (wcel x) := rangeAt_of hgr (hBr.block g hgl)
        have hki : (k : Int) < (d.loose.length : Int) := by omega
        have hk0 : (0 : Int) ≤ (k : Int) := by omega
        have hkb : (k : Int) ≤ 1000000 := by omega
        have hkt := DS.kept_take hx keep
        have hfin : ∀ W1 W2 B1, wr.heap.size = B1 → Below wr.heap.size wr W1 → Only B1 W1 W2 → Below w.heap.size w W2 ∧ MapR W2 w.heap.size (pm m (DS.kept (d.loose.take k) keep)) ∧ w.heap.size < W2.heap.size := fun W1 W2 B1 e h1 h2 => by
          have hb : Below w.heap.size w W2 := (hBr.trans (h1.mono hBr.size)).trans (h2.below (by omega))
          refine ⟨hb, hRr.of ((h2.block _ (by omega)).trans (h1.block _ hSr)), ?_⟩
          have := h1.size
          rw [h2.size]; omega
        by_cases hkk : k < keep.length
        · obtain ⟨q, hq⟩ : ∃ q, keep[k]? = some q := ⟨_, List.getElem?_eq_getElem hkk⟩
          obtain ⟨kb, ko, rfl, hkbl, hkr⟩ := hv4 (by omega)
          have hkc : w.cell? ⟨kb, ko + k, none⟩ = some (.bool q) := hkr k _ (by rw [List.getElem?_map, hq]; rfl)
          have hkki : (k : Int) < (keep.length : Int) := by omega
          rw [hq] at hkt
          cases q
          · go_wp2_with (first
              | (with_reducible refine ld_big (t := 73) g (k * 513) (by with_unfolding_all rfl) (wcel x) _ hgw Try.underlying73 rfl (i1 hxl) ?_)
              | (with_reducible refine al_big (t := 73) zw (zero_w _) ?_; intro W1 B1 hB1s hb1 hbl1 hsz1)
              | (with_reducible refine st_big (t := 73) B1 _ _ (by with_unfolding_all rfl) (by with_unfolding_all rfl) hb1 (i3 hxl) (i2 hxl) (all_oneCell_toArray (wcel_one x)) ?_; intro W2 hb2 ho2; have hf := hfin W1 W2 B1 hB1s hbl1 ho2; have hc2 := wcel_0 hb2; have hk2 := (hf.1.cell (p := ⟨kb, ko + k, none⟩) hkbl).trans hkc))
            exact ⟨⟨k + 1, by omega, rfl, by rw [hkt]; simpa using hf.2.1, hf.1, hf.2.2⟩, by simp only [intOf]; omega⟩
          · go_wp2_with (first
              | (with_reducible refine ld_big (t := 73) g (k * 513) (by with_unfolding_all rfl) (wcel x) _ hgw Try.underlying73 rfl (i1 hxl) ?_)
              | (with_reducible refine al_big (t := 73) zw (zero_w _) ?_; intro W1 B1 hB1s hb1 hbl1 hsz1)
              | (with_reducible refine st_big (t := 73) B1 _ _ (by with_unfolding_all rfl) (by with_unfolding_all rfl) hb1 (i3 hxl) (i2 hxl) (all_oneCell_toArray (wcel_one x)) ?_; intro W2 hb2 ho2; have hf := hfin W1 W2 B1 hB1s hbl1 ho2; have hc2 := wcel_0 hb2; have hk2 := (hf.1.cell (p := ⟨kb, ko + k, none⟩) hkbl).trans hkc)
              | (with_reducible refine ld_big (t := 71) B1 1 (by with_unfolding_all rfl) (cel x.2) _ (wcel_1 hb2) Try.underlying71 rfl (size_c hxl) ?_)
              | (with_reducible refine mu_big (t := 64) Try.underlying64 Try.underlying3 w.heap.size x.1 (secV x.2) _ (by with_unfolding_all rfl) (by with_unfolding_all rfl) (by with_unfolding_all rfl) hf.2.1 ?_; intro W3 hR3 ho3))
            exact ⟨⟨k + 1, by omega, rfl, by rw [hkt, if_pos rfl, pm_snoc]; exact hR3, hf.1.trans (ho3.below (Nat.le_refl _)), by rw [ho3.size]; exact hf.2.2⟩, by simp only [intOf]; omega⟩
        · have hkki : ¬(k : Int) < (keep.length : Int) := by omega
          rw [List.getElem?_eq_none (show keep.length ≤ k by omega)] at hkt
          go_wp2_with (first
            | (with_reducible refine ld_big (t := 73) g (k * 513) (by with_unfolding_all rfl) (wcel x) _ hgw Try.underlying73 rfl (i1 hxl) ?_)
            | (with_reducible refine al_big (t := 73) zw (zero_w _) ?_; intro W1 B1 hB1s hb1 hbl1 hsz1)
            | (with_reducible refine st_big (t := 73) B1 _ _ (by with_unfolding_all rfl) (by with_unfolding_all rfl) hb1 (i3 hxl) (i2 hxl) (all_oneCell_toArray (wcel_one x)) ?_; intro W2 hb2 ho2; have hf := hfin W1 W2 B1 hB1s hbl1 ho2; have hc2 := wcel_0 hb2))
          exact ⟨⟨k + 1, by omega, rfl, by rw [hkt]; simpa using hf.2.1, hf.1, hf.2.2⟩, by simp only [intOf]; omega⟩
      · obtain rfl : k = d.loose.length := by omega
        rw [List.take_length] at hRr
        have hbr : wr.heap[D]? = some (.cells #[.int .i64 d.n, .map (some M), .slice A d.loose.length c, .bool d.down, .int .i64 d.left, kv] 69) := (hBr.block _ hM.lt).trans hM.box
        have hP := crash_leaves hM ho fD hlt hd hRr hBr hSr (box_set (o := 5) (v := .slice none 0 0) (box_set (o := 4) (v := .int .i64 0) (box_set (o := 3) (v := .bool true) (box_set (o := 2) (v := .slice none 0 0) (box_set (o := 1) (v := .map (some w.heap.size)) hbr)))))
          ((((only_set.trans only_set).trans only_set).trans only_set).trans only_set)
        have r1 := cell_of_row wr D 1 _ _ _ hbr
        have r2 := cell_of_row wr D 2 _ _ _ hbr
        have r3 := cell_of_row wr D 3 _ _ _ hbr
        have r4 := cell_of_row wr D 4 _ _ _ hbr
        have r5 := cell_of_row wr D 5 _ _ _ hbr
        have z1 := frozen_row hbr 1
        have z2 := frozen_row hbr 2
        have z3 := frozen_row hbr 3
        have z4 := frozen_row hbr 4
        have z5 := frozen_row hbr 5
        clear hbr hM
        go_wp2_with fail
        go_end0
        exact ⟨rfl, hP⟩
end Go.Proofs.Ytdlokmlcdlcfaaa
