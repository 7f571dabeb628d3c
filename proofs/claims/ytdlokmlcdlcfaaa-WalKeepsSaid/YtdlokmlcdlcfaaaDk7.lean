/- The disk: Write. -/
import Derived.Test.YtdlokmlcdlcfaaaDk6
import Derived.Laws.CopyOwn
set_option linter.unusedVariables false
set_option linter.unusedSimpArgs false
namespace Go.Proofs.Ytdlokmlcdlcfaaa
open Go.RowKit Go.MapKept
section
variable {P : Program} {ops : Array Oper} {rest : List Oper} {dst : Option Tmp} {ty : TypeId} {pos : String} {aft : Array Edge} {a : Act} {w : World} {Q : Exit → Act → World → Prop}
theorem cp_big {d s : Operand} {dT sT : TypeId} (elem : TypeId) (hu : P.underlying dT = some (.slice elem)) (hsz : (P.info? elem).map (·.size) = some 1) (g off dLen dCap : Nat) (hd : a.eval d = .slice (some ⟨g, off, none⟩) dLen dCap)
    (x' : Value) (us : List Value) (hs : a.eval s = x') (hsl : Sl w x' us) (hle : us.length ≤ dLen) (cur : List Value) (t : TypeId) (hg : w.heap[g]? = some (.cells cur.toArray t)) (hfit : off + us.length ≤ cur.length) (h1 : ∀ v ∈ us, v.oneCell' = true)
    (h : ∀ W, W.heap[g]? = some (.cells (splice cur off us).toArray t) → Only g w W → wpList P ops Q rest (a.put dst (goInt us.length)) W) :
    wpList P ops Q ({ dst := dst, op := .call { callee := .builtin .copy, args := #[d, s], argTypes := #[dT, sT] }, type := ty, pos := pos, after := aft, guard := none } :: rest) a w := by
  obtain ⟨A, c, rfl, hc1, hc2, hno, hat⟩ := hsl
  by_cases h0 : us.length = 0
  · obtain rfl : us = [] := List.eq_nil_of_length_eq_zero h0
    exact wpList_copy_nothing rfl d s dT sT rfl elem hu hsz _ _ _ _ _ _ hd hs (by simp) (h w (by simpa [splice] using hg) ⟨rfl, rfl, rfl, rfl, fun _ _ => rfl⟩)
  · obtain ⟨b, o, rfl, -, hr⟩ := hat (by omega)
    refine wpList_copy_own rfl d s dT sT rfl elem hu hsz g off dLen dCap ⟨b, o, none⟩ us.length c hd hs cur.toArray t hg us (Nat.min_eq_left hle).symm (fun j v hv => by rw [Addr.add_lit]; exact hr j v hv) (by simpa using hfit) h1 ?_
    exact h _ (by simpa [splice] using setRow_heap w g _ _ t _ hg) ⟨rfl, rfl, rfl, by simp [World.setRow], fun k hk => setRow_other w g k _ hk⟩
theorem bl_big {t : TypeId} {x : Operand} (v z : Value) (hx : a.eval x = v) (hb : (Instr.build t #[(0, v)]).run P w = .ok z w)
    (h : wpList P ops Q rest (a.put dst z) w) : wpList P ops Q ({ dst := dst, op := .build t #[(0, x)], type := ty, pos := pos, after := aft, guard := none } :: rest) a w := by
  refine wpList_plain rfl fun K hK => ?_
  unfold Oper.wp execOp
  simp [hx, hb, Result.andThen]
  exact hK _ _ h
end
/-- Steps of a region that draws. -/
theorem bs_step {P : Program} {ops : Array Oper} {dst : Option Tmp} {ty : TypeId} {pos : String} {aft : Array Edge} {a : Act} {w : World} {Q : Exit → Act → World → Prop} {K : Act → World → Prop} {E : Prop} {t : TypeId} {x : Operand} (v z : Value) (W : World) (hx : a.eval x = v) (hb : (Instr.buildSlice t 1 #[(0, v)]).run P w = .ok z W)
    (h : K (a.put dst z) W) : if Region.wanted { dst := dst, op := .buildSlice t 1 #[(0, x)], type := ty, pos := pos, after := aft, guard := none } (yielded ops a.tmps) = true then Oper.wp P { dst := dst, op := .buildSlice t 1 #[(0, x)], type := ty, pos := pos, after := aft, guard := none } a w K Q else E := by
  have hw : Region.wanted { dst := dst, op := .buildSlice t 1 #[(0, x)], type := ty, pos := pos, after := aft, guard := none } (yielded ops a.tmps) = true := by simp [Region.wanted]
  rw [if_pos hw]
  unfold Oper.wp execOp
  simp [hx, hb, Result.andThen]
  exact h
theorem fill_arr : ∀ (l pre cs : List Value), cs.length = l.length → (l.zipIdx pre.length).foldl (fun (cs : Array Value) (p : Value × Nat) => cs.setIfInBounds (0 + p.2) p.1) (pre ++ cs).toArray = (pre ++ l).toArray
  | [], pre, cs, h => by
    obtain rfl : cs = [] := List.eq_nil_of_length_eq_zero h
    rfl
  | v :: l, pre, cs, h => by
    obtain ⟨c, cs', rfl⟩ : ∃ c cs', cs = c :: cs' := by
      cases cs with
      | nil => cases h
      | cons c cs' => exact ⟨c, cs', rfl⟩
    have e : (pre ++ c :: cs').toArray.setIfInBounds (0 + pre.length) v = ((pre ++ [v]) ++ cs').toArray := by
      rw [Nat.zero_add, List.setIfInBounds_toArray, List.set_append_right _ _ (Nat.le_refl _)]
      simp
    have ih := fill_arr l (pre ++ [v]) cs' (by simpa using h)
    rw [List.zipIdx_cons, List.foldl_cons]
    show (l.zipIdx (pre.length + 1)).foldl _ ((pre ++ c :: cs').toArray.setIfInBounds (0 + pre.length) v) = _
    rw [e, show pre.length + 1 = (pre ++ [v]).length by simp, ih]
    simp
theorem infw : (Try.prog.info? 73).map (fun i => (i.zero, i.size, i.bytes)) = some (some zw, 513, 520) := by kernel_rfl
theorem fill_one (l : List Value) (z : Array Value) (hz : z.size = 513) (hl : l.length = 513) : Instr.fill (fun i => some (i * 513, 513)) z [(0, .agg l.toArray)] = some l.toArray := by
  have h := fill_arr l [] z.toList (by rw [hl]; simpa using hz)
  simp only [List.length_nil, List.nil_append, Array.toArray_toList] at h
  have e : (Value.agg l.toArray).cells = l.toArray := rfl
  simp only [Instr.fill, e, List.size_toArray, hl, hz]
  rw [← Array.foldl_toList]
  simpa using h
theorem run_bs (w : World) (x : Int × Sec) (hx : x.2.length = 512) : (Instr.buildSlice 65 1 #[(0, .agg (wcel x).toArray)]).run Try.prog w = .ok (.slice (some ⟨w.heap.size, 0, none⟩) 1 1) (w.alloc (.cells (wcel x).toArray 73)) := by
  obtain ⟨i, hi, hz0, hz1, hz2⟩ := info_parts infw
  have hs : ∀ w, (sizeOf 73).run Try.prog w = .ok 513 w := fun w => by simp [sizeOf, typeInfo, hi, hz1]
  have hf := fun z hz => fill_one (wcel x) z hz (wcel_len x hx)
  unfold Instr.buildSlice
  simp only [Sem.run_bind, run_underlying Try.underlying65, Result.andThen_ok, hs, Nat.one_mul]
  rw [if_neg (by decide), if_neg (by decide)]
  simp only [Sem.run_bind, Sem.run_pure, zero_w, Result.andThen_ok]
  rw [hf _ (by simp)]
  simp [newRow, go_sem]
theorem run_bw (w : World) (i : Int) : (Instr.build 73 #[(0, .int .i64 i)]).run Try.prog w = .ok (.agg (wcel (i, zeros)).toArray) w := by kernel_rfl
theorem splice_w (i : Int) (l : List UInt8) (hl : l.length ≤ 512) : splice (wcel (i, zeros)) 1 (cel l) = wcel (i, pad l) := by
  unfold splice wcel pad cel zeros
  simp only [List.take_succ_cons, List.take_zero, List.map_append, List.length_map, List.cons_append, List.nil_append, List.map_replicate]
  congr 1
  congr 1
  rw [Nat.add_comm, List.drop_succ_cons, List.drop_replicate]
theorem pad_len (l : List UInt8) (hl : l.length ≤ 512) : (pad l).length = 512 := by simp [pad]; omega
set_option maxRecDepth 100000 in
set_option maxHeartbeats 4000000 in
theorem write_calls {w : World} {D : Nat} {F : Nat → Prop} {d : DS} (h : DiskAt w D F d) (hn : d.loose.length ≤ 1000000) (hk : d.keep.length ≤ 140737488355328) (i : Int) (v : Value) (l : List UInt8) (hv : Sl w v (cel l)) (hvF : 0 < l.length → ∀ b, v.ownBlock = some b → ¬F b) (hll : l.length ≤ 9223372036854775807) :
    Calls Try.prog 13 #[.pointer (some ⟨D, 0, none⟩), .int .i64 i, v] w fun e w' => e = .returned (.int .i64 (d.write i l).1) ∧ Leaves F w w' D (d.write i l).2 := by
  have hat : Calls Try.prog 32 #[.pointer (some ⟨D, 0, none⟩), .int .i64 i] w fun e w' => e = .returned (.int .i64 (d.at_ i)) ∧ w = w' := by
    obtain ⟨M, lv, kv, m, hM, -⟩ := h
    exact (at_calls hM i).mono fun e w' h => ⟨h.1, h.2.symm⟩
  have hbc := burns_calls h hn hk
  have hP0 := Leaves.refl h
  have hlt := h.lt
  have hcl := cel_length l
  obtain ⟨A', c', hv', hv1, hv2, hv3, hv4⟩ := id hv
  rw [hcl] at hv'
  subst hv'
  by_cases ha : d.at_ i ≠ 0
  · have e : d.write i l = (d.at_ i, d) := by unfold DS.write; rw [if_pos ha]
    rw [e]
    obtain ⟨q, hq⟩ : ∃ q, d.at_ i = q := ⟨_, rfl⟩
    rw [hq] at hat ha ⊢
    have ha : (q == 0) = false := by simpa using ha
    clear h hbc
    go_enter Try.func13, Try.ntmps13
    go_wp2_with (go_at_call 32; refine hat.mono ?_; rintro e w1 ⟨rfl, rfl⟩)
    go_ret
    exact ⟨rfl, hP0⟩
  have ha : d.at_ i = 0 := Decidable.not_not.1 ha
  rw [ha] at hat
  by_cases hl5 : 512 < l.length
  · have e : d.write i l = (1, d) := by unfold DS.write; rw [if_neg (by rw [ha]; simp), if_pos hl5]
    rw [e]
    have hl5i : (512 : Int) < (l.length : Int) := by omega
    clear h hbc
    go_enter Try.func13, Try.ntmps13
    go_wp2_with (go_at_call 32; refine hat.mono ?_; rintro e w1 ⟨rfl, rfl⟩)
    go_ret
    exact ⟨rfl, hP0⟩
  have hl5i : ¬(512 : Int) < (l.length : Int) := by omega
  by_cases hb : d.burns.1 = true
  · have e : d.write i l = (6, d.burns.2) := by
      unfold DS.write
      rw [if_neg (by rw [ha]; simp), if_neg hl5]
      generalize d.burns = p at hb ⊢
      obtain ⟨a, b⟩ := p
      obtain rfl : a = true := hb
      rfl
    rw [e]
    rw [hb] at hbc
    clear h
    go_enter Try.func13, Try.ntmps13
    go_wp2_with (first | (go_at_call 32; refine hat.mono ?_; rintro e w1 ⟨rfl, rfl⟩) | (go_at_call 31; refine hbc.mono ?_; rintro e w2 ⟨rfl, hP⟩))
    go_ret
    exact ⟨rfl, hP⟩
  have hb : d.burns.1 = false := by simpa using hb
  obtain ⟨x0, hx0, hx1, hb2⟩ := burns_false hb
  have e : d.write i l = (0, { d with left := x0, loose := d.loose ++ [(i, pad l)] }) := by
    unfold DS.write
    rw [if_neg (by rw [ha]; simp), if_neg hl5]
    generalize d.burns = p at hb hb2 ⊢
    obtain ⟨a, b⟩ := p
    obtain rfl : a = false := hb
    obtain rfl : b = _ := hb2
    rfl
  rw [e]
  rw [hb, hb2] at hbc
  have hir : 0 ≤ i ∧ i < d.n := by
    unfold DS.at_ at ha
    split at ha
    · cases ha
    · split at ha
      · cases ha
      · omega
  have hil := pad_len l (by omega)
  have hvB : 0 < (cel l).length → ∀ b, (Value.slice A' l.length c').ownBlock = some b → b < w.heap.size := fun h0 b hb => by
    obtain ⟨b', o, e, hlt', -⟩ := hv4 h0
    subst e
    obtain rfl : b' = b := by simpa [Value.ownBlock] using hb
    exact hlt'
  clear h hP0 hv4
  go_enter Try.func13, Try.ntmps13
  go_wp2_with (go_at_call 32; refine hat.mono ?_; rintro e w1 ⟨rfl, rfl⟩)
  refine hbc.mono ?_
  rintro e w1 ⟨rfl, ⟨M, lv, kv, m, hM, ho, fD, fM, fl, fk, hlt1⟩, hC1⟩
  have hv1' : Sl w1 (.slice A' l.length c') (cel l) := hv.of hC1.size fun h0 b hb => hC1.block b (hvB h0 b hb) (hvF (by rwa [hcl] at h0) b hb)
  have hvB1 : 0 < (cel l).length → ∀ b, (Value.slice A' l.length c').ownBlock = some b → b < w1.heap.size := fun h0 b hb => Nat.lt_of_lt_of_le (hvB h0 b hb) hC1.size
  go_wp2_with (first
    | (with_reducible refine bl_big (t := 73) _ _ (by with_unfolding_all rfl) (run_bw _ i) ?_)
    | (with_reducible refine al_big (t := 73) zw (zero_w _) ?_; intro W2 B1 hB1s hb1 hbl1 hsz1)
    | (with_reducible refine st_big (t := 73) B1 _ _ (by with_unfolding_all rfl) (by with_unfolding_all rfl) hb1 (i3 (by kernel_rfl)) (i2 (by kernel_rfl)) (all_oneCell_toArray (wcel_one (i, zeros))) ?_; intro W3 hb3 ho3)
    | (with_reducible refine cp_big 5 Try.underlying30 (by kernel_rfl) B1 1 512 512 (by with_unfolding_all rfl) _ (cel l) (by with_unfolding_all rfl) (hv1'.of (by rw [ho3.size]; exact hbl1.size) fun h0 b hb => (ho3.block b (by have := hvB1 h0 b hb; omega)).trans (hbl1.block b (hvB1 h0 b hb))) (by rw [hcl]; omega) (wcel (i, zeros)) _ hb3 (by rw [hcl, wcel_len _ (by kernel_rfl)]; omega) (cel_one l) ?_; intro W4 hb4 ho4))
  rw [splice_w i l (by omega)] at hb4
  have hM4 : DiskM W4 D M lv kv m { d with left := x0 } := hM.of (by rw [ho4.size, ho3.size]; exact hbl1.size) fun k hk => by
    have hkl : k < w1.heap.size := by
      rcases hk with rfl | rfl | hk | ⟨h1, h2⟩
      · exact hM.lt
      · exact hM.map.lt
      · exact hlt1 _ (fl _ hk)
      · exact hlt1 _ (fk h1 _ h2)
    exact (ho4.block k (by omega)).trans ((ho3.block k (by omega)).trans (hbl1.block k hkl))
  have hs4 : w1.heap.size < W4.heap.size := by rw [ho4.size, ho3.size, hsz1]; omega
  have hC4 : Chg (Grow F w w1) w1 W4 := ⟨ho4.os.trans (ho3.os.trans hbl1.os), ho4.tape.trans (ho3.tape.trans hbl1.tape), ho4.output.trans (ho3.output.trans hbl1.output), Nat.le_of_lt hs4, fun k hk _ => (ho4.block k (by omega)).trans ((ho3.block k (by omega)).trans (hbl1.block k hk))⟩
  have hDl := hM4.lt
  have hlvD := hM4.neL
  obtain ⟨i0, hi, hz0, hz1, hz2⟩ := info_parts infw
  have hbs := run_bs W4.drew (i, pad l) hil
  have u73 := Try.underlying73
  have v73 := i1 (x := (i, pad l)) hil
  obtain ⟨WB, hWB⟩ : ∃ WB, W4.drew.alloc (.cells (wcel (i, pad l)).toArray 73) = WB := ⟨_, rfl⟩
  have hBB : Below W4.heap.size W4 WB := by rw [← hWB]; exact ((Below.refl _ W4).drew).alloc (Nat.le_refl _) _
  have hnB : WB.heap[W4.heap.size]? = some (.cells (wcel (i, pad l)).toArray 73) := by rw [← hWB]; exact heap_alloc_new W4.drew _
  have hsB : WB.heap.size = W4.heap.size + 1 := by rw [← hWB]; exact World.size_alloc ..
  rw [hWB] at hbs
  have k1 : W4.cell? ⟨D, 2, none⟩ = some lv := hM4.cell.2.2.1
  have k2 : W4.rangeAt B1 0 (wcel (i, pad l)) := fun j u hj => by rw [Nat.zero_add, cell_of_row W4 B1 j _ _ _ hb4]; simpa using hj
  have n1 : WB.cell? ⟨D, 2, none⟩ = some lv := (hBB.cell (p := ⟨D, 2, none⟩) hDl).trans k1
  have n2 : WB.rangeAt B1 0 (wcel (i, pad l)) := rangeAt_of k2 (hBB.block B1 (by omega))
  have hfr := frozen_row hM4.box 2
  have hfB : WB.frozen? ⟨D, 2, none⟩ = false := (World.frozen?_of_block (hBB.block D hDl)).trans hfr
  have hoB : WB.ownsRow 0 73 513 lv d.loose.length (lcel d.loose) := ownsRow_of hM4.row fun b hb => hBB.block b (Nat.lt_trans (hlt1 b (fl b hb)) hs4)
  have hnext : ∀ w6, WB.grownBy w6 lv.ownBlock → w6.cell? ⟨D, 2, none⟩ = some lv ∧ w6.rangeAt B1 0 (wcel (i, pad l)) ∧ w6.frozen? ⟨D, 2, none⟩ = false := fun w6 hgrow => by
    have hlvD' : some D ≠ lv.ownBlock := fun e => hlvD D e.symm rfl
    have hB1lv : some B1 ≠ lv.ownBlock := fun e => by have := hlt1 B1 (fl B1 e.symm); omega
    exact ⟨(hgrow.cell_far ⟨D, 2, none⟩ (show D < WB.heap.size by omega) hlvD').trans n1, rangeAt_of n2 (hgrow.block B1 (by rw [hsB, ho4.size, ho3.size]; omega) hB1lv), (hgrow.frozen_far ⟨D, 2, none⟩ (show D < WB.heap.size by omega) hlvD').trans hfB⟩
  have hB1D : B1 ≠ D := by have := hM.lt; omega
  have hfin : ∀ g cap w6, w6.ownsRow 0 73 513 (.slice (some ⟨g, 0, none⟩) (d.loose.length + 1) cap) (d.loose.length + 1) (lcel d.loose ++ wcel (i, pad l)) → WB.grownBy w6 lv.ownBlock → (lv.ownBlock = some g ∨ g = W4.heap.size + 1) → g < w6.heap.size →
      Leaves F w (w6.setCell ⟨D, 2, none⟩ (.slice (some ⟨g, 0, none⟩) (d.loose.length + 1) cap)) D { d with left := x0, loose := d.loose ++ [(i, pad l)] } := fun g cap w6 hown hgrow hat hlt' => by
    have hon : Only D w6 (w6.setCell ⟨D, 2, none⟩ (.slice (some ⟨g, 0, none⟩) (d.loose.length + 1) cap)) := only_set
    have hDlv : lv.ownBlock ≠ some D := fun e => hlvD D e rfl
    have hst : ∀ k, k < w1.heap.size → k ≠ D → lv.ownBlock ≠ some k → (w6.setCell ⟨D, 2, none⟩ (.slice (some ⟨g, 0, none⟩) (d.loose.length + 1) cap)).heap[k]? = W4.heap[k]? := fun k hk h1 h2 =>
      (hon.block k h1).trans ((hgrow.block k (by omega) (fun e => h2 e.symm)).trans (hBB.block k (by omega)))
    have hgD : g ≠ D := by
      rcases hat with h | h
      · exact hlvD g h
      · omega
    have hgM : g ≠ M := by
      rcases hat with h | h
      · exact hM.neML g h
      · have := hM.map.lt; omega
    have hgk : d.keep ≠ [] → ∀ b, kv.ownBlock = some b → b ≠ g := fun h0 b hb e => by
      rcases hat with h | h
      · exact (hM.neK h0 b hb).2.2 (by rw [h, e])
      · have := hlt1 b (fk h0 b hb); omega
    have hD6 : w6.heap[D]? = W4.heap[D]? := (hgrow.block D (by omega) (fun e => hDlv e.symm)).trans (hBB.block D hDl)
    have hs6 : w1.heap.size ≤ w6.heap.size := by have := hgrow.size; omega
    have hCc : Chg (Grow F w w1) w1 (w6.setCell ⟨D, 2, none⟩ (.slice (some ⟨g, 0, none⟩) (d.loose.length + 1) cap)) :=
      (hC4.trans (Chg.of_below hBB)).trans (((⟨hgrow.os, hgrow.tape, hgrow.output, hgrow.size, fun k hk hf => hgrow.block k hk (fun e => hf (fl k e.symm))⟩ : Chg (Grow F w w1) WB w6)).trans (hon.chg fD))
    refine Leaves.trans hlt hC1 (fun _ h => h) ⟨⟨M, .slice (some ⟨g, 0, none⟩) (d.loose.length + 1) cap, kv, m, ⟨?_, ?_, hM.firm, ?_, ?_, hM.neM, fun b hb => ?_, fun h0 b hb => ⟨(hM.neK h0 b hb).1, (hM.neK h0 b hb).2.1, fun e => ?_⟩⟩,
      ⟨ho.n, ho.left, fun x hx => ?_, ho.firm⟩, .of fD, .of fM, fun b hb => ?_, fun h0 b hb => .of (fk h0 b hb), grow_lt hCc.size hlt1⟩, hCc⟩
    · have := box_set (o := 2) (v := .slice (some ⟨g, 0, none⟩) (d.loose.length + 1) cap) (hD6.trans hM4.box)
      rw [this]
      show some (Obj.cells #[.int .i64 d.n, .map (some M), .slice (some ⟨g, 0, none⟩) (d.loose.length + 1) cap, .bool d.down, .int .i64 x0, kv] _) = some (Obj.cells #[.int .i64 d.n, .map (some M), .slice (some ⟨g, 0, none⟩) (d.loose.length + 1) cap, .bool d.down, .int .i64 x0, kv] _)
      rfl
    · exact hM4.map.of (hst M hM.map.lt hM.neM (fun e => hM.neML M e rfl))
    · show World.ownsRow _ 0 _ 513 _ (d.loose ++ [(i, pad l)]).length (lcel (d.loose ++ [(i, pad l)]))
      rw [List.length_append, lcel_snoc]
      exact ownsRow_of hown fun b hb => hon.block b (by obtain rfl : g = b := (by simpa [Value.ownBlock] using hb); exact hgD)
    · exact hM4.keep.of (by rw [hon.size]; have := hgrow.size; omega) fun h0 b hb => by
        have hne : d.keep ≠ [] := by intro e; rw [e] at h0; exact absurd h0 (Nat.lt_irrefl 0)
        exact hst b (hlt1 b (fk hne b hb)) (hM.neK hne b hb).1 (hM.neK hne b hb).2.2
    · obtain rfl : g = b := by simpa [Value.ownBlock] using hb
      exact hgD
    · obtain rfl : g = b := by simpa [Value.ownBlock] using e
      exact hgk h0 _ hb rfl
    · rcases List.mem_append.1 hx with h | h
      · exact ho.loose x h
      · obtain rfl : x = (i, pad l) := by simpa using h
        exact ⟨hil, hir⟩
    · obtain rfl : g = b := by simpa [Value.ownBlock] using hb
      rcases hat with h | h
      · exact .of (fl _ h)
      · exact .inr ⟨by omega, by rw [hon.size]; exact hlt'⟩
  refine wp_region_held_drew (S := fun w' => w'.rangeAt B1 0 (wcel (i, pad l))) (by kernel_rfl) k2 (fun hHeld => ?_)
  refine wpAnyH_take (i := 0) (v := .pointer (some ⟨D, 0, none⟩)) rfl (by kernel_rfl) (by kernel_rfl) (by kernel_rfl) (fun _ _ _ h => h) (Or.inl ⟨by rfl, ?_⟩) (by assumption) ?_
  · intro w' hS
    go_simp
  try simp only [Act.put, List.setIfInBounds_toArray, List.set_cons_zero, List.set_cons_succ]
  refine wpAnyH_take (i := 1) (v := .pointer (some ⟨D, 0, none⟩)) rfl (by kernel_rfl) (by kernel_rfl) (by kernel_rfl) (fun _ _ _ h => h) (Or.inl ⟨by rfl, ?_⟩) (by assumption) ?_
  · intro w' hS
    go_simp
  try simp only [Act.put, List.setIfInBounds_toArray, List.set_cons_zero, List.set_cons_succ]
  refine wpAnyH_take (i := 2) (v := .pointer (some ⟨D, 0, none⟩)) rfl (by kernel_rfl) (by kernel_rfl) (by kernel_rfl) (fun _ _ _ h => h) (Or.inl ⟨by rfl, ?_⟩) (by assumption) ?_
  · intro w' hS
    go_simp
  try simp only [Act.put, List.setIfInBounds_toArray, List.set_cons_zero, List.set_cons_succ]
  refine wpAnyH_take (i := 3) (v := .pointer (some ⟨D, 2, none⟩)) rfl (by kernel_rfl) (by kernel_rfl) (by kernel_rfl) (fun _ _ _ h => h) (Or.inl ⟨by rfl, ?_⟩) (by assumption) ?_
  · intro w' hS
    go_simp
  try simp only [Act.put, List.setIfInBounds_toArray, List.set_cons_zero, List.set_cons_succ]
  refine wpAnyH_take (i := 5) (v := .agg (wcel (i, pad l)).toArray) rfl (by kernel_rfl) (by kernel_rfl) (by kernel_rfl) (fun _ _ _ h => h) (yieldsIf_load_mid (by rfl) _ _ rfl B1 0 rfl (wcel (i, pad l)) _ (fun w' hS => hS) u73 rfl v73) (by assumption) ?_
  try simp only [Act.put, List.setIfInBounds_toArray, List.set_cons_zero, List.set_cons_succ]
  refine wpAnyH_ready (rs := [4, 6]) (by kernel_rfl) (by simp) ?_
  refine AllReadyH.cons rfl (fun K hK => ?_) (AllReadyH.cons rfl (fun K hK => ?_) AllReadyH.nil)
  · go_simp
    refine hK.out _ _ k2 (fun hHeld => ?_)
    clear hK K
    try simp only [Act.put, List.setIfInBounds_toArray, List.set_cons_zero, List.set_cons_succ]
    refine wpAnyH_ready (rs := [6]) (by kernel_rfl) (by simp) ?_
    refine AllReadyH.cons rfl (fun K hK => ?_) AllReadyH.nil
    refine bs_step (.agg (wcel (i, pad l)).toArray) _ _ (by rfl) hbs ?_
    refine hK.out _ _ n2 (fun hHeld => ?_)
    clear hK K
    try simp only [Act.put, List.setIfInBounds_toArray, List.set_cons_zero, List.set_cons_succ]
    refine wpAnyH_ready (rs := [7]) (by kernel_rfl) (by simp) ?_
    refine AllReadyH.cons rfl (fun K hK => ?_) AllReadyH.nil
    refine step_append_lies _ (by rfl) _ _ _ (by rfl) 0 73 i0 zw 513 520 Try.underlying65 hi hz0 hz1 hz2 zw_size (by decide) lv d.loose.length (lcel d.loose) (by rfl) hoB ⟨W4.heap.size, 0, none⟩ 1 1 (wcel (i, pad l)) (by rfl) (wcel_len _ hil) (World.news_of_block hnB) (wcel_one _) (by decide) (by simp only [maxLen]; omega) (by omega) (Nat.zero_le _) (W4.heap.size + 1) hsB ?_
    intro g cap w6 hown hgrow hat hlt'
    obtain ⟨m1, m2, mf⟩ := hnext w6 hgrow
    refine hK.out _ _ m2 (fun hHeld => ?_)
    clear hK K
    try simp only [Act.put, List.setIfInBounds_toArray, List.set_cons_zero, List.set_cons_succ]
    refine wpAnyH_ready (rs := [8]) (by kernel_rfl) (by simp) ?_
    refine AllReadyH.cons rfl (fun K hK => ?_) AllReadyH.nil
    go_simp
    refine hK.out _ _ m2 (fun hHeld => ?_)
    clear hK K
    try simp only [Act.put, List.setIfInBounds_toArray, List.set_cons_zero, List.set_cons_succ]
    refine wpAnyH_ready (rs := [9]) (by kernel_rfl) (by simp) ?_
    refine AllReadyH.cons rfl (fun K hK => ?_) AllReadyH.nil
    go_simp
    refine hK.out _ _ m2 (fun hHeld => ?_)
    clear hK K
    try simp only [Act.put, List.setIfInBounds_toArray, List.set_cons_zero, List.set_cons_succ]
    refine wpAnyH_ready (rs := [10]) (by kernel_rfl) (by simp) ?_
    refine AllReadyH.cons rfl (fun K hK => ?_) AllReadyH.nil
    go_simp
    refine hK.out _ _ (rangeAt_of m2 (Below.heap_setCell _ _ _ _ (show B1 ≠ D by omega))) (fun hHeld => ?_)
    clear hK K
    try simp only [Act.put, List.setIfInBounds_toArray, List.set_cons_zero, List.set_cons_succ]
    refine wpAnyH_done (by kernel_rfl) ?_ _
    have hP := hfin g cap w6 hown hgrow hat hlt'
    go_wp2_with fail
    go_ret
    exact ⟨rfl, hP⟩
  · refine bs_step (.agg (wcel (i, pad l)).toArray) _ _ (by rfl) hbs ?_
    refine hK.out _ _ n2 (fun hHeld => ?_)
    clear hK K
    try simp only [Act.put, List.setIfInBounds_toArray, List.set_cons_zero, List.set_cons_succ]
    refine wpAnyH_ready (rs := [4]) (by kernel_rfl) (by simp) ?_
    refine AllReadyH.cons rfl (fun K hK => ?_) AllReadyH.nil
    go_simp
    refine hK.out _ _ n2 (fun hHeld => ?_)
    clear hK K
    try simp only [Act.put, List.setIfInBounds_toArray, List.set_cons_zero, List.set_cons_succ]
    refine wpAnyH_ready (rs := [7]) (by kernel_rfl) (by simp) ?_
    refine AllReadyH.cons rfl (fun K hK => ?_) AllReadyH.nil
    refine step_append_lies _ (by rfl) _ _ _ (by rfl) 0 73 i0 zw 513 520 Try.underlying65 hi hz0 hz1 hz2 zw_size (by decide) lv d.loose.length (lcel d.loose) (by rfl) hoB ⟨W4.heap.size, 0, none⟩ 1 1 (wcel (i, pad l)) (by rfl) (wcel_len _ hil) (World.news_of_block hnB) (wcel_one _) (by decide) (by simp only [maxLen]; omega) (by omega) (Nat.zero_le _) (W4.heap.size + 1) hsB ?_
    intro g cap w6 hown hgrow hat hlt'
    obtain ⟨m1, m2, mf⟩ := hnext w6 hgrow
    refine hK.out _ _ m2 (fun hHeld => ?_)
    clear hK K
    try simp only [Act.put, List.setIfInBounds_toArray, List.set_cons_zero, List.set_cons_succ]
    refine wpAnyH_ready (rs := [8]) (by kernel_rfl) (by simp) ?_
    refine AllReadyH.cons rfl (fun K hK => ?_) AllReadyH.nil
    go_simp
    refine hK.out _ _ m2 (fun hHeld => ?_)
    clear hK K
    try simp only [Act.put, List.setIfInBounds_toArray, List.set_cons_zero, List.set_cons_succ]
    refine wpAnyH_ready (rs := [9]) (by kernel_rfl) (by simp) ?_
    refine AllReadyH.cons rfl (fun K hK => ?_) AllReadyH.nil
    go_simp
    refine hK.out _ _ m2 (fun hHeld => ?_)
    clear hK K
    try simp only [Act.put, List.setIfInBounds_toArray, List.set_cons_zero, List.set_cons_succ]
    refine wpAnyH_ready (rs := [10]) (by kernel_rfl) (by simp) ?_
    refine AllReadyH.cons rfl (fun K hK => ?_) AllReadyH.nil
    go_simp
    refine hK.out _ _ (rangeAt_of m2 (Below.heap_setCell _ _ _ _ (show B1 ≠ D by omega))) (fun hHeld => ?_)
    clear hK K
    try simp only [Act.put, List.setIfInBounds_toArray, List.set_cons_zero, List.set_cons_succ]
    refine wpAnyH_done (by kernel_rfl) ?_ _
    have hP := hfin g cap w6 hown hgrow hat hlt'
    go_wp2_with fail
    go_ret
    exact ⟨rfl, hP⟩
end Go.Proofs.Ytdlokmlcdlcfaaa
