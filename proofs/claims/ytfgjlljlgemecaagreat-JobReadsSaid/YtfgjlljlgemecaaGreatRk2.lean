/- hairlinelaw18.JobReads, its head apart. -/
import Derived.Test.YtfgjlljlgemecaaGreatRg2
import Derived.Test.YtfgjlljlgemecaaGreatRh2
import Derived.Test.YtfgjlljlgemecaaGreatRj2
import Derived.Laws.AppendOwn
import Derived.Laws.AppendOwnNone
import Derived.OwnWalk
set_option linter.unusedVariables false
set_option linter.unusedSimpArgs false
namespace Go.Proofs.YtfgjlljlgemecaaGreat
open Go.RowKit Go.Shelf
theorem add_block (a : Addr) (j : Nat) : (a.add j).block = a.block := by unfold Addr.add; split <;> rfl
theorem grownBy_refl (w : World) (row : Option Nat) : w.grownBy w row := ⟨rfl, rfl, rfl, Nat.le_refl _, fun _ _ _ => rfl⟩
/-- append of whatever came in to what is the call's own. -/
theorem append_any {P : Program} {w : World} {ops : Array Oper} {rest : List Oper} {o : Oper} {a : Act} {Q : Exit → Act → World → Prop} (hgd : o.guard = none) (s x : Operand) (t : TypeId)
    (ho : o.op = .call { callee := .builtin .append, args := #[s, x], argTypes := #[t, t] })
    (base : Nat) (e : TypeId) (i : TypeInfo) (z : Value) (size bytes : Nat) (ht : P.underlying t = some (.slice e)) (hi : P.info? e = some i) (hz : i.zero = some z)
    (hsize : i.size = size) (hby : i.bytes = bytes) (hzs : z.cells.size = size) (hsz : 0 < size)
    (v : Value) (n : Nat) (xs : List Value) (hs : a.eval s = v) (hown : w.ownsRow base e size v n xs)
    (ao : Option Addr) (m c : Nat) (news : List Value) (hx : a.eval x = .slice ao m c) (hl : news.length = m * size) (hno : ao = none → m = 0 ∧ c = 0)
    (hnews : ∀ ad, ao = some ad → ∀ j u, news[j]? = some u → w.cell? (ad.add j) = some u) (h1 : ∀ u ∈ news, u.oneCell' = true)
    (h63 : n + m ≤ maxLen) (hbytes : (n + m) * bytes ≤ 140737488355328) (hbase : base ≤ w.heap.size)
    (h : ∀ v' w', w'.ownsRow base e size v' (n + m) (xs ++ news) → w.grownBy w' v.ownBlock → (v' = .slice none 0 0 ↔ v = .slice none 0 0 ∧ m = 0) → wpList P ops Q rest (a.put o.dst v') w') : wpList P ops Q (o :: rest) a w := by
  cases ao with
  | some ad => exact wpList_append_own w hgd s x t ho base e i z size bytes ht hi hz hsize hby hzs hsz v n xs hs hown ad m c news hx hl (hnews ad rfl) h1 h63 hbytes hbase h
  | none =>
    obtain ⟨rfl, rfl⟩ := hno rfl
    have hn : news = [] := List.eq_nil_of_length_eq_zero (by simpa using hl)
    subst hn
    exact wpList_append_own_none hgd s x t ho base e i size ht hi v n xs hs hown hx (h v w (by simpa using hown) (grownBy_refl _ _) (by simp))
theorem conv_any {P : Program} (w : World) (src e : TypeId) (hs : P.underlying src = some (.slice e)) (he : P.underlying e = some (.int .u8)) (ao : Option Addr) (m c : Nat) (xs : List Int) (hlen : xs.length = m) (hno : ao = none → m = 0)
    (hnews : ∀ ad, ao = some ad → ∀ j u, (xs.map (Value.int .u8))[j]? = some u → w.cell? (ad.add j) = some u) :
    ∀ dst, P.underlying dst = some .string → (convert src dst (.slice ao m c)).run P w = .ok (.string (strOfNums xs)) w := by
  intro dst hd
  cases ao with
  | none =>
    obtain rfl := hno rfl
    have hn : xs = [] := List.eq_nil_of_length_eq_zero hlen
    subst hn
    exact run_convert_bytes_nil w src e hs he 0 c dst hd
  | some ad =>
    have hl : (loadCells ad m).run P w = .ok (xs.map (Value.int .u8)).toArray w := by
      have := run_loadCells_list (P := P) w ad (xs.map (Value.int .u8)) (hnews ad rfl)
      simpa [hlen] using this
    rw [run_convert_bytes_string w src dst e _ m c hs he hd, run_bytesToString w _ m c xs hl, foldl_push_bytes]
    simp [strOfNums, ByteArray.empty, ByteArray.emptyWithCapacity]
    rfl
theorem info8 : (Tryz.prog.info? 5).map (fun i => (i.zero, i.size, i.bytes)) = some (some (.int .u8 0), 1, 1) := by kernel_rfl
theorem refOut_shape (s : ByteArray) : ∃ c0 c1 c2 c3 c4 k, refOut s = .tuple #[.agg #[.int .i64 c0, .int .i64 c1, .int .u64 c2, .int .u64 c3, .int .i64 c4], .int .i64 k] := by
  unfold refOut
  split
  · split
    · exact ⟨_, _, _, _, _, _, rfl⟩
    · exact ⟨_, _, _, _, _, _, rfl⟩
  · exact ⟨_, _, _, _, _, _, rfl⟩
theorem readAny (w : World) (b len cap : Nat) (xs : List Int) (hl : xs.length = len) (hb : b < w.heap.size) (hcap : len ≤ cap ∧ cap ≤ 9223372036854775807) (hx : ∀ x ∈ xs, 0 ≤ x ∧ x < 256)
    (hcell : ∀ i, i < len → w.cell? ⟨b, 0 + i, none⟩ = some (.int .u8 (xs.getD i 0))) :
    Calls Tryz.prog 5 #[.slice (some ⟨b, 0, none⟩) len cap] w fun e w' => e = .returned (refOut (strOfNums xs)) ∧ Below w.heap.size w w' := by
  rw [refOut_nums hx]
  by_cases h : xs.length = 48 ∧ xs.take 8 = hj
  · rw [if_pos h]
    obtain ⟨h1, h2⟩ := h
    obtain rfl : len = 48 := by omega
    exact readOk w b 0 cap xs h1 h2 hb hcap hx hcell
  · rw [if_neg h]
    refine readBad w _ len cap fun W0 hB hp => (cut_calls W0 b 0 len cap (w.heap.size + 1) xs hl hcap hx (fun i hi => (hB.cell (p := ⟨b, 0 + i, none⟩) hb).trans (hcell i hi)) hp).mono ?_
    rintro e w' ⟨rfl, ⟨h8, ht, A, c, rfl, -⟩ | ⟨-, v, rfl⟩⟩
    · refine ⟨rfl, .inr ⟨A, c, _, rfl, fun h40 => h ⟨by omega, ht⟩⟩⟩
    · exact ⟨rfl, .inl ⟨v, rfl⟩⟩
set_option maxRecDepth 100000 in
set_option maxHeartbeats 8000000 in
theorem reads_walk (w : World) (A : Option Addr) (len cap : Nat) (xs : List Int) (hl : xs.length = len) (hx : ∀ x ∈ xs, 0 ≤ x ∧ x < 256) (hreach : len ≤ 140737488351232) (hno : A = none → len = 0 ∧ cap = 0)
    (hA : ∀ ad, A = some ad → ∀ j u, (xs.map (Value.int .u8))[j]? = some u → w.cell? (ad.add j) = some u) (hlt : ∀ ad, A = some ad → 0 < len → ad.block < w.heap.size)
    (hhead : ∀ W, Calls Tryz.prog 4 #[] W fun e w' => e = .returned (.bool true) ∧ Below W.heap.size W w') :
    Calls Tryz.prog 3 #[.slice A len cap] w fun e w' => e = .returned (.bool true) ∧ Below w.heap.size w w' := by
  obtain ⟨i, hi, hz0, hz1, hz2⟩ := info_parts info8
  obtain ⟨c0, c1, c2, c3, c4, k, hR⟩ := refOut_shape (strOfNums xs)
  have hlen : (strOfNums xs).size ≤ 9223372036854775807 := by rw [strOfNums_size]; omega
  have hcells : ∀ W, Below w.heap.size w W → ∀ ad, A = some ad → ∀ j u, (xs.map (Value.int .u8))[j]? = some u → W.cell? (ad.add j) = some u := fun W hB ad had j u hu => by
    have hj : j < (xs.map (Value.int .u8)).length := (List.getElem?_eq_some_iff.1 hu).1
    rw [List.length_map] at hj
    have hb := hlt ad had (by omega)
    exact (hB.cell (p := ad.add j) (by rw [add_block]; exact hb)).trans (hA ad had j u hu)
  go_enter Tryz.func3, Tryz.ntmps3
  go_wp2_with (first | (go_at_call 4; refine (hhead _).mono ?_; rintro e w1 ⟨rfl, hB1⟩) | (at_builtin; refine append_any rfl _ _ 22 rfl w.heap.size 5 i (.int .u8 0) 1 1 Tryz.underlying22 hi hz0 hz1 hz2 rfl (by decide) _ 0 [] rfl (World.ownsRow_made w1 #[] 0 hB1.size (Nat.zero_le _) rfl) A len cap (xs.map (Value.int .u8)) rfl ?c1 ?c2 ?c3 ?c4 ?c5 ?c6 ?c7 ?_))
  case c1 => simp [hl]
  case c2 => exact hno
  case c3 => exact hcells _ (hB1.alloc hB1.size _)
  case c4 => exact ints_oneCell _ _
  case c5 => simp only [maxLen]; omega
  case c6 => omega
  case c7 => simp; exact Nat.le_succ_of_le hB1.size
  intro v' w2 hown hgrow hnil
  have hB2 : Below w.heap.size w w2 := (hB1.alloc hB1.size _).grown hgrow (by simp; exact Nat.le_succ_of_le hB1.size) (by intro k hk; simp [Value.ownBlock] at hk; have := hB1.size; omega)
  rcases hown.2 with ⟨h, -⟩ | ⟨g, capo, cur, rfl, hg, hgg, hnc, hcm, hcs, htk⟩
  · exact absurd h hnil
  have hgl : g < w2.heap.size := (Array.getElem?_eq_some_iff.1 hgg).1
  have hoc : ∀ W, Below w2.heap.size w2 W → ∀ ad, some (⟨g, 0, none⟩ : Addr) = some ad → ∀ j u, (xs.map (Value.int .u8))[j]? = some u → W.cell? (ad.add j) = some u := fun W hB ad had j u hu => by
    cases had
    exact (hB.cell (p := (⟨g, 0, none⟩ : Addr).add j) (by rw [add_block]; exact hgl)).trans (hown.cells (g := g) rfl j u hu)
  have hrd := readAny w2 g len capo xs hl hgl ⟨hnc, by simpa only [maxLen] using hcm⟩ hx (fun i hi => by
    have h1 := hoc w2 (Below.refl _ _) _ rfl i (.int .u8 (xs.getD i 0)) (by simp [List.getD, hl, hi, List.getElem?_eq_getElem])
    rwa [Addr.add_lit] at h1)
  rw [hR] at hrd
  go_wp2_with (go_at_call 5; refine hrd.mono ?_; rintro e w3 ⟨rfl, hB3⟩)
  obtain ⟨W4, hW4⟩ : ∃ W4, W4 = w3.alloc (.cells #[.int .i64 c0, .int .i64 c1, .int .u64 c2, .int .u64 c3, .int .i64 c4] 26) := ⟨_, rfl⟩
  have hB4 : Below w2.heap.size w2 W4 := by rw [hW4]; exact hB3.alloc hB3.size _
  have hw4 : Below w.heap.size w W4 := hB2.trans (hB4.mono hB2.size)
  have e20 := conv_any (P := Tryz.prog) W4 22 5 Tryz.underlying22 Tryz.underlying5 A len cap xs hl (fun h => (hno h).1) (hcells W4 hw4) _ Tryz.underlying9
  have b4 : W4.heap[w3.heap.size]? = some (.cells #[.int .i64 c0, .int .i64 c1, .int .u64 c2, .int .u64 c3, .int .i64 c4] 26) := by rw [hW4]; exact World.alloc_heap_new _ _
  have s4 : W4.heap.size = w3.heap.size + 1 := by rw [hW4, World.size_alloc]
  rw [← hW4]
  clear hW4
  have hrr := refRead W4 (strOfNums xs) hlen
  rw [hR] at hrr
  go_wp2_with fail
  rw [e20]
  simp only [Result.andThen]
  rw [Oper.upon_value]
  go_wp2_with fail
  refine hrr.mono ?_
  rintro e w5 ⟨rfl, hB5⟩
  have hB6 : Below W4.heap.size W4 (w5.alloc (.cells #[.int .i64 c0, .int .i64 c1, .int .u64 c2, .int .u64 c3, .int .i64 c4] 26)) := hB5.alloc hB5.size _
  have hw6 : Below w.heap.size w (w5.alloc (.cells #[.int .i64 c0, .int .i64 c1, .int .u64 c2, .int .u64 c3, .int .i64 c4] 26)) := hw4.trans (hB6.mono hw4.size)
  have ho6 : Below w2.heap.size w2 (w5.alloc (.cells #[.int .i64 c0, .int .i64 c1, .int .u64 c2, .int .u64 c3, .int .i64 c4] 26)) := hB4.trans (hB6.mono hB4.size)
  have b5 : (w5.alloc (.cells #[.int .i64 c0, .int .i64 c1, .int .u64 c2, .int .u64 c3, .int .i64 c4] 26)).heap[w3.heap.size]? = some (.cells #[.int .i64 c0, .int .i64 c1, .int .u64 c2, .int .u64 c3, .int .i64 c4] 26) := (hB6.block _ (by omega)).trans b4
  have b6 : (w5.alloc (.cells #[.int .i64 c0, .int .i64 c1, .int .u64 c2, .int .u64 c3, .int .i64 c4] 26)).heap[w5.heap.size]? = some (.cells #[.int .i64 c0, .int .i64 c1, .int .u64 c2, .int .u64 c3, .int .i64 c4] 26) := World.alloc_heap_new _ _
  have p0 := cell_of_block (o := 0) b5 (v := .int .i64 c0) rfl
  have q0 := cell_of_block (o := 0) b6 (v := .int .i64 c0) rfl
  have p1 := cell_of_block (o := 1) b5 (v := .int .i64 c1) rfl
  have q1 := cell_of_block (o := 1) b6 (v := .int .i64 c1) rfl
  have p2 := cell_of_block (o := 2) b5 (v := .int .u64 c2) rfl
  have q2 := cell_of_block (o := 2) b6 (v := .int .u64 c2) rfl
  have p3 := cell_of_block (o := 3) b5 (v := .int .u64 c3) rfl
  have q3 := cell_of_block (o := 3) b6 (v := .int .u64 c3) rfl
  have p4 := cell_of_block (o := 4) b5 (v := .int .i64 c4) rfl
  have q4 := cell_of_block (o := 4) b6 (v := .int .i64 c4) rfl
  have e37 := conv_any (P := Tryz.prog) (w5.alloc (.cells #[.int .i64 c0, .int .i64 c1, .int .u64 c2, .int .u64 c3, .int .i64 c4] 26)) 22 5 Tryz.underlying22 Tryz.underlying5 (some ⟨g, 0, none⟩) len capo xs hl (fun h => by cases h) (hoc _ ho6) _ Tryz.underlying9
  have e39 := conv_any (P := Tryz.prog) (w5.alloc (.cells #[.int .i64 c0, .int .i64 c1, .int .u64 c2, .int .u64 c3, .int .i64 c4] 26)) 22 5 Tryz.underlying22 Tryz.underlying5 A len cap xs hl (fun h => (hno h).1) (hcells _ hw6) _ Tryz.underlying9
  clear b5 b6
  go_wp2_with fail
  go_ret
  exact ⟨rfl, hw6⟩
end Go.Proofs.YtfgjlljlgemecaaGreat
