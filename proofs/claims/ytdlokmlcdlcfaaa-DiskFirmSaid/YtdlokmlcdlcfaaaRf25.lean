/- The document's disk: Write. -/
import Derived.Test.YtdlokmlcdlcfaaaRf24
set_option linter.unusedVariables false
set_option linter.unusedSimpArgs false
namespace Go.Proofs.Ytdlokmlcdlcfaaa
open Go.RowKit Go.MapKept
theorem infL : (Try.prog.info? 83).map (fun i => (i.zero, i.size, i.bytes)) = some (some (.agg #[.int .i64 0, .string ⟨#[]⟩]), 2, 24) := by kernel_rfl
theorem run_bsL (w : World) (i : Int) (s : ByteArray) : (Instr.buildSlice 46 1 #[(0, .agg #[.int .i64 i, .string s])]).run Try.prog w = .ok (.slice (some ⟨w.heap.size, 0, none⟩) 1 1) (w.alloc (.cells #[.int .i64 i, .string s] 83)) := by kernel_rfl
theorem rwc_one (x : Int × Sec) : ∀ u ∈ rwc x, u.oneCell' = true := by
  intro u hu
  simp [rwc] at hu
  rcases hu with rfl | rfl <;> rfl
/-- What append leaves, in the box. -/
theorem rapp_leaves {w : World} {R : Nat} {F : Nat → Prop} {fv lv kv : Value} {d : DS} (hM : RefM w R fv lv kv d) (ho : d.ok) (fR : F R) (ff : ∀ b, fv.ownBlock = some b → F b) (fl : ∀ b, lv.ownBlock = some b → F b) (fk : d.keep ≠ [] → ∀ b, kv.ownBlock = some b → F b) (hlt : ∀ k, F k → k < w.heap.size)
    (x : Int × Sec) (hx : x.2.length = 512 ∧ 0 ≤ x.1 ∧ x.1 < d.n) {w5 w6 : World} (hB : Below w.heap.size w w5) {g cap : Nat} (hown : w6.ownsRow 0 83 2 (.slice (some ⟨g, 0, none⟩) (d.loose.length + 1) cap) (d.loose.length + 1) (rcel d.loose ++ rwc x))
    (hgrow : w5.grownBy w6 lv.ownBlock) (hat : lv.ownBlock = some g ∨ w.heap.size ≤ g) (hlg : g < w6.heap.size) :
    RLeaves F w (w6.setCell ⟨R, 1, none⟩ (.slice (some ⟨g, 0, none⟩) (d.loose.length + 1) cap)) R { d with loose := d.loose ++ [x] } := by
  have hon : Only R w6 (w6.setCell ⟨R, 1, none⟩ (.slice (some ⟨g, 0, none⟩) (d.loose.length + 1) cap)) := only_set
  have hRl := hM.lt
  have hRv : lv.ownBlock ≠ some R := fun e => (hM.neL R e).1 rfl
  have hb5 := hB.size
  have hb6 := hgrow.size
  have hst : ∀ k, k < w.heap.size → k ≠ R → lv.ownBlock ≠ some k → (w6.setCell ⟨R, 1, none⟩ (.slice (some ⟨g, 0, none⟩) (d.loose.length + 1) cap)).heap[k]? = w.heap[k]? := fun k hk h1 h2 =>
    (hon.block k h1).trans ((hgrow.block k (by omega) (fun e => h2 e.symm)).trans (hB.block k hk))
  have hR6 : w6.heap[R]? = w.heap[R]? := (hgrow.block R (by omega) (fun e => hRv e.symm)).trans (hB.block R hRl)
  have hgR : g ≠ R := by
    rcases hat with h | h
    · exact (hM.neL g h).1
    · omega
  have hgf : fv.ownBlock ≠ some g := by
    rcases hat with h | h
    · exact (hM.neL g h).2
    · intro e
      have := hlt g (ff g e)
      omega
  have hgk : d.keep ≠ [] → ∀ b, kv.ownBlock = some b → b ≠ g := fun h0 b hb e => by
    rcases hat with h | h
    · exact (hM.neK h0 b hb).2.2 (by rw [h, e])
    · have := hlt b (fk h0 b hb)
      omega
  have hC : Chg F w (w6.setCell ⟨R, 1, none⟩ (.slice (some ⟨g, 0, none⟩) (d.loose.length + 1) cap)) :=
    ⟨hon.os.trans (hgrow.os.trans hB.os), hon.tape.trans (hgrow.tape.trans hB.tape), hon.output.trans (hgrow.output.trans hB.output), by rw [hon.size]; omega, fun k hk hf => hst k hk (fun e => hf (e ▸ fR)) (fun e => hf (fl k e))⟩
  refine ⟨⟨fv, .slice (some ⟨g, 0, none⟩) (d.loose.length + 1) cap, kv, ⟨?_, ?_, ?_, ?_, hM.neF, fun b hb => ?_, fun h0 b hb => ⟨(hM.neK h0 b hb).1, (hM.neK h0 b hb).2.1, fun e => ?_⟩⟩,
    ⟨ho.n, ho.left, fun y hy => ?_, ho.firm⟩, .of fR, fun b hb => .of (ff b hb), fun b hb => ?_, fun h0 b hb => .of (fk h0 b hb), grow_lt hC.size hlt⟩, hC⟩
  · have := box_set (o := 1) (v := .slice (some ⟨g, 0, none⟩) (d.loose.length + 1) cap) (hR6.trans hM.box)
    exact this
  · exact ownsRow_of hM.firm fun b hb => hst b (hlt b (ff b hb)) (hM.neF b hb) (fun e => (hM.neL b e).2 hb)
  · show World.ownsRow _ 0 _ 2 _ (d.loose ++ [x]).length (rcel (d.loose ++ [x]))
    rw [List.length_append, rcel_snoc]
    exact ownsRow_of hown fun b hb => hon.block b (by obtain rfl : g = b := (by simpa [Value.ownBlock] using hb); exact hgR)
  · exact hM.keep.of (by rw [hon.size]; omega) fun h0 b hb => hst b (hlt b (fk (keep_pos h0) b hb)) (hM.neK (keep_pos h0) b hb).1 (hM.neK (keep_pos h0) b hb).2.2
  · obtain rfl : g = b := by simpa [Value.ownBlock] using hb
    exact ⟨hgR, hgf⟩
  · obtain rfl : g = b := by simpa [Value.ownBlock] using e
    exact hgk h0 _ hb rfl
  · rcases List.mem_append.1 hy with h | h
    · exact ho.loose y h
    · obtain rfl : y = x := by simpa using h
      exact hx
  · obtain rfl : g = b := by simpa [Value.ownBlock] using hb
    rcases hat with h | h
    · exact .of (fl _ h)
    · exact .inr ⟨h, by rw [hon.size]; exact hlg⟩
set_option maxRecDepth 100000 in
set_option maxHeartbeats 4000000 in
theorem rwrite_calls {w : World} {R : Nat} {F : Nat → Prop} {d : DS} (h : RefAt w R F d) (hn : d.loose.length ≤ 1000000) (hk : d.keep.length ≤ 140737488355328) (i : Int) (l : List UInt8) (hll : l.length ≤ 9223372036854775807) :
    Calls Try.prog 34 #[.pointer (some ⟨R, 0, none⟩), .int .i64 i, .string (bstr l)] w fun e w' => e = .returned (.int .i64 (d.write i l).1) ∧ RLeaves F w w' R (d.write i l).2 := by
  have hbc := fuse_ref h hn hk
  have hP0 := RLeaves.refl h
  have hlt := h.lt
  have hsz := bstr_size l
  obtain ⟨fv, lv, kv, c0, c1, c2, c3, c4, z, -, -, hfo, hlo⟩ := h.cells
  obtain ⟨A, c, rfl⟩ := hfo
  obtain ⟨N, hN⟩ : ∃ N, d.n.toNat = N := ⟨_, rfl⟩
  have hNn : d.n = (N : Int) := by have := h.ok.n; omega
  rw [hN] at c0
  have hat : d.at_ i = if d.down then 6 else if i < 0 ∨ (N : Int) ≤ i then 1 else 0 := by unfold DS.at_; rw [hNn]
  clear z
  cases hdn : d.down
  · rw [hdn] at c2 hat
    rw [if_neg (by simp)] at hat
    by_cases h0 : i < 0
    · have e : d.write i l = (1, d) := by unfold DS.write; rw [show d.at_ i = 1 by rw [hat, if_pos (.inl h0)], if_pos (by decide)]
      rw [e]
      clear h hbc
      go_enter Try.func34, Try.ntmps34
      go_wp2_with fail
      go_ret
      exact ⟨rfl, hP0⟩
    by_cases h1 : (N : Int) ≤ i
    · have e : d.write i l = (1, d) := by unfold DS.write; rw [show d.at_ i = 1 by rw [hat, if_pos (.inr h1)], if_pos (by decide)]
      rw [e]
      clear h hbc
      go_enter Try.func34, Try.ntmps34
      go_wp2_with fail
      go_ret
      exact ⟨rfl, hP0⟩
    rw [if_neg (by omega)] at hat
    by_cases hl5 : 512 < l.length
    · have e : d.write i l = (1, d) := by unfold DS.write; rw [hat, if_neg (by simp), if_pos hl5]
      rw [e]
      have hl5i : (512 : Int) < (l.length : Int) := by omega
      clear h hbc
      go_enter Try.func34, Try.ntmps34
      go_wp2_with fail
      go_ret
      exact ⟨rfl, hP0⟩
    have hl5i : ¬(512 : Int) < (l.length : Int) := by omega
    by_cases hb : d.burns.1 = true
    · have e : d.write i l = (6, d.burns.2) := by
        unfold DS.write
        rw [hat, if_neg (by simp), if_neg hl5]
        generalize d.burns = p at hb ⊢
        obtain ⟨a, b⟩ := p
        obtain rfl : a = true := hb
        rfl
      rw [e]
      rw [hb] at hbc
      clear h
      go_enter Try.func34, Try.ntmps34
      go_wp2_with (go_at_call 49; refine hbc.mono ?_; rintro e w2 ⟨rfl, hP⟩)
      go_ret
      exact ⟨rfl, hP⟩
    have hb : d.burns.1 = false := by simpa using hb
    obtain ⟨x0, hx0, hx1, hb2⟩ := burns_false hb
    have e : d.write i l = (0, { d with left := x0, loose := d.loose ++ [(i, pad l)] }) := by
      unfold DS.write
      rw [hat, if_neg (by simp), if_neg hl5]
      generalize d.burns = p at hb hb2 ⊢
      obtain ⟨a, b⟩ := p
      obtain rfl : a = false := hb
      obtain rfl : b = _ := hb2
      rfl
    rw [e]
    rw [hb, hb2] at hbc
    have hil := pad_len l (by omega)
    clear h hP0
    go_enter Try.func34, Try.ntmps34
    go_wp2_with fail
    refine hbc.mono ?_
    rintro e w1 ⟨rfl, ⟨fv, lv, kv, hM, ho, fR, ff, fl, fk, hlt1⟩, hC1⟩
    clear c0 c1 c2 c3 c4
    go_wp2_with fail
    obtain ⟨i0, hi, hz0, hz1, hz2⟩ := info_parts infL
    have k1 : w1.cell? ⟨R, 1, none⟩ = some lv := hM.cell.2.1
    have hRl := hM.lt
    have hfr := frozen_row hM.box 1
    refine wp_region_held_drew (S := fun _ => True) (by kernel_rfl) trivial (fun hHeld => ?_)
    refine wpAnyH_take (i := 0) (oi := ⟨_, _, _, _, _, _⟩) (v := .pointer (some ⟨R, 0, none⟩)) rfl (by kernel_rfl) (by kernel_rfl) (by kernel_rfl) (fun _ _ _ h => h) (Or.inl ⟨by rfl, ?_⟩) (by assumption) ?_
    · intro w' hS
      go_simp
    try simp only [Act.put, List.setIfInBounds_toArray, List.set_cons_zero, List.set_cons_succ]
    refine wpAnyH_take (i := 1) (oi := ⟨_, _, _, _, _, _⟩) (v := .pointer (some ⟨R, 0, none⟩)) rfl (by kernel_rfl) (by kernel_rfl) (by kernel_rfl) (fun _ _ _ h => h) (Or.inl ⟨by rfl, ?_⟩) (by assumption) ?_
    · intro w' hS
      go_simp
    try simp only [Act.put, List.setIfInBounds_toArray, List.set_cons_zero, List.set_cons_succ]
    refine wpAnyH_take (i := 2) (oi := ⟨_, _, _, _, _, _⟩) (v := .pointer (some ⟨R, 0, none⟩)) rfl (by kernel_rfl) (by kernel_rfl) (by kernel_rfl) (fun _ _ _ h => h) (Or.inl ⟨by rfl, ?_⟩) (by assumption) ?_
    · intro w' hS
      go_simp
    try simp only [Act.put, List.setIfInBounds_toArray, List.set_cons_zero, List.set_cons_succ]
    refine wpAnyH_take (i := 3) (oi := ⟨_, _, _, _, _, _⟩) (v := .pointer (some ⟨R, 1, none⟩)) rfl (by kernel_rfl) (by kernel_rfl) (by kernel_rfl) (fun _ _ _ h => h) (Or.inl ⟨by rfl, ?_⟩) (by assumption) ?_
    · intro w' hS
      go_simp
    try simp only [Act.put, List.setIfInBounds_toArray, List.set_cons_zero, List.set_cons_succ]
    refine wpAnyH_take (i := 5) (oi := ⟨_, _, _, _, _, _⟩) (v := .int .i64 i) rfl (by kernel_rfl) (by kernel_rfl) (by kernel_rfl) (fun _ _ _ h => h) (Or.inl ⟨by rfl, ?_⟩) (by assumption) ?_
    · intro w' hS
      go_simp
    try simp only [Act.put, List.setIfInBounds_toArray, List.set_cons_zero, List.set_cons_succ]
    refine wpAnyH_take (i := 6) (oi := ⟨_, _, _, _, _, _⟩) (v := .string (bstr l)) rfl (by kernel_rfl) (by kernel_rfl) (by kernel_rfl) (fun _ _ _ h => h) (Or.inl ⟨by rfl, ?_⟩) (by assumption) ?_
    · intro w' hS
      go_simp
    try simp only [Act.put, List.setIfInBounds_toArray, List.set_cons_zero, List.set_cons_succ]
    refine wpAnyH_ready (rs := [4, 7]) (by kernel_rfl) (by simp) ?_
    refine AllReadyH.cons (o := ⟨_, _, _, _, _, _⟩) rfl (fun K hK => ?_) (AllReadyH.cons (o := ⟨_, _, _, _, _, _⟩) rfl (fun K hK => ?_) AllReadyH.nil)
    · go_simp
      refine hK.out _ _ trivial (fun hHeld => ?_)
      clear hK K
      try simp only [Act.put, List.setIfInBounds_toArray, List.set_cons_zero, List.set_cons_succ]
      refine wpAnyH_ready (rs := [7]) (by kernel_rfl) (by simp) ?_
      refine AllReadyH.cons (o := ⟨_, _, _, _, _, _⟩) rfl (fun K hK => ?_) AllReadyH.nil
      go_simp
      refine (sector_calls _ l (by omega)).mono ?_
      rintro e w2 ⟨rfl, hB2⟩
      have n1 : w2.cell? ⟨R, 1, none⟩ = some lv := (hB2.cell (p := ⟨R, 1, none⟩) hRl).trans k1
      have hB3 : Below w1.heap.size w1 (w2.alloc (.cells #[.int .i64 i, .string (bstr (pad l))] 83)) := ((Below.refl _ w1).drew.trans hB2).alloc hB2.size _
      have n3 : (w2.alloc (.cells #[.int .i64 i, .string (bstr (pad l))] 83)).cell? ⟨R, 1, none⟩ = some lv := (hB3.cell (p := ⟨R, 1, none⟩) hRl).trans k1
      have hoB : (w2.alloc (.cells #[.int .i64 i, .string (bstr (pad l))] 83)).ownsRow 0 83 2 lv d.loose.length (rcel d.loose) := ownsRow_of hM.loose fun b hb => hB3.block b (hlt1 b (fl b hb))
      refine hK.out _ _ trivial (fun hHeld => ?_)
      clear hK K
      try simp only [Act.put, List.setIfInBounds_toArray, List.set_cons_zero, List.set_cons_succ]
      refine wpAnyH_ready (rs := [8]) (by kernel_rfl) (by simp) ?_
      refine AllReadyH.cons (o := ⟨_, _, _, _, _, _⟩) rfl (fun K hK => ?_) AllReadyH.nil
      go_simp
      refine hK.out _ _ trivial (fun hHeld => ?_)
      clear hK K
      try simp only [Act.put, List.setIfInBounds_toArray, List.set_cons_zero, List.set_cons_succ]
      refine wpAnyH_ready (rs := [9]) (by kernel_rfl) (by simp) ?_
      refine AllReadyH.cons (o := ⟨_, _, _, _, _, _⟩) rfl (fun K hK => ?_) AllReadyH.nil
      go_simp
      refine hK.out _ _ trivial (fun hHeld => ?_)
      clear hK K
      try simp only [Act.put, List.setIfInBounds_toArray, List.set_cons_zero, List.set_cons_succ]
      refine wpAnyH_ready (rs := [10]) (by kernel_rfl) (by simp) ?_
      refine AllReadyH.cons (o := ⟨_, _, _, _, _, _⟩) rfl (fun K hK => ?_) AllReadyH.nil
      refine step_append_lies _ (by rfl) _ _ _ (by rfl) 0 83 i0 (.agg #[.int .i64 0, .string ⟨#[]⟩]) 2 24 Try.underlying46 hi hz0 hz1 hz2 rfl (by decide) lv d.loose.length (rcel d.loose) (by rfl) hoB ⟨w2.heap.size, 0, none⟩ 1 1 (rwc (i, pad l)) (by rfl) rfl (World.news_of_block (heap_alloc_new w2 _)) (rwc_one _) (by decide) (by simp only [maxLen]; omega) (by omega) (Nat.zero_le _) _ rfl ?_
      intro g cap w6 hown hgrow hat2 hlt2
      have m0 : w6.cell? ⟨R, 1, none⟩ = some lv := (hgrow.cell_far ⟨R, 1, none⟩ (Nat.lt_of_lt_of_le hRl hB3.size) (fun e => (hM.neL R e.symm).1 rfl)).trans n3
      have m1 : w6.frozen? ⟨R, 1, none⟩ = false := (hgrow.frozen_far ⟨R, 1, none⟩ (Nat.lt_of_lt_of_le hRl hB3.size) (fun e => (hM.neL R e.symm).1 rfl)).trans ((World.frozen?_of_block (hB3.block R hRl)).trans hfr)
      refine hK.out _ _ trivial (fun hHeld => ?_)
      clear hK K
      try simp only [Act.put, List.setIfInBounds_toArray, List.set_cons_zero, List.set_cons_succ]
      refine wpAnyH_ready (rs := [11]) (by kernel_rfl) (by simp) ?_
      refine AllReadyH.cons (o := ⟨_, _, _, _, _, _⟩) rfl (fun K hK => ?_) AllReadyH.nil
      go_simp
      refine hK.out _ _ trivial (fun hHeld => ?_)
      clear hK K
      try simp only [Act.put, List.setIfInBounds_toArray, List.set_cons_zero, List.set_cons_succ]
      refine wpAnyH_ready (rs := [12]) (by kernel_rfl) (by simp) ?_
      refine AllReadyH.cons (o := ⟨_, _, _, _, _, _⟩) rfl (fun K hK => ?_) AllReadyH.nil
      go_simp
      refine hK.out _ _ trivial (fun hHeld => ?_)
      clear hK K
      try simp only [Act.put, List.setIfInBounds_toArray, List.set_cons_zero, List.set_cons_succ]
      refine wpAnyH_ready (rs := [13]) (by kernel_rfl) (by simp) ?_
      refine AllReadyH.cons (o := ⟨_, _, _, _, _, _⟩) rfl (fun K hK => ?_) AllReadyH.nil
      go_simp
      refine hK.out _ _ trivial (fun hHeld => ?_)
      clear hK K
      try simp only [Act.put, List.setIfInBounds_toArray, List.set_cons_zero, List.set_cons_succ]
      refine wpAnyH_done (by kernel_rfl) ?_ _
      have hs3 := hB3.size
      have hat3 : lv.ownBlock = some g ∨ w1.heap.size ≤ g := hat2.elim .inl fun e => .inr (by rw [e]; exact hs3)
      have hP := RLeaves.trans hlt hC1 (fun _ h => h) (rapp_leaves hM ho fR ff fl fk hlt1 (i, pad l) ⟨hil, show 0 ≤ i by omega, show i < d.n by omega⟩ hB3 hown hgrow hat3 hlt2)
      rw [hdn, hNn] at hP
      go_wp2_with fail
      go_ret
      exact ⟨rfl, hP⟩
    · go_simp
      refine (sector_calls _ l (by omega)).mono ?_
      rintro e w2 ⟨rfl, hB2⟩
      have n1 : w2.cell? ⟨R, 1, none⟩ = some lv := (hB2.cell (p := ⟨R, 1, none⟩) hRl).trans k1
      have hB3 : Below w1.heap.size w1 (w2.alloc (.cells #[.int .i64 i, .string (bstr (pad l))] 83)) := ((Below.refl _ w1).drew.trans hB2).alloc hB2.size _
      have n3 : (w2.alloc (.cells #[.int .i64 i, .string (bstr (pad l))] 83)).cell? ⟨R, 1, none⟩ = some lv := (hB3.cell (p := ⟨R, 1, none⟩) hRl).trans k1
      have hoB : (w2.alloc (.cells #[.int .i64 i, .string (bstr (pad l))] 83)).ownsRow 0 83 2 lv d.loose.length (rcel d.loose) := ownsRow_of hM.loose fun b hb => hB3.block b (hlt1 b (fl b hb))
      refine hK.out _ _ trivial (fun hHeld => ?_)
      clear hK K
      try simp only [Act.put, List.setIfInBounds_toArray, List.set_cons_zero, List.set_cons_succ]
      refine wpAnyH_ready (rs := [4, 8]) (by kernel_rfl) (by simp) ?_
      refine AllReadyH.cons (o := ⟨_, _, _, _, _, _⟩) rfl (fun K hK => ?_) (AllReadyH.cons (o := ⟨_, _, _, _, _, _⟩) rfl (fun K hK => ?_) AllReadyH.nil)
      · go_simp
        refine hK.out _ _ trivial (fun hHeld => ?_)
        clear hK K
        try simp only [Act.put, List.setIfInBounds_toArray, List.set_cons_zero, List.set_cons_succ]
        refine wpAnyH_ready (rs := [8]) (by kernel_rfl) (by simp) ?_
        refine AllReadyH.cons (o := ⟨_, _, _, _, _, _⟩) rfl (fun K hK => ?_) AllReadyH.nil
        go_simp
        refine hK.out _ _ trivial (fun hHeld => ?_)
        clear hK K
        try simp only [Act.put, List.setIfInBounds_toArray, List.set_cons_zero, List.set_cons_succ]
        refine wpAnyH_ready (rs := [9]) (by kernel_rfl) (by simp) ?_
        refine AllReadyH.cons (o := ⟨_, _, _, _, _, _⟩) rfl (fun K hK => ?_) AllReadyH.nil
        go_simp
        refine hK.out _ _ trivial (fun hHeld => ?_)
        clear hK K
        try simp only [Act.put, List.setIfInBounds_toArray, List.set_cons_zero, List.set_cons_succ]
        refine wpAnyH_ready (rs := [10]) (by kernel_rfl) (by simp) ?_
        refine AllReadyH.cons (o := ⟨_, _, _, _, _, _⟩) rfl (fun K hK => ?_) AllReadyH.nil
        refine step_append_lies _ (by rfl) _ _ _ (by rfl) 0 83 i0 (.agg #[.int .i64 0, .string ⟨#[]⟩]) 2 24 Try.underlying46 hi hz0 hz1 hz2 rfl (by decide) lv d.loose.length (rcel d.loose) (by rfl) hoB ⟨w2.heap.size, 0, none⟩ 1 1 (rwc (i, pad l)) (by rfl) rfl (World.news_of_block (heap_alloc_new w2 _)) (rwc_one _) (by decide) (by simp only [maxLen]; omega) (by omega) (Nat.zero_le _) _ rfl ?_
        intro g cap w6 hown hgrow hat2 hlt2
        have m0 : w6.cell? ⟨R, 1, none⟩ = some lv := (hgrow.cell_far ⟨R, 1, none⟩ (Nat.lt_of_lt_of_le hRl hB3.size) (fun e => (hM.neL R e.symm).1 rfl)).trans n3
        have m1 : w6.frozen? ⟨R, 1, none⟩ = false := (hgrow.frozen_far ⟨R, 1, none⟩ (Nat.lt_of_lt_of_le hRl hB3.size) (fun e => (hM.neL R e.symm).1 rfl)).trans ((World.frozen?_of_block (hB3.block R hRl)).trans hfr)
        refine hK.out _ _ trivial (fun hHeld => ?_)
        clear hK K
        try simp only [Act.put, List.setIfInBounds_toArray, List.set_cons_zero, List.set_cons_succ]
        refine wpAnyH_ready (rs := [11]) (by kernel_rfl) (by simp) ?_
        refine AllReadyH.cons (o := ⟨_, _, _, _, _, _⟩) rfl (fun K hK => ?_) AllReadyH.nil
        go_simp
        refine hK.out _ _ trivial (fun hHeld => ?_)
        clear hK K
        try simp only [Act.put, List.setIfInBounds_toArray, List.set_cons_zero, List.set_cons_succ]
        refine wpAnyH_ready (rs := [12]) (by kernel_rfl) (by simp) ?_
        refine AllReadyH.cons (o := ⟨_, _, _, _, _, _⟩) rfl (fun K hK => ?_) AllReadyH.nil
        go_simp
        refine hK.out _ _ trivial (fun hHeld => ?_)
        clear hK K
        try simp only [Act.put, List.setIfInBounds_toArray, List.set_cons_zero, List.set_cons_succ]
        refine wpAnyH_ready (rs := [13]) (by kernel_rfl) (by simp) ?_
        refine AllReadyH.cons (o := ⟨_, _, _, _, _, _⟩) rfl (fun K hK => ?_) AllReadyH.nil
        go_simp
        refine hK.out _ _ trivial (fun hHeld => ?_)
        clear hK K
        try simp only [Act.put, List.setIfInBounds_toArray, List.set_cons_zero, List.set_cons_succ]
        refine wpAnyH_done (by kernel_rfl) ?_ _
        have hs3 := hB3.size
        have hat3 : lv.ownBlock = some g ∨ w1.heap.size ≤ g := hat2.elim .inl fun e => .inr (by rw [e]; exact hs3)
        have hP := RLeaves.trans hlt hC1 (fun _ h => h) (rapp_leaves hM ho fR ff fl fk hlt1 (i, pad l) ⟨hil, show 0 ≤ i by omega, show i < d.n by omega⟩ hB3 hown hgrow hat3 hlt2)
        rw [hdn, hNn] at hP
        go_wp2_with fail
        go_ret
        exact ⟨rfl, hP⟩
      · go_simp
        refine hK.out _ _ trivial (fun hHeld => ?_)
        clear hK K
        try simp only [Act.put, List.setIfInBounds_toArray, List.set_cons_zero, List.set_cons_succ]
        refine wpAnyH_ready (rs := [4, 9]) (by kernel_rfl) (by simp) ?_
        refine AllReadyH.cons (o := ⟨_, _, _, _, _, _⟩) rfl (fun K hK => ?_) (AllReadyH.cons (o := ⟨_, _, _, _, _, _⟩) rfl (fun K hK => ?_) AllReadyH.nil)
        · go_simp
          refine hK.out _ _ trivial (fun hHeld => ?_)
          clear hK K
          try simp only [Act.put, List.setIfInBounds_toArray, List.set_cons_zero, List.set_cons_succ]
          refine wpAnyH_ready (rs := [9]) (by kernel_rfl) (by simp) ?_
          refine AllReadyH.cons (o := ⟨_, _, _, _, _, _⟩) rfl (fun K hK => ?_) AllReadyH.nil
          go_simp
          refine hK.out _ _ trivial (fun hHeld => ?_)
          clear hK K
          try simp only [Act.put, List.setIfInBounds_toArray, List.set_cons_zero, List.set_cons_succ]
          refine wpAnyH_ready (rs := [10]) (by kernel_rfl) (by simp) ?_
          refine AllReadyH.cons (o := ⟨_, _, _, _, _, _⟩) rfl (fun K hK => ?_) AllReadyH.nil
          refine step_append_lies _ (by rfl) _ _ _ (by rfl) 0 83 i0 (.agg #[.int .i64 0, .string ⟨#[]⟩]) 2 24 Try.underlying46 hi hz0 hz1 hz2 rfl (by decide) lv d.loose.length (rcel d.loose) (by rfl) hoB ⟨w2.heap.size, 0, none⟩ 1 1 (rwc (i, pad l)) (by rfl) rfl (World.news_of_block (heap_alloc_new w2 _)) (rwc_one _) (by decide) (by simp only [maxLen]; omega) (by omega) (Nat.zero_le _) _ rfl ?_
          intro g cap w6 hown hgrow hat2 hlt2
          have m0 : w6.cell? ⟨R, 1, none⟩ = some lv := (hgrow.cell_far ⟨R, 1, none⟩ (Nat.lt_of_lt_of_le hRl hB3.size) (fun e => (hM.neL R e.symm).1 rfl)).trans n3
          have m1 : w6.frozen? ⟨R, 1, none⟩ = false := (hgrow.frozen_far ⟨R, 1, none⟩ (Nat.lt_of_lt_of_le hRl hB3.size) (fun e => (hM.neL R e.symm).1 rfl)).trans ((World.frozen?_of_block (hB3.block R hRl)).trans hfr)
          refine hK.out _ _ trivial (fun hHeld => ?_)
          clear hK K
          try simp only [Act.put, List.setIfInBounds_toArray, List.set_cons_zero, List.set_cons_succ]
          refine wpAnyH_ready (rs := [11]) (by kernel_rfl) (by simp) ?_
          refine AllReadyH.cons (o := ⟨_, _, _, _, _, _⟩) rfl (fun K hK => ?_) AllReadyH.nil
          go_simp
          refine hK.out _ _ trivial (fun hHeld => ?_)
          clear hK K
          try simp only [Act.put, List.setIfInBounds_toArray, List.set_cons_zero, List.set_cons_succ]
          refine wpAnyH_ready (rs := [12]) (by kernel_rfl) (by simp) ?_
          refine AllReadyH.cons (o := ⟨_, _, _, _, _, _⟩) rfl (fun K hK => ?_) AllReadyH.nil
          go_simp
          refine hK.out _ _ trivial (fun hHeld => ?_)
          clear hK K
          try simp only [Act.put, List.setIfInBounds_toArray, List.set_cons_zero, List.set_cons_succ]
          refine wpAnyH_ready (rs := [13]) (by kernel_rfl) (by simp) ?_
          refine AllReadyH.cons (o := ⟨_, _, _, _, _, _⟩) rfl (fun K hK => ?_) AllReadyH.nil
          go_simp
          refine hK.out _ _ trivial (fun hHeld => ?_)
          clear hK K
          try simp only [Act.put, List.setIfInBounds_toArray, List.set_cons_zero, List.set_cons_succ]
          refine wpAnyH_done (by kernel_rfl) ?_ _
          have hs3 := hB3.size
          have hat3 : lv.ownBlock = some g ∨ w1.heap.size ≤ g := hat2.elim .inl fun e => .inr (by rw [e]; exact hs3)
          have hP := RLeaves.trans hlt hC1 (fun _ h => h) (rapp_leaves hM ho fR ff fl fk hlt1 (i, pad l) ⟨hil, show 0 ≤ i by omega, show i < d.n by omega⟩ hB3 hown hgrow hat3 hlt2)
          rw [hdn, hNn] at hP
          go_wp2_with fail
          go_ret
          exact ⟨rfl, hP⟩
        · go_simp
          refine hK.out _ _ trivial (fun hHeld => ?_)
          clear hK K
          try simp only [Act.put, List.setIfInBounds_toArray, List.set_cons_zero, List.set_cons_succ]
          refine wpAnyH_ready (rs := [4]) (by kernel_rfl) (by simp) ?_
          refine AllReadyH.cons (o := ⟨_, _, _, _, _, _⟩) rfl (fun K hK => ?_) AllReadyH.nil
          go_simp
          refine hK.out _ _ trivial (fun hHeld => ?_)
          clear hK K
          try simp only [Act.put, List.setIfInBounds_toArray, List.set_cons_zero, List.set_cons_succ]
          refine wpAnyH_ready (rs := [10]) (by kernel_rfl) (by simp) ?_
          refine AllReadyH.cons (o := ⟨_, _, _, _, _, _⟩) rfl (fun K hK => ?_) AllReadyH.nil
          refine step_append_lies _ (by rfl) _ _ _ (by rfl) 0 83 i0 (.agg #[.int .i64 0, .string ⟨#[]⟩]) 2 24 Try.underlying46 hi hz0 hz1 hz2 rfl (by decide) lv d.loose.length (rcel d.loose) (by rfl) hoB ⟨w2.heap.size, 0, none⟩ 1 1 (rwc (i, pad l)) (by rfl) rfl (World.news_of_block (heap_alloc_new w2 _)) (rwc_one _) (by decide) (by simp only [maxLen]; omega) (by omega) (Nat.zero_le _) _ rfl ?_
          intro g cap w6 hown hgrow hat2 hlt2
          have m0 : w6.cell? ⟨R, 1, none⟩ = some lv := (hgrow.cell_far ⟨R, 1, none⟩ (Nat.lt_of_lt_of_le hRl hB3.size) (fun e => (hM.neL R e.symm).1 rfl)).trans n3
          have m1 : w6.frozen? ⟨R, 1, none⟩ = false := (hgrow.frozen_far ⟨R, 1, none⟩ (Nat.lt_of_lt_of_le hRl hB3.size) (fun e => (hM.neL R e.symm).1 rfl)).trans ((World.frozen?_of_block (hB3.block R hRl)).trans hfr)
          refine hK.out _ _ trivial (fun hHeld => ?_)
          clear hK K
          try simp only [Act.put, List.setIfInBounds_toArray, List.set_cons_zero, List.set_cons_succ]
          refine wpAnyH_ready (rs := [11]) (by kernel_rfl) (by simp) ?_
          refine AllReadyH.cons (o := ⟨_, _, _, _, _, _⟩) rfl (fun K hK => ?_) AllReadyH.nil
          go_simp
          refine hK.out _ _ trivial (fun hHeld => ?_)
          clear hK K
          try simp only [Act.put, List.setIfInBounds_toArray, List.set_cons_zero, List.set_cons_succ]
          refine wpAnyH_ready (rs := [12]) (by kernel_rfl) (by simp) ?_
          refine AllReadyH.cons (o := ⟨_, _, _, _, _, _⟩) rfl (fun K hK => ?_) AllReadyH.nil
          go_simp
          refine hK.out _ _ trivial (fun hHeld => ?_)
          clear hK K
          try simp only [Act.put, List.setIfInBounds_toArray, List.set_cons_zero, List.set_cons_succ]
          refine wpAnyH_ready (rs := [13]) (by kernel_rfl) (by simp) ?_
          refine AllReadyH.cons (o := ⟨_, _, _, _, _, _⟩) rfl (fun K hK => ?_) AllReadyH.nil
          go_simp
          refine hK.out _ _ trivial (fun hHeld => ?_)
          clear hK K
          try simp only [Act.put, List.setIfInBounds_toArray, List.set_cons_zero, List.set_cons_succ]
          refine wpAnyH_done (by kernel_rfl) ?_ _
          have hs3 := hB3.size
          have hat3 : lv.ownBlock = some g ∨ w1.heap.size ≤ g := hat2.elim .inl fun e => .inr (by rw [e]; exact hs3)
          have hP := RLeaves.trans hlt hC1 (fun _ h => h) (rapp_leaves hM ho fR ff fl fk hlt1 (i, pad l) ⟨hil, show 0 ≤ i by omega, show i < d.n by omega⟩ hB3 hown hgrow hat3 hlt2)
          rw [hdn, hNn] at hP
          go_wp2_with fail
          go_ret
          exact ⟨rfl, hP⟩
  · have e : d.write i l = (6, d) := by unfold DS.write; rw [hat, hdn]; rfl
    rw [e]
    rw [hdn] at c2
    clear h hbc
    go_enter Try.func34, Try.ntmps34
    go_wp2_with fail
    go_ret
    exact ⟨rfl, hP0⟩
end Go.Proofs.Ytdlokmlcdlcfaaa
