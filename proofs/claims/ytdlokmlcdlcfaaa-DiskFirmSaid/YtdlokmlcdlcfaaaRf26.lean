/- The document's disk: New. -/
import Derived.Test.YtdlokmlcdlcfaaaRf25
set_option linter.unusedVariables false
set_option linter.unusedSimpArgs false
namespace Go.Proofs.Ytdlokmlcdlcfaaa
open Go.RowKit Go.MapKept
theorem infs : (Try.prog.info? 9).map (fun i => (i.zero, i.size, i.bytes)) = some (some (.string ⟨#[]⟩), 1, 16) := by kernel_rfl
theorem pad_nil : pad [] = zeros := rfl
theorem sector0 (w : World) : Calls Try.prog 33 #[.string ⟨#[]⟩] w fun e w' => e = .returned (.string (bstr zeros)) ∧ Below w.heap.size w w' := by
  rw [← pad_nil]
  exact sector_calls w [] (by decide)
theorem fcel_snoc (k : Nat) : (fcel k fun _ => zeros) ++ [.string (bstr zeros)] = fcel (k + 1) fun _ => zeros := by
  unfold fcel
  rw [List.range_succ, List.map_append]
  rfl
/-- So many sectors are laid. -/
def Laid (w wr : World) (R k : Nat) (fv : Value) : Prop :=
  wr.heap[R]? = some (.cells #[fv, .slice none 0 0, .bool false, .int .i64 0, .slice none 0 0] 48) ∧ wr.ownsRow 0 9 1 fv k (fcel k fun _ => zeros) ∧ (∀ b, fv.ownBlock = some b → R < b ∧ b < wr.heap.size) ∧ Below w.heap.size w wr
theorem rnew_step {w wr w5 w6 : World} {R k g cap : Nat} {fv : Value} (hbox : wr.heap[R]? = some (.cells #[fv, .slice none 0 0, .bool false, .int .i64 0, .slice none 0 0] 48))
    (hBw : Below w.heap.size w wr) (hR : w.heap.size = R) (hfv : ∀ b, fv.ownBlock = some b → R < b ∧ b < wr.heap.size) (hB : Below wr.heap.size wr w5)
    (hown : w6.ownsRow 0 9 1 (.slice (some ⟨g, 0, none⟩) (k + 1) cap) (k + 1) ((fcel k fun _ => zeros) ++ [.string (bstr zeros)])) (hgrow : w5.grownBy w6 fv.ownBlock) (hat : fv.ownBlock = some g ∨ wr.heap.size ≤ g) (hlg : g < w6.heap.size) :
    Laid w (w6.setCell ⟨R, 0, none⟩ (.slice (some ⟨g, 0, none⟩) (k + 1) cap)) R (k + 1) (.slice (some ⟨g, 0, none⟩) (k + 1) cap) := by
  have hon : Only R w6 (w6.setCell ⟨R, 0, none⟩ (.slice (some ⟨g, 0, none⟩) (k + 1) cap)) := only_set
  have hRl : R < wr.heap.size := (Array.getElem?_eq_some_iff.1 hbox).1
  have hb5 := hB.size
  have hb6 := hgrow.size
  have hbw := hBw.size
  have hRf : some R ≠ fv.ownBlock := fun e => by have := (hfv R e.symm).1; omega
  have hgR : R < g := by
    rcases hat with h | h
    · exact (hfv g h).1
    · omega
  have hR6 := (hgrow.block R (by omega) hRf).trans (hB.block R hRl)
  refine ⟨box_set (hR6.trans hbox), ?_, fun b hb => ?_, ?_⟩
  · rw [fcel_snoc] at hown
    exact ownsRow_of hown fun b hb => hon.block b (by obtain rfl : g = b := (by simpa [Value.ownBlock] using hb); omega)
  · obtain rfl : g = b := by simpa [Value.ownBlock] using hb
    exact ⟨hgR, by rw [hon.size]; exact hlg⟩
  · refine hBw.trans ((hB.mono hbw).trans ⟨hon.os.trans hgrow.os, hon.tape.trans hgrow.tape, hon.output.trans hgrow.output, by rw [hon.size]; omega, fun j hj => ?_⟩)
    exact (hon.block j (by omega)).trans (hgrow.block j (by omega) fun e => by have := (hfv j e.symm).1; omega)
theorem rnew_none (w : World) (n : Int) (h : n < 1 ∨ 4096 < n) :
    Calls Try.prog 15 #[.int .i64 n] w fun e w' => e = .returned (.pointer none) ∧ w' = w := by
  rcases h with h | h
  · go_enter Try.func15, Try.ntmps15
    go_wp2
    go_ret
    exact ⟨rfl, rfl⟩
  · by_cases h1 : n < 1
    · omega
    · go_enter Try.func15, Try.ntmps15
      go_wp2
      go_ret
      exact ⟨rfl, rfl⟩
set_option maxRecDepth 100000 in
set_option maxHeartbeats 4000000 in
theorem rnew_calls (w : World) (n : Int) (h : 1 ≤ n ∧ n ≤ 4096) :
    Calls Try.prog 15 #[.int .i64 n] w fun e w' => e = .returned (.pointer (some ⟨w.heap.size, 0, none⟩)) ∧ RefAt w' w.heap.size (Grow (fun _ => False) w w') (DS.new n) ∧ Below w.heap.size w w' := by
  obtain ⟨i0, hi, hz0, hz1, hz2⟩ := info_parts infs
  have h0 : ¬n < 1 := by omega
  have h1 : ¬(4096 : Int) < n := by omega
  obtain ⟨N, hN⟩ : ∃ N : Nat, n = (N : Int) := ⟨n.toNat, by omega⟩
  subst hN
  obtain ⟨R, hR⟩ : ∃ R, w.heap.size = R := ⟨_, rfl⟩
  have hL0 : Laid w (w.alloc (.cells #[.slice none 0 0, .slice none 0 0, .bool false, .int .i64 0, .slice none 0 0] 48)) R 0 (.slice none 0 0) :=
    ⟨by rw [← hR]; exact heap_alloc_new w _, World.ownsRow_nil _ _ _ _, fun b hb => (by cases hb), below_alloc _ _⟩
  go_enter Try.func15, Try.ntmps15
  go_wp2_with fail
  go_loopw [4] (fun i wr => ∃ k : Nat, k ≤ N ∧ i = .int .i64 (k : Int) ∧ ∃ fv, Laid w wr R k fv) (fun i _ => N - (intOf i).toNat)
  case atStart => exact ⟨0, Nat.zero_le _, rfl, _, hL0⟩
  case round =>
    obtain ⟨k, hk, rfl, fv, hbox, hrow, hfv, hBw⟩ := hrel
    by_cases hkl : k < N
    · have hki : (k : Int) < (N : Int) := by omega
      have hk0 : (0 : Int) ≤ (k : Int) := by omega
      have hRl : R < wr.heap.size := (Array.getElem?_eq_some_iff.1 hbox).1
      have hRf : some R ≠ fv.ownBlock := fun e => by have := (hfv R e.symm).1; omega
      have k1 : wr.cell? ⟨R, 0, none⟩ = some fv := cell_of_row wr R 0 _ _ _ hbox
      have hfr := frozen_row hbox 0
      go_wp2_with fail
      refine wp_region_held_drew (S := fun _ => True) (by kernel_rfl) trivial (fun hHeld => ?_)
      refine wpAnyH_take (i := 0) (oi := ⟨_, _, _, _, _, _⟩) (v := .pointer (some ⟨R, 0, none⟩)) rfl (by kernel_rfl) (by kernel_rfl) (by kernel_rfl) (fun _ _ _ h => h) (Or.inl ⟨by rfl, ?_⟩) (by assumption) ?_
      · intro w' hS
        go_simp
      try simp only [Act.put, List.setIfInBounds_toArray, List.set_cons_zero, List.set_cons_succ]
      refine wpAnyH_take (i := 1) (oi := ⟨_, _, _, _, _, _⟩) (v := .pointer (some ⟨R, 0, none⟩)) rfl (by kernel_rfl) (by kernel_rfl) (by kernel_rfl) (fun _ _ _ h => h) (Or.inl ⟨by rfl, ?_⟩) (by assumption) ?_
      · intro w' hS
        go_simp
      try simp only [Act.put, List.setIfInBounds_toArray, List.set_cons_zero, List.set_cons_succ]
      refine wpAnyH_take (i := 2) (oi := ⟨_, _, _, _, _, _⟩) (v := .pointer (some ⟨R, 0, none⟩)) rfl (by kernel_rfl) (by kernel_rfl) (by kernel_rfl) (fun _ _ _ h => h) (Or.inl ⟨by rfl, ?_⟩) (by assumption) ?_
      · intro w' hS
        go_simp
      try simp only [Act.put, List.setIfInBounds_toArray, List.set_cons_zero, List.set_cons_succ]
      refine wpAnyH_take (i := 3) (oi := ⟨_, _, _, _, _, _⟩) (v := .pointer (some ⟨R, 0, none⟩)) rfl (by kernel_rfl) (by kernel_rfl) (by kernel_rfl) (fun _ _ _ h => h) (Or.inl ⟨by rfl, ?_⟩) (by assumption) ?_
      · intro w' hS
        go_simp
      try simp only [Act.put, List.setIfInBounds_toArray, List.set_cons_zero, List.set_cons_succ]
      refine wpAnyH_ready (rs := [4, 5]) (by kernel_rfl) (by simp) ?_
      refine AllReadyH.cons (o := ⟨_, _, _, _, _, _⟩) rfl (fun K hK => ?_) (AllReadyH.cons (o := ⟨_, _, _, _, _, _⟩) rfl (fun K hK => ?_) AllReadyH.nil)
      · go_simp
        refine hK.out _ _ trivial (fun hHeld => ?_)
        clear hK K
        try simp only [Act.put, List.setIfInBounds_toArray, List.set_cons_zero, List.set_cons_succ]
        refine wpAnyH_ready (rs := [5]) (by kernel_rfl) (by simp) ?_
        refine AllReadyH.cons (o := ⟨_, _, _, _, _, _⟩) rfl (fun K hK => ?_) AllReadyH.nil
        go_simp
        refine (sector0 _).mono ?_
        rintro e w2 ⟨rfl, hB2⟩
        have hB2 : Below wr.heap.size wr w2 := (Below.refl _ wr).drew.trans hB2
        have n1 : w2.cell? ⟨R, 0, none⟩ = some fv := (hB2.cell (p := ⟨R, 0, none⟩) hRl).trans k1
        have hB3 : Below wr.heap.size wr (w2.alloc (.cells #[.string (bstr zeros)] 9)) := hB2.alloc hB2.size _
        have n3 : (w2.alloc (.cells #[.string (bstr zeros)] 9)).cell? ⟨R, 0, none⟩ = some fv := (hB3.cell (p := ⟨R, 0, none⟩) hRl).trans k1
        have hoB : (w2.alloc (.cells #[.string (bstr zeros)] 9)).ownsRow 0 9 1 fv k (fcel k fun _ => zeros) := ownsRow_of hrow fun b hb => hB3.block b (hfv b hb).2
        refine hK.out _ _ trivial (fun hHeld => ?_)
        clear hK K
        try simp only [Act.put, List.setIfInBounds_toArray, List.set_cons_zero, List.set_cons_succ]
        refine wpAnyH_ready (rs := [6]) (by kernel_rfl) (by simp) ?_
        refine AllReadyH.cons (o := ⟨_, _, _, _, _, _⟩) rfl (fun K hK => ?_) AllReadyH.nil
        go_simp
        refine hK.out _ _ trivial (fun hHeld => ?_)
        clear hK K
        try simp only [Act.put, List.setIfInBounds_toArray, List.set_cons_zero, List.set_cons_succ]
        refine wpAnyH_ready (rs := [7]) (by kernel_rfl) (by simp) ?_
        refine AllReadyH.cons (o := ⟨_, _, _, _, _, _⟩) rfl (fun K hK => ?_) AllReadyH.nil
        refine step_append_lies _ (by rfl) _ _ _ (by rfl) 0 9 i0 (.string ⟨#[]⟩) 1 16 Try.underlying41 hi hz0 hz1 hz2 rfl (by decide) fv k (fcel k fun _ => zeros) (by rfl) hoB ⟨w2.heap.size, 0, none⟩ 1 1 [.string (bstr zeros)] (by rfl) rfl (World.news_of_block (heap_alloc_new w2 _)) (by intro u hu; obtain rfl : u = _ := List.mem_singleton.1 hu; rfl) (by decide) (by simp only [maxLen]; omega) (by omega) (Nat.zero_le _) _ rfl ?_
        intro g cap w6 hown hgrow hat2 hlt2
        have m0 : w6.cell? ⟨R, 0, none⟩ = some fv := (hgrow.cell_far ⟨R, 0, none⟩ (Nat.lt_of_lt_of_le hRl hB3.size) hRf).trans n3
        have m1 : w6.frozen? ⟨R, 0, none⟩ = false := (hgrow.frozen_far ⟨R, 0, none⟩ (Nat.lt_of_lt_of_le hRl hB3.size) hRf).trans ((World.frozen?_of_block (hB3.block R hRl)).trans hfr)
        refine hK.out _ _ trivial (fun hHeld => ?_)
        clear hK K
        try simp only [Act.put, List.setIfInBounds_toArray, List.set_cons_zero, List.set_cons_succ]
        refine wpAnyH_ready (rs := [8]) (by kernel_rfl) (by simp) ?_
        refine AllReadyH.cons (o := ⟨_, _, _, _, _, _⟩) rfl (fun K hK => ?_) AllReadyH.nil
        go_simp
        refine hK.out _ _ trivial (fun hHeld => ?_)
        clear hK K
        try simp only [Act.put, List.setIfInBounds_toArray, List.set_cons_zero, List.set_cons_succ]
        refine wpAnyH_ready (rs := [9]) (by kernel_rfl) (by simp) ?_
        refine AllReadyH.cons (o := ⟨_, _, _, _, _, _⟩) rfl (fun K hK => ?_) AllReadyH.nil
        go_simp
        refine hK.out _ _ trivial (fun hHeld => ?_)
        clear hK K
        try simp only [Act.put, List.setIfInBounds_toArray, List.set_cons_zero, List.set_cons_succ]
        refine wpAnyH_ready (rs := [10]) (by kernel_rfl) (by simp) ?_
        refine AllReadyH.cons (o := ⟨_, _, _, _, _, _⟩) rfl (fun K hK => ?_) AllReadyH.nil
        go_simp
        refine hK.out _ _ trivial (fun hHeld => ?_)
        clear hK K
        try simp only [Act.put, List.setIfInBounds_toArray, List.set_cons_zero, List.set_cons_succ]
        refine wpAnyH_done (by kernel_rfl) ?_ _
        have hs3 := hB3.size
        have hat3 : fv.ownBlock = some g ∨ wr.heap.size ≤ g := hat2.elim .inl fun e => .inr (by rw [e]; exact hs3)
        have hP := rnew_step hbox hBw hR hfv hB3 hown hgrow hat3 hlt2
        go_wp2_with fail
        exact ⟨⟨k + 1, by omega, rfl, _, hP⟩, by simp only [intOf]; omega⟩
      · go_simp
        refine (sector0 _).mono ?_
        rintro e w2 ⟨rfl, hB2⟩
        have hB2 : Below wr.heap.size wr w2 := (Below.refl _ wr).drew.trans hB2
        have n1 : w2.cell? ⟨R, 0, none⟩ = some fv := (hB2.cell (p := ⟨R, 0, none⟩) hRl).trans k1
        have hB3 : Below wr.heap.size wr (w2.alloc (.cells #[.string (bstr zeros)] 9)) := hB2.alloc hB2.size _
        have n3 : (w2.alloc (.cells #[.string (bstr zeros)] 9)).cell? ⟨R, 0, none⟩ = some fv := (hB3.cell (p := ⟨R, 0, none⟩) hRl).trans k1
        have hoB : (w2.alloc (.cells #[.string (bstr zeros)] 9)).ownsRow 0 9 1 fv k (fcel k fun _ => zeros) := ownsRow_of hrow fun b hb => hB3.block b (hfv b hb).2
        refine hK.out _ _ trivial (fun hHeld => ?_)
        clear hK K
        try simp only [Act.put, List.setIfInBounds_toArray, List.set_cons_zero, List.set_cons_succ]
        refine wpAnyH_ready (rs := [4, 6]) (by kernel_rfl) (by simp) ?_
        refine AllReadyH.cons (o := ⟨_, _, _, _, _, _⟩) rfl (fun K hK => ?_) (AllReadyH.cons (o := ⟨_, _, _, _, _, _⟩) rfl (fun K hK => ?_) AllReadyH.nil)
        · go_simp
          refine hK.out _ _ trivial (fun hHeld => ?_)
          clear hK K
          try simp only [Act.put, List.setIfInBounds_toArray, List.set_cons_zero, List.set_cons_succ]
          refine wpAnyH_ready (rs := [6]) (by kernel_rfl) (by simp) ?_
          refine AllReadyH.cons (o := ⟨_, _, _, _, _, _⟩) rfl (fun K hK => ?_) AllReadyH.nil
          go_simp
          refine hK.out _ _ trivial (fun hHeld => ?_)
          clear hK K
          try simp only [Act.put, List.setIfInBounds_toArray, List.set_cons_zero, List.set_cons_succ]
          refine wpAnyH_ready (rs := [7]) (by kernel_rfl) (by simp) ?_
          refine AllReadyH.cons (o := ⟨_, _, _, _, _, _⟩) rfl (fun K hK => ?_) AllReadyH.nil
          refine step_append_lies _ (by rfl) _ _ _ (by rfl) 0 9 i0 (.string ⟨#[]⟩) 1 16 Try.underlying41 hi hz0 hz1 hz2 rfl (by decide) fv k (fcel k fun _ => zeros) (by rfl) hoB ⟨w2.heap.size, 0, none⟩ 1 1 [.string (bstr zeros)] (by rfl) rfl (World.news_of_block (heap_alloc_new w2 _)) (by intro u hu; obtain rfl : u = _ := List.mem_singleton.1 hu; rfl) (by decide) (by simp only [maxLen]; omega) (by omega) (Nat.zero_le _) _ rfl ?_
          intro g cap w6 hown hgrow hat2 hlt2
          have m0 : w6.cell? ⟨R, 0, none⟩ = some fv := (hgrow.cell_far ⟨R, 0, none⟩ (Nat.lt_of_lt_of_le hRl hB3.size) hRf).trans n3
          have m1 : w6.frozen? ⟨R, 0, none⟩ = false := (hgrow.frozen_far ⟨R, 0, none⟩ (Nat.lt_of_lt_of_le hRl hB3.size) hRf).trans ((World.frozen?_of_block (hB3.block R hRl)).trans hfr)
          refine hK.out _ _ trivial (fun hHeld => ?_)
          clear hK K
          try simp only [Act.put, List.setIfInBounds_toArray, List.set_cons_zero, List.set_cons_succ]
          refine wpAnyH_ready (rs := [8]) (by kernel_rfl) (by simp) ?_
          refine AllReadyH.cons (o := ⟨_, _, _, _, _, _⟩) rfl (fun K hK => ?_) AllReadyH.nil
          go_simp
          refine hK.out _ _ trivial (fun hHeld => ?_)
          clear hK K
          try simp only [Act.put, List.setIfInBounds_toArray, List.set_cons_zero, List.set_cons_succ]
          refine wpAnyH_ready (rs := [9]) (by kernel_rfl) (by simp) ?_
          refine AllReadyH.cons (o := ⟨_, _, _, _, _, _⟩) rfl (fun K hK => ?_) AllReadyH.nil
          go_simp
          refine hK.out _ _ trivial (fun hHeld => ?_)
          clear hK K
          try simp only [Act.put, List.setIfInBounds_toArray, List.set_cons_zero, List.set_cons_succ]
          refine wpAnyH_ready (rs := [10]) (by kernel_rfl) (by simp) ?_
          refine AllReadyH.cons (o := ⟨_, _, _, _, _, _⟩) rfl (fun K hK => ?_) AllReadyH.nil
          go_simp
          refine hK.out _ _ trivial (fun hHeld => ?_)
          clear hK K
          try simp only [Act.put, List.setIfInBounds_toArray, List.set_cons_zero, List.set_cons_succ]
          refine wpAnyH_done (by kernel_rfl) ?_ _
          have hs3 := hB3.size
          have hat3 : fv.ownBlock = some g ∨ wr.heap.size ≤ g := hat2.elim .inl fun e => .inr (by rw [e]; exact hs3)
          have hP := rnew_step hbox hBw hR hfv hB3 hown hgrow hat3 hlt2
          go_wp2_with fail
          exact ⟨⟨k + 1, by omega, rfl, _, hP⟩, by simp only [intOf]; omega⟩
        · go_simp
          refine hK.out _ _ trivial (fun hHeld => ?_)
          clear hK K
          try simp only [Act.put, List.setIfInBounds_toArray, List.set_cons_zero, List.set_cons_succ]
          refine wpAnyH_ready (rs := [4]) (by kernel_rfl) (by simp) ?_
          refine AllReadyH.cons (o := ⟨_, _, _, _, _, _⟩) rfl (fun K hK => ?_) AllReadyH.nil
          go_simp
          refine hK.out _ _ trivial (fun hHeld => ?_)
          clear hK K
          try simp only [Act.put, List.setIfInBounds_toArray, List.set_cons_zero, List.set_cons_succ]
          refine wpAnyH_ready (rs := [7]) (by kernel_rfl) (by simp) ?_
          refine AllReadyH.cons (o := ⟨_, _, _, _, _, _⟩) rfl (fun K hK => ?_) AllReadyH.nil
          refine step_append_lies _ (by rfl) _ _ _ (by rfl) 0 9 i0 (.string ⟨#[]⟩) 1 16 Try.underlying41 hi hz0 hz1 hz2 rfl (by decide) fv k (fcel k fun _ => zeros) (by rfl) hoB ⟨w2.heap.size, 0, none⟩ 1 1 [.string (bstr zeros)] (by rfl) rfl (World.news_of_block (heap_alloc_new w2 _)) (by intro u hu; obtain rfl : u = _ := List.mem_singleton.1 hu; rfl) (by decide) (by simp only [maxLen]; omega) (by omega) (Nat.zero_le _) _ rfl ?_
          intro g cap w6 hown hgrow hat2 hlt2
          have m0 : w6.cell? ⟨R, 0, none⟩ = some fv := (hgrow.cell_far ⟨R, 0, none⟩ (Nat.lt_of_lt_of_le hRl hB3.size) hRf).trans n3
          have m1 : w6.frozen? ⟨R, 0, none⟩ = false := (hgrow.frozen_far ⟨R, 0, none⟩ (Nat.lt_of_lt_of_le hRl hB3.size) hRf).trans ((World.frozen?_of_block (hB3.block R hRl)).trans hfr)
          refine hK.out _ _ trivial (fun hHeld => ?_)
          clear hK K
          try simp only [Act.put, List.setIfInBounds_toArray, List.set_cons_zero, List.set_cons_succ]
          refine wpAnyH_ready (rs := [8]) (by kernel_rfl) (by simp) ?_
          refine AllReadyH.cons (o := ⟨_, _, _, _, _, _⟩) rfl (fun K hK => ?_) AllReadyH.nil
          go_simp
          refine hK.out _ _ trivial (fun hHeld => ?_)
          clear hK K
          try simp only [Act.put, List.setIfInBounds_toArray, List.set_cons_zero, List.set_cons_succ]
          refine wpAnyH_ready (rs := [9]) (by kernel_rfl) (by simp) ?_
          refine AllReadyH.cons (o := ⟨_, _, _, _, _, _⟩) rfl (fun K hK => ?_) AllReadyH.nil
          go_simp
          refine hK.out _ _ trivial (fun hHeld => ?_)
          clear hK K
          try simp only [Act.put, List.setIfInBounds_toArray, List.set_cons_zero, List.set_cons_succ]
          refine wpAnyH_ready (rs := [10]) (by kernel_rfl) (by simp) ?_
          refine AllReadyH.cons (o := ⟨_, _, _, _, _, _⟩) rfl (fun K hK => ?_) AllReadyH.nil
          go_simp
          refine hK.out _ _ trivial (fun hHeld => ?_)
          clear hK K
          try simp only [Act.put, List.setIfInBounds_toArray, List.set_cons_zero, List.set_cons_succ]
          refine wpAnyH_done (by kernel_rfl) ?_ _
          have hs3 := hB3.size
          have hat3 : fv.ownBlock = some g ∨ wr.heap.size ≤ g := hat2.elim .inl fun e => .inr (by rw [e]; exact hs3)
          have hP := rnew_step hbox hBw hR hfv hB3 hown hgrow hat3 hlt2
          go_wp2_with fail
          exact ⟨⟨k + 1, by omega, rfl, _, hP⟩, by simp only [intOf]; omega⟩
    · obtain rfl : k = N := by omega
      go_wp2_with fail
      go_ret
      subst hR
      have hRl : w.heap.size < wr.heap.size := (Array.getElem?_eq_some_iff.1 hbox).1
      refine ⟨rfl, ⟨fv, .slice none 0 0, .slice none 0 0, ⟨hbox, hrow, World.ownsRow_nil _ _ _ _, Sl.nil _, fun b hb => ?_, fun b hb => (by cases hb), fun h0 => absurd rfl h0⟩,
        ⟨h, ⟨Int.le_refl _, show (0 : Int) ≤ 9223372036854775807 by decide⟩, fun x hx => (by cases hx), fun i => List.length_replicate ..⟩, .inr ⟨Nat.le_refl _, hRl⟩, fun b hb => .inr ⟨Nat.le_of_lt (hfv b hb).1, (hfv b hb).2⟩, fun b hb => (by cases hb), fun h0 => absurd rfl h0, ?_⟩, hBw⟩
      · have := (hfv b hb).1
        omega
      · rintro k (hk | ⟨-, hk⟩)
        · exact hk.elim
        · exact hk
end Go.Proofs.Ytdlokmlcdlcfaaa
