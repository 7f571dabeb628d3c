/- cert.Read: the sum and the letters (PRINTED BY cf1.py). -/
import Derived.Test.YtnkihnggghfioaaGreatCf0
set_option linter.unusedVariables false
set_option linter.unusedSimpArgs false
namespace Go.Proofs.YtnkihnggghfioaaGreat
open Go.RowKit Go.Shelf
set_option maxRecDepth 100000 in
set_option maxHeartbeats 8000000 in
theorem jdy (w : World) (J : Nat) (hJ : w.heap.size = J) (v : Value) (l : List UInt8) (hv : Sl w v (cel l)) (hll : l.length ≤ 100000) :
    Calls Tryz.prog 6 #[v] w fun e w' => Below J w w' ∧ RdOut l e := by
  have hmf : ∀ (fn : Fn) (first cap : Array Value) (w : World), (Instr.makeFunc fn first cap).run Tryz.prog w = .ok (.func fn first cap) w := fun _ _ _ _ => rfl
  have hv0 := hv; obtain ⟨A, c, rfl, hv1, hv2, hv3, hv4⟩ := hv; rw [jad] at hv0 hv1 hv3 hv4 ⊢; obtain ⟨L, hL⟩ : ∃ L, l.length = L := ⟨_, rfl⟩; rw [hL] at hv0 hv1 hv3 hv4 hll ⊢; obtain ⟨W0, hW0⟩ : ∃ W0, ((((w.alloc (.cells #[.int .i64 0, .int .i64 0, .int .u64 0, .int .u64 0, .int .i64 0] 27)).alloc (.cells #[.slice none 0 0] 28)).alloc (.cells #[.bool false, .slice none 0 0, .int .i64 0] 33)).alloc (.cells #[.bool false, .slice none 0 0, .int .i64 0] 33)).alloc (.cells #[.int .i64 0] 34) = W0 := ⟨_, rfl⟩
  obtain ⟨hF, hB0⟩ : Five W0 J #[.int .i64 0, .int .i64 0, .int .u64 0, .int .u64 0, .int .i64 0] #[.slice none 0 0] #[.bool false, .slice none 0 0, .int .i64 0] #[.bool false, .slice none 0 0, .int .i64 0] #[.int .i64 0] ∧ Below J w W0 := by
    subst hJ; exact jqw hW0
  have hs0 : J + 4 < W0.heap.size := (Array.getElem?_eq_some_iff.1 hF.e).1; have hS0 : Sl W0 (.slice A L c) (cel l) := hv0.over (hJ.symm ▸ hB0); have HW0 := hideK hW0; have HJ := hideK hJ; clear hW0 hv0
  go_enter_defers Tryz.func6, Tryz.ntmps6
  by_cases h68 : 68 ≤ L
  rotate_left
  · have hlt : (L : Int) - 8 < 60 := by omega
    have HC : Hid (certP l = none) := by
      show certP l = none
      unfold certP; rw [hL, if_neg (by omega)]
    clear hv1 hv2 hv3 hv4 h68
    go_upto_region 3 with (fail)
    rw [HW0.out, show J + 1 + 1 = J + 2 from rfl, show J + 2 + 1 = J + 3 from rfl, show J + 3 + 1 = J + 4 from rfl]; refine wp_region_noPanic ?_; refine wp_region_held_drew (S := fun _ => True) (by kernel_rfl) trivial (fun hHeld => ?_); refine wpAnyH_take (i := 0) (oi := ⟨_, _, _, _, _, _⟩) (v := .int .i64 ((L : Int) - 8)) rfl (by kernel_rfl) (by kernel_rfl) (by kernel_rfl) (fun _ _ _ h => h) (Or.inl ⟨by rfl, ?_⟩) (by assumption) ?_
    · intro w' hS
      go_simp
    try simp only [Act.put, List.setIfInBounds_toArray, List.set_cons_zero, List.set_cons_succ]
    refine wpAnyH_take (i := 1) (oi := ⟨_, _, _, _, _, _⟩) (v := .bool true) rfl (by kernel_rfl) (by kernel_rfl) (by kernel_rfl) (fun _ _ _ h => h) (Or.inl ⟨by rfl, ?_⟩) (by assumption) ?_
    · intro w' hS
      go_simp
    try simp only [Act.put, List.setIfInBounds_toArray, List.set_cons_zero, List.set_cons_succ]
    refine wpAnyH_take (i := 2) (oi := ⟨_, _, _, _, _, _⟩) (v := .bool true) rfl (by kernel_rfl) (by kernel_rfl) (by kernel_rfl) (fun _ _ _ h => h) (Or.inl ⟨by rfl, ?_⟩) (by assumption) ?_
    · intro w' hS
      go_simp
    try simp only [Act.put, List.setIfInBounds_toArray, List.set_cons_zero, List.set_cons_succ]
    refine wpAnyH_take (i := 3) (oi := ⟨_, _, _, _, _, _⟩) (v := undef) rfl (by kernel_rfl) (by kernel_rfl) (by kernel_rfl) (fun _ _ _ h => h) (Or.inr ⟨by rfl, rfl⟩) (by assumption) ?_
    try simp only [Act.put, List.setIfInBounds_toArray, List.set_cons_zero, List.set_cons_succ]
    refine wpAnyH_take (i := 4) (oi := ⟨_, _, _, _, _, _⟩) (v := undef) rfl (by kernel_rfl) (by kernel_rfl) (by kernel_rfl) (fun _ _ _ h => h) (Or.inr ⟨by rfl, rfl⟩) (by assumption) ?_
    try simp only [Act.put, List.setIfInBounds_toArray, List.set_cons_zero, List.set_cons_succ]
    refine wpAnyH_take (i := 5) (oi := ⟨_, _, _, _, _, _⟩) (v := undef) rfl (by kernel_rfl) (by kernel_rfl) (by kernel_rfl) (fun _ _ _ h => h) (Or.inr ⟨by rfl, rfl⟩) (by assumption) ?_
    try simp only [Act.put, List.setIfInBounds_toArray, List.set_cons_zero, List.set_cons_succ]
    refine wpAnyH_take (i := 6) (oi := ⟨_, _, _, _, _, _⟩) (v := undef) rfl (by kernel_rfl) (by kernel_rfl) (by kernel_rfl) (fun _ _ _ h => h) (Or.inr ⟨by rfl, rfl⟩) (by assumption) ?_
    try simp only [Act.put, List.setIfInBounds_toArray, List.set_cons_zero, List.set_cons_succ]
    refine wpAnyH_take (i := 7) (oi := ⟨_, _, _, _, _, _⟩) (v := undef) rfl (by kernel_rfl) (by kernel_rfl) (by kernel_rfl) (fun _ _ _ h => h) (Or.inr ⟨by rfl, rfl⟩) (by assumption) ?_
    try simp only [Act.put, List.setIfInBounds_toArray, List.set_cons_zero, List.set_cons_succ]
    refine wpAnyH_take (i := 8) (oi := ⟨_, _, _, _, _, _⟩) (v := .bool true) rfl (by kernel_rfl) (by kernel_rfl) (by kernel_rfl) (fun _ _ _ h => h) (Or.inl ⟨by rfl, ?_⟩) (by assumption) ?_
    · intro w' hS
      go_simp
    try simp only [Act.put, List.setIfInBounds_toArray, List.set_cons_zero, List.set_cons_succ]
    refine wpAnyH_take (i := 9) (oi := ⟨_, _, _, _, _, _⟩) (v := .bool true) rfl (by kernel_rfl) (by kernel_rfl) (by kernel_rfl) (fun _ _ _ h => h) (Or.inl ⟨by rfl, ?_⟩) (by assumption) ?_
    · intro w' hS
      go_simp
    try simp only [Act.put, List.setIfInBounds_toArray, List.set_cons_zero, List.set_cons_succ]
    refine wpAnyH_take (i := 10) (oi := ⟨_, _, _, _, _, _⟩) (v := undef) rfl (by kernel_rfl) (by kernel_rfl) (by kernel_rfl) (fun _ _ _ h => h) (Or.inr ⟨by rfl, rfl⟩) (by assumption) ?_
    try simp only [Act.put, List.setIfInBounds_toArray, List.set_cons_zero, List.set_cons_succ]
    refine wpAnyH_take (i := 11) (oi := ⟨_, _, _, _, _, _⟩) (v := undef) rfl (by kernel_rfl) (by kernel_rfl) (by kernel_rfl) (fun _ _ _ h => h) (Or.inr ⟨by rfl, rfl⟩) (by assumption) ?_
    try simp only [Act.put, List.setIfInBounds_toArray, List.set_cons_zero, List.set_cons_succ]
    refine wpAnyH_take (i := 12) (oi := ⟨_, _, _, _, _, _⟩) (v := undef) rfl (by kernel_rfl) (by kernel_rfl) (by kernel_rfl) (fun _ _ _ h => h) (Or.inr ⟨by rfl, rfl⟩) (by assumption) ?_
    try simp only [Act.put, List.setIfInBounds_toArray, List.set_cons_zero, List.set_cons_succ]
    refine wpAnyH_take (i := 13) (oi := ⟨_, _, _, _, _, _⟩) (v := undef) rfl (by kernel_rfl) (by kernel_rfl) (by kernel_rfl) (fun _ _ _ h => h) (Or.inr ⟨by rfl, rfl⟩) (by assumption) ?_
    try simp only [Act.put, List.setIfInBounds_toArray, List.set_cons_zero, List.set_cons_succ]
    refine wpAnyH_take (i := 14) (oi := ⟨_, _, _, _, _, _⟩) (v := undef) rfl (by kernel_rfl) (by kernel_rfl) (by kernel_rfl) (fun _ _ _ h => h) (Or.inr ⟨by rfl, rfl⟩) (by assumption) ?_
    try simp only [Act.put, List.setIfInBounds_toArray, List.set_cons_zero, List.set_cons_succ]
    refine wpAnyH_take (i := 15) (oi := ⟨_, _, _, _, _, _⟩) (v := undef) rfl (by kernel_rfl) (by kernel_rfl) (by kernel_rfl) (fun _ _ _ h => h) (Or.inr ⟨by rfl, rfl⟩) (by assumption) ?_
    try simp only [Act.put, List.setIfInBounds_toArray, List.set_cons_zero, List.set_cons_succ]
    refine wpAnyH_take (i := 16) (oi := ⟨_, _, _, _, _, _⟩) (v := undef) rfl (by kernel_rfl) (by kernel_rfl) (by kernel_rfl) (fun _ _ _ h => h) (Or.inr ⟨by rfl, rfl⟩) (by assumption) ?_
    try simp only [Act.put, List.setIfInBounds_toArray, List.set_cons_zero, List.set_cons_succ]
    refine wpAnyH_take (i := 17) (oi := ⟨_, _, _, _, _, _⟩) (v := undef) rfl (by kernel_rfl) (by kernel_rfl) (by kernel_rfl) (fun _ _ _ h => h) (Or.inr ⟨by rfl, rfl⟩) (by assumption) ?_
    try simp only [Act.put, List.setIfInBounds_toArray, List.set_cons_zero, List.set_cons_succ]
    refine wpAnyH_take (i := 18) (oi := ⟨_, _, _, _, _, _⟩) (v := undef) rfl (by kernel_rfl) (by kernel_rfl) (by kernel_rfl) (fun _ _ _ h => h) (Or.inr ⟨by rfl, rfl⟩) (by assumption) ?_
    try simp only [Act.put, List.setIfInBounds_toArray, List.set_cons_zero, List.set_cons_succ]
    refine wpAnyH_take (i := 19) (oi := ⟨_, _, _, _, _, _⟩) (v := undef) rfl (by kernel_rfl) (by kernel_rfl) (by kernel_rfl) (fun _ _ _ h => h) (Or.inr ⟨by rfl, rfl⟩) (by assumption) ?_
    try simp only [Act.put, List.setIfInBounds_toArray, List.set_cons_zero, List.set_cons_succ]
    refine wpAnyH_take (i := 20) (oi := ⟨_, _, _, _, _, _⟩) (v := undef) rfl (by kernel_rfl) (by kernel_rfl) (by kernel_rfl) (fun _ _ _ h => h) (Or.inr ⟨by rfl, rfl⟩) (by assumption) ?_
    try simp only [Act.put, List.setIfInBounds_toArray, List.set_cons_zero, List.set_cons_succ]
    refine wpAnyH_take (i := 21) (oi := ⟨_, _, _, _, _, _⟩) (v := .bool true) rfl (by kernel_rfl) (by kernel_rfl) (by kernel_rfl) (fun _ _ _ h => h) (Or.inl ⟨by rfl, ?_⟩) (by assumption) ?_
    · intro w' hS
      go_simp
    try simp only [Act.put, List.setIfInBounds_toArray, List.set_cons_zero, List.set_cons_succ]
    refine wpAnyH_done (by kernel_rfl) ?_ _; refine NoPanic.normal ?_
    go_wp2_with fail
    refine jba (w := w) (w' := W0.drew) (J := J) (hF.drew) ?_ hJ ?_ HC.out
    · exact hB0.drew
    · exact ⟨rfl, rfl, rfl, rfl, rfl⟩
  obtain ⟨m, hm⟩ : ∃ m, L = m + 8 := ⟨L - 8, by omega⟩; obtain ⟨b, o, rfl, hbw, hra⟩ := hv4 (by omega); have hlm : (L : Int) - 8 = (m : Int) := by omega
  have hnl : ¬(m : Int) < 60 := by omega
  have hra0 : W0.rangeAt b o (cel l) := jdx hra (hB0.block b (by omega)); have hbJ : b < J := by omega
  have hnm : (nums l).length = L := by unfold nums; rw [List.length_map, hL]
  have hcl : ∀ i, i < L → ∃ x : UInt8, l[i]? = some x ∧ (nums l).getD i 0 = (x.toNat : Int) := fun i hi => by
    obtain ⟨x, hx⟩ : ∃ x, l[i]? = some x := ⟨_, List.getElem?_eq_getElem (by omega)⟩; refine ⟨x, hx, ?_⟩; unfold nums; rw [List.getD_eq_getElem?_getD, List.getElem?_map, hx]
    rfl
  have hcell0 : ∀ i, i < L → W0.cell? ⟨b, o + i, none⟩ = some (.int .u8 ((nums l).getD i 0)) := fun i hi => by
    obtain ⟨x, hx, hy⟩ := hcl i hi; rw [hy]; exact hra0 i _ (by unfold cel; rw [List.getElem?_map, hx]; rfl)
  have hbyte : ∀ x ∈ nums l, 0 ≤ x ∧ x < 256 := fun x hx => by
    obtain ⟨y, -, rfl⟩ := List.mem_map.1 hx; have := y.toNat_lt
    constructor <;> omega
  have hcap : L ≤ c ∧ c ≤ 9223372036854775807 := ⟨hv1, by simp only [maxLen] at hv2; omega⟩; clear hv1 hv2 hv3 hv4 hra; obtain ⟨W1, hW1⟩ : ∃ W1, W0.drew.alloc (.cells #[.int .u8 72, .int .u8 65, .int .u8 73, .int .u8 82, .int .u8 67, .int .u8 69, .int .u8 82, .int .u8 84] 5 (8, 9)) = W1 := ⟨_, rfl⟩; have hW1b : Below W0.heap.size W0 W1 := by rw [← hW1]; exact ((Below.refl _ W0).drew).alloc (Nat.le_refl _) _
  have hF1 : Five W1 J #[.int .i64 0, .int .i64 0, .int .u64 0, .int .u64 0, .int .i64 0] #[.slice none 0 0] #[.bool false, .slice none 0 0, .int .i64 0] #[.bool false, .slice none 0 0, .int .i64 0] #[.int .i64 0] := hF.over hW1b; have hB1 : Below J w W1 := hB0.trans (hW1b.mono (by omega)); have hN1 : W1.heap[W0.heap.size]? = some (.cells #[.int .u8 72, .int .u8 65, .int .u8 73, .int .u8 82, .int .u8 67, .int .u8 69, .int .u8 82, .int .u8 84] 5 (8, 9)) := by rw [← hW1]; exact heap_alloc_new W0.drew _
  have hs1 : W0.heap.size < W1.heap.size := (Array.getElem?_eq_some_iff.1 hN1).1; have hra1 : W1.rangeAt b o (cel l) := jdx hra0 (hW1b.block b (by omega))
  have hcell1 : ∀ i, i < L → W1.cell? ⟨b, o + i, none⟩ = some (.int .u8 ((nums l).getD i 0)) := fun i hi => by
    obtain ⟨x, hx, hy⟩ := hcl i hi; rw [hy]; exact hra1 i _ (by unfold cel; rw [List.getElem?_map, hx]; rfl)
  have hpre : ∀ i, i < 8 → W1.cell? ⟨W0.heap.size, 0 + i, none⟩ = some (.int .u8 (hcL.getD i 0)) := fun i hi => by
    rw [World.cell?_of_block (w := W1) rfl]
    rcases (by omega : i = 0 ∨ i = 1 ∨ i = 2 ∨ i = 3 ∨ i = 4 ∨ i = 5 ∨ i = 6 ∨ i = 7) with rfl | rfl | rfl | rfl | rfl | rfl | rfl | rfl <;> exact jaa hN1 rfl
  have hcv : (convert 22 22 (.slice (some ⟨W0.heap.size, 0, none⟩) 8 8)).run Tryz.prog ((W0.alloc (.cells #[.int .u8 72, .int .u8 65, .int .u8 73, .int .u8 82, .int .u8 67, .int .u8 69, .int .u8 82, .int .u8 84] 5)).drew) = .ok (.slice (some ⟨W0.heap.size, 0, none⟩) 8 8) W1 := by
    rw [← hW1]; exact Lib.run_convert_bytes_const (P := Tryz.prog) W0.drew 22 5 #[.int .u8 72, .int .u8 65, .int .u8 73, .int .u8 82, .int .u8 67, .int .u8 69, .int .u8 82, .int .u8 84] 8 8 Tryz.underlying22 Tryz.underlying5
  have hpc := jny W1 b o L c W0.heap.size (nums l) hnm (by omega) hcap hbyte hcell1 hpre; have HM := hideK hm; clear hm hW1
  by_cases hp : (nums l).take 8 = hcL
  rotate_left
  · have HC : Hid (certP l = none) := by
      show certP l = none
      unfold certP; rw [if_neg fun h => hp (by rw [← h.2.1]; unfold nums; rw [List.map_take])]
    go_upto_region 3 with (fail)
    rw [HW0.out, show J + 1 + 1 = J + 2 from rfl, show J + 2 + 1 = J + 3 from rfl, show J + 3 + 1 = J + 4 from rfl]; refine wp_region_noPanic ?_; refine wp_region_held_drew (S := fun _ => True) (by kernel_rfl) trivial (fun hHeld => ?_); refine wpAnyH_take (i := 0) (oi := ⟨_, _, _, _, _, _⟩) (v := .int .i64 (m : Int)) rfl (by kernel_rfl) (by kernel_rfl) (by kernel_rfl) (fun _ _ _ h => h) (Or.inl ⟨by rfl, ?_⟩) (by assumption) ?_
    · intro w' hS
      go_simp
    try simp only [Act.put, List.setIfInBounds_toArray, List.set_cons_zero, List.set_cons_succ]
    refine wpAnyH_take (i := 1) (oi := ⟨_, _, _, _, _, _⟩) (v := .bool false) rfl (by kernel_rfl) (by kernel_rfl) (by kernel_rfl) (fun _ _ _ h => h) (Or.inl ⟨by rfl, ?_⟩) (by assumption) ?_
    · intro w' hS
      go_simp
    try simp only [Act.put, List.setIfInBounds_toArray, List.set_cons_zero, List.set_cons_succ]
    refine wpAnyH_take (i := 2) (oi := ⟨_, _, _, _, _, _⟩) (v := .bool false) rfl (by kernel_rfl) (by kernel_rfl) (by kernel_rfl) (fun _ _ _ h => h) (Or.inl ⟨by rfl, ?_⟩) (by assumption) ?_
    · intro w' hS
      go_simp
    try simp only [Act.put, List.setIfInBounds_toArray, List.set_cons_zero, List.set_cons_succ]
    refine wpAnyH_take (i := 3) (oi := ⟨_, _, _, _, _, _⟩) (v := (.slice (some ⟨b, o, none⟩) L c)) rfl (by kernel_rfl) (by kernel_rfl) (by kernel_rfl) (fun _ _ _ h => h) (Or.inl ⟨by rfl, ?_⟩) (by assumption) ?_
    · intro w' hS
      go_simp
    try simp only [Act.put, List.setIfInBounds_toArray, List.set_cons_zero, List.set_cons_succ]
    refine wpAnyH_ready (rs := [4]) (by kernel_rfl) (by simp) ?_; refine AllReadyH.cons (o := ⟨_, _, _, _, _, _⟩) rfl (fun K hK => ?_) AllReadyH.nil; go_simp; refine hK.out _ _ trivial (fun hHeld => ?_); clear hK K
    try simp only [Act.put, List.setIfInBounds_toArray, List.set_cons_zero, List.set_cons_succ]
    refine wpAnyH_ready (rs := [5]) (by kernel_rfl) (by simp) ?_; refine AllReadyH.cons (o := ⟨_, _, _, _, _, _⟩) rfl (fun K hK => ?_) AllReadyH.nil; go_simp; refine hK.out _ _ trivial (fun hHeld => ?_); clear hK K
    try simp only [Act.put, List.setIfInBounds_toArray, List.set_cons_zero, List.set_cons_succ]
    refine wpAnyH_ready (rs := [6]) (by kernel_rfl) (by simp) ?_; refine AllReadyH.cons (o := ⟨_, _, _, _, _, _⟩) rfl (fun K hK => ?_) AllReadyH.nil; go_simp; refine hpc.mono ?_; rintro e w2 ⟨rfl, rfl⟩; rw [decide_eq_false hp]; refine hK.out _ _ trivial (fun hHeld => ?_); clear hK K
    try simp only [Act.put, List.setIfInBounds_toArray, List.set_cons_zero, List.set_cons_succ]
    refine wpAnyH_take (i := 7) (oi := ⟨_, _, _, _, _, _⟩) (v := .bool true) rfl (by kernel_rfl) (by kernel_rfl) (by kernel_rfl) (fun _ _ _ h => h) (Or.inl ⟨by rfl, ?_⟩) (by assumption) ?_
    · intro w' hS
      go_simp
    try simp only [Act.put, List.setIfInBounds_toArray, List.set_cons_zero, List.set_cons_succ]
    refine wpAnyH_take (i := 8) (oi := ⟨_, _, _, _, _, _⟩) (v := .bool true) rfl (by kernel_rfl) (by kernel_rfl) (by kernel_rfl) (fun _ _ _ h => h) (Or.inl ⟨by rfl, ?_⟩) (by assumption) ?_
    · intro w' hS
      go_simp
    try simp only [Act.put, List.setIfInBounds_toArray, List.set_cons_zero, List.set_cons_succ]
    refine wpAnyH_take (i := 9) (oi := ⟨_, _, _, _, _, _⟩) (v := .bool true) rfl (by kernel_rfl) (by kernel_rfl) (by kernel_rfl) (fun _ _ _ h => h) (Or.inl ⟨by rfl, ?_⟩) (by assumption) ?_
    · intro w' hS
      go_simp
    try simp only [Act.put, List.setIfInBounds_toArray, List.set_cons_zero, List.set_cons_succ]
    refine wpAnyH_take (i := 10) (oi := ⟨_, _, _, _, _, _⟩) (v := undef) rfl (by kernel_rfl) (by kernel_rfl) (by kernel_rfl) (fun _ _ _ h => h) (Or.inr ⟨by rfl, rfl⟩) (by assumption) ?_
    try simp only [Act.put, List.setIfInBounds_toArray, List.set_cons_zero, List.set_cons_succ]
    refine wpAnyH_take (i := 11) (oi := ⟨_, _, _, _, _, _⟩) (v := undef) rfl (by kernel_rfl) (by kernel_rfl) (by kernel_rfl) (fun _ _ _ h => h) (Or.inr ⟨by rfl, rfl⟩) (by assumption) ?_
    try simp only [Act.put, List.setIfInBounds_toArray, List.set_cons_zero, List.set_cons_succ]
    refine wpAnyH_take (i := 12) (oi := ⟨_, _, _, _, _, _⟩) (v := undef) rfl (by kernel_rfl) (by kernel_rfl) (by kernel_rfl) (fun _ _ _ h => h) (Or.inr ⟨by rfl, rfl⟩) (by assumption) ?_
    try simp only [Act.put, List.setIfInBounds_toArray, List.set_cons_zero, List.set_cons_succ]
    refine wpAnyH_take (i := 13) (oi := ⟨_, _, _, _, _, _⟩) (v := undef) rfl (by kernel_rfl) (by kernel_rfl) (by kernel_rfl) (fun _ _ _ h => h) (Or.inr ⟨by rfl, rfl⟩) (by assumption) ?_
    try simp only [Act.put, List.setIfInBounds_toArray, List.set_cons_zero, List.set_cons_succ]
    refine wpAnyH_take (i := 14) (oi := ⟨_, _, _, _, _, _⟩) (v := undef) rfl (by kernel_rfl) (by kernel_rfl) (by kernel_rfl) (fun _ _ _ h => h) (Or.inr ⟨by rfl, rfl⟩) (by assumption) ?_
    try simp only [Act.put, List.setIfInBounds_toArray, List.set_cons_zero, List.set_cons_succ]
    refine wpAnyH_take (i := 15) (oi := ⟨_, _, _, _, _, _⟩) (v := undef) rfl (by kernel_rfl) (by kernel_rfl) (by kernel_rfl) (fun _ _ _ h => h) (Or.inr ⟨by rfl, rfl⟩) (by assumption) ?_
    try simp only [Act.put, List.setIfInBounds_toArray, List.set_cons_zero, List.set_cons_succ]
    refine wpAnyH_take (i := 16) (oi := ⟨_, _, _, _, _, _⟩) (v := undef) rfl (by kernel_rfl) (by kernel_rfl) (by kernel_rfl) (fun _ _ _ h => h) (Or.inr ⟨by rfl, rfl⟩) (by assumption) ?_
    try simp only [Act.put, List.setIfInBounds_toArray, List.set_cons_zero, List.set_cons_succ]
    refine wpAnyH_take (i := 17) (oi := ⟨_, _, _, _, _, _⟩) (v := undef) rfl (by kernel_rfl) (by kernel_rfl) (by kernel_rfl) (fun _ _ _ h => h) (Or.inr ⟨by rfl, rfl⟩) (by assumption) ?_
    try simp only [Act.put, List.setIfInBounds_toArray, List.set_cons_zero, List.set_cons_succ]
    refine wpAnyH_take (i := 18) (oi := ⟨_, _, _, _, _, _⟩) (v := undef) rfl (by kernel_rfl) (by kernel_rfl) (by kernel_rfl) (fun _ _ _ h => h) (Or.inr ⟨by rfl, rfl⟩) (by assumption) ?_
    try simp only [Act.put, List.setIfInBounds_toArray, List.set_cons_zero, List.set_cons_succ]
    refine wpAnyH_take (i := 19) (oi := ⟨_, _, _, _, _, _⟩) (v := undef) rfl (by kernel_rfl) (by kernel_rfl) (by kernel_rfl) (fun _ _ _ h => h) (Or.inr ⟨by rfl, rfl⟩) (by assumption) ?_
    try simp only [Act.put, List.setIfInBounds_toArray, List.set_cons_zero, List.set_cons_succ]
    refine wpAnyH_take (i := 20) (oi := ⟨_, _, _, _, _, _⟩) (v := undef) rfl (by kernel_rfl) (by kernel_rfl) (by kernel_rfl) (fun _ _ _ h => h) (Or.inr ⟨by rfl, rfl⟩) (by assumption) ?_
    try simp only [Act.put, List.setIfInBounds_toArray, List.set_cons_zero, List.set_cons_succ]
    refine wpAnyH_take (i := 21) (oi := ⟨_, _, _, _, _, _⟩) (v := .bool true) rfl (by kernel_rfl) (by kernel_rfl) (by kernel_rfl) (fun _ _ _ h => h) (Or.inl ⟨by rfl, ?_⟩) (by assumption) ?_
    · intro w' hS
      go_simp
    try simp only [Act.put, List.setIfInBounds_toArray, List.set_cons_zero, List.set_cons_succ]
    refine wpAnyH_done (by kernel_rfl) ?_ _; refine NoPanic.normal ?_
    go_wp2_with fail
    refine jba (w := w) (w' := w2) (J := J) (hF1) ?_ hJ ?_ HC.out
    · exact hB1
    · exact ⟨rfl, rfl, rfl, rfl, rfl⟩
  have hlm8 : L - 8 = m := by have := HM.out; omega
  have hmL : m ≤ L := by omega
  have hS1 : Sl W1 (.slice (some ⟨b, o, none⟩) L c) (cel l) := hS0.over hW1b; have hcL : (cel l).length = L := by rw [jad, hL]
  have hSa : Sl W1 (.slice (some ⟨b, o + m, none⟩) 8 (c - m)) (cel (l.drop m)) := by
    have h1 := hS1.rest_some m (by have := HM.out; omega); rw [show L - m = 8 by have := HM.out; omega] at h1; rw [show cel (l.drop m) = (cel l).drop m by unfold cel; rw [List.map_drop]]; exact h1
  have hSb : Sl W1 (.slice (some ⟨b, o, none⟩) m c) (cel (l.take m)) := by
    rw [show cel (l.take m) = (cel l).take m by unfold cel; rw [List.map_take]]; exact hS1.first m (by omega)
  obtain ⟨W2, hW2⟩ : ∃ W2, W1.alloc (.cells #[.slice (some ⟨b, o + m, none⟩) 8 (c - m)] 47) = W2 := ⟨_, rfl⟩; obtain ⟨R2, hR2⟩ : ∃ R2, W1.heap.size = R2 := ⟨_, rfl⟩; have hW2b : Below W1.heap.size W1 W2 := by rw [← hW2]; exact jac W1 _
  have hF2 := hF1.over hW2b; have hB2 : Below J w W2 := hB1.trans (hW2b.mono (by omega)); have hN2 : W2.heap[R2]? = some (.cells #[.slice (some ⟨b, o + m, none⟩) 8 (c - m)] 47) := by rw [← hW2, ← hR2]; exact heap_alloc_new W1 _
  have hbW : b < W0.heap.size := by omega
  have hRd2 : RdS W2 R2 W1.heap.size (l.drop m) := ⟨_, hN2, hSa.over hW2b, fun _ q hq => by
    obtain rfl : b = q := by simpa [Value.ownBlock] using hq
    omega⟩
  have hdl : (l.drop m).length = 8 := by rw [List.length_drop, hL]; have := HM.out; omega
  have hnum := jiq W2 R2 W1.heap.size (l.drop m) hRd2 8 (by decide) (by omega) (by omega); rw [show (l.drop m).take 8 = l.drop m from List.take_of_length_le (by omega)] at hnum; obtain ⟨X, hX⟩ : ∃ X : Int, (le (l.drop m) : Int) = X := ⟨_, rfl⟩; obtain ⟨Y, hY⟩ : ∃ Y : Int, csum (l.take m) = Y := ⟨_, rfl⟩; rw [hX] at hnum
  have hsumc : ∀ w3, Chg (fun k => k = R2) W2 w3 → Calls Tryz.prog 12 #[.slice (some ⟨b, o, none⟩) m c] w3 fun e w' => e = .returned (.int .u64 Y) ∧ w' = w3 := fun w3 hC3 => by
    rw [← hY]; refine jg6 w3 _ (l.take m) ((hSb.over hW2b).chg hC3 fun _ q hq e => ?_) (by rw [List.length_take]; omega); obtain rfl : b = q := by simpa [Value.ownBlock] using hq
    omega
  have hFx : ∀ w3, Chg (fun k => k = R2) W2 w3 → Five w3 J #[.int .i64 0, .int .i64 0, .int .u64 0, .int .u64 0, .int .i64 0] #[.slice none 0 0] #[.bool false, .slice none 0 0, .int .i64 0] #[.bool false, .slice none 0 0, .int .i64 0] #[.int .i64 0] ∧ Below J w w3 := fun w3 hC3 => ⟨hF2.chg hC3 fun q h1 h2 h3 => by omega, hB2.trans (hC3.below (by have := hW2b.size; omega) fun k hk => by omega)⟩
  have HW2 := hideK hW2; have HX := hideK hX; have HY := hideK hY; have hcm : ¬c = m := by have := HM.out; omega
  have hLm : L - m = 8 := by have := HM.out; omega
  have hcm2 : ¬c < m := by have := HM.out; omega
  clear hW2 hX hY hcell1 hcell0 hpre hra1 hra0 hRd2 hSa
  by_cases hsum : X = Y
  rotate_left
  · have HC : Hid (certP l = none) := by
      show certP l = none
      unfold certP; rw [if_neg fun h => hsum ?_]; have := h.2.2.1; rw [hL, hlm8, HX.out, HY.out] at this; exact this
    have hne : (X != Y) = true := by simpa using hsum
    clear hsum
    go_upto_region 3 with (fail)
    rw [HW0.out, show J + 1 + 1 = J + 2 from rfl, show J + 2 + 1 = J + 3 from rfl, show J + 3 + 1 = J + 4 from rfl]; refine wp_region_noPanic ?_; refine wp_region_held_drew (S := fun _ => True) (by kernel_rfl) trivial (fun hHeld => ?_); refine wpAnyH_take (i := 0) (oi := ⟨_, _, _, _, _, _⟩) (v := .int .i64 (m : Int)) rfl (by kernel_rfl) (by kernel_rfl) (by kernel_rfl) (fun _ _ _ h => h) (Or.inl ⟨by rfl, ?_⟩) (by assumption) ?_
    · intro w' hS
      go_simp
    try simp only [Act.put, List.setIfInBounds_toArray, List.set_cons_zero, List.set_cons_succ]
    refine wpAnyH_take (i := 1) (oi := ⟨_, _, _, _, _, _⟩) (v := .bool false) rfl (by kernel_rfl) (by kernel_rfl) (by kernel_rfl) (fun _ _ _ h => h) (Or.inl ⟨by rfl, ?_⟩) (by assumption) ?_
    · intro w' hS
      go_simp
    try simp only [Act.put, List.setIfInBounds_toArray, List.set_cons_zero, List.set_cons_succ]
    refine wpAnyH_take (i := 2) (oi := ⟨_, _, _, _, _, _⟩) (v := .bool false) rfl (by kernel_rfl) (by kernel_rfl) (by kernel_rfl) (fun _ _ _ h => h) (Or.inl ⟨by rfl, ?_⟩) (by assumption) ?_
    · intro w' hS
      go_simp
    try simp only [Act.put, List.setIfInBounds_toArray, List.set_cons_zero, List.set_cons_succ]
    refine wpAnyH_take (i := 3) (oi := ⟨_, _, _, _, _, _⟩) (v := (.slice (some ⟨b, o, none⟩) L c)) rfl (by kernel_rfl) (by kernel_rfl) (by kernel_rfl) (fun _ _ _ h => h) (Or.inl ⟨by rfl, ?_⟩) (by assumption) ?_
    · intro w' hS
      go_simp
    try simp only [Act.put, List.setIfInBounds_toArray, List.set_cons_zero, List.set_cons_succ]
    refine wpAnyH_ready (rs := [4]) (by kernel_rfl) (by simp) ?_; refine AllReadyH.cons (o := ⟨_, _, _, _, _, _⟩) rfl (fun K hK => ?_) AllReadyH.nil; go_simp; refine hK.out _ _ trivial (fun hHeld => ?_); clear hK K
    try simp only [Act.put, List.setIfInBounds_toArray, List.set_cons_zero, List.set_cons_succ]
    refine wpAnyH_ready (rs := [5]) (by kernel_rfl) (by simp) ?_; refine AllReadyH.cons (o := ⟨_, _, _, _, _, _⟩) rfl (fun K hK => ?_) AllReadyH.nil; go_simp; refine hK.out _ _ trivial (fun hHeld => ?_); clear hK K
    try simp only [Act.put, List.setIfInBounds_toArray, List.set_cons_zero, List.set_cons_succ]
    refine wpAnyH_ready (rs := [6]) (by kernel_rfl) (by simp) ?_; refine AllReadyH.cons (o := ⟨_, _, _, _, _, _⟩) rfl (fun K hK => ?_) AllReadyH.nil; go_simp; refine hpc.mono ?_; rintro e w2 ⟨rfl, rfl⟩; rw [decide_eq_true hp]; refine hK.out _ _ trivial (fun hHeld => ?_); clear hK K
    try simp only [Act.put, List.setIfInBounds_toArray, List.set_cons_zero, List.set_cons_succ]
    refine wpAnyH_take (i := 7) (oi := ⟨_, _, _, _, _, _⟩) (v := .bool false) rfl (by kernel_rfl) (by kernel_rfl) (by kernel_rfl) (fun _ _ _ h => h) (Or.inl ⟨by rfl, ?_⟩) (by assumption) ?_
    · intro w' hS
      go_simp
    try simp only [Act.put, List.setIfInBounds_toArray, List.set_cons_zero, List.set_cons_succ]
    refine wpAnyH_take (i := 8) (oi := ⟨_, _, _, _, _, _⟩) (v := .bool false) rfl (by kernel_rfl) (by kernel_rfl) (by kernel_rfl) (fun _ _ _ h => h) (Or.inl ⟨by rfl, ?_⟩) (by assumption) ?_
    · intro w' hS
      go_simp
    try simp only [Act.put, List.setIfInBounds_toArray, List.set_cons_zero, List.set_cons_succ]
    refine wpAnyH_take (i := 9) (oi := ⟨_, _, _, _, _, _⟩) (v := .bool false) rfl (by kernel_rfl) (by kernel_rfl) (by kernel_rfl) (fun _ _ _ h => h) (Or.inl ⟨by rfl, ?_⟩) (by assumption) ?_
    · intro w' hS
      go_simp
    try simp only [Act.put, List.setIfInBounds_toArray, List.set_cons_zero, List.set_cons_succ]
    refine wpAnyH_take (i := 10) (oi := ⟨_, _, _, _, _, _⟩) (v := (.slice (some ⟨b, o, none⟩) L c)) rfl (by kernel_rfl) (by kernel_rfl) (by kernel_rfl) (fun _ _ _ h => h) (Or.inl ⟨by rfl, ?_⟩) (by assumption) ?_
    · intro w' hS
      go_simp
    try simp only [Act.put, List.setIfInBounds_toArray, List.set_cons_zero, List.set_cons_succ]
    refine wpAnyH_take (i := 11) (oi := ⟨_, _, _, _, _, _⟩) (v := .int .i64 (m : Int)) rfl (by kernel_rfl) (by kernel_rfl) (by kernel_rfl) (fun _ _ _ h => h) (Or.inl ⟨by rfl, ?_⟩) (by assumption) ?_
    · intro w' hS
      go_simp
    try simp only [Act.put, List.setIfInBounds_toArray, List.set_cons_zero, List.set_cons_succ]
    refine wpAnyH_take (i := 12) (oi := ⟨_, _, _, _, _, _⟩) (v := (.slice (some ⟨b, o + m, none⟩) 8 (c - m))) rfl (by kernel_rfl) (by kernel_rfl) (by kernel_rfl) (fun _ _ _ h => h) (Or.inl ⟨by rfl, ?_⟩) (by assumption) ?_
    · intro w' hS
      go_simp
    try simp only [Act.put, List.setIfInBounds_toArray, List.set_cons_zero, List.set_cons_succ]
    refine wpAnyH_take (i := 13) (oi := ⟨_, _, _, _, _, _⟩) (v := (.agg #[(.slice (some ⟨b, o + m, none⟩) 8 (c - m))])) rfl (by kernel_rfl) (by kernel_rfl) (by kernel_rfl) (fun _ _ _ h => h) (Or.inl ⟨by rfl, ?_⟩) (by assumption) ?_
    · intro w' hS
      go_simp
    try simp only [Act.put, List.setIfInBounds_toArray, List.set_cons_zero, List.set_cons_succ]
    refine wpAnyH_take (i := 16) (oi := ⟨_, _, _, _, _, _⟩) (v := (.slice (some ⟨b, o, none⟩) L c)) rfl (by kernel_rfl) (by kernel_rfl) (by kernel_rfl) (fun _ _ _ h => h) (Or.inl ⟨by rfl, ?_⟩) (by assumption) ?_
    · intro w' hS
      go_simp
    try simp only [Act.put, List.setIfInBounds_toArray, List.set_cons_zero, List.set_cons_succ]
    refine wpAnyH_take (i := 17) (oi := ⟨_, _, _, _, _, _⟩) (v := .int .i64 (m : Int)) rfl (by kernel_rfl) (by kernel_rfl) (by kernel_rfl) (fun _ _ _ h => h) (Or.inl ⟨by rfl, ?_⟩) (by assumption) ?_
    · intro w' hS
      go_simp
    try simp only [Act.put, List.setIfInBounds_toArray, List.set_cons_zero, List.set_cons_succ]
    refine wpAnyH_take (i := 18) (oi := ⟨_, _, _, _, _, _⟩) (v := (.slice (some ⟨b, o, none⟩) m c)) rfl (by kernel_rfl) (by kernel_rfl) (by kernel_rfl) (fun _ _ _ h => h) (Or.inl ⟨by rfl, ?_⟩) (by assumption) ?_
    · intro w' hS
      go_simp
    try simp only [Act.put, List.setIfInBounds_toArray, List.set_cons_zero, List.set_cons_succ]
    refine wpAnyH_ready (rs := [14]) (by kernel_rfl) (by simp) ?_; refine AllReadyH.cons (o := ⟨_, _, _, _, _, _⟩) rfl (fun K hK => ?_) AllReadyH.nil; go_simp; rw [HW2.out]; refine hK.out _ _ trivial (fun hHeld => ?_); clear hK K
    try simp only [Act.put, List.setIfInBounds_toArray, List.set_cons_zero, List.set_cons_succ]
    refine wpAnyH_ready (rs := [15]) (by kernel_rfl) (by simp) ?_; refine AllReadyH.cons (o := ⟨_, _, _, _, _, _⟩) rfl (fun K hK => ?_) AllReadyH.nil; go_simp; refine hnum.mono ?_; rintro e w3 ⟨rfl, -, hC3⟩; refine hK.out _ _ trivial (fun hHeld => ?_); clear hK K
    try simp only [Act.put, List.setIfInBounds_toArray, List.set_cons_zero, List.set_cons_succ]
    refine wpAnyH_ready (rs := [19]) (by kernel_rfl) (by simp) ?_; refine AllReadyH.cons (o := ⟨_, _, _, _, _, _⟩) rfl (fun K hK => ?_) AllReadyH.nil; go_simp; refine (hsumc w3 hC3).mono ?_; rintro e w4 ⟨rfl, rfl⟩; refine hK.out _ _ trivial (fun hHeld => ?_); clear hK K
    try simp only [Act.put, List.setIfInBounds_toArray, List.set_cons_zero, List.set_cons_succ]
    refine wpAnyH_take (i := 20) (oi := ⟨_, _, _, _, _, _⟩) (v := .bool true) rfl (by kernel_rfl) (by kernel_rfl) (by kernel_rfl) (fun _ _ _ h => h) (Or.inl ⟨by rfl, ?_⟩) (by assumption) ?_
    · intro w' hS
      go_simp
    try simp only [Act.put, List.setIfInBounds_toArray, List.set_cons_zero, List.set_cons_succ]
    refine wpAnyH_take (i := 21) (oi := ⟨_, _, _, _, _, _⟩) (v := .bool true) rfl (by kernel_rfl) (by kernel_rfl) (by kernel_rfl) (fun _ _ _ h => h) (Or.inl ⟨by rfl, ?_⟩) (by assumption) ?_
    · intro w' hS
      go_simp
    try simp only [Act.put, List.setIfInBounds_toArray, List.set_cons_zero, List.set_cons_succ]
    refine wpAnyH_done (by kernel_rfl) ?_ _; obtain ⟨hF3, hB3⟩ := hFx w4 hC3; refine NoPanic.normal ?_
    go_wp2_with fail
    refine jba (w := w) (w' := w4) (J := J) (hF3) ?_ hJ ?_ HC.out
    · exact hB3
    · exact ⟨rfl, rfl, rfl, rfl, rfl⟩
  have hne : (X != Y) = false := by simp [hsum]
  have hsumI := hideK hsum; clear hsum
  go_upto_region 3 with (fail)
  rw [HW0.out, show J + 1 + 1 = J + 2 from rfl, show J + 2 + 1 = J + 3 from rfl, show J + 3 + 1 = J + 4 from rfl]; refine wp_region_noPanic ?_; refine wp_region_held_drew (S := fun _ => True) (by kernel_rfl) trivial (fun hHeld => ?_); refine wpAnyH_take (i := 0) (oi := ⟨_, _, _, _, _, _⟩) (v := .int .i64 (m : Int)) rfl (by kernel_rfl) (by kernel_rfl) (by kernel_rfl) (fun _ _ _ h => h) (Or.inl ⟨by rfl, ?_⟩) (by assumption) ?_
  · intro w' hS
    go_simp
  try simp only [Act.put, List.setIfInBounds_toArray, List.set_cons_zero, List.set_cons_succ]
  refine wpAnyH_take (i := 1) (oi := ⟨_, _, _, _, _, _⟩) (v := .bool false) rfl (by kernel_rfl) (by kernel_rfl) (by kernel_rfl) (fun _ _ _ h => h) (Or.inl ⟨by rfl, ?_⟩) (by assumption) ?_
  · intro w' hS
    go_simp
  try simp only [Act.put, List.setIfInBounds_toArray, List.set_cons_zero, List.set_cons_succ]
  refine wpAnyH_take (i := 2) (oi := ⟨_, _, _, _, _, _⟩) (v := .bool false) rfl (by kernel_rfl) (by kernel_rfl) (by kernel_rfl) (fun _ _ _ h => h) (Or.inl ⟨by rfl, ?_⟩) (by assumption) ?_
  · intro w' hS
    go_simp
  try simp only [Act.put, List.setIfInBounds_toArray, List.set_cons_zero, List.set_cons_succ]
  refine wpAnyH_take (i := 3) (oi := ⟨_, _, _, _, _, _⟩) (v := (.slice (some ⟨b, o, none⟩) L c)) rfl (by kernel_rfl) (by kernel_rfl) (by kernel_rfl) (fun _ _ _ h => h) (Or.inl ⟨by rfl, ?_⟩) (by assumption) ?_
  · intro w' hS
    go_simp
  try simp only [Act.put, List.setIfInBounds_toArray, List.set_cons_zero, List.set_cons_succ]
  refine wpAnyH_ready (rs := [4]) (by kernel_rfl) (by simp) ?_; refine AllReadyH.cons (o := ⟨_, _, _, _, _, _⟩) rfl (fun K hK => ?_) AllReadyH.nil; go_simp; refine hK.out _ _ trivial (fun hHeld => ?_); clear hK K
  try simp only [Act.put, List.setIfInBounds_toArray, List.set_cons_zero, List.set_cons_succ]
  refine wpAnyH_ready (rs := [5]) (by kernel_rfl) (by simp) ?_; refine AllReadyH.cons (o := ⟨_, _, _, _, _, _⟩) rfl (fun K hK => ?_) AllReadyH.nil; go_simp; refine hK.out _ _ trivial (fun hHeld => ?_); clear hK K
  try simp only [Act.put, List.setIfInBounds_toArray, List.set_cons_zero, List.set_cons_succ]
  refine wpAnyH_ready (rs := [6]) (by kernel_rfl) (by simp) ?_; refine AllReadyH.cons (o := ⟨_, _, _, _, _, _⟩) rfl (fun K hK => ?_) AllReadyH.nil; go_simp; refine hpc.mono ?_; rintro e w2 ⟨rfl, rfl⟩; rw [decide_eq_true hp]; refine hK.out _ _ trivial (fun hHeld => ?_); clear hK K
  try simp only [Act.put, List.setIfInBounds_toArray, List.set_cons_zero, List.set_cons_succ]
  refine wpAnyH_take (i := 7) (oi := ⟨_, _, _, _, _, _⟩) (v := .bool false) rfl (by kernel_rfl) (by kernel_rfl) (by kernel_rfl) (fun _ _ _ h => h) (Or.inl ⟨by rfl, ?_⟩) (by assumption) ?_
  · intro w' hS
    go_simp
  try simp only [Act.put, List.setIfInBounds_toArray, List.set_cons_zero, List.set_cons_succ]
  refine wpAnyH_take (i := 8) (oi := ⟨_, _, _, _, _, _⟩) (v := .bool false) rfl (by kernel_rfl) (by kernel_rfl) (by kernel_rfl) (fun _ _ _ h => h) (Or.inl ⟨by rfl, ?_⟩) (by assumption) ?_
  · intro w' hS
    go_simp
  try simp only [Act.put, List.setIfInBounds_toArray, List.set_cons_zero, List.set_cons_succ]
  refine wpAnyH_take (i := 9) (oi := ⟨_, _, _, _, _, _⟩) (v := .bool false) rfl (by kernel_rfl) (by kernel_rfl) (by kernel_rfl) (fun _ _ _ h => h) (Or.inl ⟨by rfl, ?_⟩) (by assumption) ?_
  · intro w' hS
    go_simp
  try simp only [Act.put, List.setIfInBounds_toArray, List.set_cons_zero, List.set_cons_succ]
  refine wpAnyH_take (i := 10) (oi := ⟨_, _, _, _, _, _⟩) (v := (.slice (some ⟨b, o, none⟩) L c)) rfl (by kernel_rfl) (by kernel_rfl) (by kernel_rfl) (fun _ _ _ h => h) (Or.inl ⟨by rfl, ?_⟩) (by assumption) ?_
  · intro w' hS
    go_simp
  try simp only [Act.put, List.setIfInBounds_toArray, List.set_cons_zero, List.set_cons_succ]
  refine wpAnyH_take (i := 11) (oi := ⟨_, _, _, _, _, _⟩) (v := .int .i64 (m : Int)) rfl (by kernel_rfl) (by kernel_rfl) (by kernel_rfl) (fun _ _ _ h => h) (Or.inl ⟨by rfl, ?_⟩) (by assumption) ?_
  · intro w' hS
    go_simp
  try simp only [Act.put, List.setIfInBounds_toArray, List.set_cons_zero, List.set_cons_succ]
  refine wpAnyH_take (i := 12) (oi := ⟨_, _, _, _, _, _⟩) (v := (.slice (some ⟨b, o + m, none⟩) 8 (c - m))) rfl (by kernel_rfl) (by kernel_rfl) (by kernel_rfl) (fun _ _ _ h => h) (Or.inl ⟨by rfl, ?_⟩) (by assumption) ?_
  · intro w' hS
    go_simp
  try simp only [Act.put, List.setIfInBounds_toArray, List.set_cons_zero, List.set_cons_succ]
  refine wpAnyH_take (i := 13) (oi := ⟨_, _, _, _, _, _⟩) (v := (.agg #[(.slice (some ⟨b, o + m, none⟩) 8 (c - m))])) rfl (by kernel_rfl) (by kernel_rfl) (by kernel_rfl) (fun _ _ _ h => h) (Or.inl ⟨by rfl, ?_⟩) (by assumption) ?_
  · intro w' hS
    go_simp
  try simp only [Act.put, List.setIfInBounds_toArray, List.set_cons_zero, List.set_cons_succ]
  refine wpAnyH_take (i := 16) (oi := ⟨_, _, _, _, _, _⟩) (v := (.slice (some ⟨b, o, none⟩) L c)) rfl (by kernel_rfl) (by kernel_rfl) (by kernel_rfl) (fun _ _ _ h => h) (Or.inl ⟨by rfl, ?_⟩) (by assumption) ?_
  · intro w' hS
    go_simp
  try simp only [Act.put, List.setIfInBounds_toArray, List.set_cons_zero, List.set_cons_succ]
  refine wpAnyH_take (i := 17) (oi := ⟨_, _, _, _, _, _⟩) (v := .int .i64 (m : Int)) rfl (by kernel_rfl) (by kernel_rfl) (by kernel_rfl) (fun _ _ _ h => h) (Or.inl ⟨by rfl, ?_⟩) (by assumption) ?_
  · intro w' hS
    go_simp
  try simp only [Act.put, List.setIfInBounds_toArray, List.set_cons_zero, List.set_cons_succ]
  refine wpAnyH_take (i := 18) (oi := ⟨_, _, _, _, _, _⟩) (v := (.slice (some ⟨b, o, none⟩) m c)) rfl (by kernel_rfl) (by kernel_rfl) (by kernel_rfl) (fun _ _ _ h => h) (Or.inl ⟨by rfl, ?_⟩) (by assumption) ?_
  · intro w' hS
    go_simp
  try simp only [Act.put, List.setIfInBounds_toArray, List.set_cons_zero, List.set_cons_succ]
  refine wpAnyH_ready (rs := [14]) (by kernel_rfl) (by simp) ?_; refine AllReadyH.cons (o := ⟨_, _, _, _, _, _⟩) rfl (fun K hK => ?_) AllReadyH.nil; go_simp; rw [HW2.out]; refine hK.out _ _ trivial (fun hHeld => ?_); clear hK K
  try simp only [Act.put, List.setIfInBounds_toArray, List.set_cons_zero, List.set_cons_succ]
  refine wpAnyH_ready (rs := [15]) (by kernel_rfl) (by simp) ?_; refine AllReadyH.cons (o := ⟨_, _, _, _, _, _⟩) rfl (fun K hK => ?_) AllReadyH.nil; go_simp; refine hnum.mono ?_; rintro e w3 ⟨rfl, -, hC3⟩; refine hK.out _ _ trivial (fun hHeld => ?_); clear hK K
  try simp only [Act.put, List.setIfInBounds_toArray, List.set_cons_zero, List.set_cons_succ]
  refine wpAnyH_ready (rs := [19]) (by kernel_rfl) (by simp) ?_; refine AllReadyH.cons (o := ⟨_, _, _, _, _, _⟩) rfl (fun K hK => ?_) AllReadyH.nil; go_simp; refine (hsumc w3 hC3).mono ?_; rintro e w4 ⟨rfl, rfl⟩; refine hK.out _ _ trivial (fun hHeld => ?_); clear hK K
  try simp only [Act.put, List.setIfInBounds_toArray, List.set_cons_zero, List.set_cons_succ]
  refine wpAnyH_take (i := 20) (oi := ⟨_, _, _, _, _, _⟩) (v := .bool false) rfl (by kernel_rfl) (by kernel_rfl) (by kernel_rfl) (fun _ _ _ h => h) (Or.inl ⟨by rfl, ?_⟩) (by assumption) ?_
  · intro w' hS
    go_simp
  try simp only [Act.put, List.setIfInBounds_toArray, List.set_cons_zero, List.set_cons_succ]
  refine wpAnyH_take (i := 21) (oi := ⟨_, _, _, _, _, _⟩) (v := .bool false) rfl (by kernel_rfl) (by kernel_rfl) (by kernel_rfl) (fun _ _ _ h => h) (Or.inl ⟨by rfl, ?_⟩) (by assumption) ?_
  · intro w' hS
    go_simp
  try simp only [Act.put, List.setIfInBounds_toArray, List.set_cons_zero, List.set_cons_succ]
  refine wpAnyH_done (by kernel_rfl) ?_ _; obtain ⟨hF3, hB3⟩ := hFx w4 hC3; refine NoPanic.normal ?_; have hm60 : 60 ≤ m := by have := HM.out; omega
  have h56 : ¬m < 56 := by omega
  have hc56 : ¬c = 56 := by have := HM.out; omega
  clear hnum hsumc hpc hcv
  have hS4 : Sl w4 (.slice (some ⟨b, o, none⟩) L c) (cel l) := (hS1.over hW2b).chg hC3 fun _ q hq e => by
    obtain rfl : b = q := by simpa [Value.ownBlock] using hq
    omega
  have hLL := HM.out; have hQl : ((l.drop 8).take 48).length = 48 := by rw [List.length_take, List.length_drop, hL]; omega
  have hTl : ((l.take m).drop 56).length = m - 56 := by rw [List.length_drop, List.length_take, hL]; omega
  have hSq : Sl w4 (.slice (some ⟨b, o + 8, none⟩) 48 (c - 8)) (cel ((l.drop 8).take 48)) := by
    have h1 := (hS4.rest_some 8 (by omega)).first 48 (by rw [List.length_drop]; omega); rw [show cel ((l.drop 8).take 48) = ((cel l).drop 8).take 48 by unfold cel; rw [List.map_take, List.map_drop]]; exact h1
  have hSt : Sl w4 (.slice (some ⟨b, o + 56, none⟩) (m - 56) (c - 56)) (cel ((l.take m).drop 56)) := by
    have h1 := (hS4.rest_some 56 (by omega)).first (m - 56) (by rw [List.length_drop]; omega); rw [show cel ((l.take m).drop 56) = ((cel l).drop 56).take (m - 56) by unfold cel; rw [List.map_drop, List.map_take, List.drop_take]]; exact h1
  obtain ⟨W5, hW5⟩ : ∃ W5, w4.alloc (.cells #[.slice (some ⟨b, o + 56, none⟩) (m - 56) (c - 56)] 47) = W5 := ⟨_, rfl⟩; obtain ⟨R5, hR5⟩ : ∃ R5, w4.heap.size = R5 := ⟨_, rfl⟩; have hW5b : Below w4.heap.size w4 W5 := by rw [← hW5]; exact jac w4 _
  have hN5 : W5.heap[R5]? = some (.cells #[.slice (some ⟨b, o + 56, none⟩) (m - 56) (c - 56)] 47) := by rw [← hW5, ← hR5]; exact heap_alloc_new w4 _
  have hs4 : R2 < w4.heap.size := Nat.lt_of_lt_of_le (Array.getElem?_eq_some_iff.1 hN2).1 hC3.size; have hs5 : R5 < W5.heap.size := (Array.getElem?_eq_some_iff.1 hN5).1; have hbR5 : b < R5 := by omega
  have hJR5 : J + 4 < R5 := by have := hW1b.size; omega
  have hRd5 : RdS W5 R5 R5 ((l.take m).drop 56) := ⟨_, hN5, hSt.over hW5b, fun _ q hq => by
    obtain rfl : b = q := by simpa [Value.ownBlock] using hq
    omega⟩
  have hF5 := hF3.over hW5b; have hB5 : Below J w W5 := hB3.trans (hW5b.mono (by omega))
  have hraQ : W5.rangeAt b (o + 8) (cel ((l.drop 8).take 48)) := by
    obtain ⟨A', c', e', -, -, -, h4⟩ := hSq.over hW5b; obtain ⟨b', o', e2, -, h5⟩ := h4 (by rw [jad, hQl]; decide); injection e' with e1 e3 e4
    rw [← e1] at e2
    cases e2
    exact h5
  have hjr := jj9 W5 b (o + 8) (c - 8) ((l.drop 8).take 48) hQl (by omega) (by omega) hraQ; have HW5 := hideK hW5; clear hW5 hS4 hSq hSt hraQ hF3 hB3 hF2 hB2 hF1 hB1 hSb hS1 hLL
  go_wp2_with fail
  rw [HW5.out]; refine hjr.mono ?_; clear hjr; rintro e w6 ⟨hB6, ⟨hjk, rfl⟩ | ⟨hjk, rfl⟩⟩
  rotate_left
  · have HC : Hid (certP l = none) := by
      show certP l = none
      unfold certP; rw [if_neg fun h => hjk h.2.2.2]
    have h7 : ((7 : Int) != 0) = true := rfl; have hF6 := hF5.over hB6; have hB6' : Below J w w6 := hB5.trans (hB6.mono (by omega)); have kc0 : w6.cell? ⟨J, 0, none⟩ = some (.int .i64 0) := jaa hF6.j rfl; have kf0 : w6.frozen? ⟨J, 0, none⟩ = false := jab hF6.j; have kc1 : w6.cell? ⟨J, 1, none⟩ = some (.int .i64 0) := jaa hF6.j rfl; have kf1 : w6.frozen? ⟨J, 1, none⟩ = false := jab hF6.j; have kc2 : w6.cell? ⟨J, 2, none⟩ = some (.int .u64 0) := jaa hF6.j rfl; have kf2 : w6.frozen? ⟨J, 2, none⟩ = false := jab hF6.j; have kc3 : w6.cell? ⟨J, 3, none⟩ = some (.int .u64 0) := jaa hF6.j rfl; have kf3 : w6.frozen? ⟨J, 3, none⟩ = false := jab hF6.j; have kc4 : w6.cell? ⟨J, 4, none⟩ = some (.int .i64 0) := jaa hF6.j rfl; have kf4 : w6.frozen? ⟨J, 4, none⟩ = false := jab hF6.j; have kc5 : w6.cell? ⟨J + 4, 0, none⟩ = some (.int .i64 0) := jaa hF6.e rfl; have kf5 : w6.frozen? ⟨J + 4, 0, none⟩ = false := jab hF6.e; obtain ⟨w7, hw7⟩ : ∃ u, ((((((w6.setCell ⟨J, 0, none⟩ (.int .i64 0)).setCell ⟨J, 1, none⟩ (.int .i64 0)).setCell ⟨J, 2, none⟩ (.int .u64 0)).setCell ⟨J, 3, none⟩ (.int .u64 0)).setCell ⟨J, 4, none⟩ (.int .i64 0)).setCell ⟨J + 4, 0, none⟩ (.int .i64 7)) = u := ⟨_, rfl⟩; obtain ⟨hF7, hO7⟩ : Five w7 J #[.int .i64 0, .int .i64 0, .int .u64 0, .int .u64 0, .int .i64 0] #[.slice none 0 0] #[.bool false, .slice none 0 0, .int .i64 0] #[.bool false, .slice none 0 0, .int .i64 0] #[.int .i64 7] ∧ (Chg (fun q => J ≤ q ∧ q ≤ J + 4) w6 w7) := jnz (j0 := .int .i64 0) (j1 := .int .i64 0) (j2 := .int .u64 0) (j3 := .int .u64 0) (j4 := .int .i64 0) hF6 hw7; have ke : (((((((w6.setCell ⟨J, 0, none⟩ (.int .i64 0)).setCell ⟨J, 1, none⟩ (.int .i64 0)).setCell ⟨J, 2, none⟩ (.int .u64 0)).setCell ⟨J, 3, none⟩ (.int .u64 0)).setCell ⟨J, 4, none⟩ (.int .i64 0)).setCell ⟨J + 4, 0, none⟩ (.int .i64 7))).cell? ⟨J + 4, 0, none⟩ = some (.int .i64 7) := by rw [hw7]; exact jaa hF7.e rfl
    have HN7 := hideK hw7; clear hw7; unfold jobC
    go_wp2_with fail
    rw [HN7.out]; refine jba (w := w) (w' := w7) (J := J) hF7 ?_ hJ ?_ HC.out
    · exact hB6'.trans ⟨hO7.os, hO7.tape, hO7.output, hO7.size, fun k hk => hO7.block k (by have := hB6'.size; omega) (by omega)⟩
    · exact ⟨rfl, rfl, rfl, rfl, rfl⟩
  obtain ⟨a0, a1, a2, a3, a4, hjv⟩ : ∃ a0 a1 a2 a3 a4 : Int, rdJob (nums ((l.drop 8).take 48)) = .agg #[.int .i64 a0, .int .i64 a1, .int .u64 a2, .int .u64 a3, .int .i64 a4] := ⟨_, _, _, _, _, rfl⟩; rw [hjv]; have HJV := hideK hjv; clear hjv
  have HQ : Hid (certP l = pBody ((l.take m).drop 56)) := by
    show certP l = _
    unfold certP; rw [hL, hlm8, if_pos ⟨h68, by unfold nums; rw [List.map_take]; exact hp, by rw [HX.out, HY.out, hsumI.out], hjk⟩]
  have h0 : ((0 : Int) != 0) = false := rfl; have hF6 := hF5.over hB6; have hB6' : Below J w w6 := hB5.trans (hB6.mono (by omega)); have kc0 : w6.cell? ⟨J, 0, none⟩ = some (.int .i64 0) := jaa hF6.j rfl; have kf0 : w6.frozen? ⟨J, 0, none⟩ = false := jab hF6.j; have kc1 : w6.cell? ⟨J, 1, none⟩ = some (.int .i64 0) := jaa hF6.j rfl; have kf1 : w6.frozen? ⟨J, 1, none⟩ = false := jab hF6.j; have kc2 : w6.cell? ⟨J, 2, none⟩ = some (.int .u64 0) := jaa hF6.j rfl; have kf2 : w6.frozen? ⟨J, 2, none⟩ = false := jab hF6.j; have kc3 : w6.cell? ⟨J, 3, none⟩ = some (.int .u64 0) := jaa hF6.j rfl; have kf3 : w6.frozen? ⟨J, 3, none⟩ = false := jab hF6.j; have kc4 : w6.cell? ⟨J, 4, none⟩ = some (.int .i64 0) := jaa hF6.j rfl; have kf4 : w6.frozen? ⟨J, 4, none⟩ = false := jab hF6.j; have kc5 : w6.cell? ⟨J + 4, 0, none⟩ = some (.int .i64 0) := jaa hF6.e rfl; have kf5 : w6.frozen? ⟨J + 4, 0, none⟩ = false := jab hF6.e; obtain ⟨w7, hw7⟩ : ∃ u, ((((((w6.setCell ⟨J, 0, none⟩ (.int .i64 a0)).setCell ⟨J, 1, none⟩ (.int .i64 a1)).setCell ⟨J, 2, none⟩ (.int .u64 a2)).setCell ⟨J, 3, none⟩ (.int .u64 a3)).setCell ⟨J, 4, none⟩ (.int .i64 a4)).setCell ⟨J + 4, 0, none⟩ (.int .i64 0)) = u := ⟨_, rfl⟩; obtain ⟨hF7, hO7⟩ : Five w7 J #[.int .i64 a0, .int .i64 a1, .int .u64 a2, .int .u64 a3, .int .i64 a4] #[.slice none 0 0] #[.bool false, .slice none 0 0, .int .i64 0] #[.bool false, .slice none 0 0, .int .i64 0] #[.int .i64 0] ∧ (Chg (fun q => J ≤ q ∧ q ≤ J + 4) w6 w7) := jnz (j0 := .int .i64 a0) (j1 := .int .i64 a1) (j2 := .int .u64 a2) (j3 := .int .u64 a3) (j4 := .int .i64 a4) hF6 hw7; have ke : (((((((w6.setCell ⟨J, 0, none⟩ (.int .i64 a0)).setCell ⟨J, 1, none⟩ (.int .i64 a1)).setCell ⟨J, 2, none⟩ (.int .u64 a2)).setCell ⟨J, 3, none⟩ (.int .u64 a3)).setCell ⟨J, 4, none⟩ (.int .i64 a4)).setCell ⟨J + 4, 0, none⟩ (.int .i64 0))).cell? ⟨J + 4, 0, none⟩ = some (.int .i64 0) := by rw [hw7]; exact jaa hF7.e rfl
  have HN7 := hideK hw7; clear hw7; have hC5 : Chg (fun q => J ≤ q ∧ q ≤ J + 4) W5 w7 := (Chg.of_below hB6).trans hO7; have hB7 : Below J w w7 := hB6'.trans ⟨hO7.os, hO7.tape, hO7.output, hO7.size, fun k hk => hO7.block k (by have := hB6'.size; omega) (by omega)⟩; have hN7 : w7.heap[R5]? = some (.cells #[.slice (some ⟨b, o + 56, none⟩) (m - 56) (c - 56)] 47) := (hC5.block R5 hs5 (by omega)).trans hN5
  have hRd7 : RdS w7 R5 (J + 0) ((l.take m).drop 56) := by
    obtain ⟨v', h1, h2, h3⟩ := hRd5; refine ⟨v', (hC5.block R5 hs5 (by omega)).trans h1, h2.chg hC5 (fun h4 q hq => ?_), fun h4 q hq => ?_⟩
    · rw [hN5] at h1
      cases h1
      obtain rfl : b = q := by simpa [Value.ownBlock] using hq
      omega
    · rw [hN5] at h1
      cases h1
      obtain rfl : b = q := by simpa [Value.ownBlock] using hq
      omega
  have hs7 : R5 < w7.heap.size := (Array.getElem?_eq_some_iff.1 hN7).1; have h9 := jcf w7 R5 J ((l.take m).drop 56) hRd7 4 2048 (by decide) (by omega) (by omega); clear hRd5 hF5 hB5 hC5 hB6 hB6' hF6 hO7 hjk hsumI
  go_wp2_with fail
  rw [HN7.out]; clear HN7 ke kc0 kf0 kc1 kf1 kc2 kf2 kc3 kf3 kc4 kf4 kc5 kf5; refine h9.mono ?_; clear h9; rintro e w8 ⟨hC8, ⟨n, T1, v8, hp8, rfl, rfl, hR8⟩ | ⟨hp8, rfl⟩⟩
  rotate_left
  · have HC : Hid (certP l = none) := by
      show certP l = none
      rw [HQ.out]; unfold pBody; rw [hp8]
      rfl
    go_wp2_with fail
    refine jba (w := w) (w' := w8) (J := J) (hF7.chg hC8 fun q h1 h2 h3 => by omega) ?_ hJ ?_ HC.out
    · exact hB7.trans (hC8.below (by have := hB7.size; omega) fun k hk => by omega)
    · exact ⟨rfl, rfl, rfl, rfl, rfl⟩
  have hn := jdg hp8; have hT1 := jbe hp8; have hF8 := hF7.chg hC8 fun q h1 h2 h3 => by omega
  have hB8 : Below J w w8 := hB7.trans (hC8.below (by have := hB7.size; omega) fun k hk => by omega)
  have HQ2 : Hid (certP l = (pHits n T1).bind (pTail n)) := by
    show certP l = _
    rw [HQ.out]; unfold pBody; rw [hp8]
    rfl
  have hs8 : R5 < w8.heap.size := Nat.lt_of_lt_of_le hs7 hC8.size; have hni : (n : Int) ≤ 2048 := by omega
  have hT1l : T1.length ≤ 100000 := by omega
  obtain ⟨i0, hi, hz0, hz1, hz2⟩ := info_parts infH; clear hp8 HQ hRd7 hC8 hF7 hB7
  go_wp2_with fail
  go_loopw [54] (fun i wr => ∃ (k : Nat) (T : List UInt8) (sv : Value) (us : List Value), k ≤ n ∧ i = .int .i64 (k : Int) ∧ pHits k T1 = some T ∧ RdS wr R5 J T ∧ Five wr J #[.int .i64 a0, .int .i64 a1, .int .u64 a2, .int .u64 a3, .int .i64 a4] #[sv] #[.bool false, .slice none 0 0, .int .i64 0] #[.bool false, .slice none 0 0, .int .i64 0] #[.int .i64 0] ∧ wr.ownsRow w8.heap.size 58 14 sv k us ∧ Below J w wr ∧ w8.heap.size ≤ wr.heap.size) (fun i _ => n - (intOf i).toNat)
  case atStart => exact ⟨0, T1, .slice none 0 0, [], Nat.zero_le _, rfl, rfl, hR8, hF8, World.ownsRow_nil _ _ _ _, hB8, Nat.le_refl _⟩
  case round =>
    clear hR8 hF8 hB8; obtain ⟨k, T, sv, us, hk, rfl, hpk, hR, hF, hrow, hB, hsr⟩ := hrel; have hk0 : (0 : Int) ≤ (k : Int) := by omega
    obtain ⟨sA, sc, rfl⟩ := jbn hrow; have hlt := hrow.lt; have hTl2 := jiu k T1 T hpk
    by_cases hkn : k < n
    · have hki : (k : Int) < (n : Int) := by omega
      have hnc := jnw wr.drew R5 J T (hR.over ((Below.refl _ wr).drew) (by omega)) (by show J ≤ wr.heap.size; omega) (by omega); obtain ⟨QT, hQT⟩ : ∃ QT, pHit T = QT := ⟨_, rfl⟩; have hpk1 : pHits (k + 1) T1 = QT.map fun y => y.2 := by rw [pHits, hpk, ← hQT]; rfl
      rw [hQT] at hnc; have HQT := hideK hQT; clear hQT; have kA : wr.drew.cell? ⟨J + 1, 0, none⟩ = some (.slice sA k sc) := jaa (w := wr.drew) hF.l rfl
      cases QT with
      | none =>
        have HC : Hid (certP l = none) := by
          show certP l = none
          rw [HQ2.out]; have := jg9 hpk1 (n - (k + 1)); rw [show k + 1 + (n - (k + 1)) = n by omega] at this; rw [this]
          rfl
        go_upto_region 11 with (fail)
        refine wp_region_held_drew (S := fun _ => True) (by kernel_rfl) trivial (fun hHeld => ?_); refine wpAnyH_ready (rs := [0, 1]) (by kernel_rfl) (by simp) ?_; refine AllReadyH.cons (o := ⟨_, _, _, _, _, _⟩) rfl (fun K hK => ?_) (AllReadyH.cons (o := ⟨_, _, _, _, _, _⟩) rfl (fun K hK => ?_) AllReadyH.nil)
        · go_simp
          refine hK.out _ _ trivial (fun hHeld => ?_); clear hK K
          try simp only [Act.put, List.setIfInBounds_toArray, List.set_cons_zero, List.set_cons_succ]
          refine wpAnyH_ready (rs := [1]) (by kernel_rfl) (by simp) ?_; refine AllReadyH.cons (o := ⟨_, _, _, _, _, _⟩) rfl (fun K hK => ?_) AllReadyH.nil; go_simp; refine hK.out _ _ trivial (fun hHeld => ?_); clear hK K
          try simp only [Act.put, List.setIfInBounds_toArray, List.set_cons_zero, List.set_cons_succ]
          refine wpAnyH_ready (rs := [2]) (by kernel_rfl) (by simp) ?_; refine AllReadyH.cons (o := ⟨_, _, _, _, _, _⟩) rfl (fun K hK => ?_) AllReadyH.nil; go_simp; refine hnc.mono ?_; rintro e w9 ⟨hC9, ⟨x, t9, v9, hp9, -⟩ | ⟨-, rfl⟩⟩
          · cases hp9
          · refine jba (w := w) (w' := w9) (J := J) (hF.drew.chg hC9 fun q h1 h2 h3 => by omega) ?_ hJ ?_ HC.out
            · exact hB.trans ((Chg.trans (Chg.of_below ((Below.refl _ wr).drew)) hC9).below (by have := hB.size; omega) fun k hk => by omega)
            · exact ⟨rfl, rfl, rfl, rfl, rfl⟩
        · go_simp
          refine hK.out _ _ trivial (fun hHeld => ?_); clear hK K
          try simp only [Act.put, List.setIfInBounds_toArray, List.set_cons_zero, List.set_cons_succ]
          refine wpAnyH_ready (rs := [0, 2]) (by kernel_rfl) (by simp) ?_; refine AllReadyH.cons (o := ⟨_, _, _, _, _, _⟩) rfl (fun K hK => ?_) (AllReadyH.cons (o := ⟨_, _, _, _, _, _⟩) rfl (fun K hK => ?_) AllReadyH.nil)
          · go_simp
            refine hK.out _ _ trivial (fun hHeld => ?_); clear hK K
            try simp only [Act.put, List.setIfInBounds_toArray, List.set_cons_zero, List.set_cons_succ]
            refine wpAnyH_ready (rs := [2]) (by kernel_rfl) (by simp) ?_; refine AllReadyH.cons (o := ⟨_, _, _, _, _, _⟩) rfl (fun K hK => ?_) AllReadyH.nil; go_simp; refine hnc.mono ?_; rintro e w9 ⟨hC9, ⟨x, t9, v9, hp9, -⟩ | ⟨-, rfl⟩⟩
            · cases hp9
            · refine jba (w := w) (w' := w9) (J := J) (hF.drew.chg hC9 fun q h1 h2 h3 => by omega) ?_ hJ ?_ HC.out
              · exact hB.trans ((Chg.trans (Chg.of_below ((Below.refl _ wr).drew)) hC9).below (by have := hB.size; omega) fun k hk => by omega)
              · exact ⟨rfl, rfl, rfl, rfl, rfl⟩
          · go_simp
            refine hnc.mono ?_; rintro e w9 ⟨hC9, ⟨x, t9, v9, hp9, -⟩ | ⟨-, rfl⟩⟩
            · cases hp9
            · refine jba (w := w) (w' := w9) (J := J) (hF.drew.chg hC9 fun q h1 h2 h3 => by omega) ?_ hJ ?_ HC.out
              · exact hB.trans ((Chg.trans (Chg.of_below ((Below.refl _ wr).drew)) hC9).below (by have := hB.size; omega) fun k hk => by omega)
              · exact ⟨rfl, rfl, rfl, rfl, rfl⟩
      | some q8 =>
        obtain ⟨⟨⟩, T8⟩ := q8
        go_upto_region 11 with (fail)
        refine wp_region_held_drew (S := fun _ => True) (by kernel_rfl) trivial (fun hHeld => ?_); refine wpAnyH_ready (rs := [0, 1]) (by kernel_rfl) (by simp) ?_; refine AllReadyH.cons (o := ⟨_, _, _, _, _, _⟩) rfl (fun K hK => ?_) (AllReadyH.cons (o := ⟨_, _, _, _, _, _⟩) rfl (fun K hK => ?_) AllReadyH.nil)
        · go_simp
          refine hK.out _ _ trivial (fun hHeld => ?_); clear hK K
          try simp only [Act.put, List.setIfInBounds_toArray, List.set_cons_zero, List.set_cons_succ]
          refine wpAnyH_ready (rs := [1]) (by kernel_rfl) (by simp) ?_; refine AllReadyH.cons (o := ⟨_, _, _, _, _, _⟩) rfl (fun K hK => ?_) AllReadyH.nil; go_simp; refine hK.out _ _ trivial (fun hHeld => ?_); clear hK K
          try simp only [Act.put, List.setIfInBounds_toArray, List.set_cons_zero, List.set_cons_succ]
          refine wpAnyH_ready (rs := [2]) (by kernel_rfl) (by simp) ?_; refine AllReadyH.cons (o := ⟨_, _, _, _, _, _⟩) rfl (fun K hK => ?_) AllReadyH.nil; go_simp; refine hnc.mono ?_; rintro e w9 ⟨hC9, ⟨x, t9, v9, hp9, rfl, ⟨a, n1, A1, l1, d1, n2, A2, l2, d2, q, E, rfl⟩, hR9⟩ | ⟨hp9, -⟩⟩
          rotate_left
          cases hp9
          injection hp9 with hp9
          injection hp9 with hp9 hp10
          subst hp10; have hs9 : wr.heap.size ≤ w9.heap.size := hC9.size; have hF9 := hF.drew.chg hC9 fun q h1 h2 h3 => by omega
          have hFA : Five (w9.alloc (.cells #[.int .u64 (a : Int), .bool n1, .slice A1 l1 d1, .bool n2, .slice A2 l2 d2, .int .i64 (q : Int), .int .i64 E, .int .i64 0, .int .i64 0, .bool false, .slice none 0 0, .bool false, .slice none 0 0, .bool false] 58)) J #[.int .i64 a0, .int .i64 a1, .int .u64 a2, .int .u64 a3, .int .i64 a4] #[.slice sA k sc] #[.bool false, .slice none 0 0, .int .i64 0] #[.bool false, .slice none 0 0, .int .i64 0] #[.int .i64 0] := hF9.over (jac w9 _); have kB : w9.cell? ⟨J + 1, 0, none⟩ = some (.slice sA k sc) := jaa hF9.l rfl; have kC : (w9.alloc (.cells #[.int .u64 (a : Int), .bool n1, .slice A1 l1 d1, .bool n2, .slice A2 l2 d2, .int .i64 (q : Int), .int .i64 E, .int .i64 0, .int .i64 0, .bool false, .slice none 0 0, .bool false, .slice none 0 0, .bool false] 58)).cell? ⟨J + 1, 0, none⟩ = some (.slice sA k sc) := jaa hFA.l rfl; have kF : (w9.alloc (.cells #[.int .u64 (a : Int), .bool n1, .slice A1 l1 d1, .bool n2, .slice A2 l2 d2, .int .i64 (q : Int), .int .i64 E, .int .i64 0, .int .i64 0, .bool false, .slice none 0 0, .bool false, .slice none 0 0, .bool false] 58)).frozen? ⟨J + 1, 0, none⟩ = false := jab hFA.l; have hrow9 : (w9.alloc (.cells #[.int .u64 (a : Int), .bool n1, .slice A1 l1 d1, .bool n2, .slice A2 l2 d2, .int .i64 (q : Int), .int .i64 E, .int .i64 0, .int .i64 0, .bool false, .slice none 0 0, .bool false, .slice none 0 0, .bool false] 58)).ownsRow w8.heap.size 58 14 (.slice sA k sc) k us := jaf (w := wr.drew) hrow fun q hq => ((jac w9 _).block q (Nat.lt_of_lt_of_le (hlt q hq).2 hs9)).trans (hC9.block q (hlt q hq).2 (by have := (hlt q hq).1; omega))
          refine hK.out _ _ trivial (fun hHeld => ?_); clear hK K
          try simp only [Act.put, List.setIfInBounds_toArray, List.set_cons_zero, List.set_cons_succ]
          refine wpAnyH_ready (rs := [3]) (by kernel_rfl) (by simp) ?_; refine AllReadyH.cons (o := ⟨_, _, _, _, _, _⟩) rfl (fun K hK => ?_) AllReadyH.nil; go_simp; refine hK.out _ _ trivial (fun hHeld => ?_); clear hK K
          try simp only [Act.put, List.setIfInBounds_toArray, List.set_cons_zero, List.set_cons_succ]
          refine wpAnyH_ready (rs := [4]) (by kernel_rfl) (by simp) ?_; refine AllReadyH.cons (o := ⟨_, _, _, _, _, _⟩) rfl (fun K hK => ?_) AllReadyH.nil; refine step_append_lies _ (by rfl) _ _ _ (by rfl) w8.heap.size 58 i0 (.agg #[.int .u64 0, .bool false, .slice none 0 0, .bool false, .slice none 0 0, .int .i64 0, .int .i64 0, .int .i64 0, .int .i64 0, .bool false, .slice none 0 0, .bool false, .slice none 0 0, .bool false]) 14 176 Tryz.underlying28 hi hz0 hz1 hz2 rfl (by decide) (.slice sA k sc) k us (by rfl) hrow9 ⟨w9.heap.size, 0, none⟩ 1 1 [.int .u64 (a : Int), .bool n1, .slice A1 l1 d1, .bool n2, .slice A2 l2 d2, .int .i64 (q : Int), .int .i64 E, .int .i64 0, .int .i64 0, .bool false, .slice none 0 0, .bool false, .slice none 0 0, .bool false] (by rfl) rfl (World.news_of_block (heap_alloc_new w9 _)) (by simp; exact ⟨rfl, rfl, rfl, rfl, rfl, rfl, rfl, rfl, rfl, rfl, rfl, rfl, rfl⟩) (by decide) (by simp only [maxLen]; omega) (by omega) (by rw [World.size_alloc]; omega) _ rfl ?_; intro g cap w10 hown hgrow hat2 hlt2; have hG10 : Chg (fun q => (Value.slice sA k sc).ownBlock = some q) (w9.alloc (.cells #[.int .u64 (a : Int), .bool n1, .slice A1 l1 d1, .bool n2, .slice A2 l2 d2, .int .i64 (q : Int), .int .i64 E, .int .i64 0, .int .i64 0, .bool false, .slice none 0 0, .bool false, .slice none 0 0, .bool false] 58)) w10 := ⟨hgrow.os, hgrow.tape, hgrow.output, hgrow.size, fun q hq hn => hgrow.block q hq fun e => hn e.symm⟩; have hF10 := hFA.chg hG10 fun q h1 h2 h3 => by have := (hlt q h3).1; omega
          have m0 : w10.cell? ⟨J + 1, 0, none⟩ = some (.slice sA k sc) := jaa hF10.l rfl; have m1 : w10.frozen? ⟨J + 1, 0, none⟩ = false := jab hF10.l; refine hK.out _ _ trivial (fun hHeld => ?_); clear hK K
          try simp only [Act.put, List.setIfInBounds_toArray, List.set_cons_zero, List.set_cons_succ]
          refine wpAnyH_ready (rs := [5]) (by kernel_rfl) (by simp) ?_; refine AllReadyH.cons (o := ⟨_, _, _, _, _, _⟩) rfl (fun K hK => ?_) AllReadyH.nil; go_simp; refine hK.out _ _ trivial (fun hHeld => ?_); clear hK K
          try simp only [Act.put, List.setIfInBounds_toArray, List.set_cons_zero, List.set_cons_succ]
          refine wpAnyH_done (by kernel_rfl) ?_ _
          go_wp2_with fail
          have hg8 : w8.heap.size ≤ g := hat2.elim (fun e => (hlt g e).1) fun e => by rw [World.size_alloc] at e; omega
          obtain ⟨w11, hw11⟩ : ∃ u, w10.setCell ⟨J + 1, 0, none⟩ (.slice (some ⟨g, 0, none⟩) (k + 1) cap) = u := ⟨_, rfl⟩; obtain ⟨hF11, hO11⟩ := jiv hF10 hw11; rw [hw11]; have hRA : RdS w10 R5 J T8 := (hR9.over (jac w9 _) (by omega)).of hgrow.size (hG10.block R5 (by rw [World.size_alloc]; omega) fun e => by have := (hlt R5 e).1; omega) fun q hq hq2 => hG10.block q (by rw [World.size_alloc]; omega) fun e => by have := (hlt q e).1; omega
          have hB10 : Below J w w10 := hB.trans (((((Chg.of_below (F := fun q => J ≤ q) ((Below.refl _ wr).drew)).trans (hC9.mono (G := fun q => J ≤ q) fun q _ h => by omega)).trans (Chg.of_below (jac w9 _))).trans (hG10.mono fun q _ h => by have := (hlt q h).1; omega)).below (by have := hB.size; omega) fun q h => h); have hB11 : Below J w w11 := hB10.trans (hO11.below (by omega)); have hs10 := hgrow.size; rw [World.size_alloc] at hs10
          exact ⟨⟨k + 1, T8, .slice (some ⟨g, 0, none⟩) (k + 1) cap, _, by omega, rfl, hpk1, hRA.of (Nat.le_of_eq hO11.size.symm) (hO11.block R5 (by omega)) (fun q hq _ => hO11.block q (by omega)), hF11, jaf hown fun q hq => hO11.block q (by
            obtain rfl : g = q := by simpa [Value.ownBlock] using hq
            omega), hB11, by have := hO11.size; omega⟩, by simp only [intOf]; omega⟩
        · go_simp
          refine hK.out _ _ trivial (fun hHeld => ?_); clear hK K
          try simp only [Act.put, List.setIfInBounds_toArray, List.set_cons_zero, List.set_cons_succ]
          refine wpAnyH_ready (rs := [0, 2]) (by kernel_rfl) (by simp) ?_; refine AllReadyH.cons (o := ⟨_, _, _, _, _, _⟩) rfl (fun K hK => ?_) (AllReadyH.cons (o := ⟨_, _, _, _, _, _⟩) rfl (fun K hK => ?_) AllReadyH.nil)
          · go_simp
            refine hK.out _ _ trivial (fun hHeld => ?_); clear hK K
            try simp only [Act.put, List.setIfInBounds_toArray, List.set_cons_zero, List.set_cons_succ]
            refine wpAnyH_ready (rs := [2]) (by kernel_rfl) (by simp) ?_; refine AllReadyH.cons (o := ⟨_, _, _, _, _, _⟩) rfl (fun K hK => ?_) AllReadyH.nil; go_simp; refine hnc.mono ?_; rintro e w9 ⟨hC9, ⟨x, t9, v9, hp9, rfl, ⟨a, n1, A1, l1, d1, n2, A2, l2, d2, q, E, rfl⟩, hR9⟩ | ⟨hp9, -⟩⟩
            rotate_left
            cases hp9
            injection hp9 with hp9
            injection hp9 with hp9 hp10
            subst hp10; have hs9 : wr.heap.size ≤ w9.heap.size := hC9.size; have hF9 := hF.drew.chg hC9 fun q h1 h2 h3 => by omega
            have hFA : Five (w9.alloc (.cells #[.int .u64 (a : Int), .bool n1, .slice A1 l1 d1, .bool n2, .slice A2 l2 d2, .int .i64 (q : Int), .int .i64 E, .int .i64 0, .int .i64 0, .bool false, .slice none 0 0, .bool false, .slice none 0 0, .bool false] 58)) J #[.int .i64 a0, .int .i64 a1, .int .u64 a2, .int .u64 a3, .int .i64 a4] #[.slice sA k sc] #[.bool false, .slice none 0 0, .int .i64 0] #[.bool false, .slice none 0 0, .int .i64 0] #[.int .i64 0] := hF9.over (jac w9 _); have kB : w9.cell? ⟨J + 1, 0, none⟩ = some (.slice sA k sc) := jaa hF9.l rfl; have kC : (w9.alloc (.cells #[.int .u64 (a : Int), .bool n1, .slice A1 l1 d1, .bool n2, .slice A2 l2 d2, .int .i64 (q : Int), .int .i64 E, .int .i64 0, .int .i64 0, .bool false, .slice none 0 0, .bool false, .slice none 0 0, .bool false] 58)).cell? ⟨J + 1, 0, none⟩ = some (.slice sA k sc) := jaa hFA.l rfl; have kF : (w9.alloc (.cells #[.int .u64 (a : Int), .bool n1, .slice A1 l1 d1, .bool n2, .slice A2 l2 d2, .int .i64 (q : Int), .int .i64 E, .int .i64 0, .int .i64 0, .bool false, .slice none 0 0, .bool false, .slice none 0 0, .bool false] 58)).frozen? ⟨J + 1, 0, none⟩ = false := jab hFA.l; have hrow9 : (w9.alloc (.cells #[.int .u64 (a : Int), .bool n1, .slice A1 l1 d1, .bool n2, .slice A2 l2 d2, .int .i64 (q : Int), .int .i64 E, .int .i64 0, .int .i64 0, .bool false, .slice none 0 0, .bool false, .slice none 0 0, .bool false] 58)).ownsRow w8.heap.size 58 14 (.slice sA k sc) k us := jaf (w := wr.drew) hrow fun q hq => ((jac w9 _).block q (Nat.lt_of_lt_of_le (hlt q hq).2 hs9)).trans (hC9.block q (hlt q hq).2 (by have := (hlt q hq).1; omega))
            refine hK.out _ _ trivial (fun hHeld => ?_); clear hK K
            try simp only [Act.put, List.setIfInBounds_toArray, List.set_cons_zero, List.set_cons_succ]
            refine wpAnyH_ready (rs := [3]) (by kernel_rfl) (by simp) ?_; refine AllReadyH.cons (o := ⟨_, _, _, _, _, _⟩) rfl (fun K hK => ?_) AllReadyH.nil; go_simp; refine hK.out _ _ trivial (fun hHeld => ?_); clear hK K
            try simp only [Act.put, List.setIfInBounds_toArray, List.set_cons_zero, List.set_cons_succ]
            refine wpAnyH_ready (rs := [4]) (by kernel_rfl) (by simp) ?_; refine AllReadyH.cons (o := ⟨_, _, _, _, _, _⟩) rfl (fun K hK => ?_) AllReadyH.nil; refine step_append_lies _ (by rfl) _ _ _ (by rfl) w8.heap.size 58 i0 (.agg #[.int .u64 0, .bool false, .slice none 0 0, .bool false, .slice none 0 0, .int .i64 0, .int .i64 0, .int .i64 0, .int .i64 0, .bool false, .slice none 0 0, .bool false, .slice none 0 0, .bool false]) 14 176 Tryz.underlying28 hi hz0 hz1 hz2 rfl (by decide) (.slice sA k sc) k us (by rfl) hrow9 ⟨w9.heap.size, 0, none⟩ 1 1 [.int .u64 (a : Int), .bool n1, .slice A1 l1 d1, .bool n2, .slice A2 l2 d2, .int .i64 (q : Int), .int .i64 E, .int .i64 0, .int .i64 0, .bool false, .slice none 0 0, .bool false, .slice none 0 0, .bool false] (by rfl) rfl (World.news_of_block (heap_alloc_new w9 _)) (by simp; exact ⟨rfl, rfl, rfl, rfl, rfl, rfl, rfl, rfl, rfl, rfl, rfl, rfl, rfl⟩) (by decide) (by simp only [maxLen]; omega) (by omega) (by rw [World.size_alloc]; omega) _ rfl ?_; intro g cap w10 hown hgrow hat2 hlt2; have hG10 : Chg (fun q => (Value.slice sA k sc).ownBlock = some q) (w9.alloc (.cells #[.int .u64 (a : Int), .bool n1, .slice A1 l1 d1, .bool n2, .slice A2 l2 d2, .int .i64 (q : Int), .int .i64 E, .int .i64 0, .int .i64 0, .bool false, .slice none 0 0, .bool false, .slice none 0 0, .bool false] 58)) w10 := ⟨hgrow.os, hgrow.tape, hgrow.output, hgrow.size, fun q hq hn => hgrow.block q hq fun e => hn e.symm⟩; have hF10 := hFA.chg hG10 fun q h1 h2 h3 => by have := (hlt q h3).1; omega
            have m0 : w10.cell? ⟨J + 1, 0, none⟩ = some (.slice sA k sc) := jaa hF10.l rfl; have m1 : w10.frozen? ⟨J + 1, 0, none⟩ = false := jab hF10.l; refine hK.out _ _ trivial (fun hHeld => ?_); clear hK K
            try simp only [Act.put, List.setIfInBounds_toArray, List.set_cons_zero, List.set_cons_succ]
            refine wpAnyH_ready (rs := [5]) (by kernel_rfl) (by simp) ?_; refine AllReadyH.cons (o := ⟨_, _, _, _, _, _⟩) rfl (fun K hK => ?_) AllReadyH.nil; go_simp; refine hK.out _ _ trivial (fun hHeld => ?_); clear hK K
            try simp only [Act.put, List.setIfInBounds_toArray, List.set_cons_zero, List.set_cons_succ]
            refine wpAnyH_done (by kernel_rfl) ?_ _
            go_wp2_with fail
            have hg8 : w8.heap.size ≤ g := hat2.elim (fun e => (hlt g e).1) fun e => by rw [World.size_alloc] at e; omega
            obtain ⟨w11, hw11⟩ : ∃ u, w10.setCell ⟨J + 1, 0, none⟩ (.slice (some ⟨g, 0, none⟩) (k + 1) cap) = u := ⟨_, rfl⟩; obtain ⟨hF11, hO11⟩ := jiv hF10 hw11; rw [hw11]; have hRA : RdS w10 R5 J T8 := (hR9.over (jac w9 _) (by omega)).of hgrow.size (hG10.block R5 (by rw [World.size_alloc]; omega) fun e => by have := (hlt R5 e).1; omega) fun q hq hq2 => hG10.block q (by rw [World.size_alloc]; omega) fun e => by have := (hlt q e).1; omega
            have hB10 : Below J w w10 := hB.trans (((((Chg.of_below (F := fun q => J ≤ q) ((Below.refl _ wr).drew)).trans (hC9.mono (G := fun q => J ≤ q) fun q _ h => by omega)).trans (Chg.of_below (jac w9 _))).trans (hG10.mono fun q _ h => by have := (hlt q h).1; omega)).below (by have := hB.size; omega) fun q h => h); have hB11 : Below J w w11 := hB10.trans (hO11.below (by omega)); have hs10 := hgrow.size; rw [World.size_alloc] at hs10
            exact ⟨⟨k + 1, T8, .slice (some ⟨g, 0, none⟩) (k + 1) cap, _, by omega, rfl, hpk1, hRA.of (Nat.le_of_eq hO11.size.symm) (hO11.block R5 (by omega)) (fun q hq _ => hO11.block q (by omega)), hF11, jaf hown fun q hq => hO11.block q (by
              obtain rfl : g = q := by simpa [Value.ownBlock] using hq
              omega), hB11, by have := hO11.size; omega⟩, by simp only [intOf]; omega⟩
          · go_simp
            refine hnc.mono ?_; rintro e w9 ⟨hC9, ⟨x, t9, v9, hp9, rfl, ⟨a, n1, A1, l1, d1, n2, A2, l2, d2, q, E, rfl⟩, hR9⟩ | ⟨hp9, -⟩⟩
            rotate_left
            cases hp9
            injection hp9 with hp9
            injection hp9 with hp9 hp10
            subst hp10; have hs9 : wr.heap.size ≤ w9.heap.size := hC9.size; have hF9 := hF.drew.chg hC9 fun q h1 h2 h3 => by omega
            have hFA : Five (w9.alloc (.cells #[.int .u64 (a : Int), .bool n1, .slice A1 l1 d1, .bool n2, .slice A2 l2 d2, .int .i64 (q : Int), .int .i64 E, .int .i64 0, .int .i64 0, .bool false, .slice none 0 0, .bool false, .slice none 0 0, .bool false] 58)) J #[.int .i64 a0, .int .i64 a1, .int .u64 a2, .int .u64 a3, .int .i64 a4] #[.slice sA k sc] #[.bool false, .slice none 0 0, .int .i64 0] #[.bool false, .slice none 0 0, .int .i64 0] #[.int .i64 0] := hF9.over (jac w9 _); have kB : w9.cell? ⟨J + 1, 0, none⟩ = some (.slice sA k sc) := jaa hF9.l rfl; have kC : (w9.alloc (.cells #[.int .u64 (a : Int), .bool n1, .slice A1 l1 d1, .bool n2, .slice A2 l2 d2, .int .i64 (q : Int), .int .i64 E, .int .i64 0, .int .i64 0, .bool false, .slice none 0 0, .bool false, .slice none 0 0, .bool false] 58)).cell? ⟨J + 1, 0, none⟩ = some (.slice sA k sc) := jaa hFA.l rfl; have kF : (w9.alloc (.cells #[.int .u64 (a : Int), .bool n1, .slice A1 l1 d1, .bool n2, .slice A2 l2 d2, .int .i64 (q : Int), .int .i64 E, .int .i64 0, .int .i64 0, .bool false, .slice none 0 0, .bool false, .slice none 0 0, .bool false] 58)).frozen? ⟨J + 1, 0, none⟩ = false := jab hFA.l; have hrow9 : (w9.alloc (.cells #[.int .u64 (a : Int), .bool n1, .slice A1 l1 d1, .bool n2, .slice A2 l2 d2, .int .i64 (q : Int), .int .i64 E, .int .i64 0, .int .i64 0, .bool false, .slice none 0 0, .bool false, .slice none 0 0, .bool false] 58)).ownsRow w8.heap.size 58 14 (.slice sA k sc) k us := jaf (w := wr.drew) hrow fun q hq => ((jac w9 _).block q (Nat.lt_of_lt_of_le (hlt q hq).2 hs9)).trans (hC9.block q (hlt q hq).2 (by have := (hlt q hq).1; omega))
            refine hK.out _ _ trivial (fun hHeld => ?_); clear hK K
            try simp only [Act.put, List.setIfInBounds_toArray, List.set_cons_zero, List.set_cons_succ]
            refine wpAnyH_ready (rs := [0, 3]) (by kernel_rfl) (by simp) ?_; refine AllReadyH.cons (o := ⟨_, _, _, _, _, _⟩) rfl (fun K hK => ?_) (AllReadyH.cons (o := ⟨_, _, _, _, _, _⟩) rfl (fun K hK => ?_) AllReadyH.nil)
            · go_simp
              refine hK.out _ _ trivial (fun hHeld => ?_); clear hK K
              try simp only [Act.put, List.setIfInBounds_toArray, List.set_cons_zero, List.set_cons_succ]
              refine wpAnyH_ready (rs := [3]) (by kernel_rfl) (by simp) ?_; refine AllReadyH.cons (o := ⟨_, _, _, _, _, _⟩) rfl (fun K hK => ?_) AllReadyH.nil; go_simp; refine hK.out _ _ trivial (fun hHeld => ?_); clear hK K
              try simp only [Act.put, List.setIfInBounds_toArray, List.set_cons_zero, List.set_cons_succ]
              refine wpAnyH_ready (rs := [4]) (by kernel_rfl) (by simp) ?_; refine AllReadyH.cons (o := ⟨_, _, _, _, _, _⟩) rfl (fun K hK => ?_) AllReadyH.nil; refine step_append_lies _ (by rfl) _ _ _ (by rfl) w8.heap.size 58 i0 (.agg #[.int .u64 0, .bool false, .slice none 0 0, .bool false, .slice none 0 0, .int .i64 0, .int .i64 0, .int .i64 0, .int .i64 0, .bool false, .slice none 0 0, .bool false, .slice none 0 0, .bool false]) 14 176 Tryz.underlying28 hi hz0 hz1 hz2 rfl (by decide) (.slice sA k sc) k us (by rfl) hrow9 ⟨w9.heap.size, 0, none⟩ 1 1 [.int .u64 (a : Int), .bool n1, .slice A1 l1 d1, .bool n2, .slice A2 l2 d2, .int .i64 (q : Int), .int .i64 E, .int .i64 0, .int .i64 0, .bool false, .slice none 0 0, .bool false, .slice none 0 0, .bool false] (by rfl) rfl (World.news_of_block (heap_alloc_new w9 _)) (by simp; exact ⟨rfl, rfl, rfl, rfl, rfl, rfl, rfl, rfl, rfl, rfl, rfl, rfl, rfl⟩) (by decide) (by simp only [maxLen]; omega) (by omega) (by rw [World.size_alloc]; omega) _ rfl ?_; intro g cap w10 hown hgrow hat2 hlt2; have hG10 : Chg (fun q => (Value.slice sA k sc).ownBlock = some q) (w9.alloc (.cells #[.int .u64 (a : Int), .bool n1, .slice A1 l1 d1, .bool n2, .slice A2 l2 d2, .int .i64 (q : Int), .int .i64 E, .int .i64 0, .int .i64 0, .bool false, .slice none 0 0, .bool false, .slice none 0 0, .bool false] 58)) w10 := ⟨hgrow.os, hgrow.tape, hgrow.output, hgrow.size, fun q hq hn => hgrow.block q hq fun e => hn e.symm⟩; have hF10 := hFA.chg hG10 fun q h1 h2 h3 => by have := (hlt q h3).1; omega
              have m0 : w10.cell? ⟨J + 1, 0, none⟩ = some (.slice sA k sc) := jaa hF10.l rfl; have m1 : w10.frozen? ⟨J + 1, 0, none⟩ = false := jab hF10.l; refine hK.out _ _ trivial (fun hHeld => ?_); clear hK K
              try simp only [Act.put, List.setIfInBounds_toArray, List.set_cons_zero, List.set_cons_succ]
              refine wpAnyH_ready (rs := [5]) (by kernel_rfl) (by simp) ?_; refine AllReadyH.cons (o := ⟨_, _, _, _, _, _⟩) rfl (fun K hK => ?_) AllReadyH.nil; go_simp; refine hK.out _ _ trivial (fun hHeld => ?_); clear hK K
              try simp only [Act.put, List.setIfInBounds_toArray, List.set_cons_zero, List.set_cons_succ]
              refine wpAnyH_done (by kernel_rfl) ?_ _
              go_wp2_with fail
              have hg8 : w8.heap.size ≤ g := hat2.elim (fun e => (hlt g e).1) fun e => by rw [World.size_alloc] at e; omega
              obtain ⟨w11, hw11⟩ : ∃ u, w10.setCell ⟨J + 1, 0, none⟩ (.slice (some ⟨g, 0, none⟩) (k + 1) cap) = u := ⟨_, rfl⟩; obtain ⟨hF11, hO11⟩ := jiv hF10 hw11; rw [hw11]; have hRA : RdS w10 R5 J T8 := (hR9.over (jac w9 _) (by omega)).of hgrow.size (hG10.block R5 (by rw [World.size_alloc]; omega) fun e => by have := (hlt R5 e).1; omega) fun q hq hq2 => hG10.block q (by rw [World.size_alloc]; omega) fun e => by have := (hlt q e).1; omega
              have hB10 : Below J w w10 := hB.trans (((((Chg.of_below (F := fun q => J ≤ q) ((Below.refl _ wr).drew)).trans (hC9.mono (G := fun q => J ≤ q) fun q _ h => by omega)).trans (Chg.of_below (jac w9 _))).trans (hG10.mono fun q _ h => by have := (hlt q h).1; omega)).below (by have := hB.size; omega) fun q h => h); have hB11 : Below J w w11 := hB10.trans (hO11.below (by omega)); have hs10 := hgrow.size; rw [World.size_alloc] at hs10
              exact ⟨⟨k + 1, T8, .slice (some ⟨g, 0, none⟩) (k + 1) cap, _, by omega, rfl, hpk1, hRA.of (Nat.le_of_eq hO11.size.symm) (hO11.block R5 (by omega)) (fun q hq _ => hO11.block q (by omega)), hF11, jaf hown fun q hq => hO11.block q (by
                obtain rfl : g = q := by simpa [Value.ownBlock] using hq
                omega), hB11, by have := hO11.size; omega⟩, by simp only [intOf]; omega⟩
            · go_simp
              refine hK.out _ _ trivial (fun hHeld => ?_); clear hK K
              try simp only [Act.put, List.setIfInBounds_toArray, List.set_cons_zero, List.set_cons_succ]
              refine wpAnyH_ready (rs := [0]) (by kernel_rfl) (by simp) ?_; refine AllReadyH.cons (o := ⟨_, _, _, _, _, _⟩) rfl (fun K hK => ?_) AllReadyH.nil; go_simp; refine hK.out _ _ trivial (fun hHeld => ?_); clear hK K
              try simp only [Act.put, List.setIfInBounds_toArray, List.set_cons_zero, List.set_cons_succ]
              refine wpAnyH_ready (rs := [4]) (by kernel_rfl) (by simp) ?_; refine AllReadyH.cons (o := ⟨_, _, _, _, _, _⟩) rfl (fun K hK => ?_) AllReadyH.nil; refine step_append_lies _ (by rfl) _ _ _ (by rfl) w8.heap.size 58 i0 (.agg #[.int .u64 0, .bool false, .slice none 0 0, .bool false, .slice none 0 0, .int .i64 0, .int .i64 0, .int .i64 0, .int .i64 0, .bool false, .slice none 0 0, .bool false, .slice none 0 0, .bool false]) 14 176 Tryz.underlying28 hi hz0 hz1 hz2 rfl (by decide) (.slice sA k sc) k us (by rfl) hrow9 ⟨w9.heap.size, 0, none⟩ 1 1 [.int .u64 (a : Int), .bool n1, .slice A1 l1 d1, .bool n2, .slice A2 l2 d2, .int .i64 (q : Int), .int .i64 E, .int .i64 0, .int .i64 0, .bool false, .slice none 0 0, .bool false, .slice none 0 0, .bool false] (by rfl) rfl (World.news_of_block (heap_alloc_new w9 _)) (by simp; exact ⟨rfl, rfl, rfl, rfl, rfl, rfl, rfl, rfl, rfl, rfl, rfl, rfl, rfl⟩) (by decide) (by simp only [maxLen]; omega) (by omega) (by rw [World.size_alloc]; omega) _ rfl ?_; intro g cap w10 hown hgrow hat2 hlt2; have hG10 : Chg (fun q => (Value.slice sA k sc).ownBlock = some q) (w9.alloc (.cells #[.int .u64 (a : Int), .bool n1, .slice A1 l1 d1, .bool n2, .slice A2 l2 d2, .int .i64 (q : Int), .int .i64 E, .int .i64 0, .int .i64 0, .bool false, .slice none 0 0, .bool false, .slice none 0 0, .bool false] 58)) w10 := ⟨hgrow.os, hgrow.tape, hgrow.output, hgrow.size, fun q hq hn => hgrow.block q hq fun e => hn e.symm⟩; have hF10 := hFA.chg hG10 fun q h1 h2 h3 => by have := (hlt q h3).1; omega
              have m0 : w10.cell? ⟨J + 1, 0, none⟩ = some (.slice sA k sc) := jaa hF10.l rfl; have m1 : w10.frozen? ⟨J + 1, 0, none⟩ = false := jab hF10.l; refine hK.out _ _ trivial (fun hHeld => ?_); clear hK K
              try simp only [Act.put, List.setIfInBounds_toArray, List.set_cons_zero, List.set_cons_succ]
              refine wpAnyH_ready (rs := [5]) (by kernel_rfl) (by simp) ?_; refine AllReadyH.cons (o := ⟨_, _, _, _, _, _⟩) rfl (fun K hK => ?_) AllReadyH.nil; go_simp; refine hK.out _ _ trivial (fun hHeld => ?_); clear hK K
              try simp only [Act.put, List.setIfInBounds_toArray, List.set_cons_zero, List.set_cons_succ]
              refine wpAnyH_done (by kernel_rfl) ?_ _
              go_wp2_with fail
              have hg8 : w8.heap.size ≤ g := hat2.elim (fun e => (hlt g e).1) fun e => by rw [World.size_alloc] at e; omega
              obtain ⟨w11, hw11⟩ : ∃ u, w10.setCell ⟨J + 1, 0, none⟩ (.slice (some ⟨g, 0, none⟩) (k + 1) cap) = u := ⟨_, rfl⟩; obtain ⟨hF11, hO11⟩ := jiv hF10 hw11; rw [hw11]; have hRA : RdS w10 R5 J T8 := (hR9.over (jac w9 _) (by omega)).of hgrow.size (hG10.block R5 (by rw [World.size_alloc]; omega) fun e => by have := (hlt R5 e).1; omega) fun q hq hq2 => hG10.block q (by rw [World.size_alloc]; omega) fun e => by have := (hlt q e).1; omega
              have hB10 : Below J w w10 := hB.trans (((((Chg.of_below (F := fun q => J ≤ q) ((Below.refl _ wr).drew)).trans (hC9.mono (G := fun q => J ≤ q) fun q _ h => by omega)).trans (Chg.of_below (jac w9 _))).trans (hG10.mono fun q _ h => by have := (hlt q h).1; omega)).below (by have := hB.size; omega) fun q h => h); have hB11 : Below J w w11 := hB10.trans (hO11.below (by omega)); have hs10 := hgrow.size; rw [World.size_alloc] at hs10
              exact ⟨⟨k + 1, T8, .slice (some ⟨g, 0, none⟩) (k + 1) cap, _, by omega, rfl, hpk1, hRA.of (Nat.le_of_eq hO11.size.symm) (hO11.block R5 (by omega)) (fun q hq _ => hO11.block q (by omega)), hF11, jaf hown fun q hq => hO11.block q (by
                obtain rfl : g = q := by simpa [Value.ownBlock] using hq
                omega), hB11, by have := hO11.size; omega⟩, by simp only [intOf]; omega⟩
    · obtain rfl : k = n := by omega
      have hki : ¬(k : Int) < (k : Int) := by omega
      have HQ3 : Hid (certP l = pTail k T) := by
        show certP l = _
        rw [HQ2.out, hpk]
        rfl
      have h13 := jg8 wr R5 J T hR (by omega) (by omega); clear HQ2 hpk
      go_wp2_with fail
      refine h13.mono ?_; clear h13; rintro e w12 ⟨hC12, ⟨x1, T2, v12, hp12, rfl, ⟨mv, rfl, hrow12⟩, hR12⟩ | ⟨hp12, rfl⟩⟩
      rotate_left
      · have HC : Hid (certP l = none) := by
          show certP l = none
          rw [HQ3.out]; unfold pTail; rw [hp12]
          rfl
        go_wp2_with fail
        refine jba (w := w) (w' := w12) (J := J) (hF.chg hC12 fun q h1 h2 h3 => by omega) ?_ hJ ?_ HC.out
        · exact hB.trans (hC12.below (by have := hB.size; omega) fun k hk => by omega)
        · exact ⟨rfl, rfl, rfl, rfl, rfl⟩
      have HQ4 : Hid (certP l = (pDyad T2).bind fun y => if 0 < y.2.length then none else some (k, x1, y.1)) := by
        show certP l = _
        rw [HQ3.out]; unfold pTail; rw [hp12]
        rfl
      obtain ⟨xn, xm, xe⟩ := x1; obtain ⟨xA, xc, HXC, rfl⟩ := jn0 hrow12; have hT2 : T2.length ≤ 100000 := by have := jiw hp12; omega
      have hF12 := hF.chg hC12 fun q h1 h2 h3 => by omega
      have hB12 : Below J w w12 := hB.trans (hC12.below (by have := hB.size; omega) fun k hk => by omega); have hs12 := hC12.size; have kxc0 : w12.cell? ⟨J + 2, 0, none⟩ = some (.bool false) := jaa hF12.x rfl; have kxf0 : w12.frozen? ⟨J + 2, 0, none⟩ = false := jab hF12.x; have kxc1 : w12.cell? ⟨J + 2, 1, none⟩ = some (.slice none 0 0) := jaa hF12.x rfl; have kxf1 : w12.frozen? ⟨J + 2, 1, none⟩ = false := jab hF12.x; have kxc2 : w12.cell? ⟨J + 2, 2, none⟩ = some (.int .i64 0) := jaa hF12.x rfl; have kxf2 : w12.frozen? ⟨J + 2, 2, none⟩ = false := jab hF12.x; obtain ⟨w13, hw13⟩ : ∃ u, ((w12.setCell ⟨J + 2, 0, none⟩ (.bool xn)).setCell ⟨J + 2, 1, none⟩ (.slice xA xm.length xc)).setCell ⟨J + 2, 2, none⟩ (.int .i64 xe) = u := ⟨_, rfl⟩; obtain ⟨hF13, hO13⟩ := jsb hF12 hw13; have hs13 := hO13.size; have hR13 : RdS w13 R5 J T2 := hR12.of (Nat.le_of_eq hO13.size.symm) (hO13.block R5 (by omega)) fun q hq _ => hO13.block q (by omega)
      have hB13 : Below J w w13 := hB12.trans (hO13.below (by omega)); have h14 := jg8 w13 R5 J T2 hR13 (by omega) hT2; have HW13 := hideK hw13; clear hw13 HQ3 hp12 hR12 hF hR hrow hB hF12 hB12
      go_wp2_with fail
      rw [HW13.out]; refine h14.mono ?_; clear h14 HW13; rintro e w14 ⟨hC14, ⟨x2, T3, v14, hp14, rfl, ⟨mv, rfl, hrow14⟩, hR14⟩ | ⟨hp14, rfl⟩⟩
      rotate_left
      · have HC : Hid (certP l = none) := by
          show certP l = none
          rw [HQ4.out, hp14]
          rfl
        go_wp2_with fail
        refine jba (w := w) (w' := w14) (J := J) (hF13.chg hC14 fun q h1 h2 h3 => by omega) ?_ hJ ?_ HC.out
        · exact hB13.trans (hC14.below (by have := hB13.size; omega) fun k hk => by omega)
        · exact ⟨rfl, rfl, rfl, rfl, rfl⟩
      have HQ5 : Hid (certP l = if 0 < T3.length then none else some (k, (xn, xm, xe), x2)) := by
        show certP l = _
        rw [HQ4.out, hp14]
        rfl
      obtain ⟨yn, ym, ye⟩ := x2; obtain ⟨yA, yc, HYC, rfl⟩ := jn0 hrow14; have hT3 : T3.length ≤ 100000 := by have := jiw hp14; omega
      have hF14 := hF13.chg hC14 fun q h1 h2 h3 => by omega
      have hB14 : Below J w w14 := hB13.trans (hC14.below (by have := hB13.size; omega) fun k hk => by omega); have hs14 := hC14.size; have kyc0 : w14.cell? ⟨J + 3, 0, none⟩ = some (.bool false) := jaa hF14.y rfl; have kyf0 : w14.frozen? ⟨J + 3, 0, none⟩ = false := jab hF14.y; have kyc1 : w14.cell? ⟨J + 3, 1, none⟩ = some (.slice none 0 0) := jaa hF14.y rfl; have kyf1 : w14.frozen? ⟨J + 3, 1, none⟩ = false := jab hF14.y; have kyc2 : w14.cell? ⟨J + 3, 2, none⟩ = some (.int .i64 0) := jaa hF14.y rfl; have kyf2 : w14.frozen? ⟨J + 3, 2, none⟩ = false := jab hF14.y; obtain ⟨w15, hw15⟩ : ∃ u, ((w14.setCell ⟨J + 3, 0, none⟩ (.bool yn)).setCell ⟨J + 3, 1, none⟩ (.slice yA ym.length yc)).setCell ⟨J + 3, 2, none⟩ (.int .i64 ye) = u := ⟨_, rfl⟩; obtain ⟨hF15, hO15⟩ := jsc hF14 hw15; have hR15 : RdS w15 R5 J T3 := hR14.of (Nat.le_of_eq hO15.size.symm) (hO15.block R5 (by omega)) fun q hq _ => hO15.block q (by omega)
      have hB15 : Below J w w15 := hB14.trans (hO15.below (by omega)); obtain ⟨tv, hN15, ⟨tA, tc, rfl, -⟩, -⟩ := hR15; rw [jad] at hN15; have kt : (((w14.setCell ⟨J + 3, 0, none⟩ (.bool yn)).setCell ⟨J + 3, 1, none⟩ (.slice yA ym.length yc)).setCell ⟨J + 3, 2, none⟩ (.int .i64 ye)).cell? ⟨R5, 0, none⟩ = some (.slice tA T3.length tc) := by rw [hw15]; exact jaa hN15 rfl
      have HW15 := hideK hw15; clear hw15 HQ4 hp14 hR14 hrow14 hrow12 hF13 hF14 hB14
      by_cases h0 : 0 < T3.length
      · have h0i : (0 : Int) < (T3.length : Int) := by omega
        have HC : Hid (certP l = none) := by
          show certP l = none
          rw [HQ5.out, if_pos h0]
        go_wp2_with fail
        rw [HW15.out]; refine jba (w := w) (w' := w15) (J := J) (hF15) ?_ hJ ?_ HC.out
        · exact hB15
        · exact ⟨rfl, rfl, rfl, rfl, rfl⟩
      · have h0i : ¬(0 : Int) < (T3.length : Int) := by omega
        have HC : Hid (certP l = some (k, (xn, xm, xe), (yn, ym, ye))) := by
          show certP l = some (k, (xn, xm, xe), (yn, ym, ye))
          rw [HQ5.out, if_neg h0]
        go_upto_region 17 with (fail)
        rw [HW15.out]; have zc00 : w15.cell? ⟨J, 0, none⟩ = some (.int .i64 a0) := jaa hF15.j rfl; have zc01 : w15.cell? ⟨J, 1, none⟩ = some (.int .i64 a1) := jaa hF15.j rfl; have zc02 : w15.cell? ⟨J, 2, none⟩ = some (.int .u64 a2) := jaa hF15.j rfl; have zc03 : w15.cell? ⟨J, 3, none⟩ = some (.int .u64 a3) := jaa hF15.j rfl; have zc04 : w15.cell? ⟨J, 4, none⟩ = some (.int .i64 a4) := jaa hF15.j rfl; have zc10 : w15.cell? ⟨J + 1, 0, none⟩ = some (.slice sA k sc) := jaa hF15.l rfl; have zc20 : w15.cell? ⟨J + 2, 0, none⟩ = some (.bool xn) := jaa hF15.x rfl; have zc21 : w15.cell? ⟨J + 2, 1, none⟩ = some (.slice xA xm.length xc) := jaa hF15.x rfl; have zc22 : w15.cell? ⟨J + 2, 2, none⟩ = some (.int .i64 xe) := jaa hF15.x rfl; have zc30 : w15.cell? ⟨J + 3, 0, none⟩ = some (.bool yn) := jaa hF15.y rfl; have zc31 : w15.cell? ⟨J + 3, 1, none⟩ = some (.slice yA ym.length yc) := jaa hF15.y rfl; have zc32 : w15.cell? ⟨J + 3, 2, none⟩ = some (.int .i64 ye) := jaa hF15.y rfl; have zc40 : w15.cell? ⟨J + 4, 0, none⟩ = some (.int .i64 0) := jaa hF15.e rfl; have zf00 : w15.frozen? ⟨J, 0, none⟩ = false := jab hF15.j; have zf01 : w15.frozen? ⟨J, 1, none⟩ = false := jab hF15.j; have zf02 : w15.frozen? ⟨J, 2, none⟩ = false := jab hF15.j; have zf03 : w15.frozen? ⟨J, 3, none⟩ = false := jab hF15.j; have zf04 : w15.frozen? ⟨J, 4, none⟩ = false := jab hF15.j; have zf10 : w15.frozen? ⟨J + 1, 0, none⟩ = false := jab hF15.l; have zf20 : w15.frozen? ⟨J + 2, 0, none⟩ = false := jab hF15.x; have zf21 : w15.frozen? ⟨J + 2, 1, none⟩ = false := jab hF15.x; have zf22 : w15.frozen? ⟨J + 2, 2, none⟩ = false := jab hF15.x; have zf30 : w15.frozen? ⟨J + 3, 0, none⟩ = false := jab hF15.y; have zf31 : w15.frozen? ⟨J + 3, 1, none⟩ = false := jab hF15.y; have zf32 : w15.frozen? ⟨J + 3, 2, none⟩ = false := jab hF15.y; have zf40 : w15.frozen? ⟨J + 4, 0, none⟩ = false := jab hF15.e; clear hi hz0 hz1 hz2 hmf kt; refine wp_region_noPanic ?_
        go_region
        refine NoPanic.normal ?_
        go_wp2_with fail
        obtain ⟨u1, e1⟩ : ∃ u, ((((w15.setCell ⟨J, 0, none⟩ (.int .i64 a0)).setCell ⟨J, 1, none⟩ (.int .i64 a1)).setCell ⟨J, 2, none⟩ (.int .u64 a2)).setCell ⟨J, 3, none⟩ (.int .u64 a3)).setCell ⟨J, 4, none⟩ (.int .i64 a4) = u := ⟨_, rfl⟩; obtain ⟨f1, o1⟩ := jva hF15 e1; obtain ⟨u2, e2⟩ : ∃ u, u1.setCell ⟨J + 1, 0, none⟩ (.slice sA k sc) = u := ⟨_, rfl⟩; obtain ⟨f2, o2⟩ := jiv f1 e2; obtain ⟨u3, e3⟩ : ∃ u, ((u2.setCell ⟨J + 2, 0, none⟩ (.bool xn)).setCell ⟨J + 2, 1, none⟩ (.slice xA xm.length xc)).setCell ⟨J + 2, 2, none⟩ (.int .i64 xe) = u := ⟨_, rfl⟩; obtain ⟨f3, o3⟩ := jsb f2 e3; obtain ⟨u4, e4⟩ : ∃ u, ((u3.setCell ⟨J + 3, 0, none⟩ (.bool yn)).setCell ⟨J + 3, 1, none⟩ (.slice yA ym.length yc)).setCell ⟨J + 3, 2, none⟩ (.int .i64 ye) = u := ⟨_, rfl⟩; obtain ⟨f4, o4⟩ := jsc f3 e4; obtain ⟨u5, e5⟩ : ∃ u, u4.setCell ⟨J + 4, 0, none⟩ (.int .i64 0) = u := ⟨_, rfl⟩; obtain ⟨f5, o5⟩ := jvb f4 e5; rw [e1, e2, e3, e4, e5]; exact jka f5.drew ((((((hB15.trans (o1.below (Nat.le_refl _))).trans (o2.below (by omega))).trans (o3.below (by omega))).trans (o4.below (by omega))).trans (o5.below (by omega))).drew) ⟨rfl, rfl, rfl, rfl, rfl⟩ HC.out ⟨HXC.out, HYC.out⟩ HJV.out.symm
end Go.Proofs.YtnkihnggghfioaaGreat
