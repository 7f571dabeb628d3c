/- hairlinelaw20: does. -/
import Derived.Test.YtdlokmlcdlcfaaaTw
set_option linter.unusedVariables false
set_option linter.unusedSimpArgs false
namespace Go.Proofs.Ytdlokmlcdlcfaaa
open Go.RowKit Go.MapKept
def Done (w0 : World) (D R : Nat) (d : DS) (e : Ending) (w' : World) : Prop := e = .returned (.bool true) ∧ ∃ F' G', Two w0 w' D R F' G' d d
theorem ref_far {w0 w : World} {D R : Nat} {F G : Nat → Prop} {d r : DS} (h : Two w0 w D R F G d r) {b : Nat} (hb : b < w0.heap.size) : b ≠ R ∧ ∀ fv, w.cell? ⟨R, 0, none⟩ = some fv → fv.ownBlock ≠ some b := by
  obtain ⟨fv, lv, kv, hM, ho, fR, ff, fl, fk, hlt⟩ := h.ref
  refine ⟨fun e => ?_, fun fv' e1 e2 => ?_⟩
  · have := h.geG R fR
    omega
  · rw [hM.cell.1] at e1
    cases e1
    have := h.geG b (ff b e2)
    omega
theorem look_len {d : DS} (h : d.ok) (n : Int) : (d.look n).length = 512 := put_len (f := d.firm) d.loose _ (fun x hx => (h.loose x hx).1) h.firm n
theorem sl_take600 {w : World} {A : Option Addr} {c : Nat} {s : List UInt8} (h : Sl w (.slice A s.length c) (cel s)) (hl : 600 < s.length) : Sl w (.slice A 600 c) (cel (s.take 600)) := by
  obtain ⟨A', c', e, -, h2⟩ := h.take 600 (by rw [cel_length]; omega)
  injection e with e1 e2 e3
  subst e1
  subst e3
  unfold cel at h2 ⊢
  rw [List.map_take]
  exact h2
def Wiped (w wr : World) (A : Option Addr) (m : Nat) : Prop := (m = 0 ∧ wr = w) ∨ ∃ g o, A = some ⟨g, o, none⟩ ∧ Rub w wr g o m
theorem wiped_start {w w' : World} {A : Option Addr} {m c : Nat} {us : List Value} (h : Sl w' (.slice A m c) us) (hb : ∀ b, (Value.slice A m c).ownBlock = some b → w.heap.size ≤ b ∧ b < w'.heap.size ∧ ∀ o, w'.frozen? ⟨b, o, none⟩ = false) : Wiped w' w' A m := by
  by_cases h0 : m = 0
  · exact .inl ⟨h0, rfl⟩
  · have h' := h
    obtain ⟨A', c', e, -, -, -, h4⟩ := h'
    injection e with e1 e2 e3
    obtain ⟨g, o, e4, -⟩ := h4 (by omega)
    subst e1
    subst e4
    exact .inr ⟨g, o, rfl, Rub.start h fun p => (hb g rfl).2.2 p⟩
theorem Wiped.two {w0 w wr : World} {D R : Nat} {F G : Nat → Prop} {d r : DS} {A : Option Addr} {m : Nat} (hW : Wiped w wr A m) (h : Two w0 w D R F G d r) (hA : ∀ g o, A = some ⟨g, o, none⟩ → ¬F g ∧ ¬G g ∧ w0.heap.size ≤ g) : Two w0 wr D R F G d r := by
  rcases hW with ⟨-, rfl⟩ | ⟨g, o, e, hR⟩
  · exact h
  · exact h.aside hR.chg fun k hk => by subst hk; exact hA _ o e
set_option maxRecDepth 100000 in
set_option maxHeartbeats 8000000 in
theorem does_2 {w0 w : World} {D R : Nat} {F G : Nat → Prop} {d : DS} (h : Two w0 w D R F G d d) (hf : Fits d) (n : Int) (s : List UInt8) (ks : List Bool) (sv kv : Value) (hs : Sl w0 sv (cel s)) (hk : Sl w0 kv (ks.map Value.bool))
    (hn : n ≤ 9223372036854775807) (hsl : s.length ≤ 140737488351232) (hkl : ks.length ≤ 140737488351232) :
    Calls Try.prog 16 #[.pointer (some ⟨D, 0, none⟩), .pointer (some ⟨R, 0, none⟩), .agg #[.int .i64 2, .int .i64 n, sv, kv]] w (Done w0 D R (d.barrier.2)) := by
  obtain ⟨sA, sc, hsv, hs1, hs2, hs3, hs4⟩ := id hs
  obtain ⟨kA, kc, hkv, -⟩ := id hk
  rw [cel_length] at hsv hs1 hs3 hs4
  rw [List.length_map] at hkv
  subst hsv hkv
  have h1 : Two w0 (w.alloc (.cells #[.int .i64 2, .int .i64 n, .slice sA s.length sc, .slice kA ks.length kc] 37)) D R F G d d := h.over (below_alloc _ _)
  have hbx := heap_alloc_new w (.cells #[.int .i64 2, .int .i64 n, .slice sA s.length sc, .slice kA ks.length kc] 37)
  have hFl := h.disk.lt
  have hGl := h.ref.lt
  rcases (show s.length ≤ 600 ∨ 600 < s.length by omega) with hsz | hsz
  · have hszi : ¬(600 : Int) < (s.length : Int) := by omega
    go_enter Try.func16, Try.ntmps16
    go_wp2_with fail
    have hAs : (w.alloc (.cells #[.int .i64 2, .int .i64 n, .slice sA s.length sc, .slice kA ks.length kc] 37)).heap.size = w.heap.size + 1 := World.size_alloc ..
    obtain ⟨wA, hwA⟩ : ∃ wA, w.alloc (.cells #[.int .i64 2, .int .i64 n, .slice sA s.length sc, .slice kA ks.length kc] 37) = wA := ⟨_, rfl⟩
    rw [hwA] at h1 hbx hAs ⊢
    refine (barrier_calls h1.disk hf.loose hf.keep).mono ?_
    rintro e w1 ⟨rfl, hL⟩
    have h2 := h1.disk_step hL
    go_wp2_with fail
    refine (rbarrier_calls h2.ref hf.loose hf.keep).mono ?_
    rintro e w2 ⟨rfl, hL2⟩
    have h3 := h2.ref_step hL2
    go_wp2_with fail
    go_ret
    exact ⟨rfl, _, _, h3⟩
  · have hszi : (600 : Int) < (s.length : Int) := by omega
    have hcap : 600 ≤ sc := by omega
    go_enter Try.func16, Try.ntmps16
    go_wp2_with fail
    have hAs : (w.alloc (.cells #[.int .i64 2, .int .i64 n, .slice sA s.length sc, .slice kA ks.length kc] 37)).heap.size = w.heap.size + 1 := World.size_alloc ..
    obtain ⟨wA, hwA⟩ : ∃ wA, w.alloc (.cells #[.int .i64 2, .int .i64 n, .slice sA s.length sc, .slice kA ks.length kc] 37) = wA := ⟨_, rfl⟩
    rw [hwA] at h1 hbx hAs ⊢
    refine (barrier_calls h1.disk hf.loose hf.keep).mono ?_
    rintro e w1 ⟨rfl, hL⟩
    have h2 := h1.disk_step hL
    go_wp2_with fail
    refine (rbarrier_calls h2.ref hf.loose hf.keep).mono ?_
    rintro e w2 ⟨rfl, hL2⟩
    have h3 := h2.ref_step hL2
    go_wp2_with fail
    go_ret
    exact ⟨rfl, _, _, h3⟩
set_option maxRecDepth 100000 in
set_option maxHeartbeats 8000000 in
theorem does_3 {w0 w : World} {D R : Nat} {F G : Nat → Prop} {d : DS} (h : Two w0 w D R F G d d) (hf : Fits d) (n : Int) (s : List UInt8) (ks : List Bool) (sv kv : Value) (hs : Sl w0 sv (cel s)) (hk : Sl w0 kv (ks.map Value.bool))
    (hn : n ≤ 9223372036854775807) (hsl : s.length ≤ 140737488351232) (hkl : ks.length ≤ 140737488351232) :
    Calls Try.prog 16 #[.pointer (some ⟨D, 0, none⟩), .pointer (some ⟨R, 0, none⟩), .agg #[.int .i64 3, .int .i64 n, sv, kv]] w (Done w0 D R (d.crash ks)) := by
  obtain ⟨sA, sc, hsv, hs1, hs2, hs3, hs4⟩ := id hs
  obtain ⟨kA, kc, hkv, -⟩ := id hk
  rw [cel_length] at hsv hs1 hs3 hs4
  rw [List.length_map] at hkv
  subst hsv hkv
  have h1 : Two w0 (w.alloc (.cells #[.int .i64 3, .int .i64 n, .slice sA s.length sc, .slice kA ks.length kc] 37)) D R F G d d := h.over (below_alloc _ _)
  have hbx := heap_alloc_new w (.cells #[.int .i64 3, .int .i64 n, .slice sA s.length sc, .slice kA ks.length kc] 37)
  have hFl := h.disk.lt
  have hGl := h.ref.lt
  rcases (show s.length ≤ 600 ∨ 600 < s.length by omega) with hsz | hsz
  · have hszi : ¬(600 : Int) < (s.length : Int) := by omega
    go_enter Try.func16, Try.ntmps16
    go_wp2_with fail
    have hAs : (w.alloc (.cells #[.int .i64 3, .int .i64 n, .slice sA s.length sc, .slice kA ks.length kc] 37)).heap.size = w.heap.size + 1 := World.size_alloc ..
    obtain ⟨wA, hwA⟩ : ∃ wA, w.alloc (.cells #[.int .i64 3, .int .i64 n, .slice sA s.length sc, .slice kA ks.length kc] 37) = wA := ⟨_, rfl⟩
    rw [hwA] at h1 hbx hAs ⊢
    refine (crash_calls h1.disk hf.loose _ ks (h1.sl hk) (by omega)).mono ?_
    rintro e w1 ⟨rfl, hL⟩
    have h2 := h1.disk_step hL
    have hbx1 := (hL.2.block w.heap.size (by omega) (fun hg => Nat.lt_irrefl _ (hFl _ hg))).trans hbx
    have c3 := cell_of_row w1 w.heap.size 3 _ _ _ hbx1
    go_wp2_with fail
    refine (rcrash_calls h2.ref hf.loose _ ks (h2.sl hk) (fun h0 b hb => ref_far h2 (sl_old hk (by rw [List.length_map]; exact h0) b hb)) (by omega)).mono ?_
    rintro e w2 ⟨rfl, hL2⟩
    have h3 := h2.ref_step hL2
    go_wp2_with fail
    go_ret
    exact ⟨rfl, _, _, h3⟩
  · have hszi : (600 : Int) < (s.length : Int) := by omega
    have hcap : 600 ≤ sc := by omega
    go_enter Try.func16, Try.ntmps16
    go_wp2_with fail
    have hAs : (w.alloc (.cells #[.int .i64 3, .int .i64 n, .slice sA s.length sc, .slice kA ks.length kc] 37)).heap.size = w.heap.size + 1 := World.size_alloc ..
    obtain ⟨wA, hwA⟩ : ∃ wA, w.alloc (.cells #[.int .i64 3, .int .i64 n, .slice sA s.length sc, .slice kA ks.length kc] 37) = wA := ⟨_, rfl⟩
    rw [hwA] at h1 hbx hAs ⊢
    refine (crash_calls h1.disk hf.loose _ ks (h1.sl hk) (by omega)).mono ?_
    rintro e w1 ⟨rfl, hL⟩
    have h2 := h1.disk_step hL
    have hbx1 := (hL.2.block w.heap.size (by omega) (fun hg => Nat.lt_irrefl _ (hFl _ hg))).trans hbx
    have c3 := cell_of_row w1 w.heap.size 3 _ _ _ hbx1
    go_wp2_with fail
    refine (rcrash_calls h2.ref hf.loose _ ks (h2.sl hk) (fun h0 b hb => ref_far h2 (sl_old hk (by rw [List.length_map]; exact h0) b hb)) (by omega)).mono ?_
    rintro e w2 ⟨rfl, hL2⟩
    have h3 := h2.ref_step hL2
    go_wp2_with fail
    go_ret
    exact ⟨rfl, _, _, h3⟩
set_option maxRecDepth 100000 in
set_option maxHeartbeats 8000000 in
theorem does_4 {w0 w : World} {D R : Nat} {F G : Nat → Prop} {d : DS} (h : Two w0 w D R F G d d) (hf : Fits d) (n : Int) (s : List UInt8) (ks : List Bool) (sv kv : Value) (hs : Sl w0 sv (cel s)) (hk : Sl w0 kv (ks.map Value.bool))
    (hn : n ≤ 9223372036854775807) (hsl : s.length ≤ 140737488351232) (hkl : ks.length ≤ 140737488351232) :
    Calls Try.prog 16 #[.pointer (some ⟨D, 0, none⟩), .pointer (some ⟨R, 0, none⟩), .agg #[.int .i64 4, .int .i64 n, sv, kv]] w (Done w0 D R (d.start)) := by
  obtain ⟨sA, sc, hsv, hs1, hs2, hs3, hs4⟩ := id hs
  obtain ⟨kA, kc, hkv, -⟩ := id hk
  rw [cel_length] at hsv hs1 hs3 hs4
  rw [List.length_map] at hkv
  subst hsv hkv
  have h1 : Two w0 (w.alloc (.cells #[.int .i64 4, .int .i64 n, .slice sA s.length sc, .slice kA ks.length kc] 37)) D R F G d d := h.over (below_alloc _ _)
  have hbx := heap_alloc_new w (.cells #[.int .i64 4, .int .i64 n, .slice sA s.length sc, .slice kA ks.length kc] 37)
  have hFl := h.disk.lt
  have hGl := h.ref.lt
  rcases (show s.length ≤ 600 ∨ 600 < s.length by omega) with hsz | hsz
  · have hszi : ¬(600 : Int) < (s.length : Int) := by omega
    go_enter Try.func16, Try.ntmps16
    go_wp2_with fail
    have hAs : (w.alloc (.cells #[.int .i64 4, .int .i64 n, .slice sA s.length sc, .slice kA ks.length kc] 37)).heap.size = w.heap.size + 1 := World.size_alloc ..
    obtain ⟨wA, hwA⟩ : ∃ wA, w.alloc (.cells #[.int .i64 4, .int .i64 n, .slice sA s.length sc, .slice kA ks.length kc] 37) = wA := ⟨_, rfl⟩
    rw [hwA] at h1 hbx hAs ⊢
    refine (start_calls h1.disk).mono ?_
    rintro e w1 ⟨rfl, hL⟩
    have h2 := h1.disk_step hL
    obtain ⟨fv, lv, kv', r0, r1, r2, r3, r4, z, -⟩ := h2.ref.cells
    have z2 := z 2
    have h3 := h2.ref_step (rstart_leaves h2.ref)
    clear z
    go_wp2_with fail
    go_ret
    exact ⟨rfl, _, _, h3⟩
  · have hszi : (600 : Int) < (s.length : Int) := by omega
    have hcap : 600 ≤ sc := by omega
    go_enter Try.func16, Try.ntmps16
    go_wp2_with fail
    have hAs : (w.alloc (.cells #[.int .i64 4, .int .i64 n, .slice sA s.length sc, .slice kA ks.length kc] 37)).heap.size = w.heap.size + 1 := World.size_alloc ..
    obtain ⟨wA, hwA⟩ : ∃ wA, w.alloc (.cells #[.int .i64 4, .int .i64 n, .slice sA s.length sc, .slice kA ks.length kc] 37) = wA := ⟨_, rfl⟩
    rw [hwA] at h1 hbx hAs ⊢
    refine (start_calls h1.disk).mono ?_
    rintro e w1 ⟨rfl, hL⟩
    have h2 := h1.disk_step hL
    obtain ⟨fv, lv, kv', r0, r1, r2, r3, r4, z, -⟩ := h2.ref.cells
    have z2 := z 2
    have h3 := h2.ref_step (rstart_leaves h2.ref)
    clear z
    go_wp2_with fail
    go_ret
    exact ⟨rfl, _, _, h3⟩
set_option maxRecDepth 100000 in
set_option maxHeartbeats 8000000 in
theorem does_5 {w0 w : World} {D R : Nat} {F G : Nat → Prop} {d : DS} (h : Two w0 w D R F G d d) (hf : Fits d) (n : Int) (s : List UInt8) (ks : List Bool) (sv kv : Value) (hs : Sl w0 sv (cel s)) (hk : Sl w0 kv (ks.map Value.bool))
    (hn : n ≤ 9223372036854775807) (hsl : s.length ≤ 140737488351232) (hkl : ks.length ≤ 140737488351232) :
    Calls Try.prog 16 #[.pointer (some ⟨D, 0, none⟩), .pointer (some ⟨R, 0, none⟩), .agg #[.int .i64 5, .int .i64 n, sv, kv]] w (Done w0 D R (d.arm n ks)) := by
  obtain ⟨sA, sc, hsv, hs1, hs2, hs3, hs4⟩ := id hs
  obtain ⟨kA, kc, hkv, -⟩ := id hk
  rw [cel_length] at hsv hs1 hs3 hs4
  rw [List.length_map] at hkv
  subst hsv hkv
  have h1 : Two w0 (w.alloc (.cells #[.int .i64 5, .int .i64 n, .slice sA s.length sc, .slice kA ks.length kc] 37)) D R F G d d := h.over (below_alloc _ _)
  have hbx := heap_alloc_new w (.cells #[.int .i64 5, .int .i64 n, .slice sA s.length sc, .slice kA ks.length kc] 37)
  have hFl := h.disk.lt
  have hGl := h.ref.lt
  rcases (show s.length ≤ 600 ∨ 600 < s.length by omega) with hsz | hsz
  · have hszi : ¬(600 : Int) < (s.length : Int) := by omega
    go_enter Try.func16, Try.ntmps16
    go_wp2_with fail
    have hAs : (w.alloc (.cells #[.int .i64 5, .int .i64 n, .slice sA s.length sc, .slice kA ks.length kc] 37)).heap.size = w.heap.size + 1 := World.size_alloc ..
    obtain ⟨wA, hwA⟩ : ∃ wA, w.alloc (.cells #[.int .i64 5, .int .i64 n, .slice sA s.length sc, .slice kA ks.length kc] 37) = wA := ⟨_, rfl⟩
    rw [hwA] at h1 hbx hAs ⊢
    refine (arm_calls h1.disk n hn _ ks (h1.sl hk) (by omega)).mono ?_
    rintro e w1 ⟨rfl, hL⟩
    have h2 := h1.disk_step hL
    have hbx1 := (hL.2.block w.heap.size (by omega) (fun hg => Nat.lt_irrefl _ (hFl _ hg))).trans hbx
    have c1 := cell_of_row w1 w.heap.size 1 _ _ _ hbx1
    have c3 := cell_of_row w1 w.heap.size 3 _ _ _ hbx1
    go_wp2_with fail
    refine (rarm_calls h2.ref n hn _ ks (h2.sl hk) (fun h0 b hb => (ref_far h2 (sl_old hk (by rw [List.length_map]; exact h0) b hb)).1) (by omega)).mono ?_
    rintro e w2 ⟨rfl, hL2⟩
    have h3 := h2.ref_step hL2
    go_wp2_with fail
    go_ret
    exact ⟨rfl, _, _, h3⟩
  · have hszi : (600 : Int) < (s.length : Int) := by omega
    have hcap : 600 ≤ sc := by omega
    go_enter Try.func16, Try.ntmps16
    go_wp2_with fail
    have hAs : (w.alloc (.cells #[.int .i64 5, .int .i64 n, .slice sA s.length sc, .slice kA ks.length kc] 37)).heap.size = w.heap.size + 1 := World.size_alloc ..
    obtain ⟨wA, hwA⟩ : ∃ wA, w.alloc (.cells #[.int .i64 5, .int .i64 n, .slice sA s.length sc, .slice kA ks.length kc] 37) = wA := ⟨_, rfl⟩
    rw [hwA] at h1 hbx hAs ⊢
    refine (arm_calls h1.disk n hn _ ks (h1.sl hk) (by omega)).mono ?_
    rintro e w1 ⟨rfl, hL⟩
    have h2 := h1.disk_step hL
    have hbx1 := (hL.2.block w.heap.size (by omega) (fun hg => Nat.lt_irrefl _ (hFl _ hg))).trans hbx
    have c1 := cell_of_row w1 w.heap.size 1 _ _ _ hbx1
    have c3 := cell_of_row w1 w.heap.size 3 _ _ _ hbx1
    go_wp2_with fail
    refine (rarm_calls h2.ref n hn _ ks (h2.sl hk) (fun h0 b hb => (ref_far h2 (sl_old hk (by rw [List.length_map]; exact h0) b hb)).1) (by omega)).mono ?_
    rintro e w2 ⟨rfl, hL2⟩
    have h3 := h2.ref_step hL2
    go_wp2_with fail
    go_ret
    exact ⟨rfl, _, _, h3⟩
set_option maxRecDepth 100000 in
set_option maxHeartbeats 8000000 in
theorem does_1 {w0 w : World} {D R : Nat} {F G : Nat → Prop} {d : DS} (h : Two w0 w D R F G d d) (hf : Fits d) (n : Int) (s : List UInt8) (ks : List Bool) (sv kv : Value) (hs : Sl w0 sv (cel s)) (hk : Sl w0 kv (ks.map Value.bool))
    (hn : n ≤ 9223372036854775807) (hsl : s.length ≤ 140737488351232) (hkl : ks.length ≤ 140737488351232) :
    Calls Try.prog 16 #[.pointer (some ⟨D, 0, none⟩), .pointer (some ⟨R, 0, none⟩), .agg #[.int .i64 1, .int .i64 n, sv, kv]] w (Done w0 D R ((d.write n (s.take 600)).2)) := by
  obtain ⟨sA, sc, hsv, hs1, hs2, hs3, hs4⟩ := id hs
  obtain ⟨kA, kc, hkv, -⟩ := id hk
  rw [cel_length] at hsv hs1 hs3 hs4
  rw [List.length_map] at hkv
  subst hsv hkv
  have h1 : Two w0 (w.alloc (.cells #[.int .i64 1, .int .i64 n, .slice sA s.length sc, .slice kA ks.length kc] 37)) D R F G d d := h.over (below_alloc _ _)
  have hbx := heap_alloc_new w (.cells #[.int .i64 1, .int .i64 n, .slice sA s.length sc, .slice kA ks.length kc] 37)
  have hFl := h.disk.lt
  have hGl := h.ref.lt
  rcases (show s.length ≤ 600 ∨ 600 < s.length by omega) with hsz | hsz
  · have hszi : ¬(600 : Int) < (s.length : Int) := by omega
    obtain ⟨i0, hi, hz0, hz1, hz2⟩ := info_parts inf1
    have hS7 : Sl w0 (.slice sA s.length sc) (cel (s.take 600)) := by rw [List.take_of_length_le hsz]; exact hs
    have hS8 := (h1.over (below_alloc _ (.cells #[] 5))).sl hS7
    have hown0 : ((w.alloc (.cells #[.int .i64 1, .int .i64 n, .slice sA s.length sc, .slice kA ks.length kc] 37)).alloc (.cells #[] 5)).ownsRow (w.heap.size + 1) 5 1 (.slice (some ⟨w.heap.size + 1, 0, none⟩) 0 0) 0 [] := by
      have := World.ownsRow_made (w.alloc (.cells #[.int .i64 1, .int .i64 n, .slice sA s.length sc, .slice kA ks.length kc] 37)) (base := w.heap.size + 1) (e := 5) (size := 1) #[] 0 (by rw [World.size_alloc]; exact Nat.le_refl _) (Nat.zero_le _) rfl
      rw [World.size_alloc] at this
      exact this
    go_enter Try.func16, Try.ntmps16
    go_wp2_with (at_builtin; refine append_any rfl _ _ 30 rfl (w.heap.size + 1) 5 i0 (.int .u8 0) 1 Try.underlying30 hi hz0 hz1 hz2 rfl _ 0 [] rfl hown0 _ (cel (s.take 600)) rfl hS8 (cel_one _) ?q1 ?q2 ?q3 ?_)
    case q1 => rw [cel_length, List.length_take]; simp only [maxLen]; omega
    case q2 => rw [cel_length, List.length_take]; omega
    intro v' w1 hown hgrow hnil
    have hAs : (w.alloc (.cells #[.int .i64 1, .int .i64 n, .slice sA s.length sc, .slice kA ks.length kc] 37)).heap.size = w.heap.size + 1 := World.size_alloc ..
    obtain ⟨wA, hwA⟩ : ∃ wA, w.alloc (.cells #[.int .i64 1, .int .i64 n, .slice sA s.length sc, .slice kA ks.length kc] 37) = wA := ⟨_, rfl⟩
    rw [hwA] at h1 hbx hAs hgrow
    have hlt := hown.lt
    have hBw : Below wA.heap.size wA w1 := ((Below.refl _ wA).alloc (Nat.le_refl _) _).grown hgrow (by simp) (by intro k hk; simp [Value.ownBlock] at hk; omega)
    have h2 := h1.over hBw
    have hbx1 := (hBw.block w.heap.size (by omega)).trans hbx
    obtain ⟨g, cap, rfl⟩ : ∃ g cap, v' = .slice (some ⟨g, 0, none⟩) (cel (s.take 600)).length cap := by
      rcases hown.2 with ⟨rfl, -⟩ | ⟨g, cap, cur, rfl, -⟩
      · exact (hnil rfl).elim
      · exact ⟨g, cap, rfl⟩
    obtain ⟨m, hm⟩ : ∃ m, (cel (s.take 600)).length = m := ⟨_, rfl⟩
    have hm2 : m ≤ 600 := by rw [← hm, cel_length, List.length_take]; omega
    rw [hm] at hown ⊢
    have hg := hlt g rfl
    have hnF : ∀ b, (Value.slice (some ⟨g, 0, none⟩) m cap).ownBlock = some b → b = g := fun b hb => by simpa [Value.ownBlock] using hb.symm
    have c1 := cell_of_row w1 w.heap.size 1 _ _ _ hbx1
    go_wp2_with fail
    clear c1
    refine (write_calls h2.disk hf.loose hf.keep n _ (s.take 600) (Sl.own hown) (fun _ b hb hb2 => by have := hFl b hb2; have := hnF b hb; omega) (by rw [List.length_take]; omega)).mono ?_
    rintro e w3 ⟨rfl, hL⟩
    have h3 := h2.disk_step hL
    have hbx3 := (hL.2.block w.heap.size (by have := hBw.size; omega) (fun hg => Nat.lt_irrefl _ (hFl _ hg))).trans hbx1
    have c1 := cell_of_row w3 w.heap.size 1 _ _ _ hbx3
    have hown3 := ownsRow_of hown fun b hb => hL.2.block b (by have := hnF b hb; omega) (fun hg => by have := hFl b hg; have := hnF b hb; omega)
    have hcv := conv_any (P := Try.prog) w3 30 5 Try.underlying30 Try.underlying5 _ _ (h3.sl hS7) _ Try.underlying9
    go_wp2_with fail
    refine (rwrite_calls h3.ref hf.loose hf.keep n (s.take 600) (by rw [List.length_take]; omega)).mono ?_
    rintro e w4 ⟨rfl, hL2⟩
    have h4 := h3.ref_step hL2
    have hg3 : g < w3.heap.size := by have := hL.2.size; omega
    have hown4 := ownsRow_of hown3 fun b hb => hL2.2.block b (by have := hnF b hb; omega) (fun hg => by have := hGl b hg; have := hnF b hb; omega)
    have hst : Wiped w4 w4 (some ⟨g, 0, none⟩) m := wiped_start (w := w) (Sl.own hown4) fun b hb => ⟨by have := hnF b hb; omega, by have := hnF b hb; have := hL2.2.size; omega, own_frozen hown4 b hb⟩
    have hfin : ∀ wr, Wiped w4 wr (some ⟨g, 0, none⟩) m → Two w0 wr D R (Grow F w1 w3) (Grow G w3 w4) (d.write n (s.take 600)).2 (d.write n (s.take 600)).2 := fun wr hW => hW.two h4 fun g' o e => by
      cases e
      exact ⟨fun hf => hf.elim (fun hf => by have := hFl g hf; omega) (fun hf => by omega), fun hf => hf.elim (fun hf => by have := hGl g hf; omega) (fun hf => by omega), by have := h.below.size; omega⟩
    obtain ⟨A, hA⟩ : ∃ A, some (⟨g, 0, none⟩ : Addr) = A := ⟨_, rfl⟩
    rw [hA] at hst hfin ⊢
    clear hA hcv hown hown3 hown4 hnF
    go_wp2_with fail
    go_loopw [11] (fun i wr => ∃ k : Nat, k ≤ m ∧ i = .int .i64 (k : Int) ∧ Wiped w4 wr A m) (fun i _ => m - (intOf i).toNat)
    case atStart => exact ⟨0, Nat.zero_le _, rfl, hst⟩
    case round =>
      obtain ⟨k, hkm, rfl, hW⟩ := hrel
      by_cases hkl : k < m
      · have hki : (k : Int) < (m : Int) := by omega
        have hk0 : (0 : Int) ≤ (k : Int) := by omega
        have hkb : (k : Int) ≤ 1000 := by omega
        obtain ⟨g, o, rfl, hR⟩ := hW.resolve_left (fun h => by omega)
        obtain ⟨u, hu⟩ := hR.cell k hkl
        have hfz := hR.fz (o + k)
        have hR2 : Wiped w4 (wr.setCell ⟨g, o + k, none⟩ (.int .u8 63)) (some ⟨g, o, none⟩) m := .inr ⟨g, o, rfl, hR.set k _⟩
        clear hst hR
        go_wp2_with fail
        exact ⟨⟨k + 1, by omega, rfl, hR2⟩, by simp only [intOf]; omega⟩
      · obtain rfl : k = m := by omega
        have h3 := hfin wr hW
        clear hst
        go_wp2_with fail
        go_ret
        exact ⟨rfl, _, _, h3⟩
  · have hszi : (600 : Int) < (s.length : Int) := by omega
    have hcap : 600 ≤ sc := by omega
    obtain ⟨i0, hi, hz0, hz1, hz2⟩ := info_parts inf1
    have hS7 : Sl w0 (.slice sA 600 sc) (cel (s.take 600)) := sl_take600 hs hsz
    have hS8 := (h1.over (below_alloc _ (.cells #[] 5))).sl hS7
    have hown0 : ((w.alloc (.cells #[.int .i64 1, .int .i64 n, .slice sA s.length sc, .slice kA ks.length kc] 37)).alloc (.cells #[] 5)).ownsRow (w.heap.size + 1) 5 1 (.slice (some ⟨w.heap.size + 1, 0, none⟩) 0 0) 0 [] := by
      have := World.ownsRow_made (w.alloc (.cells #[.int .i64 1, .int .i64 n, .slice sA s.length sc, .slice kA ks.length kc] 37)) (base := w.heap.size + 1) (e := 5) (size := 1) #[] 0 (by rw [World.size_alloc]; exact Nat.le_refl _) (Nat.zero_le _) rfl
      rw [World.size_alloc] at this
      exact this
    go_enter Try.func16, Try.ntmps16
    go_wp2_with (at_builtin; refine append_any rfl _ _ 30 rfl (w.heap.size + 1) 5 i0 (.int .u8 0) 1 Try.underlying30 hi hz0 hz1 hz2 rfl _ 0 [] rfl hown0 _ (cel (s.take 600)) rfl hS8 (cel_one _) ?q1 ?q2 ?q3 ?_)
    case q1 => rw [cel_length, List.length_take]; simp only [maxLen]; omega
    case q2 => rw [cel_length, List.length_take]; omega
    intro v' w1 hown hgrow hnil
    have hAs : (w.alloc (.cells #[.int .i64 1, .int .i64 n, .slice sA s.length sc, .slice kA ks.length kc] 37)).heap.size = w.heap.size + 1 := World.size_alloc ..
    obtain ⟨wA, hwA⟩ : ∃ wA, w.alloc (.cells #[.int .i64 1, .int .i64 n, .slice sA s.length sc, .slice kA ks.length kc] 37) = wA := ⟨_, rfl⟩
    rw [hwA] at h1 hbx hAs hgrow
    have hlt := hown.lt
    have hBw : Below wA.heap.size wA w1 := ((Below.refl _ wA).alloc (Nat.le_refl _) _).grown hgrow (by simp) (by intro k hk; simp [Value.ownBlock] at hk; omega)
    have h2 := h1.over hBw
    have hbx1 := (hBw.block w.heap.size (by omega)).trans hbx
    obtain ⟨g, cap, rfl⟩ : ∃ g cap, v' = .slice (some ⟨g, 0, none⟩) (cel (s.take 600)).length cap := by
      rcases hown.2 with ⟨rfl, -⟩ | ⟨g, cap, cur, rfl, -⟩
      · exact (hnil rfl).elim
      · exact ⟨g, cap, rfl⟩
    obtain ⟨m, hm⟩ : ∃ m, (cel (s.take 600)).length = m := ⟨_, rfl⟩
    have hm2 : m ≤ 600 := by rw [← hm, cel_length, List.length_take]; omega
    rw [hm] at hown ⊢
    have hg := hlt g rfl
    have hnF : ∀ b, (Value.slice (some ⟨g, 0, none⟩) m cap).ownBlock = some b → b = g := fun b hb => by simpa [Value.ownBlock] using hb.symm
    have c1 := cell_of_row w1 w.heap.size 1 _ _ _ hbx1
    go_wp2_with fail
    clear c1
    refine (write_calls h2.disk hf.loose hf.keep n _ (s.take 600) (Sl.own hown) (fun _ b hb hb2 => by have := hFl b hb2; have := hnF b hb; omega) (by rw [List.length_take]; omega)).mono ?_
    rintro e w3 ⟨rfl, hL⟩
    have h3 := h2.disk_step hL
    have hbx3 := (hL.2.block w.heap.size (by have := hBw.size; omega) (fun hg => Nat.lt_irrefl _ (hFl _ hg))).trans hbx1
    have c1 := cell_of_row w3 w.heap.size 1 _ _ _ hbx3
    have hown3 := ownsRow_of hown fun b hb => hL.2.block b (by have := hnF b hb; omega) (fun hg => by have := hFl b hg; have := hnF b hb; omega)
    have hcv := conv_any (P := Try.prog) w3 30 5 Try.underlying30 Try.underlying5 _ _ (h3.sl hS7) _ Try.underlying9
    go_wp2_with fail
    refine (rwrite_calls h3.ref hf.loose hf.keep n (s.take 600) (by rw [List.length_take]; omega)).mono ?_
    rintro e w4 ⟨rfl, hL2⟩
    have h4 := h3.ref_step hL2
    have hg3 : g < w3.heap.size := by have := hL.2.size; omega
    have hown4 := ownsRow_of hown3 fun b hb => hL2.2.block b (by have := hnF b hb; omega) (fun hg => by have := hGl b hg; have := hnF b hb; omega)
    have hst : Wiped w4 w4 (some ⟨g, 0, none⟩) m := wiped_start (w := w) (Sl.own hown4) fun b hb => ⟨by have := hnF b hb; omega, by have := hnF b hb; have := hL2.2.size; omega, own_frozen hown4 b hb⟩
    have hfin : ∀ wr, Wiped w4 wr (some ⟨g, 0, none⟩) m → Two w0 wr D R (Grow F w1 w3) (Grow G w3 w4) (d.write n (s.take 600)).2 (d.write n (s.take 600)).2 := fun wr hW => hW.two h4 fun g' o e => by
      cases e
      exact ⟨fun hf => hf.elim (fun hf => by have := hFl g hf; omega) (fun hf => by omega), fun hf => hf.elim (fun hf => by have := hGl g hf; omega) (fun hf => by omega), by have := h.below.size; omega⟩
    obtain ⟨A, hA⟩ : ∃ A, some (⟨g, 0, none⟩ : Addr) = A := ⟨_, rfl⟩
    rw [hA] at hst hfin ⊢
    clear hA hcv hown hown3 hown4 hnF
    go_wp2_with fail
    go_loopw [11] (fun i wr => ∃ k : Nat, k ≤ m ∧ i = .int .i64 (k : Int) ∧ Wiped w4 wr A m) (fun i _ => m - (intOf i).toNat)
    case atStart => exact ⟨0, Nat.zero_le _, rfl, hst⟩
    case round =>
      obtain ⟨k, hkm, rfl, hW⟩ := hrel
      by_cases hkl : k < m
      · have hki : (k : Int) < (m : Int) := by omega
        have hk0 : (0 : Int) ≤ (k : Int) := by omega
        have hkb : (k : Int) ≤ 1000 := by omega
        obtain ⟨g, o, rfl, hR⟩ := hW.resolve_left (fun h => by omega)
        obtain ⟨u, hu⟩ := hR.cell k hkl
        have hfz := hR.fz (o + k)
        have hR2 : Wiped w4 (wr.setCell ⟨g, o + k, none⟩ (.int .u8 63)) (some ⟨g, o, none⟩) m := .inr ⟨g, o, rfl, hR.set k _⟩
        clear hst hR
        go_wp2_with fail
        exact ⟨⟨k + 1, by omega, rfl, hR2⟩, by simp only [intOf]; omega⟩
      · obtain rfl : k = m := by omega
        have h3 := hfin wr hW
        clear hst
        go_wp2_with fail
        go_ret
        exact ⟨rfl, _, _, h3⟩
set_option maxRecDepth 100000 in
set_option maxHeartbeats 8000000 in
theorem does_q {w0 w : World} {D R : Nat} {F G : Nat → Prop} {d : DS} (h : Two w0 w D R F G d d) (hf : Fits d) (q : Int) (hq1 : (q == 1) = false) (hq2 : (q == 2) = false) (hq3 : (q == 3) = false) (hq4 : (q == 4) = false) (hq5 : (q == 5) = false) (n : Int) (s : List UInt8) (ks : List Bool) (sv kv : Value) (hs : Sl w0 sv (cel s)) (hk : Sl w0 kv (ks.map Value.bool))
    (hn : n ≤ 9223372036854775807) (hsl : s.length ≤ 140737488351232) (hkl : ks.length ≤ 140737488351232) :
    Calls Try.prog 16 #[.pointer (some ⟨D, 0, none⟩), .pointer (some ⟨R, 0, none⟩), .agg #[.int .i64 q, .int .i64 n, sv, kv]] w (Done w0 D R (d)) := by
  obtain ⟨sA, sc, hsv, hs1, hs2, hs3, hs4⟩ := id hs
  obtain ⟨kA, kc, hkv, -⟩ := id hk
  rw [cel_length] at hsv hs1 hs3 hs4
  rw [List.length_map] at hkv
  subst hsv hkv
  have h1 : Two w0 (w.alloc (.cells #[.int .i64 q, .int .i64 n, .slice sA s.length sc, .slice kA ks.length kc] 37)) D R F G d d := h.over (below_alloc _ _)
  have hbx := heap_alloc_new w (.cells #[.int .i64 q, .int .i64 n, .slice sA s.length sc, .slice kA ks.length kc] 37)
  have hFl := h.disk.lt
  have hGl := h.ref.lt
  rcases (show s.length ≤ 600 ∨ 600 < s.length by omega) with hsz | hsz
  · have hszi : ¬(600 : Int) < (s.length : Int) := by omega
    go_enter Try.func16, Try.ntmps16
    go_wp2_with fail
    have hAs : (w.alloc (.cells #[.int .i64 q, .int .i64 n, .slice sA s.length sc, .slice kA ks.length kc] 37)).heap.size = w.heap.size + 1 := World.size_alloc ..
    obtain ⟨wA, hwA⟩ : ∃ wA, w.alloc (.cells #[.int .i64 q, .int .i64 n, .slice sA s.length sc, .slice kA ks.length kc] 37) = wA := ⟨_, rfl⟩
    rw [hwA] at h1 hbx hAs ⊢
    by_cases ha : d.at_ n = 0
    · refine (read_ok h1.disk hf.loose n ha).mono ?_
      rintro e w1 ⟨v, rfl, hv, ⟨A, m, c, rfl⟩, hvb, hB⟩
      have hm2 : m ≤ 600 := by
        obtain ⟨A', c', e, -⟩ := hv
        injection e with e1 e2 e3
        have := look_len h1.disk.ok n
        rw [e2, cel_length]
        omega
      have h2 := h1.over hB
      have hbx1 := (hB.block w.heap.size (by omega)).trans hbx
      have c1 := cell_of_row w1 w.heap.size 1 _ _ _ hbx1
      have hrr := rread_calls h2.ref hf.loose n
      unfold rreadV at hrr
      rw [if_pos ha] at hrr
      have hcv := conv_any (P := Try.prog) w1 30 5 Try.underlying30 Try.underlying5 _ _ hv _ Try.underlying9
      go_wp2_with fail
      refine hrr.mono ?_
      rintro e w2 ⟨rfl, e2⟩
      subst e2
      clear hrr
      have hst : Wiped w2 w2 A m := wiped_start hv hvb
      have hfin : ∀ wr, Wiped w2 wr A m → Two w0 wr D R F G d d := fun wr hW => hW.two h2 fun g o e => ⟨fun hf => by have := (hvb g (by rw [e]; rfl)).1; have := h1.disk.lt g hf; omega, fun hg => by have := (hvb g (by rw [e]; rfl)).1; have := h1.ref.lt g hg; omega, by have := (hvb g (by rw [e]; rfl)).1; have := h1.below.size; omega⟩
      go_wp2_with fail
      clear hcv
      go_loopw [17] (fun i wr => ∃ k : Nat, k ≤ m ∧ i = .int .i64 (k : Int) ∧ Wiped w2 wr A m) (fun i _ => m - (intOf i).toNat)
      case atStart => exact ⟨0, Nat.zero_le _, rfl, hst⟩
      case round =>
        obtain ⟨k, hkm, rfl, hW⟩ := hrel
        by_cases hkl : k < m
        · have hki : (k : Int) < (m : Int) := by omega
          have hk0 : (0 : Int) ≤ (k : Int) := by omega
          have hkb : (k : Int) ≤ 1000 := by omega
          obtain ⟨g, o, rfl, hR⟩ := hW.resolve_left (fun h => by omega)
          obtain ⟨u, hu⟩ := hR.cell k hkl
          have hfz := hR.fz (o + k)
          have hR2 : Wiped w2 (wr.setCell ⟨g, o + k, none⟩ (.int .u8 63)) (some ⟨g, o, none⟩) m := .inr ⟨g, o, rfl, hR.set k _⟩
          clear hst hR
          go_wp2_with fail
          exact ⟨⟨k + 1, by omega, rfl, hR2⟩, by simp only [intOf]; omega⟩
        · obtain rfl : k = m := by omega
          have h3 := hfin wr hW
          clear hst
          go_wp2_with fail
          go_ret
          exact ⟨rfl, _, _, h3⟩
    · have hrd := read_bad h1.disk n ha
      have hrr := fun w1 (hB : Below wA.heap.size wA w1) => rread_calls (h1.over hB).ref hf.loose n
      unfold rreadV at hrr
      rw [if_neg ha] at hrr
      obtain ⟨x, hx⟩ : ∃ x, d.at_ n = x := ⟨_, rfl⟩
      rw [hx] at hrd hrr
      clear hx ha
      refine hrd.mono ?_
      rintro e w1 ⟨rfl, hB⟩
      have h3 := h1.over hB
      have hbx1 := (hB.block w.heap.size (by omega)).trans hbx
      have c1 := cell_of_row w1 w.heap.size 1 _ _ _ hbx1
      have hcv : (convert 30 9 (.slice none 0 0)).run Try.prog w1 = .ok (.string ⟨#[]⟩) w1 := conv_any (P := Try.prog) w1 30 5 Try.underlying30 Try.underlying5 _ [] (Sl.nil _) _ Try.underlying9
      go_wp2_with fail
      refine (hrr w1 hB).mono ?_
      rintro e w2 ⟨rfl, e2⟩
      subst e2
      clear hrr hrd
      go_wp2_with fail
      go_loopw [17] (fun i wr => ∃ k : Nat, k ≤ 0 ∧ i = .int .i64 (k : Int) ∧ wr = w2) (fun _ _ => 0)
      case atStart => exact ⟨0, Nat.le_refl _, rfl, rfl⟩
      case round =>
        obtain ⟨k, hk0, rfl, rfl⟩ := hrel
        obtain rfl : k = 0 := by omega
        go_wp2_with fail
        go_ret
        exact ⟨rfl, _, _, h3⟩
  · have hszi : (600 : Int) < (s.length : Int) := by omega
    have hcap : 600 ≤ sc := by omega
    go_enter Try.func16, Try.ntmps16
    go_wp2_with fail
    have hAs : (w.alloc (.cells #[.int .i64 q, .int .i64 n, .slice sA s.length sc, .slice kA ks.length kc] 37)).heap.size = w.heap.size + 1 := World.size_alloc ..
    obtain ⟨wA, hwA⟩ : ∃ wA, w.alloc (.cells #[.int .i64 q, .int .i64 n, .slice sA s.length sc, .slice kA ks.length kc] 37) = wA := ⟨_, rfl⟩
    rw [hwA] at h1 hbx hAs ⊢
    by_cases ha : d.at_ n = 0
    · refine (read_ok h1.disk hf.loose n ha).mono ?_
      rintro e w1 ⟨v, rfl, hv, ⟨A, m, c, rfl⟩, hvb, hB⟩
      have hm2 : m ≤ 600 := by
        obtain ⟨A', c', e, -⟩ := hv
        injection e with e1 e2 e3
        have := look_len h1.disk.ok n
        rw [e2, cel_length]
        omega
      have h2 := h1.over hB
      have hbx1 := (hB.block w.heap.size (by omega)).trans hbx
      have c1 := cell_of_row w1 w.heap.size 1 _ _ _ hbx1
      have hrr := rread_calls h2.ref hf.loose n
      unfold rreadV at hrr
      rw [if_pos ha] at hrr
      have hcv := conv_any (P := Try.prog) w1 30 5 Try.underlying30 Try.underlying5 _ _ hv _ Try.underlying9
      go_wp2_with fail
      refine hrr.mono ?_
      rintro e w2 ⟨rfl, e2⟩
      subst e2
      clear hrr
      have hst : Wiped w2 w2 A m := wiped_start hv hvb
      have hfin : ∀ wr, Wiped w2 wr A m → Two w0 wr D R F G d d := fun wr hW => hW.two h2 fun g o e => ⟨fun hf => by have := (hvb g (by rw [e]; rfl)).1; have := h1.disk.lt g hf; omega, fun hg => by have := (hvb g (by rw [e]; rfl)).1; have := h1.ref.lt g hg; omega, by have := (hvb g (by rw [e]; rfl)).1; have := h1.below.size; omega⟩
      go_wp2_with fail
      clear hcv
      go_loopw [17] (fun i wr => ∃ k : Nat, k ≤ m ∧ i = .int .i64 (k : Int) ∧ Wiped w2 wr A m) (fun i _ => m - (intOf i).toNat)
      case atStart => exact ⟨0, Nat.zero_le _, rfl, hst⟩
      case round =>
        obtain ⟨k, hkm, rfl, hW⟩ := hrel
        by_cases hkl : k < m
        · have hki : (k : Int) < (m : Int) := by omega
          have hk0 : (0 : Int) ≤ (k : Int) := by omega
          have hkb : (k : Int) ≤ 1000 := by omega
          obtain ⟨g, o, rfl, hR⟩ := hW.resolve_left (fun h => by omega)
          obtain ⟨u, hu⟩ := hR.cell k hkl
          have hfz := hR.fz (o + k)
          have hR2 : Wiped w2 (wr.setCell ⟨g, o + k, none⟩ (.int .u8 63)) (some ⟨g, o, none⟩) m := .inr ⟨g, o, rfl, hR.set k _⟩
          clear hst hR
          go_wp2_with fail
          exact ⟨⟨k + 1, by omega, rfl, hR2⟩, by simp only [intOf]; omega⟩
        · obtain rfl : k = m := by omega
          have h3 := hfin wr hW
          clear hst
          go_wp2_with fail
          go_ret
          exact ⟨rfl, _, _, h3⟩
    · have hrd := read_bad h1.disk n ha
      have hrr := fun w1 (hB : Below wA.heap.size wA w1) => rread_calls (h1.over hB).ref hf.loose n
      unfold rreadV at hrr
      rw [if_neg ha] at hrr
      obtain ⟨x, hx⟩ : ∃ x, d.at_ n = x := ⟨_, rfl⟩
      rw [hx] at hrd hrr
      clear hx ha
      refine hrd.mono ?_
      rintro e w1 ⟨rfl, hB⟩
      have h3 := h1.over hB
      have hbx1 := (hB.block w.heap.size (by omega)).trans hbx
      have c1 := cell_of_row w1 w.heap.size 1 _ _ _ hbx1
      have hcv : (convert 30 9 (.slice none 0 0)).run Try.prog w1 = .ok (.string ⟨#[]⟩) w1 := conv_any (P := Try.prog) w1 30 5 Try.underlying30 Try.underlying5 _ [] (Sl.nil _) _ Try.underlying9
      go_wp2_with fail
      refine (hrr w1 hB).mono ?_
      rintro e w2 ⟨rfl, e2⟩
      subst e2
      clear hrr hrd
      go_wp2_with fail
      go_loopw [17] (fun i wr => ∃ k : Nat, k ≤ 0 ∧ i = .int .i64 (k : Int) ∧ wr = w2) (fun _ _ => 0)
      case atStart => exact ⟨0, Nat.le_refl _, rfl, rfl⟩
      case round =>
        obtain ⟨k, hk0, rfl, rfl⟩ := hrel
        obtain rfl : k = 0 := by omega
        go_wp2_with fail
        go_ret
        exact ⟨rfl, _, _, h3⟩
theorem does_calls {w0 w : World} {D R : Nat} {F G : Nat → Prop} {d : DS} (h : Two w0 w D R F G d d) (hf : Fits d) (o : OpD) (sv kv : Value) (hs : Sl w0 sv (cel o.s)) (hk : Sl w0 kv (o.keep.map Value.bool))
    (hn : o.n ≤ 9223372036854775807) (hsl : o.s.length ≤ 140737488351232) (hkl : o.keep.length ≤ 140737488351232) :
    Calls Try.prog 16 #[.pointer (some ⟨D, 0, none⟩), .pointer (some ⟨R, 0, none⟩), .agg #[.int .i64 o.kind, .int .i64 o.n, sv, kv]] w (Done w0 D R (d.does o)) := by
  obtain ⟨q, n, s, ks⟩ := o
  by_cases e1 : q = 1
  · subst e1
    exact does_1 h hf n s ks sv kv hs hk hn hsl hkl
  by_cases e2 : q = 2
  · subst e2
    exact does_2 h hf n s ks sv kv hs hk hn hsl hkl
  by_cases e3 : q = 3
  · subst e3
    exact does_3 h hf n s ks sv kv hs hk hn hsl hkl
  by_cases e4 : q = 4
  · subst e4
    exact does_4 h hf n s ks sv kv hs hk hn hsl hkl
  by_cases e5 : q = 5
  · subst e5
    exact does_5 h hf n s ks sv kv hs hk hn hsl hkl
  have e : d.does ⟨q, n, s, ks⟩ = d := by
    unfold DS.does
    rw [if_neg e1, if_neg e2, if_neg e3, if_neg e4, if_neg e5]
  rw [e]
  exact does_q h hf q (by simpa using e1) (by simpa using e2) (by simpa using e3) (by simpa using e4) (by simpa using e5) n s ks sv kv hs hk hn hsl hkl
end Go.Proofs.Ytdlokmlcdlcfaaa
