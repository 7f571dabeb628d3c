/- The document's disk: fuse, Barrier, Arm, Read. -/
import Derived.Test.YtdlokmlcdlcfaaaRf21
set_option linter.unusedVariables false
set_option linter.unusedSimpArgs false
namespace Go.Proofs.Ytdlokmlcdlcfaaa
open Go.RowKit Go.MapKept
theorem rset_left {w : World} {R : Nat} {F : Nat → Prop} {d : DS} (h : RefAt w R F d) (x : Int) (hx : 0 ≤ x ∧ x ≤ 9223372036854775807) : RefAt (w.setCell ⟨R, 3, none⟩ (.int .i64 x)) R F { d with left := x } := by
  obtain ⟨fv, lv, kv, hM, ho, fR, ff, fl, fk, hlt⟩ := h
  have hb := box_set (o := 3) (v := .int .i64 x) hM.box
  have oth : ∀ k, k ≠ R → (w.setCell ⟨R, 3, none⟩ (.int .i64 x)).heap[k]? = w.heap[k]? := fun k hk => Below.heap_setCell _ _ _ _ hk
  refine ⟨fv, lv, kv, ⟨hb, ownsRow_of hM.firm fun b hb => oth b (hM.neF b hb), ownsRow_of hM.loose fun b hb => oth b (hM.neL b hb).1, hM.keep.of (by rw [size_set]; exact Nat.le_refl _) fun h0 b hb => oth b (hM.neK (keep_pos h0) b hb).1, hM.neF, hM.neL, hM.neK⟩,
    ⟨ho.n, hx, ho.loose, ho.firm⟩, fR, ff, fl, fk, fun k hk => ?_⟩
  rw [size_set]
  exact hlt k hk
theorem RefAt.cells {w : World} {R : Nat} {F : Nat → Prop} {d : DS} (h : RefAt w R F d) : ∃ fv lv kv, w.cell? ⟨R, 0, none⟩ = some fv ∧ w.cell? ⟨R, 1, none⟩ = some lv ∧ w.cell? ⟨R, 2, none⟩ = some (.bool d.down) ∧ w.cell? ⟨R, 3, none⟩ = some (.int .i64 d.left) ∧ w.cell? ⟨R, 4, none⟩ = some kv ∧
    (∀ o, w.frozen? ⟨R, o, none⟩ = false) ∧ Sl w kv (d.keep.map Value.bool) ∧ (0 < d.keep.length → ∀ b, kv.ownBlock = some b → b ≠ R ∧ ∀ fv', w.cell? ⟨R, 0, none⟩ = some fv' → fv'.ownBlock ≠ some b) ∧ (∃ A c, fv = .slice A d.n.toNat c) ∧ (∃ A c, lv = .slice A d.loose.length c) := by
  obtain ⟨fv, lv, kv, hM, -⟩ := h
  obtain ⟨c0, c1, c2, c3, c4⟩ := hM.cell
  refine ⟨fv, lv, kv, c0, c1, c2, c3, c4, frozen_row hM.box, hM.keep, fun h0 b hb => ?_, row_form hM.firm, row_form hM.loose⟩
  have := hM.neK (by intro e; rw [e] at h0; exact absurd h0 (Nat.lt_irrefl 0)) b hb
  refine ⟨this.1, fun fv' e => ?_⟩
  rw [c0] at e
  cases e
  exact this.2.1
theorem RefAt.fR {w : World} {R : Nat} {F : Nat → Prop} {d : DS} (h : RefAt w R F d) : F R := by
  obtain ⟨fv, lv, kv, hM, ho, fR, -⟩ := h
  exact fR
theorem RefAt.ok {w : World} {R : Nat} {F : Nat → Prop} {d : DS} (h : RefAt w R F d) : d.ok := by
  obtain ⟨fv, lv, kv, hM, ho, -⟩ := h
  exact ho
set_option maxRecDepth 100000 in
set_option maxHeartbeats 4000000 in
theorem fuse_ref {w : World} {R : Nat} {F : Nat → Prop} {d : DS} (h : RefAt w R F d) (hn : d.loose.length ≤ 1000000) (hk : d.keep.length ≤ 140737488355328) :
    Calls Try.prog 49 #[.pointer (some ⟨R, 0, none⟩)] w fun e w' => e = .returned (.bool d.burns.1) ∧ RLeaves F w w' R d.burns.2 := by
  have ho := h.ok
  obtain ⟨fv, lv, kv, c0, c1, c2, c3, c4, z, hkv, -⟩ := h.cells
  by_cases h0 : d.left = 0
  · have e : d.burns = (false, d) := by unfold DS.burns; rw [if_pos h0]
    rw [e]
    have hP := RLeaves.refl h
    rw [h0] at c3
    clear h z hkv
    go_enter Try.func49, Try.ntmps49
    go_wp2_with fail
    go_ret
    exact ⟨rfl, hP⟩
  · have z3 := z 3
    have hr := ho.left
    obtain ⟨L, hL⟩ : ∃ L, d.left = L := ⟨_, rfl⟩
    rw [hL] at c3 h0 hr
    have hs := rset_left h (L - 1) (by omega)
    have hsb : w.heap.size = (w.setCell ⟨R, 3, none⟩ (.int .i64 (L - 1))).heap.size := size_set.symm
    have s3 : (w.setCell ⟨R, 3, none⟩ (.int .i64 (L - 1))).cell? ⟨R, 3, none⟩ = some (.int .i64 (L - 1)) := by
      obtain ⟨_, _, _, _, _, _, h3, _⟩ := hs.cells
      exact h3
    by_cases h1 : 0 < L - 1
    · have e : d.burns = (false, { d with left := L - 1 }) := by unfold DS.burns; rw [if_neg (by omega), if_pos (by omega), hL]
      rw [e]
      have hP : RLeaves F w (w.setCell ⟨R, 3, none⟩ (.int .i64 (L - 1))) R { d with left := L - 1 } := ⟨hs.mono (fun _ => .of) (grow_lt (Nat.le_of_eq hsb) h.lt), chg_set h.fR⟩
      clear h z hkv hs hsb e
      go_enter Try.func49, Try.ntmps49
      go_wp2_with fail
      go_ret
      exact ⟨rfl, hP⟩
    · have e : d.burns = (true, { d with left := L - 1 }.crash d.keep) := by unfold DS.burns; rw [if_neg (by omega), if_neg (by omega), hL]
      rw [e]
      obtain ⟨fv', lv', kv', d0, d1, d2, d3, d4, -, hkv', hkn, -⟩ := hs.cells
      have hc := rcrash_calls hs hn kv' d.keep hkv' hkn hk
      have hlt := h.lt
      have hfd := h.fR
      clear h z hkv hs e hkn
      go_enter Try.func49, Try.ntmps49
      go_wp2_with (go_at_call 36; refine hc.mono ?_; rintro e w1 ⟨rfl, hP⟩)
      go_ret
      exact ⟨rfl, hP.trans hlt (chg_set hfd) fun _ => .of⟩
set_option maxRecDepth 100000 in
set_option maxHeartbeats 4000000 in
theorem rbarrier_calls {w : World} {R : Nat} {F : Nat → Prop} {d : DS} (h : RefAt w R F d) (hn : d.loose.length ≤ 1000000) (hk : d.keep.length ≤ 140737488355328) :
    Calls Try.prog 35 #[.pointer (some ⟨R, 0, none⟩)] w fun e w' => e = .returned (.int .i64 d.barrier.1) ∧ RLeaves F w w' R d.barrier.2 := by
  obtain ⟨_, _, _, c0, c1, c2, c3, c4, z, -⟩ := h.cells
  have hbc := fuse_ref h hn hk
  have hP0 := RLeaves.refl h
  have hlt := h.lt
  by_cases hd : d.down = true
  · have e : d.barrier = (6, d) := by unfold DS.barrier; rw [if_pos hd]
    rw [e]
    rw [hd] at c2
    clear h z hbc
    go_enter Try.func35, Try.ntmps35
    go_wp2_with fail
    go_ret
    exact ⟨rfl, hP0⟩
  have hd : d.down = false := by simpa using hd
  rw [hd] at c2
  clear h z hP0
  by_cases hb : d.burns.1 = true
  · have e : d.barrier = (6, d.burns.2) := by
      unfold DS.barrier
      rw [if_neg (by rw [hd]; simp)]
      generalize d.burns = p at hb ⊢
      obtain ⟨a, b⟩ := p
      obtain rfl : a = true := hb
      rfl
    rw [e]
    rw [hb] at hbc
    go_enter Try.func35, Try.ntmps35
    go_wp2_with (go_at_call 49; refine hbc.mono ?_; rintro e w1 ⟨rfl, hP⟩)
    go_ret
    exact ⟨rfl, hP⟩
  have hb : d.burns.1 = false := by simpa using hb
  obtain ⟨x0, hx0, hx1, hb2⟩ := burns_false hb
  have e : d.barrier = (0, { d with left := x0, firm := DS.put d.firm d.loose, loose := [] }) := by
    unfold DS.barrier
    rw [if_neg (by rw [hd]; simp)]
    generalize d.burns = p at hb hb2 ⊢
    obtain ⟨a, b⟩ := p
    obtain rfl : a = false := hb
    obtain rfl : b = _ := hb2
    rfl
  rw [e]
  rw [hb, hb2] at hbc
  go_enter Try.func35, Try.ntmps35
  go_wp2_with fail
  refine hbc.mono ?_
  rintro e w1 ⟨rfl, ⟨fv, lv, kv, hM, ho, fR, ff, fl, fk, hlt1⟩, hC1⟩
  clear c0 c1 c2 c3 c4
  obtain ⟨N, hN⟩ : ∃ N, d.n.toNat = N := ⟨_, rfl⟩
  have hdn : 1 ≤ d.n ∧ d.n ≤ 4096 := ho.n
  have hNn : d.n = (N : Int) := by omega
  have hF : w1.ownsRow 0 9 1 fv d.n.toNat (fcel d.n.toNat d.firm) := hM.firm
  rw [hN] at hF
  obtain ⟨g, cap, rfl, -, hgl⟩ := hF.form (by omega)
  obtain ⟨A, c, hlv⟩ := row_form hM.loose
  have hlv : lv = .slice A d.loose.length c := hlv
  subst hlv
  obtain ⟨c0, c1, -, -, -⟩ := hM.cell
  have hgR : g ≠ R := hM.neF g rfl
  have hRl := hM.lt
  go_wp2_with fail
  go_loopw [4] (fun i wr => ∃ k : Nat, k ≤ d.loose.length ∧ i = .int .i64 (k : Int) ∧ wr.ownsRow 0 9 1 (.slice (some ⟨g, 0, none⟩) N cap) N (fcel N (DS.put d.firm (d.loose.take k))) ∧ Chg (fun b => b = g) w1 wr)
    (fun i _ => d.loose.length - (intOf i).toNat)
  case atStart => exact ⟨0, Nat.zero_le _, rfl, hF, Chg.refl _ _⟩
  case round =>
    obtain ⟨k, hk, rfl, hRr, hBr⟩ := hrel
    have e1 : wr.cell? ⟨R, 1, none⟩ = some (.slice A d.loose.length c) := (World.cell?_of_block (a := ⟨R, 1, none⟩) (hBr.block R hRl (fun e => hgR e.symm))).trans c1
    have e0 : wr.cell? ⟨R, 0, none⟩ = some (.slice (some ⟨g, 0, none⟩) N cap) := (World.cell?_of_block (a := ⟨R, 0, none⟩) (hBr.block R hRl (fun e => hgR e.symm))).trans c0
    by_cases hkl : k < d.loose.length
    · obtain ⟨x, hx⟩ : ∃ x, d.loose[k]? = some x := ⟨_, List.getElem?_eq_getElem hkl⟩
      have hxi : 0 ≤ x.1 ∧ x.1 < d.n := (ho.loose x (List.mem_of_getElem? hx)).2
      obtain ⟨gl, cl, hgv, hg1, hg2⟩ := rloose_at hM.loose hx
      injection hgv with hA hlen hc
      subst hA hc
      have hgll : gl < w1.heap.size := hlt1 _ (fl gl rfl)
      have hglg : gl ≠ g := fun e => (hM.neL gl rfl).2 (by rw [e]; rfl)
      have hki : (k : Int) < (d.loose.length : Int) := by omega
      have hk0 : (0 : Int) ≤ (k : Int) := by omega
      have hkb : (k : Int) ≤ 1000000 := by omega
      have e2 : wr.cell? ⟨gl, k * 2, none⟩ = some (.int .i64 x.1) := (World.cell?_of_block (a := ⟨gl, k * 2, none⟩) (hBr.block gl hgll hglg)).trans hg1
      have e3 : wr.cell? ⟨gl, k * 2 + 1, none⟩ = some (.string (bstr x.2)) := (World.cell?_of_block (a := ⟨gl, k * 2 + 1, none⟩) (hBr.block gl hgll hglg)).trans hg2
      obtain ⟨e4, e5⟩ := firm_cell hRr x.1 ⟨hxi.1, by omega⟩
      have hx0 : (0 : Int) ≤ x.1 := hxi.1
      have hx1 : x.1 < (N : Int) := by omega
      have hset := firm_set hRr x.1 x.2 ⟨hx0, hx1⟩
      have hon : Only g wr (wr.setCell ⟨g, x.1.toNat, none⟩ (.string (bstr x.2))) := only_set
      have n0 := (hon.cell (a := ⟨R, 0, none⟩) (fun e : R = g => hgR e.symm)).trans e0
      have n1 := (hon.cell (a := ⟨R, 1, none⟩) (fun e : R = g => hgR e.symm)).trans e1
      have n2 := (hon.cell (a := ⟨gl, k * 2, none⟩) hglg).trans e2
      have n3 := (hon.cell (a := ⟨gl, k * 2 + 1, none⟩) hglg).trans e3
      have hset2 : (wr.setCell ⟨g, x.1.toNat, none⟩ (.string (bstr x.2))).drew.ownsRow 0 9 1 (.slice (some ⟨g, 0, none⟩) N cap) N (fcel N (DS.put d.firm (d.loose.take (k + 1)))) := by
        rw [DS.put_take hx]
        exact hset
      go_wp2_with fail
      go_region_held3 (fun w' => w'.cell? ⟨R, 0, none⟩ = some (.slice (some ⟨g, 0, none⟩) N cap) ∧ w'.cell? ⟨R, 1, none⟩ = some (.slice (some ⟨gl, 0, none⟩) d.loose.length c) ∧ w'.cell? ⟨gl, k * 2, none⟩ = some (.int .i64 x.1) ∧ w'.cell? ⟨gl, k * 2 + 1, none⟩ = some (.string (bstr x.2))) (first | exact ⟨e0, e1, e2, e3⟩ | exact ⟨n0, n1, n2, n3⟩ | go_keep) (fail)
      go_wp2_with fail
      exact ⟨⟨k + 1, by omega, rfl, hset2, hBr.trans (hon.drew.chg (F := fun b => b = g) rfl)⟩, by simp only [intOf]; omega⟩
    · obtain rfl : k = d.loose.length := by omega
      rw [List.take_length] at hRr
      have hbr := (hBr.block R hRl (fun e => hgR e.symm)).trans hM.box
      have hbx := box_set (o := 1) (v := .slice none 0 0) hbr
      have hon : Only R wr (wr.setCell ⟨R, 1, none⟩ (.slice none 0 0)) := only_set
      have hC : Chg (Grow F w w1) w1 (wr.setCell ⟨R, 1, none⟩ (.slice none 0 0)) := (hBr.mono fun b _ hb => by rw [show b = g from hb]; exact ff g rfl).trans (hon.chg fR)
      have hP : RLeaves F w (wr.setCell ⟨R, 1, none⟩ (.slice none 0 0)) R { d with left := x0, firm := DS.put d.firm d.loose, loose := [] } := by
        refine RLeaves.trans hlt hC1 (fun _ h => h) ⟨⟨_, .slice none 0 0, kv, ⟨hbx, ?_, World.ownsRow_nil _ _ _ _, hM.keep.of hC.size fun h0 b hb => ?_, hM.neF, fun b hb => (by cases hb), fun h0 b hb => ⟨(hM.neK h0 b hb).1, (hM.neK h0 b hb).2.1, fun e => (by cases e)⟩⟩,
          ⟨ho.n, ho.left, fun x hx => (by cases hx), put_len (f := d.firm) _ _ (fun x hx => (ho.loose x hx).1) ho.firm⟩, .of fR, fun b hb => .of (ff b hb), fun b hb => (by cases hb), fun h0 b hb => .of (fk h0 b hb), grow_lt hC.size hlt1⟩, hC⟩
        · show World.ownsRow _ 0 _ 1 _ d.n.toNat (fcel d.n.toNat (DS.put d.firm d.loose))
          rw [hN]
          exact ownsRow_of hRr fun b hb => hon.block b (hM.neF b hb)
        · have hne := hM.neK (keep_pos h0) b hb
          exact (hon.block b hne.1).trans (hBr.block b (hlt1 b (fk (keep_pos h0) b hb)) (fun e => hne.2.1 (by rw [e]; rfl)))
      have r1 := cell_of_row wr R 1 _ _ _ hbr
      have z1 := frozen_row hbr 1
      clear hbr hM hC
      go_wp2_with fail
      go_ret
      rw [hd, hNn] at hP
      exact ⟨rfl, hP⟩
end Go.Proofs.Ytdlokmlcdlcfaaa
