/- The document's disk: Crash, Barrier, fuse, Arm. -/
import Derived.Test.YtdlokmlcdlcfaaaRf20
set_option linter.unusedVariables false
set_option linter.unusedSimpArgs false
namespace Go.Proofs.Ytdlokmlcdlcfaaa
open Go.RowKit Go.MapKept
/-- One that is loose, in memory. -/
theorem rloose_at {w : World} {lv : Value} {l : List (Int × Sec)} (h : w.ownsRow 0 83 2 lv l.length (rcel l)) {k : Nat} {x : Int × Sec} (hk : l[k]? = some x) :
    ∃ g c, lv = .slice (some ⟨g, 0, none⟩) l.length c ∧ w.cell? ⟨g, k * 2, none⟩ = some (.int .i64 x.1) ∧ w.cell? ⟨g, k * 2 + 1, none⟩ = some (.string (bstr x.2)) := by
  have hn : 0 < l.length := by have := (List.getElem?_eq_some_iff.1 hk).1; omega
  obtain ⟨g, c, rfl, -, -⟩ := h.form hn
  have hc := rcel_at l k x hk
  have h1 := h.cells (g := g) rfl _ _ hc.1
  have h2 := h.cells (g := g) rfl _ _ hc.2
  rw [Addr.add_lit, Nat.zero_add] at h1 h2
  exact ⟨g, c, rfl, h1, h2⟩
/-- A sector is written in place. -/
theorem firm_set {w : World} {g N cap : Nat} {f : Int → Sec} (h : w.ownsRow 0 9 1 (.slice (some ⟨g, 0, none⟩) N cap) N (fcel N f)) (i : Int) (s : Sec) (hi : 0 ≤ i ∧ i < (N : Int)) :
    (w.setCell ⟨g, i.toNat, none⟩ (.string (bstr s))).ownsRow 0 9 1 (.slice (some ⟨g, 0, none⟩) N cap) N (fcel N fun j => if j = i then s else f j) := by
  have := ownsRow_set h i.toNat (.string (bstr s))
  rw [if_pos (by omega), fcel_set N f i s hi.1] at this
  exact this
theorem firm_cell {w : World} {g N cap : Nat} {f : Int → Sec} (h : w.ownsRow 0 9 1 (.slice (some ⟨g, 0, none⟩) N cap) N (fcel N f)) (i : Int) (hi : 0 ≤ i ∧ i < (N : Int)) :
    w.cell? ⟨g, i.toNat, none⟩ = some (.string (bstr (f i))) ∧ w.frozen? ⟨g, i.toNat, none⟩ = false := by
  have h1 := h.cells (g := g) rfl i.toNat _ (fcel_at f (show i.toNat < N by omega))
  rw [Addr.add_lit, Nat.zero_add, show ((i.toNat : Nat) : Int) = i by omega] at h1
  refine ⟨h1, ?_⟩
  rcases h.2 with ⟨h2, -⟩ | ⟨g', cap', cur, e1, hb, hg, -⟩
  · cases h2
  · injection e1 with e2 e3 e4
    cases e2
    exact frozen_row hg _
theorem Only.drew {b : Nat} {w W : World} (h : Only b w W) : Only b w W.drew := ⟨h.os, h.tape, h.output, h.size, h.block⟩
set_option maxRecDepth 100000 in
set_option maxHeartbeats 4000000 in
theorem rcrash_calls {w : World} {R : Nat} {F : Nat → Prop} {d : DS} (h : RefAt w R F d) (hn : d.loose.length ≤ 1000000) (v : Value) (keep : List Bool) (hv : Sl w v (keep.map Value.bool)) (hvF : 0 < keep.length → ∀ b, v.ownBlock = some b → b ≠ R ∧ ∀ fv, w.cell? ⟨R, 0, none⟩ = some fv → fv.ownBlock ≠ some b) (hl : keep.length ≤ 140737488355328) :
    Calls Try.prog 36 #[.pointer (some ⟨R, 0, none⟩), v] w fun e w' => e = .returned (.tuple #[]) ∧ RLeaves F w w' R (d.crash keep) := by
  have hP0 := RLeaves.refl h
  obtain ⟨fv, lv, kv, hM, ho, fR, ff, fl, fk, hlt⟩ := h
  obtain ⟨c0, c1, c2, c3, c4⟩ := hM.cell
  by_cases hd : d.down = true
  · have hP : RLeaves F w w R (d.crash keep) := by
      rw [show d.crash keep = d by unfold DS.crash; rw [if_pos hd]]
      exact hP0
    rw [hd] at c2
    clear hM
    go_enter Try.func36, Try.ntmps36
    go_wp2
    refine bodyPost_ret (results_none rfl _ _ _) rfl ?_
    exact ⟨rfl, hP⟩
  have hd : d.down = false := by simpa using hd
  clear hP0
  rw [hd] at c2
  obtain ⟨N, hN⟩ : ∃ N, d.n.toNat = N := ⟨_, rfl⟩
  have hNn : d.n = (N : Int) := by have := ho.n; omega
  have hF := hM.firm
  rw [hN] at hF
  obtain ⟨g, cap, rfl, -, hgl⟩ := hF.form (by have := ho.n; omega)
  obtain ⟨A, c, hlv⟩ := row_form hM.loose
  subst hlv
  obtain ⟨A', c', hv', hv1, hv2, hv3, hv4⟩ := hv
  rw [List.length_map] at hv' hv1 hv3 hv4
  subst hv'
  have hgR : g ≠ R := hM.neF g rfl
  have hRl := hM.lt
  go_enter Try.func36, Try.ntmps36
  go_wp2_with fail
  clear c2 c3 c4
  go_loopw [4] (fun i wr => ∃ k : Nat, k ≤ d.loose.length ∧ i = .int .i64 (k : Int) ∧ wr.ownsRow 0 9 1 (.slice (some ⟨g, 0, none⟩) N cap) N (fcel N (DS.put d.firm (DS.kept (d.loose.take k) keep))) ∧ Chg (fun b => b = g) w wr)
    (fun i _ => d.loose.length - (intOf i).toNat)
  case atStart => exact ⟨0, Nat.zero_le _, rfl, by rw [List.take_zero]; cases keep <;> exact hF, Chg.refl _ _⟩
  case round =>
    obtain ⟨k, hk, rfl, hRr, hBr⟩ := hrel
    have e1 : wr.cell? ⟨R, 1, none⟩ = some (.slice A d.loose.length c) := (World.cell?_of_block (a := ⟨R, 1, none⟩) (hBr.block R hRl (fun e => hgR e.symm))).trans c1
    have e0 : wr.cell? ⟨R, 0, none⟩ = some (.slice (some ⟨g, 0, none⟩) N cap) := (World.cell?_of_block (a := ⟨R, 0, none⟩) (hBr.block R hRl (fun e => hgR e.symm))).trans c0
    by_cases hkl : k < d.loose.length
    · obtain ⟨x, hx⟩ : ∃ x, d.loose[k]? = some x := ⟨_, List.getElem?_eq_getElem hkl⟩
      have hxi := (ho.loose x (List.mem_of_getElem? hx)).2
      obtain ⟨gl, cl, hgv, hg1, hg2⟩ := rloose_at hM.loose hx
      injection hgv with hA hlen hc
      subst hA hc
      have hgll : gl < w.heap.size := hlt _ (fl gl rfl)
      have hglg : gl ≠ g := fun e => (hM.neL gl rfl).2 (by rw [e]; rfl)
      have hki : (k : Int) < (d.loose.length : Int) := by omega
      have hk0 : (0 : Int) ≤ (k : Int) := by omega
      have hkb : (k : Int) ≤ 1000000 := by omega
      have hkt := DS.kept_take hx keep
      by_cases hkk : k < keep.length
      · obtain ⟨q, hq⟩ : ∃ q, keep[k]? = some q := ⟨_, List.getElem?_eq_getElem hkk⟩
        obtain ⟨kb, ko, rfl, hkbl, hkr⟩ := hv4 (by omega)
        have hkc : wr.cell? ⟨kb, ko + k, none⟩ = some (.bool q) := (World.cell?_of_block (a := ⟨kb, ko + k, none⟩) (hBr.block kb hkbl (fun e => (hvF (by omega) kb rfl).2 _ c0 (by rw [e]; rfl)))).trans (hkr k _ (by rw [List.getElem?_map, hq]; rfl))
        have hkki : (k : Int) < (keep.length : Int) := by omega
        rw [hq] at hkt
        cases q
        · go_wp2_with fail
          exact ⟨⟨k + 1, by omega, rfl, by rw [hkt]; simpa using hRr, hBr⟩, by simp only [intOf]; omega⟩
        · have hkt2 : DS.kept (d.loose.take (k + 1)) keep = DS.kept (d.loose.take k) keep ++ [x] := by simpa using hkt
          clear hkt
          have e2 : wr.cell? ⟨gl, k * 2, none⟩ = some (.int .i64 x.1) := (World.cell?_of_block (a := ⟨gl, k * 2, none⟩) (hBr.block gl hgll hglg)).trans hg1
          have e3 : wr.cell? ⟨gl, k * 2 + 1, none⟩ = some (.string (bstr x.2)) := (World.cell?_of_block (a := ⟨gl, k * 2 + 1, none⟩) (hBr.block gl hgll hglg)).trans hg2
          obtain ⟨e4, e5⟩ := firm_cell hRr x.1 ⟨hxi.1, by omega⟩
          have hx0 : (0 : Int) ≤ x.1 := hxi.1
          have hx1 : x.1 < (N : Int) := by omega
          have hset := firm_set hRr x.1 x.2 ⟨hx0, hx1⟩
          have hon : Only g wr (wr.setCell ⟨g, x.1.toNat, none⟩ (.string (bstr x.2))) := only_set
          have n0 := (hon.cell (a := ⟨R, 0, none⟩) (fun e : R = g => hgR e.symm)).trans e0
          have n1 := (hon.cell (a := ⟨R, 1, none⟩) (fun e : R = g => hgR e.symm)).trans e1
          have n2 := (hon.cell (a := ⟨gl, k * 2, none⟩) hglg).trans e2
          have n3 := (hon.cell (a := ⟨gl, k * 2 + 1, none⟩) hglg).trans e3
          go_wp2_with fail
          go_region_held3 (fun w' => w'.cell? ⟨R, 0, none⟩ = some (.slice (some ⟨g, 0, none⟩) N cap) ∧ w'.cell? ⟨R, 1, none⟩ = some (.slice (some ⟨gl, 0, none⟩) d.loose.length c) ∧ w'.cell? ⟨gl, k * 2, none⟩ = some (.int .i64 x.1) ∧ w'.cell? ⟨gl, k * 2 + 1, none⟩ = some (.string (bstr x.2))) (first | exact ⟨e0, e1, e2, e3⟩ | exact ⟨n0, n1, n2, n3⟩ | go_keep) (fail)
          go_wp2_with fail
          have hset2 : (wr.setCell ⟨g, x.1.toNat, none⟩ (.string (bstr x.2))).drew.ownsRow 0 9 1 (.slice (some ⟨g, 0, none⟩) N cap) N (fcel N (DS.put d.firm (DS.kept (d.loose.take (k + 1)) keep))) := by
            rw [hkt2, DS.put_snoc']
            exact hset
          exact ⟨⟨k + 1, by omega, rfl, hset2, hBr.trans (hon.drew.chg (F := fun b => b = g) rfl)⟩, by simp only [intOf]; omega⟩
      · have hkki : ¬(k : Int) < (keep.length : Int) := by omega
        rw [List.getElem?_eq_none (show keep.length ≤ k by omega)] at hkt
        go_wp2_with fail
        exact ⟨⟨k + 1, by omega, rfl, by rw [hkt]; simpa using hRr, hBr⟩, by simp only [intOf]; omega⟩
    · obtain rfl : k = d.loose.length := by omega
      rw [List.take_length] at hRr
      have hbr := (hBr.block R hRl (fun e => hgR e.symm)).trans hM.box
      have hbx := box_set (o := 4) (v := .slice none 0 0) (box_set (o := 3) (v := .int .i64 0) (box_set (o := 2) (v := .bool true) (box_set (o := 1) (v := .slice none 0 0) hbr)))
      have hon : Only R wr ((((wr.setCell ⟨R, 1, none⟩ (.slice none 0 0)).setCell ⟨R, 2, none⟩ (.bool true)).setCell ⟨R, 3, none⟩ (.int .i64 0)).setCell ⟨R, 4, none⟩ (.slice none 0 0)) := (((only_set.trans only_set).trans only_set).trans only_set)
      have hP : RLeaves F w ((((wr.setCell ⟨R, 1, none⟩ (.slice none 0 0)).setCell ⟨R, 2, none⟩ (.bool true)).setCell ⟨R, 3, none⟩ (.int .i64 0)).setCell ⟨R, 4, none⟩ (.slice none 0 0)) R (d.crash keep) := by
        have e : d.crash keep = { d with firm := DS.put d.firm (DS.kept d.loose keep), loose := [], down := true, left := 0, keep := [] } := by unfold DS.crash; rw [if_neg (by rw [hd]; simp)]
        rw [e]
        have hC : Chg F w ((((wr.setCell ⟨R, 1, none⟩ (.slice none 0 0)).setCell ⟨R, 2, none⟩ (.bool true)).setCell ⟨R, 3, none⟩ (.int .i64 0)).setCell ⟨R, 4, none⟩ (.slice none 0 0)) := (hBr.mono fun b _ hb => by rw [show b = g from hb]; exact ff g rfl).trans (hon.chg fR)
        refine ⟨⟨_, .slice none 0 0, .slice none 0 0, ⟨hbx, ?_, World.ownsRow_nil _ _ _ _, Sl.nil _, hM.neF, fun b hb => (by cases hb), fun h0 => absurd rfl h0⟩,
          ⟨ho.n, ⟨Int.le_refl _, show (0 : Int) ≤ 9223372036854775807 by decide⟩, fun x hx => (by cases hx), put_len (f := d.firm) _ _ (fun x hx => (ho.loose x (DS.kept_sub _ _ x hx)).1) ho.firm⟩, .of fR, fun b hb => .of (ff b hb), fun b hb => (by cases hb), fun h0 => absurd rfl h0, grow_lt hC.size hlt⟩, hC⟩
        show World.ownsRow _ 0 _ 1 _ d.n.toNat (fcel d.n.toNat (DS.put d.firm (DS.kept d.loose keep)))
        rw [hN]
        exact ownsRow_of hRr fun b hb => hon.block b (hM.neF b hb)
      have r1 := cell_of_row wr R 1 _ _ _ hbr
      have r2 := cell_of_row wr R 2 _ _ _ hbr
      have r3 := cell_of_row wr R 3 _ _ _ hbr
      have r4 := cell_of_row wr R 4 _ _ _ hbr
      have z1 := frozen_row hbr 1
      have z2 := frozen_row hbr 2
      have z3 := frozen_row hbr 3
      have z4 := frozen_row hbr 4
      clear hbr hM e0
      go_wp2_with fail
      go_end0
      exact ⟨rfl, hP⟩
end Go.Proofs.Ytdlokmlcdlcfaaa
