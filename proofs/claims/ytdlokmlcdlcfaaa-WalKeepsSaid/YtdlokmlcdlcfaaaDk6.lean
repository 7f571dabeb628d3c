/- The disk: Barrier. -/
import Derived.Test.YtdlokmlcdlcfaaaDk5
set_option linter.unusedVariables false
set_option linter.unusedSimpArgs false
namespace Go.Proofs.Ytdlokmlcdlcfaaa
open Go.RowKit Go.MapKept
theorem only_setB {W : World} {M : Nat} {o : Obj} : Only M W (setB W.drew M o) := ⟨rfl, rfl, rfl, by show (W.heap.setIfInBounds M o).size = W.heap.size; simp, fun k hk => by show (W.heap.setIfInBounds M o)[k]? = W.heap[k]?; simp [Array.getElem?_setIfInBounds, Ne.symm hk]⟩
theorem burns_false {d : DS} (h : d.burns.1 = false) : ∃ x, 0 ≤ x ∧ x ≤ max 0 d.left ∧ d.burns.2 = { d with left := x } := by
  unfold DS.burns at h ⊢
  split at h
  · rename_i h0
    rw [if_pos h0]
    exact ⟨d.left, by omega, by omega, rfl⟩
  · rename_i h0
    rw [if_neg h0]
    split at h
    · rename_i h1
      rw [if_pos h1]
      exact ⟨_, by omega, by omega, rfl⟩
    · cases h
theorem burns_len (d : DS) : d.burns.2.loose.length ≤ d.loose.length := by
  unfold DS.burns
  split
  · exact Nat.le_refl _
  · split
    · exact Nat.le_refl _
    · unfold DS.crash
      split
      · exact Nat.le_refl _
      · exact Nat.zero_le _
set_option maxRecDepth 100000 in
set_option maxHeartbeats 4000000 in
theorem barrier_calls {w : World} {D : Nat} {F : Nat → Prop} {d : DS} (h : DiskAt w D F d) (hn : d.loose.length ≤ 1000000) (hk : d.keep.length ≤ 140737488355328) :
    Calls Try.prog 12 #[.pointer (some ⟨D, 0, none⟩)] w fun e w' => e = .returned (.int .i64 d.barrier.1) ∧ Leaves F w w' D d.barrier.2 := by
  obtain ⟨_, _, _, c0, c1, c2, c3, c4, c5, z, -⟩ := h.cells
  have hbc := burns_calls h hn hk
  have hP0 := Leaves.refl h
  have hlt := h.lt
  by_cases hd : d.down = true
  · have e : d.barrier = (6, d) := by unfold DS.barrier; rw [if_pos hd]
    rw [e]
    rw [hd] at c3
    clear h z hbc
    go_enter Try.func12, Try.ntmps12
    go_wp2_with fail
    go_ret
    exact ⟨rfl, hP0⟩
  have hd : d.down = false := by simpa using hd
  rw [hd] at c3
  clear h z hP0
  by_cases hb : d.burns.1 = true
  · have e : d.barrier = (6, d.burns.2) := by
      unfold DS.barrier
      rw [if_neg (by rw [hd]; simp)]
      generalize d.burns = p at hb ⊢
      obtain ⟨a, b⟩ := p
      obtain rfl : a = true := hb
      rfl
    rw [e]
    rw [hb] at hbc
    go_enter Try.func12, Try.ntmps12
    go_wp2_with (go_at_call 31; refine hbc.mono ?_; rintro e w1 ⟨rfl, hP⟩)
    go_ret
    exact ⟨rfl, hP⟩
  have hb : d.burns.1 = false := by simpa using hb
  obtain ⟨x0, hx0, hx1, hb2⟩ := burns_false hb
  have e : d.barrier = (0, { d with left := x0, firm := DS.put d.firm d.loose, loose := [] }) := by
    unfold DS.barrier
    rw [if_neg (by rw [hd]; simp)]
    generalize d.burns = p at hb hb2 ⊢
    obtain ⟨a, b⟩ := p
    obtain rfl : a = false := hb
    obtain rfl : b = _ := hb2
    rfl
  rw [e]
  rw [hb, hb2] at hbc
  go_enter Try.func12, Try.ntmps12
  go_wp2_with fail
  refine hbc.mono ?_
  rintro e w1 ⟨rfl, ⟨M, lv, kv, m, hM, ho, fD, fM, fl, fk, hlt1⟩, hC1⟩
  clear c0 c1 c2 c3 c4 c5
  obtain ⟨A, c, hlv⟩ := row_form hM.row
  subst hlv
  obtain ⟨c0, c1, c2, c3, c4, c5⟩ := hM.cell
  have hMD := hM.neM
  have hDl := hM.lt
  have hMl := hM.map.lt
  go_wp2_with fail
  clear c0 c2 c3 c4 c5
  go_loopw [18] (fun i wr => ∃ k : Nat, k ≤ d.loose.length ∧ i = .int .i64 (k : Int) ∧ MapR wr M (pm m (d.loose.take k)) ∧ Chg (fun b => b = M) w1 wr)
    (fun i _ => d.loose.length - (intOf i).toNat)
  case atStart => exact ⟨0, Nat.zero_le _, rfl, hM.map, Chg.refl _ _⟩
  case round =>
    obtain ⟨k, hk, rfl, hRr, hBr⟩ := hrel
    by_cases hkl : k < d.loose.length
    · obtain ⟨x, hx⟩ : ∃ x, d.loose[k]? = some x := ⟨_, List.getElem?_eq_getElem hkl⟩
      have hxl := (ho.loose x (List.mem_of_getElem? hx)).1
      obtain ⟨g, c', hgv, hgr⟩ := loose_at hM.row (fun y hy => (ho.loose y hy).1) hx
      injection hgv with hA hlen hc
      subst hA hc
      have hgl : g < w1.heap.size := hlt1 _ (fl g rfl)
      have hgw : wr.rangeAt g (k * 513) (wcel x) := rangeAt_of hgr (hBr.block g hgl (hM.neML g rfl))
      have hki : (k : Int) < (d.loose.length : Int) := by omega
      have hk0 : (0 : Int) ≤ (k : Int) := by omega
      have hkb : (k : Int) ≤ 1000000 := by omega
      have hkt : pm m (d.loose.take (k + 1)) = fun j => if j = x.1 then some (secV x.2) else pm m (d.loose.take k) j := by
        rw [List.take_add_one, hx]
        exact pm_snoc _ _ _
      go_wp2_with (first
        | (with_reducible refine ld_big (t := 73) g (k * 513) (by with_unfolding_all rfl) (wcel x) _ hgw Try.underlying73 rfl (i1 hxl) ?_)
        | (with_reducible refine al_big (t := 73) zw (zero_w _) ?_; intro W2 B1 hB1s hb1 hbl1 hsz1)
        | (with_reducible refine st_big (t := 73) B1 _ _ (by with_unfolding_all rfl) (by with_unfolding_all rfl) hb1 (i3 hxl) (i2 hxl) (all_oneCell_toArray (wcel_one x)) ?_; intro W3 hb2 ho2))
      have hMw : M < wr.heap.size := Nat.lt_of_lt_of_le hMl hBr.size
      have hDw : D < wr.heap.size := Nat.lt_of_lt_of_le hDl hBr.size
      have hM3 : MapR W3 M (pm m (d.loose.take k)) := hRr.of ((ho2.block _ (by omega)).trans (hbl1.block _ hMw))
      have hC3 : Chg (fun b => b = M) w1 W3 := ⟨ho2.os.trans (hbl1.os.trans hBr.os), ho2.tape.trans (hbl1.tape.trans hBr.tape), ho2.output.trans (hbl1.output.trans hBr.output), by have := hBr.size; have := hbl1.size; rw [ho2.size]; omega,
        fun b hb hne => (ho2.block b (by have := hBr.size; omega)).trans ((hbl1.block b (by have := hBr.size; omega)).trans (hBr.block b hb hne))⟩
      have k1 : W3.cell? ⟨D, 1, none⟩ = some (.map (some M)) := (World.cell?_of_block (a := ⟨D, 1, none⟩) (hC3.block D hDl (fun e => hMD e.symm))).trans c1
      have k2 := wcel_0 hb2
      have k3 := wcel_1 hb2
      obtain ⟨o, hr, hM4⟩ := (show MapR W3.drew M (pm m (d.loose.take k)) from hM3).update (P := Try.prog) (t := 64) Try.underlying64 Try.underlying3 x.1 (secV x.2)
      rw [show secV x.2 = .agg (cel x.2).toArray from rfl] at hr
      have ho4 : Only M W3 (setB W3.drew M o) := only_setB
      have n1 := (ho4.cell (a := ⟨D, 1, none⟩) (fun e : D = M => hMD e.symm)).trans k1
      have n2 := (ho4.cell (a := ⟨B1, 0, none⟩) (show B1 ≠ M by omega)).trans k2
      have n3 := rangeAt_of k3 (ho4.block B1 (by omega))
      clear hgw hgr hM3
      have u71 := Try.underlying71
      have v71 := size_c hxl
      go_region_held3 (fun w' => w'.cell? ⟨D, 1, none⟩ = some (.map (some M)) ∧ w'.cell? ⟨B1, 0, none⟩ = some (.int .i64 x.1) ∧ w'.rangeAt B1 1 (cel x.2)) (first | exact ⟨k1, k2, k3⟩ | exact ⟨n1, n2, n3⟩ | go_keep) (fail)
      have hob : (setB W3.drew M o).heap[M]? = some o := by
        show (W3.heap.setIfInBounds M o)[M]? = some o
        have : M < W3.heap.size := Nat.lt_of_lt_of_le hMl hC3.size
        simp [Array.getElem?_setIfInBounds, this]
      go_wp2_with fail
      exact ⟨⟨k + 1, by omega, rfl, by rw [hkt]; exact hM4 _ hob, hC3.trans (ho4.chg rfl)⟩, by simp only [intOf]; omega⟩
    · obtain rfl : k = d.loose.length := by omega
      rw [List.take_length] at hRr
      have hbr := (hBr.block D hDl (fun e => hMD e.symm)).trans hM.box
      have hbx := box_set (o := 2) (v := .slice none 0 0) hbr
      have hon : Only D wr (wr.setCell ⟨D, 2, none⟩ (.slice none 0 0)) := only_set
      have hCw : Chg (Grow F w w1) w1 (wr.setCell ⟨D, 2, none⟩ (.slice none 0 0)) := (hBr.mono fun b _ hb => by rw [show b = M from hb]; exact fM).trans (hon.chg fD)
      have hP : Leaves F w (wr.setCell ⟨D, 2, none⟩ (.slice none 0 0)) D { d with left := x0, firm := DS.put d.firm d.loose, loose := [] } :=
        Leaves.trans hlt hC1 (fun _ h => h) ⟨⟨M, .slice none 0 0, kv, pm m d.loose, ⟨hbx, hRr.of (hon.block M hMD), pm_firm _ _ _ _ hM.firm, World.ownsRow_nil _ _ _ _,
          hM.keep.of hCw.size fun h0 b hb => ((hon.block b (hM.neK (by intro e; rw [e] at h0; exact absurd h0 (Nat.lt_irrefl 0)) b hb).1).trans (hBr.block b (hlt1 b (fk (by intro e; rw [e] at h0; exact absurd h0 (Nat.lt_irrefl 0)) b hb)) (hM.neK (by intro e; rw [e] at h0; exact absurd h0 (Nat.lt_irrefl 0)) b hb).2.1)),
          hMD, fun b hb => (by cases hb), fun h0 b hb => ⟨(hM.neK h0 b hb).1, (hM.neK h0 b hb).2.1, fun e => (by cases e)⟩⟩,
          ⟨ho.n, ho.left, fun x hx => (by cases hx), put_len (f := d.firm) _ _ (fun x hx => (ho.loose x hx).1) ho.firm⟩, .of fD, .of fM, fun b hb => (by cases hb), fun h0 b hb => .of (fk h0 b hb), grow_lt hCw.size hlt1⟩, hCw⟩
      have r2 := cell_of_row wr D 2 _ _ _ hbr
      have z2 := frozen_row hbr 2
      clear hbr hM hCw
      go_wp2_with fail
      go_ret
      rw [hd] at hP
      exact ⟨rfl, hP⟩
end Go.Proofs.Ytdlokmlcdlcfaaa
