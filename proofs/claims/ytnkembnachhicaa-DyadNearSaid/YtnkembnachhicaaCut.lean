/- cut: a dyad whose integer has so many limbs at most, its own. -/
import Derived.Test.YtnkembnachhicaaCon
import Derived.Deep.DeepCutAuto
set_option linter.unusedVariables false
set_option linter.unusedSimpArgs false
namespace Go.Proofs.Ytnkembnachhicaa
open Go.RowKit
open L (val dig nth)

/-- A dyad is handed back, its cells from block B on. -/
def RetDB (B k : Nat) (z x : Int) (e : Ending) (w : World) : Prop := ∃ n A len cap d, e = .returned (.agg #[.bool n, .slice A len cap, .int .i64 x]) ∧ Nums w B (.slice A len cap) d ∧ d.length ≤ k ∧ ival n (val W d) = z
theorem RetDB.toD {B k : Nat} {z x : Int} {e : Ending} {w : World} (h : RetDB B k z x e w) : RetD k z x e w := by
  obtain ⟨n, A, len, cap, d, rfl, h1, h2, h3⟩ := h
  exact ⟨n, A, len, cap, rfl, d, h1.mono (Nat.zero_le _), h2, h3⟩
theorem step_appendU {ops : Array Oper} {o : Oper} {a : Act} {K : Act → World → Prop} {Q : Exit → Act → World → Prop} {E : Prop} (w : World) (hgd : o.guard = none) (s x : Operand)
    (ho : o.op = .call { callee := .builtin .append, args := #[s, x], argTypes := #[22, 22] })
    (base : Nat) (v : Value) (lx : List Nat) (hs : a.eval s = v) (hown : OwnU w base v lx) (B : Nat) (vs : Value) (ls : List Nat) (hx : a.eval x = vs) (h : Nums w B vs ls)
    (hn : lx.length + ls.length ≤ 1000000) (hbase : base ≤ w.heap.size)
    (hk : ∀ v' w', OwnU w' base v' (lx ++ ls) → w.grownBy w' v.ownBlock → K (a.put o.dst v') w') :
    if Region.wanted o (yielded ops a.tmps) = true then Oper.wp Try.prog o a w K Q else E := by
  have hw : Region.wanted o (yielded ops a.tmps) = true := by simp [Region.wanted, hgd]
  rw [if_pos hw]
  obtain ⟨v', w', hrun, h2, h3⟩ := appendU_run w base v lx hown B vs ls h hn hbase o.type
  unfold Oper.wp execOp
  simp only [ho, resolve, invoke, builtin, Sem.run_bind, Sem.run_pure, Result.andThen_ok, List.map_toArray, List.map_cons, List.map_nil, hs, hx, hrun]
  exact hk v' w' h2 h3

set_option maxHeartbeats 1000000 in
set_option maxRecDepth 100000 in
theorem cut3_calls (w : World) (n : Bool) (A : Option Addr) (len cap : Nat) (x : Int) (k : Nat) (L : List Nat) (h : Nums w 0 (.slice A len cap) L) (hk : k ≤ 1000) :
    Calls Try.prog 15 #[.agg #[.bool n, .slice A len cap, .int .i64 x], .int .i64 k] w fun e w' => Below w.heap.size w w' ∧ RetDB w.heap.size k (ival n (val W (L.take k))) x e w' := by
  have hlen : L.length = len := by
    obtain ⟨A', cap', h1, -⟩ := h
    injection h1 with _ h1 _
    exact h1.symm
  have hcl : len ≤ cap ∧ cap ≤ 9223372036854775807 := by
    obtain ⟨A', cap', h1, h2, h3, -⟩ := h
    injection h1 with _ e2 e3
    subst e3
    omega
  obtain ⟨W0, hW, hbx, hrs, hB0, hs⟩ := start2 w 26 26 #[.bool n, .slice A len cap, .int .i64 x] #[.bool false, .slice none 0 0, .int .i64 0]
  have h0 := h.up hB0
  obtain ⟨c0, c1, c2, -, -, -⟩ := hbx.three
  obtain ⟨d0, d1, d2, d3, d4, d5⟩ := hrs.three
  have HS := hide hs
  have hs2 : w.heap.size + 1 < W0.heap.size := by omega
  clear hs
  go_enter Try.func15, Try.ntmps15
  go_upto_region 1 with (fail)
  rw [← hW]
  clear hW
  go_upto_if 12 with (fail)
  go_cut [5] (fun m wx => W0 = wx ∧ ∃ A' l' c', m = .slice A' l' c' ∧ Nums W0 0 (.slice A' l' c') (L.take k))
  case first =>
    by_cases hlt : (k : Int) < (len : Int)
    · have hk0 : (0 : Int) ≤ (k : Int) := by omega
      have hkc : (k : Int) ≤ (cap : Int) := by omega
      have HN := hide (Nums.first (l := L) (n := k) (by rw [hlen]; exact h0) (by omega))
      clear hlen
      go_wp2_with fail
      go_meet
      exact ⟨rfl, _, _, _, rfl, HN.out⟩
    · have HN := hide (show Nums W0 0 (.slice A len cap) (L.take k) from by rw [List.take_of_length_le (by omega)]; exact h0)
      clear hlen
      go_wp2_with fail
      go_meet
      exact ⟨rfl, _, _, _, rfl, HN.out⟩
  case rest =>
    obtain ⟨rfl, A', l', c', rfl, hm⟩ := hcut
    have hml : (L.take k).length ≤ k := by simp; omega
    obtain ⟨M, HM⟩ : ∃ M, Hid (L.take k = M) := ⟨_, hide rfl⟩
    rw [HM.out] at hm hml
    clear hlen
    go_upto_region 4 with (fail)
    go_region_held3 (fun w' => w'.cell? ⟨w.heap.size, 0, none⟩ = some (.bool n) ∧ w'.cell? ⟨w.heap.size, 2, none⟩ = some (.int .i64 x)) (go_keep)
      ((refine step_appendU _ (by rfl) _ _ (by rfl) W0.heap.size _ [] (by rfl) (OwnU.empty W0.drew (Nat.le_refl _)) 0 _ M (by rfl) ((hm.drew).alloc _) (by have := hml; simp only [List.length_nil]; omega) (by simp) ?_
        intro v' w' hown hgrow
        have hB1 : Below W0.heap.size W0 w' := Below.grown (B := W0.heap.size) (((Below.refl _ _).drew).alloc (Nat.le_refl _) _) hgrow (by simp) (by intro j hj; simp only [Value.ownBlock, Option.some.injEq] at hj; exact Nat.le_of_eq hj)
        obtain ⟨Ao, co, hvo⟩ := hown.form
        rw [hvo] at hown ⊢
        have hbx1 := hbx.below hB1 (by omega)
        have hrs1 := hrs.below hB1 (by omega)
        obtain ⟨i0, i1, i2, -, -, -⟩ := hbx1.three
        obtain ⟨j0, j1, j2, j3, j4, j5⟩ := hrs1.three))
    go_wp2_with fail
    refine bodyPost_ret (results_dyad rfl _ _ _ _ _ _ _ rfl (((hrs1.set_ 0 _).set_ 1 _).set_ 2 _)) rfl ⟨below3 (hB0.trans (hB1.mono hB0.size)) (by omega) _ _ _, ?_⟩
    refine ⟨n, Ao, M.length, co, M, rfl, ?_, hml, by rw [HM.out]⟩
    have hn := OwnU.nums hown (by rw [List.nil_append]; exact hm.lt)
    exact (nums_low3 hn hs2 _ _ _).mono hB0.size

set_option maxHeartbeats 1000000 in
set_option maxRecDepth 100000 in
theorem cut4_calls (w : World) (n : Bool) (A : Option Addr) (len cap : Nat) (x : Int) (k : Nat) (L : List Nat) (h : Nums w 0 (.slice A len cap) L) (hk : k ≤ 1000) :
    Calls Try.prog 48 #[.agg #[.bool n, .slice A len cap, .int .i64 x], .int .i64 k] w fun e w' => Below w.heap.size w w' ∧ RetDB w.heap.size k (ival n (val W (L.take k))) x e w' := by
  have hlen : L.length = len := by
    obtain ⟨A', cap', h1, -⟩ := h
    injection h1 with _ h1 _
    exact h1.symm
  have hcl : len ≤ cap ∧ cap ≤ 9223372036854775807 := by
    obtain ⟨A', cap', h1, h2, h3, -⟩ := h
    injection h1 with _ e2 e3
    subst e3
    omega
  obtain ⟨W0, hW, hbx, hrs, hB0, hs⟩ := start2 w 26 26 #[.bool n, .slice A len cap, .int .i64 x] #[.bool false, .slice none 0 0, .int .i64 0]
  have h0 := h.up hB0
  obtain ⟨c0, c1, c2, -, -, -⟩ := hbx.three
  obtain ⟨d0, d1, d2, d3, d4, d5⟩ := hrs.three
  have HS := hide hs
  have hs2 : w.heap.size + 1 < W0.heap.size := by omega
  clear hs
  go_enter Try.func48, Try.ntmps48
  go_upto_region 1 with (fail)
  rw [← hW]
  clear hW
  go_upto_if 12 with (fail)
  go_cut [5] (fun m wx => W0 = wx ∧ ∃ A' l' c', m = .slice A' l' c' ∧ Nums W0 0 (.slice A' l' c') (L.take k))
  case first =>
    by_cases hlt : (k : Int) < (len : Int)
    · have hk0 : (0 : Int) ≤ (k : Int) := by omega
      have hkc : (k : Int) ≤ (cap : Int) := by omega
      have HN := hide (Nums.first (l := L) (n := k) (by rw [hlen]; exact h0) (by omega))
      clear hlen
      go_wp2_with fail
      go_meet
      exact ⟨rfl, _, _, _, rfl, HN.out⟩
    · have HN := hide (show Nums W0 0 (.slice A len cap) (L.take k) from by rw [List.take_of_length_le (by omega)]; exact h0)
      clear hlen
      go_wp2_with fail
      go_meet
      exact ⟨rfl, _, _, _, rfl, HN.out⟩
  case rest =>
    obtain ⟨rfl, A', l', c', rfl, hm⟩ := hcut
    have hml : (L.take k).length ≤ k := by simp; omega
    obtain ⟨M, HM⟩ : ∃ M, Hid (L.take k = M) := ⟨_, hide rfl⟩
    rw [HM.out] at hm hml
    clear hlen
    go_upto_region 4 with (fail)
    go_region_held3 (fun w' => w'.cell? ⟨w.heap.size, 0, none⟩ = some (.bool n) ∧ w'.cell? ⟨w.heap.size, 2, none⟩ = some (.int .i64 x)) (go_keep)
      ((refine step_appendU _ (by rfl) _ _ (by rfl) W0.heap.size _ [] (by rfl) (OwnU.empty W0.drew (Nat.le_refl _)) 0 _ M (by rfl) ((hm.drew).alloc _) (by have := hml; simp only [List.length_nil]; omega) (by simp) ?_
        intro v' w' hown hgrow
        have hB1 : Below W0.heap.size W0 w' := Below.grown (B := W0.heap.size) (((Below.refl _ _).drew).alloc (Nat.le_refl _) _) hgrow (by simp) (by intro j hj; simp only [Value.ownBlock, Option.some.injEq] at hj; exact Nat.le_of_eq hj)
        obtain ⟨Ao, co, hvo⟩ := hown.form
        rw [hvo] at hown ⊢
        have hbx1 := hbx.below hB1 (by omega)
        have hrs1 := hrs.below hB1 (by omega)
        obtain ⟨i0, i1, i2, -, -, -⟩ := hbx1.three
        obtain ⟨j0, j1, j2, j3, j4, j5⟩ := hrs1.three))
    go_wp2_with fail
    refine bodyPost_ret (results_dyad rfl _ _ _ _ _ _ _ rfl (((hrs1.set_ 0 _).set_ 1 _).set_ 2 _)) rfl ⟨below3 (hB0.trans (hB1.mono hB0.size)) (by omega) _ _ _, ?_⟩
    refine ⟨n, Ao, M.length, co, M, rfl, ?_, hml, by rw [HM.out]⟩
    have hn := OwnU.nums hown (by rw [List.nil_append]; exact hm.lt)
    exact (nums_low3 hn hs2 _ _ _).mono hB0.size
end Go.Proofs.Ytnkembnachhicaa
