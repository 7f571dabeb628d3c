/- cut: a dyad whose integer has so many limbs at most, its own. law03's 'of' and 'small'. law03's 'shown' is true. -/
import Derived.Test.YtnfbngiabdlclaaGreatCons
import Derived.Deep.DeepCutAuto
import Derived.Test.YtnfbngiabdlclaaGreatPairs
section
set_option linter.unusedVariables false
set_option linter.unusedSimpArgs false
namespace Go.Proofs.YtnfbngiabdlclaaGreat
open Go.RowKit
open L (val dig nth)

/-- A dyad is handed back, its cells from block B on. -/
def RetDB (B k : Nat) (z x : Int) (e : Ending) (w : World) : Prop := ∃ n A len cap d, e = .returned (.agg #[.bool n, .slice A len cap, .int .i64 x]) ∧ Nums w B (.slice A len cap) d ∧ d.length ≤ k ∧ ival n (val W d) = z
theorem RetDB.toD {B k : Nat} {z x : Int} {e : Ending} {w : World} (h : RetDB B k z x e w) : RetD k z x e w := by
  obtain ⟨n, A, len, cap, d, rfl, h1, h2, h3⟩ := h
  exact ⟨n, A, len, cap, rfl, d, h1.mono (Nat.zero_le _), h2, h3⟩
theorem step_appendU {ops : Array Oper} {o : Oper} {a : Act} {K : Act → World → Prop} {Q : Exit → Act → World → Prop} {E : Prop} (w : World) (hgd : o.guard = none) (s x : Operand)
    (ho : o.op = .call { callee := .builtin .append, args := #[s, x], argTypes := #[23, 23] })
    (base : Nat) (v : Value) (lx : List Nat) (hs : a.eval s = v) (hown : OwnU w base v lx) (B : Nat) (vs : Value) (ls : List Nat) (hx : a.eval x = vs) (h : Nums w B vs ls)
    (hn : lx.length + ls.length ≤ 1000000) (hbase : base ≤ w.heap.size)
    (hk : ∀ v' w', OwnU w' base v' (lx ++ ls) → w.grownBy w' v.ownBlock → K (a.put o.dst v') w') :
    if Region.wanted o (yielded ops a.tmps) = true then Oper.wp Tryz.prog o a w K Q else E := by
  have hw : Region.wanted o (yielded ops a.tmps) = true := by simp [Region.wanted, hgd]
  rw [if_pos hw]
  obtain ⟨v', w', hrun, h2, h3⟩ := appendU_run w base v lx hown B vs ls h hn hbase o.type
  unfold Oper.wp execOp
  simp only [ho, resolve, invoke, builtin, Sem.run_bind, Sem.run_pure, Result.andThen_ok, List.map_toArray, List.map_cons, List.map_nil, hs, hx, hrun]
  exact hk v' w' h2 h3

end Go.Proofs.YtnfbngiabdlclaaGreat
end
section
set_option linter.unusedVariables false
set_option linter.unusedSimpArgs false
namespace Go.Proofs.YtnfbngiabdlclaaGreat
open Go.RowKit
open L (val dig nth)

/-- A struct of three cells stored over another; a second block stays. -/
theorem set3_two {w : World} {r g : Nat} {t t' : TypeId} {a b c : Value} {cs : Array Value} (h : Blk w r t #[a, b, c]) (hg : Blk w g t' cs) (hne : g ≠ r) (x y u : Value) :
    ∃ W2, W2 = ((w.setCell ⟨r, 0, none⟩ x).setCell ⟨r, 1, none⟩ y).setCell ⟨r, 2, none⟩ u ∧ Blk W2 r t #[x, y, u] ∧ Blk W2 g t' cs ∧
    (∀ B v l, r < B → Nums w B v l → Nums W2 B v l) ∧ W2.heap.size = w.heap.size ∧ (∀ B w0, Below B w0 w → B ≤ r → Below B w0 W2) := by
  refine ⟨_, rfl, ?_, ((hg.far hne x).far hne y).far hne u, fun B v l hr hn => nums_low3 hn hr _ _ _, by simp, fun B w0 hb hr => ((hb.setCell (p := ⟨r, 0, none⟩) hr x).setCell (p := ⟨r, 1, none⟩) hr y).setCell (p := ⟨r, 2, none⟩) hr u⟩
  have := ((h.set_ 0 x).set_ 1 y).set_ 2 u
  simpa using this
theorem set1_two {w : World} {r g : Nat} {t t' : TypeId} {a b c : Value} {cs : Array Value} (h : Blk w r t #[a, b, c]) (hg : Blk w g t' cs) (hne : g ≠ r) (u : Value) :
    ∃ W2, W2 = w.setCell ⟨r, 2, none⟩ u ∧ Blk W2 r t #[a, b, u] ∧ Blk W2 g t' cs ∧
    (∀ B v l, r < B → Nums w B v l → Nums W2 B v l) ∧ W2.heap.size = w.heap.size ∧ (∀ B w0, Below B w0 w → B ≤ r → Below B w0 W2) := by
  refine ⟨_, rfl, ?_, hg.far hne u, fun B v l hr hn => hn.set_low (p := ⟨r, 2, none⟩) hr u, by simp, fun B w0 hb hr => hb.setCell (p := ⟨r, 2, none⟩) hr u⟩
  have := h.set_ 2 u
  simpa using this
/-- A struct of three cells stored over another. -/
theorem set3_all {w : World} {r : Nat} {t : TypeId} {a b c : Value} (h : Blk w r t #[a, b, c]) (x y u : Value) :
    ∃ W2, W2 = ((w.setCell ⟨r, 0, none⟩ x).setCell ⟨r, 1, none⟩ y).setCell ⟨r, 2, none⟩ u ∧ Blk W2 r t #[x, y, u] ∧ (∀ g t' cs, g ≠ r → Blk w g t' cs → Blk W2 g t' cs) ∧
    (∀ B v l, r < B → Nums w B v l → Nums W2 B v l) ∧ W2.heap.size = w.heap.size ∧ (∀ B w0, Below B w0 w → B ≤ r → Below B w0 W2) := by
  refine ⟨_, rfl, ?_, fun g t' cs hne hg => ((hg.far hne x).far hne y).far hne u, fun B v l hr hn => nums_low3 hn hr _ _ _, by simp, fun B w0 hb hr => ((hb.setCell (p := ⟨r, 0, none⟩) hr x).setCell (p := ⟨r, 1, none⟩) hr y).setCell (p := ⟨r, 2, none⟩) hr u⟩
  have := ((h.set_ 0 x).set_ 1 y).set_ 2 u
  simpa using this
theorem set1_all {w : World} {r : Nat} {t : TypeId} {a b c : Value} (h : Blk w r t #[a, b, c]) (u : Value) :
    ∃ W2, W2 = w.setCell ⟨r, 2, none⟩ u ∧ Blk W2 r t #[a, b, u] ∧ (∀ g t' cs, g ≠ r → Blk w g t' cs → Blk W2 g t' cs) ∧
    (∀ B v l, r < B → Nums w B v l → Nums W2 B v l) ∧ W2.heap.size = w.heap.size ∧ (∀ B w0, Below B w0 w → B ≤ r → Below B w0 W2) := by
  refine ⟨_, rfl, ?_, fun g t' cs hne hg => hg.far hne u, fun B v l hr hn => hn.set_low (p := ⟨r, 2, none⟩) hr u, by simp, fun B w0 hb hr => hb.setCell (p := ⟨r, 2, none⟩) hr u⟩
  have := h.set_ 2 u
  simpa using this
end Go.Proofs.YtnfbngiabdlclaaGreat
end
section
set_option linter.unusedVariables false
set_option linter.unusedSimpArgs false
namespace Go.Proofs.YtnfbngiabdlclaaGreat
open Go.RowKit
open L (val dig nth)

theorem nM_12 : nM 12 (-1) = 3 := nM_pow (z := 3) (n := 2) (by omega) (by omega) rfl
theorem nE_12 : nE 12 (-1) = 1 := nE_pow (z := 3) (n := 2) (by omega) (by omega) rfl
theorem nM_1 : nM 1 (-1) = 1 := nM_odd (by omega) (by omega) rfl
theorem nE_1 : nE 1 (-1) = -1 := nE_odd (by omega) (by omega) rfl
theorem nM_32 : nM 3 (-2) = 3 := nM_odd (by omega) (by omega) rfl
theorem nE_32 : nE 3 (-2) = -2 := nE_odd (by omega) (by omega) rfl
theorem nM_m32 : nM (-3) (-2) = -3 := nM_odd (by omega) (by omega) rfl
theorem nE_m32 : nE (-3) (-2) = -2 := nE_odd (by omega) (by omega) rfl
theorem sum_one (K : Nat) (hK : 4000 ≤ K) : av K 1 (-1) + av K 1 (-1) = sv K 1 0 := by
  rw [av_of (by omega) (by omega), ← sv_add, show (1 : Int) + 1 = 1 * 2 ^ 1 from rfl, sv_shift K _ _ _ (by omega)]; rfl
theorem sum_M : pM (av 4000 1 (-1) + av 4000 1 (-1)) = 1 := by rw [sum_one _ (by omega), pM_sv]; exact pM_one
theorem sum_E : pE (av 4000 1 (-1) + av 4000 1 (-1)) (-(4000 : Nat)) = 0 := by rw [sum_one _ (by omega), pE_sv _ _ _ (by omega)]; exact pE_one _
theorem lg_3 : lgN 3 (-2) = -1 := by
  unfold lgN; rw [cM_in (by omega) (by omega), cE_in (by omega) (by omega) (by omega), if_neg (by omega), show (3 : Int).natAbs = 3 from rfl, nbits_3]; rfl
theorem lgOk_3 : lgOk 3 (-2) = true := by unfold lgOk; rw [cM_in (by omega) (by omega)]; rfl
theorem near_1 : nearZ 1 = 1 := rfl
theorem floor_m3 : vFloor 4000 (av 4000 (-3) (-2)) (nearZ 1) = -2 := by
  rw [near_1, av_of (by omega) (by omega), ← scF_sv 4000 _ _ _ (by omega)]; rfl
theorem ceil_m3 : vCeil 4000 (av 4000 (-3) (-2)) (nearZ 1) = -1 := by
  rw [near_1, av_of (by omega) (by omega), ← scC_sv 4000 _ _ _ (by omega)]; rfl
theorem txt_3 : txt (decide ((3 : Int) < 0)) 3 = .string ⟨#[51]⟩ := rfl
theorem txt_m2 : txt (decide ((-2 : Int) < 0)) 2 = .string ⟨#[45, 50]⟩ := rfl
theorem txt_m1 : txt (decide ((-1 : Int) < 0)) 1 = .string ⟨#[45, 49]⟩ := rfl

end Go.Proofs.YtnfbngiabdlclaaGreat
end
