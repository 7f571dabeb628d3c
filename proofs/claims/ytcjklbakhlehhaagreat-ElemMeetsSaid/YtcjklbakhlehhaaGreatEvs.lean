/- What law04's 'shown' comes to. Plain facts. law04's 'shown' is true. A pattern's number has that pattern. Plain facts. A binade's first pattern and its number. Plain facts. Patterns stand in order. Plain facts. cut: a dyad whose integer has so many limbs at most, its own. law03's 'of' and 'small'. law03's 'shown' is true. dyad.Mul; zed.Shl, Sub, Sign, Cmp in the values' words. Contracts of dyad and zed whose results are canonical. The references' Equal: are two integers, two dyads the very same? How far values reach: sums and products of small dyads count. Plain facts. Contracts of dyad with what they come to named by equations: for the laws' walks. Floor and Ceil stand below and above a value. Plain facts. The place of a value's top bit. Plain facts. What is near is not above, and the next one is. Plain facts. Integer and dyad arguments opened to their cells. -/
import Derived.Test.YtcjklbakhlehhaaGreatCons
import Derived.Deep.DeepCutAuto
import Derived.Test.YtcjklbakhlehhaaGreatRefs
import Derived.ProofKit
import Derived.OpenShut
import Derived.Lib.SmallJoins
set_option linter.unusedVariables false
set_option linter.unusedSimpArgs false
namespace Go.Proofs.YtcjklbakhlehhaaGreat
section
section
section
open Go.RowKit
open L (val dig nth)
theorem ji1 {z x : Int} (h1 : -4000 ≤ x) (h2 : x ≤ 4000) : cM z x = z := by
  unfold cM
  by_cases hz : z = 0
  · subst hz; split <;> rfl
  · rw [if_neg (by omega)]
theorem jth {z x : Int} (h1 : -4000 ≤ x) (h2 : x ≤ 4000) (hz : z ≠ 0) : cE z x = x := by
  unfold cE; rw [if_neg (by omega)]
theorem jvf {z x : Int} (h1 : -4000 ≤ x) (h2 : x ≤ 4000) (ho : z.natAbs % 2 = 1) : nM z x = z := by
  unfold nM; rw [ji1 h1 h2]; exact jw1 (x := x) (.inr ho)
theorem jvg {z x : Int} (h1 : -4000 ≤ x) (h2 : x ≤ 4000) (ho : z.natAbs % 2 = 1) : nE z x = x := by
  have hz : z ≠ 0 := by intro h; subst h; simp at ho
  unfold nE; rw [ji1 h1 h2, jth h1 h2 hz]; exact jzh (.inr ho)
def one : Nat := 4607182418800017408
theorem jzz {z x m : Int} (h1 : -4000 ≤ x) (h2 : x ≤ 4000) (hz : z ≠ 0) (hm : x + nbits z.natAbs - 1 = m) (hb : ¬ ofBad z x m) : oB1 z x = ofPat z x m ∧ oX1 z x = 0 := by
  have hok : lgOk z x = true := by unfold lgOk; rw [ji1 h1 h2]; simpa using hz
  have hlg : lgN z x = m := by unfold lgN; rw [ji1 h1 h2, jth h1 h2 hz, if_neg hz]; exact hm
  unfold oB1 oX1; rw [hok, hlg, if_neg (by simp), if_neg hb, if_neg (by simp), if_neg hb]; exact ⟨rfl, rfl⟩
theorem jxb {N : Nat} (h : N < W) : (dig W N).length ≤ 1 := by rw [L.dig_len W_gt, Nat.pow_one]; exact h
end
end
section
section
open Go.RowKit
open L (val dig nth)
end
end
end
section
section
section
open Go.RowKit
open L (val dig nth)
theorem jxc {z x : Int} (h : nf z x) (h1 : -4000 ≤ x) (h2 : x ≤ 4000) : nM z x = z ∧ nE z x = x := by
  constructor
  · unfold nM; rw [ji1 h1 h2]; exact jw1 h
  · unfold nE; rw [ji1 h1 h2]
    by_cases hz : z = 0
    · rcases h with ⟨_, rfl⟩ | h
      · subst hz; exact jcm _
      · subst hz; simp at h
    · rw [jth h1 h2 hz]; exact jzh h
theorem jj1 (b : Nat) (hb : b < W) : b = pFrc b + pFld b * 4503599627370496 + (if pNeg b then T63 else 0) := by
  unfold pFrc pFld pNeg; unfold W at hb; rw [jz8]
  by_cases h : 9223372036854775808 ≤ b
  · rw [decide_eq_true h, if_pos rfl]; omega
  · rw [decide_eq_false h, if_neg (by simp)]; omega
theorem jqr (b : Nat) : pFrc b < 4503599627370496 := Nat.mod_lt _ (by omega)
def rF (b : Nat) : Nat := if pFld b = 0 then pFrc b else pFrc b + 4503599627370496
theorem jz0 (b : Nat) : rM b = ival (pNeg b) (rF b) := rfl
theorem j1z (b : Nat) : rF b < 2 ^ 53 := by
  have := jqr b; rw [show (2 : Nat) ^ 53 = 9007199254740992 from rfl]; unfold rF; split <;> omega
theorem jxd (b : Nat) (h : pFld b ≠ 2047) : -1074 ≤ rE b ∧ rE b ≤ 971 := by
  have := jq3 b; unfold rE; split <;> omega
theorem jxe (b : Nat) : tz (rF b) ≤ 53 := jtc _ _ (j1z b)
theorem jqs (b : Nat) (h : pFld b ≠ 2047) : vM b = pM (rM b) := by
  have := jxd b h; unfold vM; rw [if_neg h]; unfold nM; rw [ji1 (by omega) (by omega)]
theorem jti (b : Nat) (h : pFld b ≠ 2047) : vE b = pE (rM b) (rE b) := by
  have := jxd b h; unfold vE; rw [if_neg h]; unfold nE; rw [ji1 (by omega) (by omega)]
  by_cases hz : rM b = 0
  · rw [hz, jcm, jcm]
  · rw [jth (by omega) (by omega) hz]
theorem jj2 (b : Nat) : (rM b).natAbs = rF b := by rw [jz0, jba]
theorem jz1 (b : Nat) (h : pFld b ≠ 2047) : -1074 ≤ vE b ∧ vE b ≤ 1024 := by
  have h1 := jxd b h; have h2 := jxe b; rw [jti b h]; unfold pE; rw [jj2]; split <;> omega
theorem v_nf (b : Nat) (h : pFld b ≠ 2047) : nf (vM b) (vE b) := by rw [jqs b h, jti b h]; exact js8 _ _
theorem jmv {f : Nat} (h1 : 4503599627370496 ≤ f) (h2 : f < 9007199254740992) : nbits f = 53 :=
  jb5 (by rw [show (2 : Nat) ^ 53 = 9007199254740992 from rfl]; exact h2) (.inr (by rw [show (2 : Nat) ^ (53 - 1) = 4503599627370496 from rfl]; exact h1))
theorem jmw {f : Nat} (h2 : f < 4503599627370496) : nbits f ≤ 52 := by
  rw [ja2, show (2 : Nat) ^ 52 = 4503599627370496 from rfl]; exact h2
theorem jqt (b : Nat) (h : pFld b ≠ 2047) (h0 : rF b = 0) : oB1 (vM b) (vE b) = 0 ∧ oX1 (vM b) (vE b) = 0 := by
  have hz : rM b = 0 := by have := jj2 b; omega
  have h1 : lgOk (vM b) (vE b) = false := by
    rw [jqs b h, jti b h, hz, jer, jcm]; unfold lgOk; rw [ji1 (by omega) (by omega)]; rfl
  unfold oB1 oX1; rw [if_pos h1, if_pos h1]; exact ⟨rfl, rfl⟩
theorem jqu (b : Nat) (hb : b < W) (h : pFld b ≠ 2047) (h0 : rF b ≠ 0) : oB1 (vM b) (vE b) = b ∧ oX1 (vM b) (vE b) = 0 := by
  have hz : rM b ≠ 0 := by have := jj2 b; omega
  have hvb := jz1 b h; have hvz : vM b ≠ 0 := by rw [jqs b h]; exact j1u hz
  have hx : vE b = rE b + tz (rF b) := by rw [jti b h, jlg hz, jj2]
  have hg : (vM b).natAbs * 2 ^ tz (rF b) = rF b := by
    have := congrArg Int.natAbs (jep (rM b)); rw [Int.natAbs_mul, natAbs_pow, jj2] at this; rw [jqs b h]; exact this
  have hn : nbits (vM b).natAbs + tz (rF b) = nbits (rF b) := by rw [← nbits_mul _ _ (by omega), hg]
  have hneg : (vM b < 0) ↔ pNeg b = true := by
    have e1 : pM (rM b) * 2 ^ tz (rM b).natAbs = rM b := jep _
    have e2 : vM b < 0 ↔ rM b < 0 := by
      rw [jqs b h, ← Int.sign_eq_neg_one_iff_neg, ← Int.sign_eq_neg_one_iff_neg]
      conv => rhs; rw [← e1, Int.sign_mul, Int.sign_eq_one_of_pos (jbt _), Int.mul_one]
    rw [e2, jz0]; have := jn8 (pNeg b) (rF b)
    cases hp : pNeg b <;> simp [ival] <;> omega
  have hfr := jqr b; have hfl := jq3 b; obtain ⟨m, hm⟩ : ∃ m, vE b + nbits (vM b).natAbs - 1 = m := ⟨_, rfl⟩; have hm2 : m = rE b + nbits (rF b) - 1 := by omega
  have hlow : ofLow m = rE b ∧ m ≤ 1023 := by
    unfold ofLow
    by_cases hf : pFld b = 0
    · have : rF b < 4503599627370496 := by unfold rF; rw [if_pos hf]; omega
      have := jmw this; have : rE b = -1074 := by unfold rE; rw [if_pos hf]
      omega
    · have : nbits (rF b) = 53 := by unfold rF; rw [if_neg hf]; exact jmv (by omega) (by omega)
      have : rE b = (pFld b : Int) - 1075 := by unfold rE; rw [if_neg hf]
      omega
  have hdl : (dig W (vM b).natAbs).length ≤ 1 := jxb (by have := j1y b; rwa [Nat.pow_one] at this); have hbad : ¬ ofBad (vM b) (vE b) m := by unfold ofBad; rw [hlow.1]; omega
  have ho := jzz (by omega) (by omega) hvz hm hbad; refine ⟨ho.1.trans ?_, ho.2⟩; unfold ofPat; rw [hlow.1, hx, show (rE b + (tz (rF b) : Int) - rE b).toNat = tz (rF b) from by omega, hg]; simp only [hneg]
  conv => rhs; rw [jj1 b hb]
  congr 1
  by_cases hf : pFld b = 0
  · have h1 : rF b = pFrc b := by unfold rF; rw [if_pos hf]
    have h2 := jmw (f := rF b) (by omega); have h3 : rE b = -1074 := by unfold rE; rw [if_pos hf]
    rw [if_neg (by omega), h1, hf]
  · have h1 : rF b = pFrc b + 4503599627370496 := by unfold rF; rw [if_neg hf]
    have h2 := jmv (f := rF b) (by omega) (by omega); have h3 : rE b = (pFld b : Int) - 1075 := by unfold rE; rw [if_neg hf]
    rw [if_pos (by omega), h1]; omega
theorem back (b : Nat) (hb : b < W) (h : pFld b ≠ 2047) : oX1 (nM (vM b) (vE b)) (nE (vM b) (vE b)) = 0 ∧
    (oB1 (nM (vM b) (vE b)) (nE (vM b) (vE b)) = b ∨ b = T63 ∧ oB1 (nM (vM b) (vE b)) (nE (vM b) (vE b)) = 0) := by
  have hvb := jz1 b h; have hn := jxc (v_nf b h) (by omega) (by omega); rw [hn.1, hn.2]
  by_cases h0 : rF b = 0
  · have h1 := jqt b h h0
    refine ⟨h1.2, ?_⟩; rw [h1.1]; have hp := jj1 b hb; have hf : pFld b = 0 ∧ pFrc b = 0 := by unfold rF at h0; split at h0 <;> omega
    rw [hf.1, hf.2] at hp
    by_cases hs : pNeg b = true
    · rw [if_pos hs] at hp; right; exact ⟨by omega, rfl⟩
    · rw [if_neg hs] at hp; left; omega
  · have h1 := jqu b hb h h0
    exact ⟨h1.2, .inl h1.1⟩
end
end
section
section
open Go.RowKit
open L (val dig nth)
section
variable {e : Int} (h1 : -1022 ≤ e) (h2 : e ≤ 1023)
include h1 h2
end
end
end
section
section
open Go.RowKit
open L (val dig nth)
section
variable {a b : Nat}
def nn (a : Nat) : Int := if pNorm a then bnE a else -1022
end
end
end
end
section
section
section
open Go.RowKit
open L (val dig nth)
def RetDB (B k : Nat) (z x : Int) (e : Ending) (w : World) : Prop := ∃ n A len cap d, e = .returned (.agg #[.bool n, .slice A len cap, .int .i64 x]) ∧ Nums w B (.slice A len cap) d ∧ d.length ≤ k ∧ ival n (val W d) = z
theorem jj3 {ops : Array Oper} {o : Oper} {a : Act} {K : Act → World → Prop} {Q : Exit → Act → World → Prop} {E : Prop} (w : World) (hgd : o.guard = none) (s x : Operand)
    (ho : o.op = .call { callee := .builtin .append, args := #[s, x], argTypes := #[22, 22] })
    (base : Nat) (v : Value) (lx : List Nat) (hs : a.eval s = v) (hown : OwnU w base v lx) (B : Nat) (vs : Value) (ls : List Nat) (hx : a.eval x = vs) (h : Nums w B vs ls)
    (hn : lx.length + ls.length ≤ 1000000) (hbase : base ≤ w.heap.size)
    (hk : ∀ v' w', OwnU w' base v' (lx ++ ls) → w.grownBy w' v.ownBlock → K (a.put o.dst v') w') :
    if Region.wanted o (yielded ops a.tmps) = true then Oper.wp Tryz.prog o a w K Q else E := by
  have hw : Region.wanted o (yielded ops a.tmps) = true := by simp [Region.wanted, hgd]
  rw [if_pos hw]; obtain ⟨v', w', hrun, h2, h3⟩ := jgz w base v lx hown B vs ls h hn hbase o.type; unfold Oper.wp execOp; simp only [ho, resolve, invoke, builtin, Sem.run_bind, Sem.run_pure, Result.andThen_ok, List.map_toArray, List.map_cons, List.map_nil, hs, hx, hrun]; exact hk v' w' h2 h3
end
end
section
section
open Go.RowKit
open L (val dig nth)
end
end
section
section
open Go.RowKit
open L (val dig nth)
end
end
end
section
section
section
open Go.RowKit
open L (val dig nth)
theorem jmx {a b : Int} {k j : Nat} (ha : a.natAbs < W ^ k) (hb : b.natAbs < W ^ j) : (a * b).natAbs < W ^ (k + j) := by
  rw [Int.natAbs_mul, Nat.pow_add]; exact Nat.mul_lt_mul'' ha hb
section
variable {w : World} {k k' : Nat} {n m : Bool} {A A' : Option Addr} {len cap len' cap' : Nat} {z z' x y : Int}
theorem jln (h : Q w k n A len cap z) (hk : k ≤ 50000) :
    Calls Tryz.prog 34 #[.agg #[.bool n, .slice A len cap]] w fun e w' => Below w.heap.size w w' ∧ e = .returned (.int .i64 z.sign) := by
  obtain ⟨d, h1, h2, h3⟩ := h; exact jfm w n 0 _ d z.sign (by rw [h3]) h1 (by omega)
theorem jmy (h : Q w k n A len cap z) (h' : Q w k' m A' len' cap' z') (hk : k ≤ 50000) (hk' : k' ≤ 50000) :
    Calls Tryz.prog 23 #[.agg #[.bool n, .slice A len cap], .agg #[.bool m, .slice A' len' cap']] w fun e w' => Below w.heap.size w w' ∧ e = .returned (.int .i64 (cmpZ z z')) := by
  obtain ⟨d, h1, h2, rfl⟩ := h; obtain ⟨d', h1', h2', rfl⟩ := h'; exact jo4 w n m 0 0 _ _ d d' h1 h1' (by omega) (by omega)
end
end
end
section
section
open Go.RowKit
open L (val dig nth)
def QC (w : World) (k : Nat) (n : Bool) (A : Option Addr) (len cap : Nat) (z : Int) : Prop := ∃ d, Nums w 0 (.slice A len cap) d ∧ d.length ≤ k ∧ Canon d z.natAbs ∧ n = decide (z < 0)
section
variable {w w' : World} {k : Nat} {n : Bool} {A : Option Addr} {len cap : Nat} {z : Int}
theorem QC.q (h : QC w k n A len cap z) : Q w k n A len cap z := by
  obtain ⟨d, h1, h2, h3, rfl⟩ := h; exact ⟨d, h1, h2, by rw [h3.val, jaw]⟩
theorem QC.below (h : QC w k n A len cap z) (hb : Below w.heap.size w w') : QC w' k n A len cap z := by
  obtain ⟨d, h1, h2⟩ := h; exact ⟨d, h1.below hb, h2⟩
theorem QC.drew (h : QC w k n A len cap z) : QC w.drew k n A len cap z := h
theorem QC.drewN (h : QC w k n A len cap z) (m : Nat) : QC (w.drewN m) k n A len cap z := h
theorem QC.of_canon {B : Nat} {u : Value} {d : List Nat} (hu : Nums w B u d) (hd : Canon d z.natAbs) (hz : z.natAbs < W ^ k) :
    ∃ A len cap, u = .slice A len cap ∧ QC w k (decide (z < 0)) A len cap z := by
  obtain ⟨A, cap, rfl⟩ := hu.form; exact ⟨A, d.length, cap, rfl, d, hu.mono (Nat.zero_le _), by rw [hd.len]; exact hz, hd, rfl⟩
end
def RetDC (k : Nat) (z x : Int) (e : Ending) (w : World) : Prop := ∃ n A len cap, e = .returned (.agg #[.bool n, .slice A len cap, .int .i64 x]) ∧ QC w k n A len cap z
def RetIC (k : Nat) (z : Int) (e : Ending) (w : World) : Prop := ∃ n A len cap, e = .returned (.agg #[.bool n, .slice A len cap]) ∧ QC w k n A len cap z
theorem RetQ.toDC {B k : Nat} {z x : Int} {e : Ending} {w : World} (h : RetQ B z x e w) (hz : z.natAbs < W ^ k) : RetDC k z x e w := by
  obtain ⟨u, d, rfl, hu, hd⟩ := h; obtain ⟨A, len, cap, rfl, hq⟩ := QC.of_canon hu hd hz; exact ⟨_, A, len, cap, rfl, hq⟩
theorem RetZ.toIC {B k : Nat} {z : Int} {e : Ending} {w : World} (h : RetZ B z e w) (hz : z.natAbs < W ^ k) : RetIC k z e w := by
  obtain ⟨u, d, rfl, hu, hd⟩ := h; obtain ⟨A, len, cap, rfl, hq⟩ := QC.of_canon hu hd hz; exact ⟨_, A, len, cap, rfl, hq⟩
section
variable {w : World} {k k' : Nat} {n m : Bool} {A A' : Option Addr} {len cap len' cap' : Nat} {z z' x y : Int}
theorem j10 (h : Q w k n A len cap z) (hk : k ≤ 40000) (hx0 : -9223372036854775808 ≤ x) (hx1 : x ≤ 9223372036854775807) :
    Calls Tryz.prog 13 #[.agg #[.bool n, .slice A len cap], .int .i64 x] w fun e w' => Below w.heap.size w w' ∧ RetDC k (nM z x) (nE z x) e w' := by
  have hz := h.lt; obtain ⟨d, h1, h2, rfl⟩ := h; refine (jix w n 0 _ d x h1 (by omega) hx0 hx1).mono ?_; rintro e w' ⟨hb, h⟩; exact ⟨hb, h.toDC (jxr hz)⟩
theorem jxf (h : Q w k n A len cap z) (hk : k ≤ 40000) (hx0 : -9223372036854775808 ≤ x) (hx1 : x ≤ 9223372036854775807) :
    Calls Tryz.prog 37 #[.agg #[.bool n, .slice A len cap, .int .i64 x]] w fun e w' => Below w.heap.size w w' ∧ RetDC k (nM z x) (nE z x) e w' := by
  have hz := h.lt; obtain ⟨d, h1, h2, rfl⟩ := h; refine (jdw w n 0 _ d x h1 (by omega) hx0 hx1).mono ?_; rintro e w' ⟨hb, h⟩; exact ⟨hb, h.toDC (jxr hz)⟩
theorem jz2 (h : Q w k n A len cap z) (h' : Q w k' m A' len' cap' z') (hk : k ≤ 9000) (hk' : k' ≤ 9000)
    (hx0 : -9223372036854775808 ≤ x) (hx1 : x ≤ 9223372036854775807) (hy0 : -9223372036854775808 ≤ y) (hy1 : y ≤ 9223372036854775807) (K : Nat) (hK : 4000 ≤ K) :
    Calls Tryz.prog 130 #[.agg #[.bool n, .slice A len cap, .int .i64 x], .agg #[.bool m, .slice A' len' cap', .int .i64 y]] w fun e w' => Below w.heap.size w w' ∧
      RetDC (k + k' + 126) (pM (av K z x - av K z' y)) (pE (av K z x - av K z' y) (-K)) e w' := by
  have hz := h.lt; have hz' := h'.lt; obtain ⟨d, h1, h2, rfl⟩ := h; obtain ⟨d', h1', h2', rfl⟩ := h'; refine (jht w n m 0 0 _ _ d d' x y h1 h1' (by omega) (by omega) hx0 hx1 hy0 hy1).mono ?_; rintro e w' ⟨hb, hr⟩; rw [jqc K hK, jw3 K hK] at hr; have hlb := jdj (ival n (val W d)) x (ival m (val W d')) y; refine ⟨hb, hr.toDC (k := k + k' + 126) ?_⟩; rw [← jqc K hK]; refine jtn (ju7 (k := k + k' + 125) (Int.natAbs_sub_le _ _) ?_ ?_ (by omega))
  · exact jqe (Nat.lt_of_lt_of_le hz (Nat.pow_le_pow_right ja0 (by omega))) hlb.1
  · exact jqe (Nat.lt_of_lt_of_le hz' (Nat.pow_le_pow_right ja0 (by omega))) hlb.1
theorem jz3 (h : Q w k n A len cap z) (hk : k ≤ 30000) (hx0 : -9223372036854775808 ≤ x) (hx1 : x ≤ 9223372036854775807) (K : Nat) (hK : 4000 ≤ K) :
    Calls Tryz.prog 11 #[.agg #[.bool n, .slice A len cap, .int .i64 x]] w fun e w' => Below w.heap.size w w' ∧ RetDC k (pM (-av K z x)) (pE (-av K z x) (-K)) e w' := by
  have hz := h.lt; obtain ⟨d, h1, h2, rfl⟩ := h; refine (jhs w n 0 _ d x h1 (by omega) hx0 hx1).mono ?_; rintro e w' ⟨hb, h⟩; rw [jqd K, jw4 K hK] at h; refine ⟨hb, h.toDC ?_⟩; rw [← jqd K]; exact jtn (by rw [Int.natAbs_neg]; exact Nat.lt_of_le_of_lt (jju _ x) hz)
theorem jtj (h : Q w k n A len cap z) (hk : k ≤ 30000) (hx0 : -9223372036854775808 ≤ x) (hx1 : x ≤ 9223372036854775807) (K : Nat) (hK : 4000 ≤ K) (p : Int) :
    Calls Tryz.prog 136 #[.agg #[.bool n, .slice A len cap, .int .i64 x], .int .i64 p] w fun e w' => Below w.heap.size w w' ∧
      RetDC k (pM (av K z x)) (pE (av K z x) (nearZ p - K)) e w' := by
  have hz := h.lt; obtain ⟨d, h1, h2, rfl⟩ := h; refine (jf1 w n 0 _ d x p h1 (by omega) hx0 hx1).mono ?_; rintro e w' ⟨hb, h⟩; have hcb := jas (ival n (val W d)) x
  rw [jjr K, show pE (cM (ival n (val W d)) x) (cE (ival n (val W d)) x + nearZ p) = pE (av K (ival n (val W d)) x) (nearZ p - K) from by
    rw [ju6, show nearZ p - (K : Int) = -K + nearZ p from by omega, ju6]; unfold av; rw [jp9 K _ _ (by omega)]
    by_cases h0 : cM (ival n (val W d)) x = 0
    · rw [h0, if_pos rfl, if_pos (jfn _ _)]
    · rw [if_neg h0, if_neg (fun hh => h0 (jfo.1 hh))]] at h
  refine ⟨hb, h.toDC ?_⟩; rw [← jjr K]; exact jtn (Nat.lt_of_le_of_lt (jju _ x) hz)
theorem jtk (h : Q w k n A len cap z) (hk : k ≤ 9000) (hx0 : -9223372036854775808 ≤ x) (hx1 : x ≤ 9223372036854775807) (K : Nat) (hK : 4000 ≤ K) (p : Int) :
    Calls Tryz.prog 40 #[.agg #[.bool n, .slice A len cap, .int .i64 x], .int .i64 p] w fun e w' => Below w.heap.size w w' ∧ RetIC (k + 125) (vFloor K (av K z x) (nearZ p)) e w' := by
  have hz := h.lt; obtain ⟨d, h1, h2, rfl⟩ := h; refine (jdq w n 0 _ d x p h1 (by omega) hx0 hx1).mono ?_; rintro e w' ⟨hb, h⟩; have hcb := jas (ival n (val W d)) x; have hnb := ja4 p; have hlt := jmq (e := cE (ival n (val W d)) x + nearZ p) (Nat.lt_of_le_of_lt (jju _ x) hz) (by omega); rw [jmp K _ _ _ (by omega)] at h hlt; exact ⟨hb, h.toIC hlt⟩
theorem jxg (h : Q w k n A len cap z) (hk : k ≤ 9000) (hx0 : -9223372036854775808 ≤ x) (hx1 : x ≤ 9223372036854775807) (K : Nat) (hK : 4000 ≤ K) (p : Int) :
    Calls Tryz.prog 39 #[.agg #[.bool n, .slice A len cap, .int .i64 x], .int .i64 p] w fun e w' => Below w.heap.size w w' ∧ RetIC (k + 125) (vCeil K (av K z x) (nearZ p)) e w' := by
  have hz := h.lt; obtain ⟨d, h1, h2, rfl⟩ := h; refine (jdx w n 0 _ d x p h1 (by omega) hx0 hx1).mono ?_; rintro e w' ⟨hb, h⟩; have hcb := jas (ival n (val W d)) x; have hnb := ja4 p; have hlt := jmq (a := -cM (ival n (val W d)) x) (e := cE (ival n (val W d)) x + nearZ p) (k := k) (by rw [Int.natAbs_neg]; exact Nat.lt_of_le_of_lt (jju _ x) hz) (by omega); rw [← Int.natAbs_neg, ← jlh] at hlt; rw [jqf K _ _ _ (by omega)] at h hlt; exact ⟨hb, h.toIC hlt⟩
end
end
end
section
section
open Go.RowKit
open L (val dig nth)
end
end
section
section
open Go.RowKit
open L (val dig nth)
def InV (K : Nat) (lo hi V : Int) : Prop := 0 ≤ lo + K ∧ 0 ≤ hi + K ∧ (∃ u : Int, V = sv K u lo) ∧ V.natAbs < 2 ^ (hi + K).toNat
section
variable {K J : Nat} {lo hi lo' hi' V V' : Int}
theorem InV.mono (h : InV K lo hi V) (h1 : lo' ≤ lo) (h2 : 0 ≤ lo' + K) (h3 : hi ≤ hi') : InV K lo' hi' V := by
  obtain ⟨a, b, ⟨u, hu⟩, c⟩ := h; refine ⟨h2, by omega, ⟨u * 2 ^ (lo - lo').toNat, ?_⟩, Nat.lt_of_lt_of_le c (Nat.pow_le_pow_right (by omega) (by omega))⟩; rw [jqb K u lo lo' h1 h2]; exact hu
theorem jj4 {a b : Nat} {e : Int} (he : 0 ≤ e) (ha : a < 2 ^ e.toNat) (hb : b < 2 ^ e.toNat) : a + b < 2 ^ (e + 1).toNat := by
  rw [show (e + 1).toNat = e.toNat + 1 from by omega, Nat.pow_succ]; omega
theorem InV.add (h : InV K lo hi V) (h' : InV K lo hi V') : InV K lo (hi + 1) (V + V') := by
  obtain ⟨a, b, ⟨u, hu⟩, c⟩ := h; obtain ⟨a', b', ⟨u', hu'⟩, c'⟩ := h'; refine ⟨a, by omega, ⟨u + u', by rw [jzf, ← hu, ← hu']⟩, Nat.lt_of_le_of_lt (Int.natAbs_add_le _ _) ?_⟩; rw [show hi + 1 + (K : Int) = hi + K + 1 from by omega]; exact jj4 b c c'
theorem InV.neg (h : InV K lo hi V) : InV K lo hi (-V) := by
  obtain ⟨a, b, ⟨u, hu⟩, c⟩ := h; exact ⟨a, b, ⟨-u, by rw [jp7, ← hu]⟩, by rw [Int.natAbs_neg]; exact c⟩
theorem InV.sub (h : InV K lo hi V) (h' : InV K lo hi V') : InV K lo (hi + 1) (V - V') := by
  rw [Int.sub_eq_add_neg]; exact h.add h'.neg
theorem InV.mul (h : InV K lo hi V) (h' : InV J lo' hi' V') : InV (K + J) (lo + lo') (hi + hi') (V * V') := by
  obtain ⟨a, b, ⟨u, hu⟩, c⟩ := h; obtain ⟨a', b', ⟨u', hu'⟩, c'⟩ := h'; refine ⟨by omega, by omega, ⟨u * u', by rw [jzg K J _ _ _ _ a a', ← hu, ← hu']⟩, ?_⟩; rw [Int.natAbs_mul, show (hi + hi' + ((K + J : Nat) : Int)).toNat = (hi + K).toNat + (hi' + J).toNat from by omega, Nat.pow_add]; exact Nat.mul_lt_mul'' c c'
theorem InV.pE (h : InV K lo hi V) : V = 0 ∧ pE V (-K) = 0 ∨ lo ≤ pE V (-K) ∧ pE V (-K) ≤ hi := by
  by_cases h0 : V = 0
  · left; subst h0; exact ⟨rfl, jcm _⟩
  · right
    obtain ⟨a, b, hu, c⟩ := h; exact pE_bounds' h0 hu a c b
theorem jxh (K : Nat) (V : Int) : sv K V (-K) = V := by
  unfold sv; rw [show (-(K : Int) + K).toNat = 0 from by omega, Int.pow_zero, Int.mul_one]
theorem InV.av (h : InV K lo hi V) (h1 : -4000 ≤ lo) (h2 : hi ≤ 4000) : Proofs.YtcjklbakhlehhaaGreat.av K (pM V) (Proofs.YtcjklbakhlehhaaGreat.pE V (-K)) = V := by
  have hb := h.pE; rw [jw2 (by omega) (by omega), js9 K V _ (by omega), jxh]
theorem InV.bd (h : InV K lo hi V) (h1 : -4000 ≤ lo) (h2 : hi ≤ 4000) : -4000 ≤ Proofs.YtcjklbakhlehhaaGreat.pE V (-K) ∧ Proofs.YtcjklbakhlehhaaGreat.pE V (-K) ≤ 4000 := by
  have hb := h.pE
  omega
end
theorem InV.small {K : Nat} (hK : 4000 ≤ K) {z x : Int} {k : Nat} {m : Int} (hz : z.natAbs < W ^ k) (hx : -m ≤ x ∧ x ≤ m) (hm : m ≤ 4000) (hm0 : 0 ≤ m) : InV K (-m) (64 * k + m) (Proofs.YtcjklbakhlehhaaGreat.av K z x) := by
  rw [jw2 (by omega) (by omega)]; refine ⟨by omega, by omega, ⟨z * 2 ^ (x - -m).toNat, by rw [jqb K z x (-m) (by omega) (by omega)]⟩, ?_⟩; rw [jdv, show (64 * (k : Int) + m + K).toNat = 64 * k + (m + K).toNat from by omega, Nat.pow_add]; rw [jfs] at hz; exact Nat.lt_of_lt_of_le (Nat.mul_lt_mul_of_pos_right hz (Nat.two_pow_pos _)) (Nat.mul_le_mul_left _ (Nat.pow_le_pow_right (by omega) (by omega)))
theorem jxi (x : Int) (m : Nat) (hm : 0 < m) : -((m : Int) - 1) ≤ x.tmod m ∧ x.tmod m ≤ (m : Int) - 1 := by
  have h1 := Int.natAbs_tmod x m; rw [Int.natAbs_natCast] at h1; have h2 := Nat.mod_lt x.natAbs hm
  omega
theorem jf6 (a b : Int) : cmpZ a b = (a - b).sign := by
  unfold cmpZ
  rcases jbm (a - b) with ⟨h, h'⟩ | ⟨h, h'⟩ | ⟨h, h'⟩ <;> rw [h]
  · rw [if_pos (by omega)]
  · rw [if_neg (by omega), if_neg (by omega)]
  · rw [if_neg (by omega), if_pos (by omega)]
end
end
section
section
open Go.RowKit
open L (val dig nth)
theorem jeg {z : Int} {k c t : Nat} (hz : z.natAbs < W ^ k) (hc : c ≤ 64 * t) : (z * 2 ^ c).natAbs < W ^ (k + t) := by
  have := jf4 (d := dig W (z * 2 ^ c).natAbs) (k := k) (n := c) (t := t) (z := z) rfl hz hc
  rwa [L.dig_len W_gt] at this
theorem j11 {w : World} {k : Nat} {n : Bool} {A : Option Addr} {len cap : Nat} {z : Int} (h : Q w k n A len cap z) (hk : k ≤ 50000) (c : Nat) (hc : c ≤ 8000) :
    Calls Tryz.prog 22 #[.agg #[.bool n, .slice A len cap], .int .i64 (c : Nat)] w fun e w' => Below w.heap.size w w' ∧ RetZ w.heap.size (z * 2 ^ c) e w' := by
  obtain ⟨d, h1, h2, rfl⟩ := h; exact jli w n 0 _ d c c _ h1 (by omega) (by omega) (by omega) rfl rfl
section
variable {w : World} {k k' : Nat} {n m : Bool} {A A' : Option Addr} {len cap len' cap' : Nat} {z z' x y V V' zz xx : Int}
theorem j12 (K : Nat) (h : Q w k n A len cap z) (h' : Q w k' m A' len' cap' z') (hK : 4000 ≤ K) (hk : k ≤ 9000) (hk' : k' ≤ 9000) (hx : -100000 ≤ x ∧ x ≤ 100000) (hy : -100000 ≤ y ∧ y ≤ 100000)
    (hV : av K z x = V) (hV' : av K z' y = V') (hz : pM (V - V') = zz) (hxx : pE (V - V') (-K) = xx) :
    Calls Tryz.prog 130 #[.agg #[.bool n, .slice A len cap, .int .i64 x], .agg #[.bool m, .slice A' len' cap', .int .i64 y]] w fun e w' => Below w.heap.size w w' ∧ RetDC (k + k' + 126) zz xx e w' := by
  have := jz2 (x := x) (y := y) h h' hk hk' (by omega) (by omega) (by omega) (by omega) K hK
  rwa [hV, hV', hz, hxx] at this
theorem jz4 (K : Nat) (h : Q w k n A len cap z) (hK : 4000 ≤ K) (hk : k ≤ 9000) (hx : -100000 ≤ x ∧ x ≤ 100000) (hV : av K z x = V) (hz : pM V = zz) (hxx : pE V (-K) = xx) :
    Calls Tryz.prog 37 #[.agg #[.bool n, .slice A len cap, .int .i64 x]] w fun e w' => Below w.heap.size w w' ∧ RetDC k zz xx e w' := by
  have := jxf (x := x) h (by omega) (by omega) (by omega)
  rwa [jqa K, joo hK, hV, hz, hxx] at this
theorem j13 (K : Nat) (h : Q w k n A len cap z) (hK : 4000 ≤ K) (hk : k ≤ 9000) (hx : -100000 ≤ x ∧ x ≤ 100000) (hV : av K z x = V) (hz : pM (-V) = zz) (hxx : pE (-V) (-K) = xx) :
    Calls Tryz.prog 11 #[.agg #[.bool n, .slice A len cap, .int .i64 x]] w fun e w' => Below w.heap.size w w' ∧ RetDC k zz xx e w' := by
  have := jz3 (x := x) h (by omega) (by omega) (by omega) K hK
  rwa [hV, hz, hxx] at this
theorem jxj (K : Nat) (p : Int) (h : Q w k n A len cap z) (hK : 4000 ≤ K) (hk : k ≤ 9000) (hx : -100000 ≤ x ∧ x ≤ 100000) (hV : av K z x = V) (hz : pM V = zz) (hxx : pE V (nearZ p - K) = xx) :
    Calls Tryz.prog 136 #[.agg #[.bool n, .slice A len cap, .int .i64 x], .int .i64 p] w fun e w' => Below w.heap.size w w' ∧ RetDC k zz xx e w' := by
  have := jtj (x := x) h (by omega) (by omega) (by omega) K hK p
  rwa [hV, hz, hxx] at this
theorem jxk (K : Nat) (p : Int) (h : Q w k n A len cap z) (hK : 4000 ≤ K) (hk : k ≤ 9000) (hx : -100000 ≤ x ∧ x ≤ 100000) (hV : av K z x = V) (hz : vFloor K V (nearZ p) = zz) :
    Calls Tryz.prog 40 #[.agg #[.bool n, .slice A len cap, .int .i64 x], .int .i64 p] w fun e w' => Below w.heap.size w w' ∧ RetIC (k + 125) zz e w' := by
  have := jtk (x := x) h (by omega) (by omega) (by omega) K hK p
  rwa [hV, hz] at this
theorem jz5 (K : Nat) (p : Int) (h : Q w k n A len cap z) (hK : 4000 ≤ K) (hk : k ≤ 9000) (hx : -100000 ≤ x ∧ x ≤ 100000) (hV : av K z x = V) (hz : vCeil K V (nearZ p) = zz) :
    Calls Tryz.prog 39 #[.agg #[.bool n, .slice A len cap, .int .i64 x], .int .i64 p] w fun e w' => Below w.heap.size w w' ∧ RetIC (k + 125) zz e w' := by
  have := jxg (x := x) h (by omega) (by omega) (by omega) K hK p
  rwa [hV, hz] at this
theorem e_of (h : Q w k n A len cap z) (hk : k ≤ 9000) (hx : -100000 ≤ x ∧ x ≤ 100000) (hz : nM z x = zz) (hxx : nE z x = xx) :
    Calls Tryz.prog 13 #[.agg #[.bool n, .slice A len cap], .int .i64 x] w fun e w' => Below w.heap.size w w' ∧ RetDC k zz xx e w' := by
  have := j10 (x := x) h (by omega) (by omega) (by omega)
  rwa [hz, hxx] at this
end
end
end
end
section
section
section
open Go.RowKit
open L (val dig nth)
theorem jmz {K J : Nat} {V p : Int} (hKJ : K ≤ J) (hp : 0 ≤ p - K + J) : vFloor K V p = sv J V (p - K) / 2 ^ J := by
  have hq : ∀ (t : Int) (i j : Nat), t * 2 ^ i / 2 ^ (i + j) = t / 2 ^ j := by
    intro t i j; rw [Int.pow_add, Int.mul_comm t]; exact Int.mul_ediv_mul_of_pos _ _ (jbt i)
  unfold vFloor sv
  by_cases h : 0 ≤ p
  · rw [if_pos h, show (p - K + J).toNat = p.toNat + (J - K) from by omega, Int.pow_add, ← Int.mul_assoc]
    conv => rhs; rw [show J = (J - K) + K from by omega]
    rw [show J - K + K - K = J - K from by omega, hq]
  · rw [if_neg h]
    conv => rhs; rw [show J = (p - K + J).toNat + (K + (-p).toNat) from by omega]
    rw [show (p - K + ((p - K + J).toNat + (K + (-p).toNat) : Nat)).toNat = (p - K + J).toNat from by omega, hq]
theorem jxl {K J : Nat} {V p : Int} (hKJ : K ≤ J) (hp : 0 ≤ p - K + J) : vCeil K V p = -(-sv J V (p - K) / 2 ^ J) := by
  unfold vCeil; rw [jmz hKJ hp, jp7]
section
variable {X D f c : Int} (hD : 0 < D) (hf : f = X / D) (hc : c = -(-X / D))
include hD hf hc
theorem j14 : f * D ≤ X ∧ X ≤ c * D ∧ 0 ≤ c - f ∧ c - f ≤ 1 ∧ (c - f = 0 ↔ f * D = X) ∧ X < f * D + D ∧ c * D < X + D := by
  have h1 := Int.mul_ediv_add_emod X D; have h2 := Int.emod_nonneg X (show D ≠ 0 by omega); have h3 := Int.emod_lt_of_pos X hD; have h4 := Int.mul_ediv_add_emod (-X) D; have h5 := Int.emod_nonneg (-X) (show D ≠ 0 by omega); have h6 := Int.emod_lt_of_pos (-X) hD; rw [← hf, Int.mul_comm] at h1; rw [show -X / D = -c from by omega, Int.mul_neg, Int.mul_comm] at h4; have h7 : (c - f) * D = X % D + -X % D := by rw [Int.sub_mul]; omega
  have h8 : 0 ≤ c - f := by
    rcases Int.lt_or_le (c - f) 0 with h | h
    · have : (c - f) * D < 0 := Int.mul_neg_of_neg_of_pos h hD
      omega
    · exact h
  have h9 : c - f ≤ 1 := by
    rcases Int.lt_or_le 1 (c - f) with h | h
    · have : 2 * D ≤ (c - f) * D := Int.mul_le_mul_of_nonneg_right (by omega) (by omega)
      omega
    · exact h
  refine ⟨by omega, by omega, h8, h9, ?_, by omega, by omega⟩
  constructor
  · intro h; rw [h, Int.zero_mul] at h7; omega
  · intro h
    have h10 : (c - f) * D < 1 * D := by omega
    have := Int.lt_of_mul_lt_mul_right h10 (by omega)
    omega
end
section
variable {K J : Nat} {lo hi V p : Int}
theorem InV.shift (h : InV K lo hi V) (hp : 0 ≤ p - K + J) (hl : 0 ≤ lo + p + J) : InV J (lo + p) (hi + p) (sv J V (p - K)) := by
  obtain ⟨a, b, ⟨u, hu⟩, c⟩ := h; have hpos : 0 ≤ hi + p + J := by omega
  refine ⟨hl, hpos, ⟨u, ?_⟩, ?_⟩
  · rw [hu]; unfold sv
    rw [Int.mul_assoc, ← Int.pow_add]; congr 2; omega
  · rw [jdv, show (hi + p + J).toNat = (hi + K).toNat + (p - K + J).toNat from by omega, Nat.pow_add]
    exact Nat.mul_lt_mul_of_pos_right c (Nat.two_pow_pos _)
theorem InV.of_near {X L : Int} {h : Int} (hh : 0 ≤ h) (hX : X.natAbs < 2 ^ (h + J).toNat) (hL : (L - X).natAbs < 2 ^ J) : L.natAbs < 2 ^ (h + 1 + J).toNat := by
  have h1 : 2 ^ J ≤ 2 ^ (h + J).toNat := Nat.pow_le_pow_right (by omega) (by omega); rw [show (h + 1 + (J : Int)).toNat = (h + J).toNat + 1 from by omega, Nat.pow_succ]
  omega
theorem InV.floor (h : InV K lo hi V) (hKJ : K ≤ J) (hp : 0 ≤ p - K + J) (hl : 0 ≤ lo + p + J) (hh : 0 ≤ hi + p) : InV J 0 (hi + p + 1) (sv J (vFloor K V p) 0) ∧ InV J 0 (hi + p + 1) (sv J (vCeil K V p) 0) := by
  have hX := h.shift hp hl; have hD : (0 : Int) < 2 ^ J := jbt J; have hfl := j14 (X := sv J V (p - K)) hD (jmz hKJ hp) (jxl hKJ hp); have hs : ∀ u, sv J u 0 = u * 2 ^ J := by intro u; unfold sv; rw [show (0 + (J : Int)).toNat = J from by omega]
  have hDn : ((2 : Int) ^ J) = ((2 ^ J : Nat) : Int) := natpow J; refine ⟨⟨by omega, by omega, ⟨_, rfl⟩, ?_⟩, ⟨by omega, by omega, ⟨_, rfl⟩, ?_⟩⟩
  · exact InV.of_near hh hX.2.2.2 (by rw [hs]; omega)
  · exact InV.of_near hh hX.2.2.2 (by rw [hs]; omega)
end
end
end
section
section
open Go.RowKit
open L (val dig nth)
section
variable {K J : Nat} {V V' lo hi : Int}
theorem InV.lg (h : InV K lo hi V) (h0 : V ≠ 0) : lo ≤ Proofs.YtcjklbakhlehhaaGreat.lg K V ∧ Proofs.YtcjklbakhlehhaaGreat.lg K V < hi := by
  obtain ⟨a, b, ⟨u, hu⟩, c⟩ := h; refine ⟨(jzi h0 a).2 ?_, (j1v h0 b).2 c⟩; rw [hu, jdv]; have : u ≠ 0 := by rintro rfl; exact h0 (by rw [hu, jfn])
  exact Nat.le_mul_of_pos_left _ (by omega)
end
end
end
section
section
open Go.RowKit
open L (val dig nth)
section
variable {z x V : Int} {n : Int}
end
end
end
section
section
open Go.RowKit Go.ChangeShapes Go.WideShapes
open L (val dig nth)
theorem jgv {n : Int} (h : (Lit.int .u64 n).wf = true) : 0 ≤ n ∧ n < 18446744073709551616 := by
  have := bounds_u64 h
  omega
section
variable {H : Type} {enc : TypeId × Value → H} {w : World} {base : Nat} {spare : Nat → Bool} {held : Bool}
set_option maxRecDepth 100000 in
theorem joq {fuel : Nat} {c : Value} {x : DataW H × List MemPlace} (h : DataW.trod enc Tryz.prog w base spare held fuel 22 [c] = some x) : ∃ A l k L, c = .slice A l k ∧ Nums w 0 (.slice A l k) L := by
  rcases open_ints Tryz.underlying22 Tryz.underlying63 (by kernel_rfl) h with ⟨hcs, -⟩ | ⟨a, len, cap, zs, hcs, -, hl, hm, hz, -, hcell, hwz⟩
  · injection hcs with hcs
    subst hcs; exact ⟨none, 0, 0, [], rfl, Nums.nil _ _⟩
  · injection hcs with hcs
    subst hcs; have hzl : len ≤ zs.length := by rw [hz]; split <;> omega
    refine ⟨some a, len, cap, (zs.take len).map Int.toNat, rfl, ?_⟩; have hlen : ((zs.take len).map Int.toNat).length = len := by simp; omega
    refine ⟨some a, cap, by rw [hlen], ⟨by omega, fun h0 => absurd h0 (Nat.lt_irrefl 0)⟩, by simpa only [maxLen] using hm, ?_, ?_⟩
    · intro y hy
      obtain ⟨n, hn, rfl⟩ := List.mem_map.1 hy; have := jgv (hwz n (List.mem_of_mem_take hn)); unfold W; omega
    · intro h0
      rw [hlen] at h0; have h00 := hcell 0 (by omega); have hspot : (a.add 0).spot = none := World.cell?_spot h00; obtain ⟨b, off, spot⟩ := a; have hs : spot = none := by simpa [Addr.add] using hspot
      subst hs; refine ⟨b, off, rfl, Nat.zero_le _, ?_, ?_⟩
      · have := World.block_lt_of_cell? _ _ h00
        simpa [Addr.add] using this
      · intro i hi
        rw [hlen] at hi; have hi' := hcell i (by omega); have hadd : (⟨b, off, none⟩ : Addr).add i = ⟨b, off + i, none⟩ := by unfold Addr.add; split <;> simp_all
        rw [hadd] at hi'; rw [hi']; have hb := jgv (hwz (zs.getD i 0) (by rw [List.getD_eq_getElem?_getD, List.getElem?_eq_getElem (by omega)]; exact List.getElem_mem _))
        congr 2
        rw [L.nth_def, List.getD_eq_getElem?_getD (l := List.map _ _), List.getElem?_map, List.getElem?_take_of_lt hi, List.getElem?_eq_getElem (by omega)]; rw [List.getD_eq_getElem?_getD, List.getElem?_eq_getElem (by omega)] at hb ⊢; simp only [Option.map_some, Option.getD_some] at hb ⊢
        omega
set_option maxRecDepth 100000 in
theorem jqv {r : Reach} {b0 : Nat} {v : Value} {d : DataW H} {p : List MemPlace} (hv : Value.okWide Tryz.prog w r b0 26 v) (h : DataW.Trod enc Tryz.prog w base spare held 26 v d p) :
    ∃ n A l k x, v = .agg #[.bool n, .slice A l k, .int .i64 x] ∧ (∃ L, Nums w 0 (.slice A l k) L) ∧ (Lit.int .i64 x).wf = true := by
  obtain ⟨cs, rfl, hsz⟩ := okWide_struct Tryz.underlying26 hv; obtain ⟨l⟩ := cs; have hl3 : l.length = 3 := hsz
  obtain ⟨c0, c1, c2, rfl⟩ : ∃ a b c, l = [a, b, c] := by
    match l, hl3 with
    | [a, b, c], _ => exact ⟨a, b, c, rfl⟩
  obtain ⟨fuel, hf⟩ := h; obtain ⟨xs, n, -, -, -, hlen, hg⟩ := DataW.trod_struct Tryz.underlying26 hf; have g0 := hg 0 _ rfl; have g1 := hg 1 _ rfl; clear hg; have hl2 : xs.length = 2 := hlen
  obtain ⟨y0, y1, rfl⟩ : ∃ a b, xs = [a, b] := by
    match xs, hl2 with
    | [a, b], _ => exact ⟨a, b, rfl⟩
  have g0' : DataW.trod enc Tryz.prog w base spare held n 24 [c0, c1] = some y0 := g0; have g1' : DataW.trod enc Tryz.prog w base spare held n 3 [c2] = some y1 := g1; clear g0 g1; obtain ⟨xs', n', -, -, -, hlen', hg'⟩ := DataW.trod_struct Tryz.underlying24 g0'; have i0 := hg' 0 _ rfl; have i1 := hg' 1 _ rfl; clear hg'; have hl2' : xs'.length = 2 := hlen'
  obtain ⟨u0, u1, rfl⟩ : ∃ a b, xs' = [a, b] := by
    match xs', hl2' with
    | [a, b], _ => exact ⟨a, b, rfl⟩
  have i0' : DataW.trod enc Tryz.prog w base spare held n' 4 [c0] = some u0 := i0; have i1' : DataW.trod enc Tryz.prog w base spare held n' 22 [c1] = some u1 := i1; clear i0 i1; obtain ⟨A, ll, k, L, rfl, hL⟩ := joq i1'; obtain ⟨b, e0, -⟩ := DataW.trod_bool Tryz.underlying4 i0'; obtain ⟨x, e1, -, wx⟩ := DataW.trod_int Tryz.underlying3 g1'; simp at e0 e1; subst e0 e1; exact ⟨b, A, ll, k, x, rfl, ⟨L, hL⟩, wx⟩
end
end
end
end
end Go.Proofs.YtcjklbakhlehhaaGreat