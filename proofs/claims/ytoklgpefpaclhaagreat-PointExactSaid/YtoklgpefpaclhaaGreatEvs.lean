/- What law04's 'shown' comes to. Plain facts. law04's 'shown' is true. A pattern's number has that pattern. Plain facts. A binade's first pattern and its number. Plain facts. Patterns stand in order. Plain facts. cut: a dyad whose integer has so many limbs at most, its own. law03's 'of' and 'small'. law03's 'shown' is true. dyad.Mul; zed.Shl, Sub, Sign, Cmp in the values' words. Contracts of dyad and zed whose results are canonical. The references' Equal: are two integers, two dyads the very same? How far values reach: sums and products of small dyads count. Plain facts. Contracts of dyad with what they come to named by equations: for the laws' walks. -/
import Derived.Test.YtoklgpefpaclhaaGreatCons
import Derived.Deep.DeepCutAuto
import Derived.Test.YtoklgpefpaclhaaGreatRefs
set_option linter.unusedVariables false
set_option linter.unusedSimpArgs false
namespace Go.Proofs.YtoklgpefpaclhaaGreat
section
section
section
open Go.RowKit
open L (val dig nth)
theorem jfb {z x : Int} (h1 : -4000 ≤ x) (h2 : x ≤ 4000) : cM z x = z := by
  unfold cM
  by_cases hz : z = 0
  · subst hz; split <;> rfl
  · rw [if_neg (by omega)]
theorem jmp {z x : Int} (h1 : -4000 ≤ x) (h2 : x ≤ 4000) (hz : z ≠ 0) : cE z x = x := by
  unfold cE; rw [if_neg (by omega)]
theorem jk0 {z x : Int} (h1 : -4000 ≤ x) (h2 : x ≤ 4000) (ho : z.natAbs % 2 = 1) : nM z x = z := by
  unfold nM; rw [jfb h1 h2]; exact jp3 (x := x) (.inr ho)
theorem jk1 {z x : Int} (h1 : -4000 ≤ x) (h2 : x ≤ 4000) (ho : z.natAbs % 2 = 1) : nE z x = x := by
  have hz : z ≠ 0 := by intro h; subst h; simp at ho
  unfold nE; rw [jfb h1 h2, jmp h1 h2 hz]; exact ju2 (.inr ho)
theorem jns {z x : Int} {n : Nat} (h1 : -4000 ≤ x) (h2 : x ≤ 4000) (ho : z.natAbs % 2 = 1) : nM (z * 2 ^ n) x = z := by
  unfold nM; rw [jfb h1 h2, jnd]; exact jp3 (x := x) (.inr ho)
theorem jnt {z x : Int} {n : Nat} (h1 : -4000 ≤ x) (h2 : x ≤ 4000) (ho : z.natAbs % 2 = 1) : nE (z * 2 ^ n) x = x + n := by
  have hz : z ≠ 0 := by intro h; subst h; simp at ho
  have hz2 : z * 2 ^ n ≠ 0 := fun h => by rcases Int.mul_eq_zero.1 h with h | h; exact hz h; exact jg1 _ h
  unfold nE; rw [jfb h1 h2, jmp h1 h2 hz2, jh6 hz2, Int.natAbs_mul, natAbs_pow, jkx ho]
def one : Nat := 4607182418800017408
theorem jrs {z x m : Int} (h1 : -4000 ≤ x) (h2 : x ≤ 4000) (hz : z ≠ 0) (hm : x + nbits z.natAbs - 1 = m) (hb : ¬ ofBad z x m) : oB1 z x = ofPat z x m ∧ oX1 z x = 0 := by
  have hok : lgOk z x = true := by unfold lgOk; rw [jfb h1 h2]; simpa using hz
  have hlg : lgN z x = m := by unfold lgN; rw [jfb h1 h2, jmp h1 h2 hz, if_neg hz]; exact hm
  unfold oB1 oX1; rw [hok, hlg, if_neg (by simp), if_neg hb, if_neg (by simp), if_neg hb]; exact ⟨rfl, rfl⟩
theorem js6 {N : Nat} (h : N < W) : (dig W N).length ≤ 1 := by rw [L.dig_len W_gt, Nat.pow_one]; exact h
theorem js7 : nbits 1 = 1 := jbk (by omega) (.inr (by omega))
theorem lg_one : lgN 1 0 = 0 := by
  unfold lgN; rw [jfb (by omega) (by omega), jmp (by omega) (by omega) (by omega), if_neg (by omega), show (1 : Int).natAbs = 1 from rfl, js7]; rfl
end
end
section
section
open Go.RowKit
open L (val dig nth)
end
end
end
section
section
section
open Go.RowKit
open L (val dig nth)
theorem js8 {z x : Int} (h : nf z x) (h1 : -4000 ≤ x) (h2 : x ≤ 4000) : nM z x = z ∧ nE z x = x := by
  constructor
  · unfold nM; rw [jfb h1 h2]; exact jp3 h
  · unfold nE; rw [jfb h1 h2]
    by_cases hz : z = 0
    · rcases h with ⟨_, rfl⟩ | h
      · subst hz; exact jb6 _
      · subst hz; simp at h
    · rw [jmp h1 h2 hz]; exact ju2 h
theorem jie (b : Nat) (hb : b < W) : b = pFrc b + pFld b * 4503599627370496 + (if pNeg b then T63 else 0) := by
  unfold pFrc pFld pNeg; unfold W at hb; rw [jru]
  by_cases h : 9223372036854775808 ≤ b
  · rw [decide_eq_true h, if_pos rfl]; omega
  · rw [decide_eq_false h, if_neg (by simp)]; omega
theorem jnu (b : Nat) : pFrc b < 4503599627370496 := Nat.mod_lt _ (by omega)
def rF (b : Nat) : Nat := if pFld b = 0 then pFrc b else pFrc b + 4503599627370496
theorem jvi (b : Nat) : rM b = ival (pNeg b) (rF b) := rfl
theorem jw5 (b : Nat) : rF b < 2 ^ 53 := by
  have := jnu b; rw [show (2 : Nat) ^ 53 = 9007199254740992 from rfl]; unfold rF; split <;> omega
theorem js9 (b : Nat) (h : pFld b ≠ 2047) : -1074 ≤ rE b ∧ rE b ≤ 971 := by
  have := jj3 b; unfold rE; split <;> omega
theorem jta (b : Nat) : tz (rF b) ≤ 53 := ju6 _ _ (jw5 b)
theorem jnv (b : Nat) (h : pFld b ≠ 2047) : vM b = pM (rM b) := by
  have := js9 b h; unfold vM; rw [if_neg h]; unfold nM; rw [jfb (by omega) (by omega)]
theorem jp6 (b : Nat) (h : pFld b ≠ 2047) : vE b = pE (rM b) (rE b) := by
  have := js9 b h; unfold vE; rw [if_neg h]; unfold nE; rw [jfb (by omega) (by omega)]
  by_cases hz : rM b = 0
  · rw [hz, jb6, jb6]
  · rw [jmp (by omega) (by omega) hz]
theorem jif (b : Nat) : (rM b).natAbs = rF b := by rw [jvi, jba]
theorem jvj (b : Nat) (h : pFld b ≠ 2047) : -1074 ≤ vE b ∧ vE b ≤ 1024 := by
  have h1 := js9 b h; have h2 := jta b; rw [jp6 b h]; unfold pE; rw [jif]; split <;> omega
theorem v_nf (b : Nat) (h : pFld b ≠ 2047) : nf (vM b) (vE b) := by rw [jnv b h, jp6 b h]; exact jp0 _ _
theorem jk2 {f : Nat} (h1 : 4503599627370496 ≤ f) (h2 : f < 9007199254740992) : nbits f = 53 :=
  jbk (by rw [show (2 : Nat) ^ 53 = 9007199254740992 from rfl]; exact h2) (.inr (by rw [show (2 : Nat) ^ (53 - 1) = 4503599627370496 from rfl]; exact h1))
theorem jk3 {f : Nat} (h2 : f < 4503599627370496) : nbits f ≤ 52 := by
  rw [jaw, show (2 : Nat) ^ 52 = 4503599627370496 from rfl]; exact h2
theorem jnw (b : Nat) (h : pFld b ≠ 2047) (h0 : rF b = 0) : oB1 (vM b) (vE b) = 0 ∧ oX1 (vM b) (vE b) = 0 := by
  have hz : rM b = 0 := by have := jif b; omega
  have h1 : lgOk (vM b) (vE b) = false := by
    rw [jnv b h, jp6 b h, hz, jey, jb6]; unfold lgOk; rw [jfb (by omega) (by omega)]; rfl
  unfold oB1 oX1; rw [if_pos h1, if_pos h1]; exact ⟨rfl, rfl⟩
theorem jnx (b : Nat) (hb : b < W) (h : pFld b ≠ 2047) (h0 : rF b ≠ 0) : oB1 (vM b) (vE b) = b ∧ oX1 (vM b) (vE b) = 0 := by
  have hz : rM b ≠ 0 := by have := jif b; omega
  have hvb := jvj b h; have hvz : vM b ≠ 0 := by rw [jnv b h]; exact jw2 hz
  have hx : vE b = rE b + tz (rF b) := by rw [jp6 b h, jh6 hz, jif]
  have hg : (vM b).natAbs * 2 ^ tz (rF b) = rF b := by
    have := congrArg Int.natAbs (jee (rM b)); rw [Int.natAbs_mul, natAbs_pow, jif] at this; rw [jnv b h]; exact this
  have hn : nbits (vM b).natAbs + tz (rF b) = nbits (rF b) := by rw [← nbits_mul _ _ (by omega), hg]
  have hneg : (vM b < 0) ↔ pNeg b = true := by
    have e1 : pM (rM b) * 2 ^ tz (rM b).natAbs = rM b := jee _
    have e2 : vM b < 0 ↔ rM b < 0 := by
      rw [jnv b h, ← Int.sign_eq_neg_one_iff_neg, ← Int.sign_eq_neg_one_iff_neg]
      conv => rhs; rw [← e1, Int.sign_mul, Int.sign_eq_one_of_pos (jde _), Int.mul_one]
    rw [e2, jvi]; have := jmh (pNeg b) (rF b)
    cases hp : pNeg b <;> simp [ival] <;> omega
  have hfr := jnu b; have hfl := jj3 b; obtain ⟨m, hm⟩ : ∃ m, vE b + nbits (vM b).natAbs - 1 = m := ⟨_, rfl⟩; have hm2 : m = rE b + nbits (rF b) - 1 := by omega
  have hlow : ofLow m = rE b ∧ m ≤ 1023 := by
    unfold ofLow
    by_cases hf : pFld b = 0
    · have : rF b < 4503599627370496 := by unfold rF; rw [if_pos hf]; omega
      have := jk3 this; have : rE b = -1074 := by unfold rE; rw [if_pos hf]
      omega
    · have : nbits (rF b) = 53 := by unfold rF; rw [if_neg hf]; exact jk2 (by omega) (by omega)
      have : rE b = (pFld b : Int) - 1075 := by unfold rE; rw [if_neg hf]
      omega
  have hdl : (dig W (vM b).natAbs).length ≤ 1 := js6 (by have := ju5 b; rwa [Nat.pow_one] at this); have hbad : ¬ ofBad (vM b) (vE b) m := by unfold ofBad; rw [hlow.1]; omega
  have ho := jrs (by omega) (by omega) hvz hm hbad; refine ⟨ho.1.trans ?_, ho.2⟩; unfold ofPat; rw [hlow.1, hx, show (rE b + (tz (rF b) : Int) - rE b).toNat = tz (rF b) from by omega, hg]; simp only [hneg]
  conv => rhs; rw [jie b hb]
  congr 1
  by_cases hf : pFld b = 0
  · have h1 : rF b = pFrc b := by unfold rF; rw [if_pos hf]
    have h2 := jk3 (f := rF b) (by omega); have h3 : rE b = -1074 := by unfold rE; rw [if_pos hf]
    rw [if_neg (by omega), h1, hf]
  · have h1 : rF b = pFrc b + 4503599627370496 := by unfold rF; rw [if_neg hf]
    have h2 := jk2 (f := rF b) (by omega) (by omega); have h3 : rE b = (pFld b : Int) - 1075 := by unfold rE; rw [if_neg hf]
    rw [if_pos (by omega), h1]; omega
theorem back (b : Nat) (hb : b < W) (h : pFld b ≠ 2047) : oX1 (nM (vM b) (vE b)) (nE (vM b) (vE b)) = 0 ∧
    (oB1 (nM (vM b) (vE b)) (nE (vM b) (vE b)) = b ∨ b = T63 ∧ oB1 (nM (vM b) (vE b)) (nE (vM b) (vE b)) = 0) := by
  have hvb := jvj b h; have hn := js8 (v_nf b h) (by omega) (by omega); rw [hn.1, hn.2]
  by_cases h0 : rF b = 0
  · have h1 := jnw b h h0
    refine ⟨h1.2, ?_⟩; rw [h1.1]; have hp := jie b hb; have hf : pFld b = 0 ∧ pFrc b = 0 := by unfold rF at h0; split at h0 <;> omega
    rw [hf.1, hf.2] at hp
    by_cases hs : pNeg b = true
    · rw [if_pos hs] at hp; right; exact ⟨by omega, rfl⟩
    · rw [if_neg hs] at hp; left; omega
  · have h1 := jnx b hb h h0
    exact ⟨h1.2, .inl h1.1⟩
end
end
section
section
open Go.RowKit
open L (val dig nth)
section
variable {e : Int} (h1 : -1022 ≤ e) (h2 : e ≤ 1023)
include h1 h2
end
end
end
section
section
open Go.RowKit
open L (val dig nth)
section
variable {a b : Nat}
def nn (a : Nat) : Int := if pNorm a then bnE a else -1022
end
end
end
end
section
section
section
open Go.RowKit
open L (val dig nth)
def RetDB (B k : Nat) (z x : Int) (e : Ending) (w : World) : Prop := ∃ n A len cap d, e = .returned (.agg #[.bool n, .slice A len cap, .int .i64 x]) ∧ Nums w B (.slice A len cap) d ∧ d.length ≤ k ∧ ival n (val W d) = z
end
end
section
section
open Go.RowKit
open L (val dig nth)
end
end
section
section
open Go.RowKit
open L (val dig nth)
end
end
end
section
section
section
open Go.RowKit
open L (val dig nth)
theorem jk4 {a b : Int} {k j : Nat} (ha : a.natAbs < W ^ k) (hb : b.natAbs < W ^ j) : (a * b).natAbs < W ^ (k + j) := by
  rw [Int.natAbs_mul, Nat.pow_add]; exact Nat.mul_lt_mul'' ha hb
section
variable {w : World} {k k' : Nat} {n m : Bool} {A A' : Option Addr} {len cap len' cap' : Nat} {z z' x y : Int}
theorem jjs (h : Q w k n A len cap z) (hk : k ≤ 50000) :
    Calls Tryz.prog 7 #[.agg #[.bool n, .slice A len cap]] w fun e w' => Below w.heap.size w w' ∧ e = .returned (.int .i64 z.sign) := by
  obtain ⟨d, h1, h2, h3⟩ := h; exact jew w n 0 _ d z.sign (by rw [h3]) h1 (by omega)
theorem jk5 (h : Q w k n A len cap z) (h' : Q w k' m A' len' cap' z') (hk : k ≤ 50000) (hk' : k' ≤ 50000) :
    Calls Tryz.prog 33 #[.agg #[.bool n, .slice A len cap], .agg #[.bool m, .slice A' len' cap']] w fun e w' => Below w.heap.size w w' ∧ e = .returned (.int .i64 (cmpZ z z')) := by
  obtain ⟨d, h1, h2, rfl⟩ := h; obtain ⟨d', h1', h2', rfl⟩ := h'; exact jm0 w n m 0 0 _ _ d d' h1 h1' (by omega) (by omega)
end
end
end
section
section
open Go.RowKit
open L (val dig nth)
def QC (w : World) (k : Nat) (n : Bool) (A : Option Addr) (len cap : Nat) (z : Int) : Prop := ∃ d, Nums w 0 (.slice A len cap) d ∧ d.length ≤ k ∧ Canon d z.natAbs ∧ n = decide (z < 0)
section
variable {w w' : World} {k : Nat} {n : Bool} {A : Option Addr} {len cap : Nat} {z : Int}
theorem QC.q (h : QC w k n A len cap z) : Q w k n A len cap z := by
  obtain ⟨d, h1, h2, h3, rfl⟩ := h; exact ⟨d, h1, h2, by rw [h3.val, jas]⟩
theorem QC.below (h : QC w k n A len cap z) (hb : Below w.heap.size w w') : QC w' k n A len cap z := by
  obtain ⟨d, h1, h2⟩ := h; exact ⟨d, h1.below hb, h2⟩
theorem QC.drew (h : QC w k n A len cap z) : QC w.drew k n A len cap z := h
theorem QC.drewN (h : QC w k n A len cap z) (m : Nat) : QC (w.drewN m) k n A len cap z := h
theorem QC.of_canon {B : Nat} {u : Value} {d : List Nat} (hu : Nums w B u d) (hd : Canon d z.natAbs) (hz : z.natAbs < W ^ k) :
    ∃ A len cap, u = .slice A len cap ∧ QC w k (decide (z < 0)) A len cap z := by
  obtain ⟨A, cap, rfl⟩ := hu.form; exact ⟨A, d.length, cap, rfl, d, hu.mono (Nat.zero_le _), by rw [hd.len]; exact hz, hd, rfl⟩
end
def RetDC (k : Nat) (z x : Int) (e : Ending) (w : World) : Prop := ∃ n A len cap, e = .returned (.agg #[.bool n, .slice A len cap, .int .i64 x]) ∧ QC w k n A len cap z
def RetIC (k : Nat) (z : Int) (e : Ending) (w : World) : Prop := ∃ n A len cap, e = .returned (.agg #[.bool n, .slice A len cap]) ∧ QC w k n A len cap z
theorem RetQ.toDC {B k : Nat} {z x : Int} {e : Ending} {w : World} (h : RetQ B z x e w) (hz : z.natAbs < W ^ k) : RetDC k z x e w := by
  obtain ⟨u, d, rfl, hu, hd⟩ := h; obtain ⟨A, len, cap, rfl, hq⟩ := QC.of_canon hu hd hz; exact ⟨_, A, len, cap, rfl, hq⟩
theorem RetZ.toIC {B k : Nat} {z : Int} {e : Ending} {w : World} (h : RetZ B z e w) (hz : z.natAbs < W ^ k) : RetIC k z e w := by
  obtain ⟨u, d, rfl, hu, hd⟩ := h; obtain ⟨A, len, cap, rfl, hq⟩ := QC.of_canon hu hd hz; exact ⟨_, A, len, cap, rfl, hq⟩
section
variable {w : World} {k k' : Nat} {n m : Bool} {A A' : Option Addr} {len cap len' cap' : Nat} {z z' x y : Int}
theorem jw6 (h : Q w k n A len cap z) (hk : k ≤ 40000) (hx0 : -9223372036854775808 ≤ x) (hx1 : x ≤ 9223372036854775807) :
    Calls Tryz.prog 9 #[.agg #[.bool n, .slice A len cap], .int .i64 x] w fun e w' => Below w.heap.size w w' ∧ RetDC k (nM z x) (nE z x) e w' := by
  have hz := h.lt; obtain ⟨d, h1, h2, rfl⟩ := h; refine (jc4 w n 0 _ d x h1 (by omega) hx0 hx1).mono ?_; rintro e w' ⟨hb, h⟩; exact ⟨hb, h.toDC (jqc hz)⟩
theorem jtb (h : Q w k n A len cap z) (hk : k ≤ 40000) (hx0 : -9223372036854775808 ≤ x) (hx1 : x ≤ 9223372036854775807) :
    Calls Tryz.prog 19 #[.agg #[.bool n, .slice A len cap, .int .i64 x]] w fun e w' => Below w.heap.size w w' ∧ RetDC k (nM z x) (nE z x) e w' := by
  have hz := h.lt; obtain ⟨d, h1, h2, rfl⟩ := h; refine (jcf w n 0 _ d x h1 (by omega) hx0 hx1).mono ?_; rintro e w' ⟨hb, h⟩; exact ⟨hb, h.toDC (jqc hz)⟩
theorem jvk (h : Q w k n A len cap z) (h' : Q w k' m A' len' cap' z') (hk : k ≤ 9000) (hk' : k' ≤ 9000)
    (hx0 : -9223372036854775808 ≤ x) (hx1 : x ≤ 9223372036854775807) (hy0 : -9223372036854775808 ≤ y) (hy1 : y ≤ 9223372036854775807) (K : Nat) (hK : 4000 ≤ K) :
    Calls Tryz.prog 117 #[.agg #[.bool n, .slice A len cap, .int .i64 x], .agg #[.bool m, .slice A' len' cap', .int .i64 y]] w fun e w' => Below w.heap.size w w' ∧
      RetDC (k + k' + 126) (pM (av K z x - av K z' y)) (pE (av K z x - av K z' y) (-K)) e w' := by
  have hz := h.lt; have hz' := h'.lt; obtain ⟨d, h1, h2, rfl⟩ := h; obtain ⟨d', h1', h2', rfl⟩ := h'; refine (jgx w n m 0 0 _ _ d d' x y h1 h1' (by omega) (by omega) hx0 hx1 hy0 hy1).mono ?_; rintro e w' ⟨hb, hr⟩; rw [jng K hK, js0 K hK] at hr; have hlb := jc5 (ival n (val W d)) x (ival m (val W d')) y; refine ⟨hb, hr.toDC (k := k + k' + 126) ?_⟩; rw [← jng K hK]; refine jqb (jrm (k := k + k' + 125) (Int.natAbs_sub_le _ _) ?_ ?_ (by omega))
  · exact jnj (Nat.lt_of_lt_of_le hz (Nat.pow_le_pow_right ja2 (by omega))) hlb.1
  · exact jnj (Nat.lt_of_lt_of_le hz' (Nat.pow_le_pow_right ja2 (by omega))) hlb.1
theorem jvl (h : Q w k n A len cap z) (hk : k ≤ 30000) (hx0 : -9223372036854775808 ≤ x) (hx1 : x ≤ 9223372036854775807) (K : Nat) (hK : 4000 ≤ K) :
    Calls Tryz.prog 135 #[.agg #[.bool n, .slice A len cap, .int .i64 x]] w fun e w' => Below w.heap.size w w' ∧ RetDC k (pM (-av K z x)) (pE (-av K z x) (-K)) e w' := by
  have hz := h.lt; obtain ⟨d, h1, h2, rfl⟩ := h; refine (jgw w n 0 _ d x h1 (by omega) hx0 hx1).mono ?_; rintro e w' ⟨hb, h⟩; rw [jnh K, js1 K hK] at h; refine ⟨hb, h.toDC ?_⟩; rw [← jnh K]; exact jqb (by rw [Int.natAbs_neg]; exact Nat.lt_of_le_of_lt (jho _ x) hz)
theorem jp7 (h : Q w k n A len cap z) (hk : k ≤ 30000) (hx0 : -9223372036854775808 ≤ x) (hx1 : x ≤ 9223372036854775807) (K : Nat) (hK : 4000 ≤ K) (p : Int) :
    Calls Tryz.prog 127 #[.agg #[.bool n, .slice A len cap, .int .i64 x], .int .i64 p] w fun e w' => Below w.heap.size w w' ∧
      RetDC k (pM (av K z x)) (pE (av K z x) (nearZ p - K)) e w' := by
  have hz := h.lt; obtain ⟨d, h1, h2, rfl⟩ := h; refine (jfa w n 0 _ d x p h1 (by omega) hx0 hx1).mono ?_; rintro e w' ⟨hb, h⟩; have hcb := jap (ival n (val W d)) x
  rw [jh7 K, show pE (cM (ival n (val W d)) x) (cE (ival n (val W d)) x + nearZ p) = pE (av K (ival n (val W d)) x) (nearZ p - K) from by
    rw [jni, show nearZ p - (K : Int) = -K + nearZ p from by omega, jni]; unfold av; rw [jne K _ _ (by omega)]
    by_cases h0 : cM (ival n (val W d)) x = 0
    · rw [h0, if_pos rfl, if_pos (jfy _ _)]
    · rw [if_neg h0, if_neg (fun hh => h0 (jex.1 hh))]] at h
  refine ⟨hb, h.toDC ?_⟩; rw [← jh7 K]; exact jqb (Nat.lt_of_le_of_lt (jho _ x) hz)
theorem jp8 (h : Q w k n A len cap z) (hk : k ≤ 9000) (hx0 : -9223372036854775808 ≤ x) (hx1 : x ≤ 9223372036854775807) (K : Nat) (hK : 4000 ≤ K) (p : Int) :
    Calls Tryz.prog 110 #[.agg #[.bool n, .slice A len cap, .int .i64 x], .int .i64 p] w fun e w' => Below w.heap.size w w' ∧ RetIC (k + 125) (vFloor K (av K z x) (nearZ p)) e w' := by
  have hz := h.lt; obtain ⟨d, h1, h2, rfl⟩ := h; refine (jdf w n 0 _ d x p h1 (by omega) hx0 hx1).mono ?_; rintro e w' ⟨hb, h⟩; have hcb := jap (ival n (val W d)) x; have hnb := ja5 p; have hlt := jkw (e := cE (ival n (val W d)) x + nearZ p) (Nat.lt_of_le_of_lt (jho _ x) hz) (by omega); rw [jkv K _ _ _ (by omega)] at h hlt; exact ⟨hb, h.toIC hlt⟩
theorem jtc (h : Q w k n A len cap z) (hk : k ≤ 9000) (hx0 : -9223372036854775808 ≤ x) (hx1 : x ≤ 9223372036854775807) (K : Nat) (hK : 4000 ≤ K) (p : Int) :
    Calls Tryz.prog 111 #[.agg #[.bool n, .slice A len cap, .int .i64 x], .int .i64 p] w fun e w' => Below w.heap.size w w' ∧ RetIC (k + 125) (vCeil K (av K z x) (nearZ p)) e w' := by
  have hz := h.lt; obtain ⟨d, h1, h2, rfl⟩ := h; refine (jdh w n 0 _ d x p h1 (by omega) hx0 hx1).mono ?_; rintro e w' ⟨hb, h⟩; have hcb := jap (ival n (val W d)) x; have hnb := ja5 p; have hlt := jkw (a := -cM (ival n (val W d)) x) (e := cE (ival n (val W d)) x + nearZ p) (k := k) (by rw [Int.natAbs_neg]; exact Nat.lt_of_le_of_lt (jho _ x) hz) (by omega); rw [← Int.natAbs_neg, ← jjo] at hlt; rw [jnk K _ _ _ (by omega)] at h hlt; exact ⟨hb, h.toIC hlt⟩
end
end
end
section
section
open Go.RowKit
open L (val dig nth)
end
end
section
section
open Go.RowKit
open L (val dig nth)
def InV (K : Nat) (lo hi V : Int) : Prop := 0 ≤ lo + K ∧ 0 ≤ hi + K ∧ (∃ u : Int, V = sv K u lo) ∧ V.natAbs < 2 ^ (hi + K).toNat
section
variable {K J : Nat} {lo hi lo' hi' V V' : Int}
theorem InV.mono (h : InV K lo hi V) (h1 : lo' ≤ lo) (h2 : 0 ≤ lo' + K) (h3 : hi ≤ hi') : InV K lo' hi' V := by
  obtain ⟨a, b, ⟨u, hu⟩, c⟩ := h; refine ⟨h2, by omega, ⟨u * 2 ^ (lo - lo').toNat, ?_⟩, Nat.lt_of_lt_of_le c (Nat.pow_le_pow_right (by omega) (by omega))⟩; rw [jnf K u lo lo' h1 h2]; exact hu
theorem jig {a b : Nat} {e : Int} (he : 0 ≤ e) (ha : a < 2 ^ e.toNat) (hb : b < 2 ^ e.toNat) : a + b < 2 ^ (e + 1).toNat := by
  rw [show (e + 1).toNat = e.toNat + 1 from by omega, Nat.pow_succ]; omega
theorem InV.add (h : InV K lo hi V) (h' : InV K lo hi V') : InV K lo (hi + 1) (V + V') := by
  obtain ⟨a, b, ⟨u, hu⟩, c⟩ := h; obtain ⟨a', b', ⟨u', hu'⟩, c'⟩ := h'; refine ⟨a, by omega, ⟨u + u', by rw [ju0, ← hu, ← hu']⟩, Nat.lt_of_le_of_lt (Int.natAbs_add_le _ _) ?_⟩; rw [show hi + 1 + (K : Int) = hi + K + 1 from by omega]; exact jig b c c'
theorem InV.neg (h : InV K lo hi V) : InV K lo hi (-V) := by
  obtain ⟨a, b, ⟨u, hu⟩, c⟩ := h; exact ⟨a, b, ⟨-u, by rw [jri, ← hu]⟩, by rw [Int.natAbs_neg]; exact c⟩
theorem InV.sub (h : InV K lo hi V) (h' : InV K lo hi V') : InV K lo (hi + 1) (V - V') := by
  rw [Int.sub_eq_add_neg]; exact h.add h'.neg
theorem InV.mul (h : InV K lo hi V) (h' : InV J lo' hi' V') : InV (K + J) (lo + lo') (hi + hi') (V * V') := by
  obtain ⟨a, b, ⟨u, hu⟩, c⟩ := h; obtain ⟨a', b', ⟨u', hu'⟩, c'⟩ := h'; refine ⟨by omega, by omega, ⟨u * u', by rw [ju1 K J _ _ _ _ a a', ← hu, ← hu']⟩, ?_⟩; rw [Int.natAbs_mul, show (hi + hi' + ((K + J : Nat) : Int)).toNat = (hi + K).toNat + (hi' + J).toNat from by omega, Nat.pow_add]; exact Nat.mul_lt_mul'' c c'
theorem InV.pE (h : InV K lo hi V) : V = 0 ∧ pE V (-K) = 0 ∨ lo ≤ pE V (-K) ∧ pE V (-K) ≤ hi := by
  by_cases h0 : V = 0
  · left; subst h0; exact ⟨rfl, jb6 _⟩
  · right
    obtain ⟨a, b, hu, c⟩ := h; exact pE_bounds' h0 hu a c b
theorem jtd (K : Nat) (V : Int) : sv K V (-K) = V := by
  unfold sv; rw [show (-(K : Int) + K).toNat = 0 from by omega, Int.pow_zero, Int.mul_one]
theorem InV.av (h : InV K lo hi V) (h1 : -4000 ≤ lo) (h2 : hi ≤ 4000) : Proofs.YtoklgpefpaclhaaGreat.av K (pM V) (Proofs.YtoklgpefpaclhaaGreat.pE V (-K)) = V := by
  have hb := h.pE; rw [ju3 (by omega) (by omega), jp1 K V _ (by omega), jtd]
theorem InV.bd (h : InV K lo hi V) (h1 : -4000 ≤ lo) (h2 : hi ≤ 4000) : -4000 ≤ Proofs.YtoklgpefpaclhaaGreat.pE V (-K) ∧ Proofs.YtoklgpefpaclhaaGreat.pE V (-K) ≤ 4000 := by
  have hb := h.pE
  omega
end
theorem InV.small {K : Nat} (hK : 4000 ≤ K) {z x : Int} {k : Nat} {m : Int} (hz : z.natAbs < W ^ k) (hx : -m ≤ x ∧ x ≤ m) (hm : m ≤ 4000) (hm0 : 0 ≤ m) : InV K (-m) (64 * k + m) (Proofs.YtoklgpefpaclhaaGreat.av K z x) := by
  rw [ju3 (by omega) (by omega)]; refine ⟨by omega, by omega, ⟨z * 2 ^ (x - -m).toNat, by rw [jnf K z x (-m) (by omega) (by omega)]⟩, ?_⟩; rw [jfz, show (64 * (k : Int) + m + K).toNat = 64 * k + (m + K).toNat from by omega, Nat.pow_add]; rw [jd7] at hz; exact Nat.lt_of_lt_of_le (Nat.mul_lt_mul_of_pos_right hz (Nat.two_pow_pos _)) (Nat.mul_le_mul_left _ (Nat.pow_le_pow_right (by omega) (by omega)))
theorem jte (x : Int) (m : Nat) (hm : 0 < m) : -((m : Int) - 1) ≤ x.tmod m ∧ x.tmod m ≤ (m : Int) - 1 := by
  have h1 := Int.natAbs_tmod x m; rw [Int.natAbs_natCast] at h1; have h2 := Nat.mod_lt x.natAbs hm
  omega
theorem jfg (a b : Int) : cmpZ a b = (a - b).sign := by
  unfold cmpZ
  rcases jbn (a - b) with ⟨h, h'⟩ | ⟨h, h'⟩ | ⟨h, h'⟩ <;> rw [h]
  · rw [if_pos (by omega)]
  · rw [if_neg (by omega), if_neg (by omega)]
  · rw [if_neg (by omega), if_pos (by omega)]
end
end
section
section
open Go.RowKit
open L (val dig nth)
theorem jdx {z : Int} {k c t : Nat} (hz : z.natAbs < W ^ k) (hc : c ≤ 64 * t) : (z * 2 ^ c).natAbs < W ^ (k + t) := by
  have := jfe (d := dig W (z * 2 ^ c).natAbs) (k := k) (n := c) (t := t) (z := z) rfl hz hc
  rwa [L.dig_len W_gt] at this
theorem jw7 {w : World} {k : Nat} {n : Bool} {A : Option Addr} {len cap : Nat} {z : Int} (h : Q w k n A len cap z) (hk : k ≤ 50000) (c : Nat) (hc : c ≤ 8000) :
    Calls Tryz.prog 29 #[.agg #[.bool n, .slice A len cap], .int .i64 (c : Nat)] w fun e w' => Below w.heap.size w w' ∧ RetZ w.heap.size (z * 2 ^ c) e w' := by
  obtain ⟨d, h1, h2, rfl⟩ := h; exact jjp w n 0 _ d c c _ h1 (by omega) (by omega) (by omega) rfl rfl
section
variable {w : World} {k k' : Nat} {n m : Bool} {A A' : Option Addr} {len cap len' cap' : Nat} {z z' x y V V' zz xx : Int}
theorem jw8 (K : Nat) (h : Q w k n A len cap z) (h' : Q w k' m A' len' cap' z') (hK : 4000 ≤ K) (hk : k ≤ 9000) (hk' : k' ≤ 9000) (hx : -100000 ≤ x ∧ x ≤ 100000) (hy : -100000 ≤ y ∧ y ≤ 100000)
    (hV : av K z x = V) (hV' : av K z' y = V') (hz : pM (V - V') = zz) (hxx : pE (V - V') (-K) = xx) :
    Calls Tryz.prog 117 #[.agg #[.bool n, .slice A len cap, .int .i64 x], .agg #[.bool m, .slice A' len' cap', .int .i64 y]] w fun e w' => Below w.heap.size w w' ∧ RetDC (k + k' + 126) zz xx e w' := by
  have := jvk (x := x) (y := y) h h' hk hk' (by omega) (by omega) (by omega) (by omega) K hK
  rwa [hV, hV', hz, hxx] at this
theorem jvm (K : Nat) (h : Q w k n A len cap z) (hK : 4000 ≤ K) (hk : k ≤ 9000) (hx : -100000 ≤ x ∧ x ≤ 100000) (hV : av K z x = V) (hz : pM V = zz) (hxx : pE V (-K) = xx) :
    Calls Tryz.prog 19 #[.agg #[.bool n, .slice A len cap, .int .i64 x]] w fun e w' => Below w.heap.size w w' ∧ RetDC k zz xx e w' := by
  have := jtb (x := x) h (by omega) (by omega) (by omega)
  rwa [jsy K, jsz hK, hV, hz, hxx] at this
theorem jw9 (K : Nat) (h : Q w k n A len cap z) (hK : 4000 ≤ K) (hk : k ≤ 9000) (hx : -100000 ≤ x ∧ x ≤ 100000) (hV : av K z x = V) (hz : pM (-V) = zz) (hxx : pE (-V) (-K) = xx) :
    Calls Tryz.prog 135 #[.agg #[.bool n, .slice A len cap, .int .i64 x]] w fun e w' => Below w.heap.size w w' ∧ RetDC k zz xx e w' := by
  have := jvl (x := x) h (by omega) (by omega) (by omega) K hK
  rwa [hV, hz, hxx] at this
theorem jtf (K : Nat) (p : Int) (h : Q w k n A len cap z) (hK : 4000 ≤ K) (hk : k ≤ 9000) (hx : -100000 ≤ x ∧ x ≤ 100000) (hV : av K z x = V) (hz : pM V = zz) (hxx : pE V (nearZ p - K) = xx) :
    Calls Tryz.prog 127 #[.agg #[.bool n, .slice A len cap, .int .i64 x], .int .i64 p] w fun e w' => Below w.heap.size w w' ∧ RetDC k zz xx e w' := by
  have := jp7 (x := x) h (by omega) (by omega) (by omega) K hK p
  rwa [hV, hz, hxx] at this
theorem jtg (K : Nat) (p : Int) (h : Q w k n A len cap z) (hK : 4000 ≤ K) (hk : k ≤ 9000) (hx : -100000 ≤ x ∧ x ≤ 100000) (hV : av K z x = V) (hz : vFloor K V (nearZ p) = zz) :
    Calls Tryz.prog 110 #[.agg #[.bool n, .slice A len cap, .int .i64 x], .int .i64 p] w fun e w' => Below w.heap.size w w' ∧ RetIC (k + 125) zz e w' := by
  have := jp8 (x := x) h (by omega) (by omega) (by omega) K hK p
  rwa [hV, hz] at this
theorem jvn (K : Nat) (p : Int) (h : Q w k n A len cap z) (hK : 4000 ≤ K) (hk : k ≤ 9000) (hx : -100000 ≤ x ∧ x ≤ 100000) (hV : av K z x = V) (hz : vCeil K V (nearZ p) = zz) :
    Calls Tryz.prog 111 #[.agg #[.bool n, .slice A len cap, .int .i64 x], .int .i64 p] w fun e w' => Below w.heap.size w w' ∧ RetIC (k + 125) zz e w' := by
  have := jtc (x := x) h (by omega) (by omega) (by omega) K hK p
  rwa [hV, hz] at this
theorem e_of (h : Q w k n A len cap z) (hk : k ≤ 9000) (hx : -100000 ≤ x ∧ x ≤ 100000) (hz : nM z x = zz) (hxx : nE z x = xx) :
    Calls Tryz.prog 9 #[.agg #[.bool n, .slice A len cap], .int .i64 x] w fun e w' => Below w.heap.size w w' ∧ RetDC k zz xx e w' := by
  have := jw6 (x := x) h (by omega) (by omega) (by omega)
  rwa [hz, hxx] at this
end
end
end
end
end Go.Proofs.YtoklgpefpaclhaaGreat