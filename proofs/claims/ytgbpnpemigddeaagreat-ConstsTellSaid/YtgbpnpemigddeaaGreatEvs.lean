/- What law04's 'shown' comes to. Plain facts. law04's 'shown' is true. A pattern's number has that pattern. Plain facts. A binade's first pattern and its number. Plain facts. Patterns stand in order. Plain facts. cut: a dyad whose integer has so many limbs at most, its own. law03's 'of' and 'small'. law03's 'shown' is true. dyad.Mul; zed.Shl, Sub, Sign, Cmp in the values' words. Contracts of dyad and zed whose results are canonical. The references' Equal: are two integers, two dyads the very same? How far values reach: sums and products of small dyads count. Plain facts. Contracts of dyad with what they come to named by equations: for the laws' walks. -/
import Derived.Test.YtgbpnpemigddeaaGreatCons
import Derived.Deep.DeepCutAuto
import Derived.Test.YtgbpnpemigddeaaGreatRefs
set_option linter.unusedVariables false
set_option linter.unusedSimpArgs false
namespace Go.Proofs.YtgbpnpemigddeaaGreat
section
section
section
open Go.RowKit
open L (val dig nth)
theorem jjq {z x : Int} (h1 : -4000 ≤ x) (h2 : x ≤ 4000) : cM z x = z := by
  unfold cM
  by_cases hz : z = 0
  · subst hz; split <;> rfl
  · rw [if_neg (by omega)]
theorem jry {z x : Int} (h1 : -4000 ≤ x) (h2 : x ≤ 4000) (hz : z ≠ 0) : cE z x = x := by
  unfold cE; rw [if_neg (by omega)]
def one : Nat := 4607182418800017408
theorem jti {z x m : Int} (h1 : -4000 ≤ x) (h2 : x ≤ 4000) (hz : z ≠ 0) (hm : x + nbits z.natAbs - 1 = m) (hb : ¬ ofBad z x m) : oB1 z x = ofPat z x m ∧ oX1 z x = 0 := by
  have hok : lgOk z x = true := by unfold lgOk; rw [jjq h1 h2]; simpa using hz
  have hlg : lgN z x = m := by unfold lgN; rw [jjq h1 h2, jry h1 h2 hz, if_neg hz]; exact hm
  unfold oB1 oX1; rw [hok, hlg, if_neg (by simp), if_neg hb, if_neg (by simp), if_neg hb]; exact ⟨rfl, rfl⟩
theorem jrz {N : Nat} (h : N < W) : (dig W N).length ≤ 1 := by rw [L.dig_len W_gt, Nat.pow_one]; exact h
end
end
section
section
open Go.RowKit
open L (val dig nth)
end
end
end
section
section
section
open Go.RowKit
open L (val dig nth)
theorem jr0 {z x : Int} (h : nf z x) (h1 : -4000 ≤ x) (h2 : x ≤ 4000) : nM z x = z ∧ nE z x = x := by
  constructor
  · unfold nM; rw [jjq h1 h2]; exact jtg h
  · unfold nE; rw [jjq h1 h2]
    by_cases hz : z = 0
    · rcases h with ⟨_, rfl⟩ | h
      · subst hz; exact jcr _
      · subst hz; simp at h
    · rw [jry h1 h2 hz]; exact jut h
theorem jia (b : Nat) (hb : b < W) : b = pFrc b + pFld b * 4503599627370496 + (if pNeg b then T63 else 0) := by
  unfold pFrc pFld pNeg; unfold W at hb; rw [jto]
  by_cases h : 9223372036854775808 ≤ b
  · rw [decide_eq_true h, if_pos rfl]; omega
  · rw [decide_eq_false h, if_neg (by simp)]; omega
theorem jna (b : Nat) : pFrc b < 4503599627370496 := Nat.mod_lt _ (by omega)
def rF (b : Nat) : Nat := if pFld b = 0 then pFrc b else pFrc b + 4503599627370496
theorem jtj (b : Nat) : rM b = ival (pNeg b) (rF b) := rfl
theorem juy (b : Nat) : rF b < 2 ^ 53 := by
  have := jna b; rw [show (2 : Nat) ^ 53 = 9007199254740992 from rfl]; unfold rF; split <;> omega
theorem jr1 (b : Nat) (h : pFld b ≠ 2047) : -1074 ≤ rE b ∧ rE b ≤ 971 := by
  have := jnm b; unfold rE; split <;> omega
theorem jr2 (b : Nat) : tz (rF b) ≤ 53 := juw _ _ (juy b)
theorem jnb (b : Nat) (h : pFld b ≠ 2047) : vM b = pM (rM b) := by
  have := jr1 b h; unfold vM; rw [if_neg h]; unfold nM; rw [jjq (by omega) (by omega)]
theorem jpp (b : Nat) (h : pFld b ≠ 2047) : vE b = pE (rM b) (rE b) := by
  have := jr1 b h; unfold vE; rw [if_neg h]; unfold nE; rw [jjq (by omega) (by omega)]
  by_cases hz : rM b = 0
  · rw [hz, jcr, jcr]
  · rw [jry (by omega) (by omega) hz]
theorem jib (b : Nat) : (rM b).natAbs = rF b := by rw [jtj, jav]
theorem jtk (b : Nat) (h : pFld b ≠ 2047) : -1074 ≤ vE b ∧ vE b ≤ 1024 := by
  have h1 := jr1 b h; have h2 := jr2 b; rw [jpp b h]; unfold pE; rw [jib]; split <;> omega
theorem v_nf (b : Nat) (h : pFld b ≠ 2047) : nf (vM b) (vE b) := by rw [jnb b h, jpp b h]; exact jpm _ _
theorem jku {f : Nat} (h1 : 4503599627370496 ≤ f) (h2 : f < 9007199254740992) : nbits f = 53 :=
  jcs (by rw [show (2 : Nat) ^ 53 = 9007199254740992 from rfl]; exact h2) (.inr (by rw [show (2 : Nat) ^ (53 - 1) = 4503599627370496 from rfl]; exact h1))
theorem jkv {f : Nat} (h2 : f < 4503599627370496) : nbits f ≤ 52 := by
  rw [jbk, show (2 : Nat) ^ 52 = 4503599627370496 from rfl]; exact h2
theorem jnc (b : Nat) (h : pFld b ≠ 2047) (h0 : rF b = 0) : oB1 (vM b) (vE b) = 0 ∧ oX1 (vM b) (vE b) = 0 := by
  have hz : rM b = 0 := by have := jib b; omega
  have h1 : lgOk (vM b) (vE b) = false := by
    rw [jnb b h, jpp b h, hz, jha, jcr]; unfold lgOk; rw [jjq (by omega) (by omega)]; rfl
  unfold oB1 oX1; rw [if_pos h1, if_pos h1]; exact ⟨rfl, rfl⟩
theorem jnd (b : Nat) (hb : b < W) (h : pFld b ≠ 2047) (h0 : rF b ≠ 0) : oB1 (vM b) (vE b) = b ∧ oX1 (vM b) (vE b) = 0 := by
  have hz : rM b ≠ 0 := by have := jib b; omega
  have hvb := jtk b h; have hvz : vM b ≠ 0 := by rw [jnb b h]; exact jur hz
  have hx : vE b = rE b + tz (rF b) := by rw [jpp b h, jjl hz, jib]
  have hg : (vM b).natAbs * 2 ^ tz (rF b) = rF b := by
    have := congrArg Int.natAbs (jgk (rM b)); rw [Int.natAbs_mul, natAbs_pow, jib] at this; rw [jnb b h]; exact this
  have hn : nbits (vM b).natAbs + tz (rF b) = nbits (rF b) := by rw [← jm6 _ _ (by omega), hg]
  have hneg : (vM b < 0) ↔ pNeg b = true := by
    have e1 : pM (rM b) * 2 ^ tz (rM b).natAbs = rM b := jgk _
    have e2 : vM b < 0 ↔ rM b < 0 := by
      rw [jnb b h, ← Int.sign_eq_neg_one_iff_neg, ← Int.sign_eq_neg_one_iff_neg]
      conv => rhs; rw [← e1, Int.sign_mul, Int.sign_eq_one_of_pos (jgf _), Int.mul_one]
    rw [e2, jtj]; have := jl5 (pNeg b) (rF b)
    cases hp : pNeg b <;> simp [ival] <;> omega
  have hfr := jna b; have hfl := jnm b; obtain ⟨m, hm⟩ : ∃ m, vE b + nbits (vM b).natAbs - 1 = m := ⟨_, rfl⟩; have hm2 : m = rE b + nbits (rF b) - 1 := by omega
  have hlow : ofLow m = rE b ∧ m ≤ 1023 := by
    unfold ofLow
    by_cases hf : pFld b = 0
    · have : rF b < 4503599627370496 := by unfold rF; rw [if_pos hf]; omega
      have := jkv this; have : rE b = -1074 := by unfold rE; rw [if_pos hf]
      omega
    · have : nbits (rF b) = 53 := by unfold rF; rw [if_neg hf]; exact jku (by omega) (by omega)
      have : rE b = (pFld b : Int) - 1075 := by unfold rE; rw [if_neg hf]
      omega
  have hdl : (dig W (vM b).natAbs).length ≤ 1 := jrz (by have := juv b; rwa [Nat.pow_one] at this); have hbad : ¬ ofBad (vM b) (vE b) m := by unfold ofBad; rw [hlow.1]; omega
  have ho := jti (by omega) (by omega) hvz hm hbad; refine ⟨ho.1.trans ?_, ho.2⟩; unfold ofPat; rw [hlow.1, hx, show (rE b + (tz (rF b) : Int) - rE b).toNat = tz (rF b) from by omega, hg]; simp only [hneg]
  conv => rhs; rw [jia b hb]
  congr 1
  by_cases hf : pFld b = 0
  · have h1 : rF b = pFrc b := by unfold rF; rw [if_pos hf]
    have h2 := jkv (f := rF b) (by omega); have h3 : rE b = -1074 := by unfold rE; rw [if_pos hf]
    rw [if_neg (by omega), h1, hf]
  · have h1 : rF b = pFrc b + 4503599627370496 := by unfold rF; rw [if_neg hf]
    have h2 := jku (f := rF b) (by omega) (by omega); have h3 : rE b = (pFld b : Int) - 1075 := by unfold rE; rw [if_neg hf]
    rw [if_pos (by omega), h1]; omega
theorem back (b : Nat) (hb : b < W) (h : pFld b ≠ 2047) : oX1 (nM (vM b) (vE b)) (nE (vM b) (vE b)) = 0 ∧
    (oB1 (nM (vM b) (vE b)) (nE (vM b) (vE b)) = b ∨ b = T63 ∧ oB1 (nM (vM b) (vE b)) (nE (vM b) (vE b)) = 0) := by
  have hvb := jtk b h; have hn := jr0 (v_nf b h) (by omega) (by omega); rw [hn.1, hn.2]
  by_cases h0 : rF b = 0
  · have h1 := jnc b h h0
    refine ⟨h1.2, ?_⟩; rw [h1.1]; have hp := jia b hb; have hf : pFld b = 0 ∧ pFrc b = 0 := by unfold rF at h0; split at h0 <;> omega
    rw [hf.1, hf.2] at hp
    by_cases hs : pNeg b = true
    · rw [if_pos hs] at hp; right; exact ⟨by omega, rfl⟩
    · rw [if_neg hs] at hp; left; omega
  · have h1 := jnd b hb h h0
    exact ⟨h1.2, .inl h1.1⟩
end
end
section
section
open Go.RowKit
open L (val dig nth)
section
variable {e : Int} (h1 : -1022 ≤ e) (h2 : e ≤ 1023)
include h1 h2
end
end
end
section
section
open Go.RowKit
open L (val dig nth)
section
variable {a b : Nat}
def nn (a : Nat) : Int := if pNorm a then bnE a else -1022
end
end
end
end
section
section
section
open Go.RowKit
open L (val dig nth)
def RetDB (B k : Nat) (z x : Int) (e : Ending) (w : World) : Prop := ∃ n A len cap d, e = .returned (.agg #[.bool n, .slice A len cap, .int .i64 x]) ∧ Nums w B (.slice A len cap) d ∧ d.length ≤ k ∧ ival n (val W d) = z
end
end
section
section
open Go.RowKit
open L (val dig nth)
end
end
section
section
open Go.RowKit
open L (val dig nth)
end
end
end
section
section
section
open Go.RowKit
open L (val dig nth)
theorem jq2 {a b : Int} {k j : Nat} (ha : a.natAbs < W ^ k) (hb : b.natAbs < W ^ j) : (a * b).natAbs < W ^ (k + j) := by
  rw [Int.natAbs_mul, Nat.pow_add]; exact Nat.mul_lt_mul'' ha hb
section
variable {w : World} {k k' : Nat} {n m : Bool} {A A' : Option Addr} {len cap len' cap' : Nat} {z z' x y : Int}
theorem jr3 (h : Q w k n A len cap z) (hk : k ≤ 50000) :
    Calls Tryz.prog 73 #[.agg #[.bool n, .slice A len cap]] w fun e w' => Below w.heap.size w w' ∧ e = .returned (.int .i64 z.sign) := by
  obtain ⟨d, h1, h2, h3⟩ := h; exact jh4 w n 0 _ d z.sign (by rw [h3]) h1 (by omega)
theorem jtl (h : Q w k n A len cap z) (h' : Q w k' m A' len' cap' z') (hk : k ≤ 50000) (hk' : k' ≤ 50000) :
    Calls Tryz.prog 66 #[.agg #[.bool n, .slice A len cap], .agg #[.bool m, .slice A' len' cap']] w fun e w' => Below w.heap.size w w' ∧ e = .returned (.int .i64 (cmpZ z z')) := by
  obtain ⟨d, h1, h2, rfl⟩ := h; obtain ⟨d', h1', h2', rfl⟩ := h'; exact jmv w n m 0 0 _ _ d d' h1 h1' (by omega) (by omega)
end
end
end
section
section
open Go.RowKit
open L (val dig nth)
def QC (w : World) (k : Nat) (n : Bool) (A : Option Addr) (len cap : Nat) (z : Int) : Prop := ∃ d, Nums w 0 (.slice A len cap) d ∧ d.length ≤ k ∧ Canon d z.natAbs ∧ n = decide (z < 0)
section
variable {w w' : World} {k : Nat} {n : Bool} {A : Option Addr} {len cap : Nat} {z : Int}
theorem QC.q (h : QC w k n A len cap z) : Q w k n A len cap z := by
  obtain ⟨d, h1, h2, h3, rfl⟩ := h; exact ⟨d, h1, h2, by rw [h3.val, jas]⟩
theorem QC.below (h : QC w k n A len cap z) (hb : Below w.heap.size w w') : QC w' k n A len cap z := by
  obtain ⟨d, h1, h2⟩ := h; exact ⟨d, h1.below hb, h2⟩
theorem QC.drew (h : QC w k n A len cap z) : QC w.drew k n A len cap z := h
theorem QC.drewN (h : QC w k n A len cap z) (m : Nat) : QC (w.drewN m) k n A len cap z := h
end
def RetDC (k : Nat) (z x : Int) (e : Ending) (w : World) : Prop := ∃ n A len cap, e = .returned (.agg #[.bool n, .slice A len cap, .int .i64 x]) ∧ QC w k n A len cap z
def RetIC (k : Nat) (z : Int) (e : Ending) (w : World) : Prop := ∃ n A len cap, e = .returned (.agg #[.bool n, .slice A len cap]) ∧ QC w k n A len cap z
section
variable {w : World} {k k' : Nat} {n m : Bool} {A A' : Option Addr} {len cap len' cap' : Nat} {z z' x y : Int}
end
end
end
section
section
open Go.RowKit
open L (val dig nth)
theorem jpq {d d' : List Nat} {z z' : Int} (hd : Canon d z.natAbs) (hd' : Canon d' z'.natAbs) : ((d == d') && (decide (z < 0) == decide (z' < 0))) = decide (z = z') := by
  by_cases h : z = z'
  · subst h
    have : d = d' := by rw [show d = dig W z.natAbs from hd, show d' = dig W z.natAbs from hd']
    subst this; simp
  · rw [decide_eq_false h]
    by_cases hn : decide (z < 0) = decide (z' < 0)
    · have hne : d ≠ d' := by
        rintro rfl; have h1 : z.natAbs = z'.natAbs := hd.val.symm.trans hd'.val; rw [decide_eq_decide] at hn
        omega
      rw [beq_eq_false_iff_ne.2 hne]; rfl
    · rw [beq_eq_false_iff_ne.2 hn, Bool.and_false]
set_option maxRecDepth 100000 in
theorem jr4 {w : World} {n m : Bool} {A A' : Option Addr} {len cap len' cap' : Nat} {d d' : List Nat} (r : Bool) (h1 : Nums w 0 (.slice A len cap) d) (h1' : Nums w 0 (.slice A' len' cap') d') (HE : Hid (((d == d') && (n == m)) = r)) :
    Calls Tryz.prog 23 #[.agg #[.bool n, .slice A len cap], .agg #[.bool m, .slice A' len' cap']] w fun e w' => Below w.heap.size w w' ∧ e = .returned (.bool r) := by
  obtain ⟨b, HB⟩ : ∃ b, Hid ((d == d') = b) := ⟨_, hide rfl⟩; rw [HB.out] at HE; obtain ⟨W0, hW, hbx, hby, hB0, hs⟩ := start2 w 25 25 #[.bool n, .slice A len cap] #[.bool m, .slice A' len' cap']; have g1 := h1.up hB0; have g2 := h1'.up hB0; clear hs; obtain ⟨c0, c1, -, -⟩ := hbx.two; obtain ⟨c2, c3, -, -⟩ := hby.two
  go_enter Tryz.func23, Tryz.ntmps23
  go_upto_region 1 with (fail)
  rw [← hW]; clear hW; have HP := jj0 W0 0 0 _ _ d d' g1 g2; rw [HB.out] at HP
  go_wp2_with fail
  refine HP.mono ?_; rintro e w1 ⟨hb1, rfl⟩; clear HP; have hB1 := hb1.below W0.heap.size; have hbx1 := hbx.below hB1 hbx.lt; have hby1 := hby.below hB1 hby.lt; obtain ⟨e0, e1, -, -⟩ := hbx1.two; obtain ⟨e2, e3, -, -⟩ := hby1.two
  cases b with
  | false =>
    rw [Bool.false_and] at HE; have hr := HE.out; subst hr
    go_wp2_with fail
    go_ret
    exact ⟨hB0.trans (hB1.mono hB0.size), rfl⟩
  | true =>
    rw [Bool.true_and] at HE
    go_wp2_with fail
    go_ret
    exact ⟨hB0.trans (hB1.mono hB0.size), by rw [← HE.out]; rfl⟩
set_option maxRecDepth 100000 in
theorem jne {w : World} {k k' : Nat} {n m : Bool} {A A' : Option Addr} {len cap len' cap' : Nat} {z z' : Int} (h : QC w k n A len cap z) (h' : QC w k' m A' len' cap' z') :
    Calls Tryz.prog 23 #[.agg #[.bool n, .slice A len cap], .agg #[.bool m, .slice A' len' cap']] w fun e w' => Below w.heap.size w w' ∧ e = .returned (.bool (decide (z = z'))) := by
  obtain ⟨d, h1, -, h3, hn⟩ := h; obtain ⟨d', h1', -, h3', hm⟩ := h'; have HE := hide (jpq h3 h3'); rw [← hn, ← hm] at HE; exact jr4 _ h1 h1' HE
end
end
section
section
open Go.RowKit
open L (val dig nth)
def InV (K : Nat) (lo hi V : Int) : Prop := 0 ≤ lo + K ∧ 0 ≤ hi + K ∧ (∃ u : Int, V = sv K u lo) ∧ V.natAbs < 2 ^ (hi + K).toNat
section
variable {K J : Nat} {lo hi lo' hi' V V' : Int}
theorem InV.mono (h : InV K lo hi V) (h1 : lo' ≤ lo) (h2 : 0 ≤ lo' + K) (h3 : hi ≤ hi') : InV K lo' hi' V := by
  obtain ⟨a, b, ⟨u, hu⟩, c⟩ := h; refine ⟨h2, by omega, ⟨u * 2 ^ (lo - lo').toNat, ?_⟩, Nat.lt_of_lt_of_le c (Nat.pow_le_pow_right (by omega) (by omega))⟩; rw [jqz K u lo lo' h1 h2]; exact hu
theorem jic {a b : Nat} {e : Int} (he : 0 ≤ e) (ha : a < 2 ^ e.toNat) (hb : b < 2 ^ e.toNat) : a + b < 2 ^ (e + 1).toNat := by
  rw [show (e + 1).toNat = e.toNat + 1 from by omega, Nat.pow_succ]; omega
theorem InV.add (h : InV K lo hi V) (h' : InV K lo hi V') : InV K lo (hi + 1) (V + V') := by
  obtain ⟨a, b, ⟨u, hu⟩, c⟩ := h; obtain ⟨a', b', ⟨u', hu'⟩, c'⟩ := h'; refine ⟨a, by omega, ⟨u + u', by rw [jtc, ← hu, ← hu']⟩, Nat.lt_of_le_of_lt (Int.natAbs_add_le _ _) ?_⟩; rw [show hi + 1 + (K : Int) = hi + K + 1 from by omega]; exact jic b c c'
theorem InV.neg (h : InV K lo hi V) : InV K lo hi (-V) := by
  obtain ⟨a, b, ⟨u, hu⟩, c⟩ := h; exact ⟨a, b, ⟨-u, by rw [jtd, ← hu]⟩, by rw [Int.natAbs_neg]; exact c⟩
theorem InV.sub (h : InV K lo hi V) (h' : InV K lo hi V') : InV K lo (hi + 1) (V - V') := by
  rw [Int.sub_eq_add_neg]; exact h.add h'.neg
theorem InV.mul (h : InV K lo hi V) (h' : InV J lo' hi' V') : InV (K + J) (lo + lo') (hi + hi') (V * V') := by
  obtain ⟨a, b, ⟨u, hu⟩, c⟩ := h; obtain ⟨a', b', ⟨u', hu'⟩, c'⟩ := h'; refine ⟨by omega, by omega, ⟨u * u', by rw [jte K J _ _ _ _ a a', ← hu, ← hu']⟩, ?_⟩; rw [Int.natAbs_mul, show (hi + hi' + ((K + J : Nat) : Int)).toNat = (hi + K).toNat + (hi' + J).toNat from by omega, Nat.pow_add]; exact Nat.mul_lt_mul'' c c'
theorem InV.pE (h : InV K lo hi V) : V = 0 ∧ pE V (-K) = 0 ∨ lo ≤ pE V (-K) ∧ pE V (-K) ≤ hi := by
  by_cases h0 : V = 0
  · left; subst h0; exact ⟨rfl, jcr _⟩
  · right
    obtain ⟨a, b, hu, c⟩ := h; exact pE_bounds' h0 hu a c b
theorem jr5 (K : Nat) (V : Int) : sv K V (-K) = V := by
  unfold sv; rw [show (-(K : Int) + K).toNat = 0 from by omega, Int.pow_zero, Int.mul_one]
theorem InV.av (h : InV K lo hi V) (h1 : -4000 ≤ lo) (h2 : hi ≤ 4000) : Proofs.YtgbpnpemigddeaaGreat.av K (pM V) (Proofs.YtgbpnpemigddeaaGreat.pE V (-K)) = V := by
  have hb := h.pE; rw [jth (by omega) (by omega), jpn K V _ (by omega), jr5]
theorem InV.bd (h : InV K lo hi V) (h1 : -4000 ≤ lo) (h2 : hi ≤ 4000) : -4000 ≤ Proofs.YtgbpnpemigddeaaGreat.pE V (-K) ∧ Proofs.YtgbpnpemigddeaaGreat.pE V (-K) ≤ 4000 := by
  have hb := h.pE
  omega
end
theorem InV.small {K : Nat} (hK : 4000 ≤ K) {z x : Int} {k : Nat} {m : Int} (hz : z.natAbs < W ^ k) (hx : -m ≤ x ∧ x ≤ m) (hm : m ≤ 4000) (hm0 : 0 ≤ m) : InV K (-m) (64 * k + m) (Proofs.YtgbpnpemigddeaaGreat.av K z x) := by
  rw [jth (by omega) (by omega)]; refine ⟨by omega, by omega, ⟨z * 2 ^ (x - -m).toNat, by rw [jqz K z x (-m) (by omega) (by omega)]⟩, ?_⟩; rw [jff, show (64 * (k : Int) + m + K).toNat = 64 * k + (m + K).toNat from by omega, Nat.pow_add]; rw [jgh] at hz; exact Nat.lt_of_lt_of_le (Nat.mul_lt_mul_of_pos_right hz (Nat.two_pow_pos _)) (Nat.mul_le_mul_left _ (Nat.pow_le_pow_right (by omega) (by omega)))
theorem jr6 (x : Int) (m : Nat) (hm : 0 < m) : -((m : Int) - 1) ≤ x.tmod m ∧ x.tmod m ≤ (m : Int) - 1 := by
  have h1 := Int.natAbs_tmod x m; rw [Int.natAbs_natCast] at h1; have h2 := Nat.mod_lt x.natAbs hm
  omega
theorem jd5 (a b : Int) : cmpZ a b = (a - b).sign := by
  unfold cmpZ
  rcases jbg (a - b) with ⟨h, h'⟩ | ⟨h, h'⟩ | ⟨h, h'⟩ <;> rw [h]
  · rw [if_pos (by omega)]
  · rw [if_neg (by omega), if_neg (by omega)]
  · rw [if_neg (by omega), if_pos (by omega)]
end
end
section
section
open Go.RowKit
open L (val dig nth)
theorem jpr {z : Int} {k c t : Nat} (hz : z.natAbs < W ^ k) (hc : c ≤ 64 * t) : (z * 2 ^ c).natAbs < W ^ (k + t) := by
  have := jpo (d := dig W (z * 2 ^ c).natAbs) (k := k) (n := c) (t := t) (z := z) rfl hz hc
  rwa [L.dig_len W_gt] at this
theorem juz {w : World} {k : Nat} {n : Bool} {A : Option Addr} {len cap : Nat} {z : Int} (h : Q w k n A len cap z) (hk : k ≤ 50000) (c : Nat) (hc : c ≤ 8000) :
    Calls Tryz.prog 32 #[.agg #[.bool n, .slice A len cap], .int .i64 (c : Nat)] w fun e w' => Below w.heap.size w w' ∧ RetZ w.heap.size (z * 2 ^ c) e w' := by
  obtain ⟨d, h1, h2, rfl⟩ := h; exact jrw w n 0 _ d c c _ h1 (by omega) (by omega) (by omega) rfl rfl
section
variable {w : World} {k k' : Nat} {n m : Bool} {A A' : Option Addr} {len cap len' cap' : Nat} {z z' x y V V' zz xx : Int}
end
end
end
end
end Go.Proofs.YtgbpnpemigddeaaGreat