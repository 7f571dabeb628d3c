/- dyad.Mul; zed.Shl, Sub, Sign, Cmp in the values' words. Contracts of dyad and zed whose results are canonical. The references' Equal: are two integers, two dyads the very same? How far values reach: sums and products of small dyads count. Plain facts. Contracts of dyad with what they come to named by equations: for the laws' walks. -/
import Derived.Test.YtdglddpigeamaaaGreatLaws
import Derived.Test.YtdglddpigeamaaaGreatRefs
set_option linter.unusedVariables false
set_option linter.unusedSimpArgs false
namespace Go.Proofs.YtdglddpigeamaaaGreat
section
section
open Go.RowKit
open L (val dig nth)
theorem jmw {a b : Int} {k j : Nat} (ha : a.natAbs < W ^ k) (hb : b.natAbs < W ^ j) : (a * b).natAbs < W ^ (k + j) := by
  rw [Int.natAbs_mul, Nat.pow_add]; exact Nat.mul_lt_mul'' ha hb
section
variable {w : World} {k k' : Nat} {n m : Bool} {A A' : Option Addr} {len cap len' cap' : Nat} {z z' x y : Int}
theorem jlo (h : Q w k n A len cap z) (hk : k ≤ 50000) :
    Calls Tryz.prog 28 #[.agg #[.bool n, .slice A len cap]] w fun e w' => Below w.heap.size w w' ∧ e = .returned (.int .i64 z.sign) := by
  obtain ⟨d, h1, h2, h3⟩ := h; exact jfe w n 0 _ d z.sign (by rw [h3]) h1 (by omega)
theorem jmx (h : Q w k n A len cap z) (h' : Q w k' m A' len' cap' z') (hk : k ≤ 50000) (hk' : k' ≤ 50000) :
    Calls Tryz.prog 21 #[.agg #[.bool n, .slice A len cap], .agg #[.bool m, .slice A' len' cap']] w fun e w' => Below w.heap.size w w' ∧ e = .returned (.int .i64 (cmpZ z z')) := by
  obtain ⟨d, h1, h2, rfl⟩ := h; obtain ⟨d', h1', h2', rfl⟩ := h'; exact jo0 w n m 0 0 _ _ d d' h1 h1' (by omega) (by omega)
end
end
end
section
section
open Go.RowKit
open L (val dig nth)
def QC (w : World) (k : Nat) (n : Bool) (A : Option Addr) (len cap : Nat) (z : Int) : Prop := ∃ d, Nums w 0 (.slice A len cap) d ∧ d.length ≤ k ∧ Canon d z.natAbs ∧ n = decide (z < 0)
section
variable {w w' : World} {k : Nat} {n : Bool} {A : Option Addr} {len cap : Nat} {z : Int}
theorem QC.q (h : QC w k n A len cap z) : Q w k n A len cap z := by
  obtain ⟨d, h1, h2, h3, rfl⟩ := h; exact ⟨d, h1, h2, by rw [h3.val, jaj]⟩
theorem QC.below (h : QC w k n A len cap z) (hb : Below w.heap.size w w') : QC w' k n A len cap z := by
  obtain ⟨d, h1, h2⟩ := h; exact ⟨d, h1.below hb, h2⟩
theorem QC.drew (h : QC w k n A len cap z) : QC w.drew k n A len cap z := h
theorem QC.drewN (h : QC w k n A len cap z) (m : Nat) : QC (w.drewN m) k n A len cap z := h
theorem QC.of_canon {B : Nat} {u : Value} {d : List Nat} (hu : Nums w B u d) (hd : Canon d z.natAbs) (hz : z.natAbs < W ^ k) :
    ∃ A len cap, u = .slice A len cap ∧ QC w k (decide (z < 0)) A len cap z := by
  obtain ⟨A, cap, rfl⟩ := hu.form; exact ⟨A, d.length, cap, rfl, d, hu.mono (Nat.zero_le _), by rw [hd.len]; exact hz, hd, rfl⟩
end
def RetDC (k : Nat) (z x : Int) (e : Ending) (w : World) : Prop := ∃ n A len cap, e = .returned (.agg #[.bool n, .slice A len cap, .int .i64 x]) ∧ QC w k n A len cap z
def RetIC (k : Nat) (z : Int) (e : Ending) (w : World) : Prop := ∃ n A len cap, e = .returned (.agg #[.bool n, .slice A len cap]) ∧ QC w k n A len cap z
theorem RetQ.toDC {B k : Nat} {z x : Int} {e : Ending} {w : World} (h : RetQ B z x e w) (hz : z.natAbs < W ^ k) : RetDC k z x e w := by
  obtain ⟨u, d, rfl, hu, hd⟩ := h; obtain ⟨A, len, cap, rfl, hq⟩ := QC.of_canon hu hd hz; exact ⟨_, A, len, cap, rfl, hq⟩
theorem RetZ.toIC {B k : Nat} {z : Int} {e : Ending} {w : World} (h : RetZ B z e w) (hz : z.natAbs < W ^ k) : RetIC k z e w := by
  obtain ⟨u, d, rfl, hu, hd⟩ := h; obtain ⟨A, len, cap, rfl, hq⟩ := QC.of_canon hu hd hz; exact ⟨_, A, len, cap, rfl, hq⟩
section
variable {w : World} {k k' : Nat} {n m : Bool} {A A' : Option Addr} {len cap len' cap' : Nat} {z z' x y : Int}
theorem jy7 (h : Q w k n A len cap z) (hk : k ≤ 40000) (hx0 : -9223372036854775808 ≤ x) (hx1 : x ≤ 9223372036854775807) :
    Calls Tryz.prog 31 #[.agg #[.bool n, .slice A len cap], .int .i64 x] w fun e w' => Below w.heap.size w w' ∧ RetDC k (nM z x) (nE z x) e w' := by
  have hz := h.lt; obtain ⟨d, h1, h2, rfl⟩ := h; refine (jdg w n 0 _ d x h1 (by omega) hx0 hx1).mono ?_; rintro e w' ⟨hb, h⟩; exact ⟨hb, h.toDC (jsu hz)⟩
theorem jva (h : Q w k n A len cap z) (hk : k ≤ 40000) (hx0 : -9223372036854775808 ≤ x) (hx1 : x ≤ 9223372036854775807) :
    Calls Tryz.prog 74 #[.agg #[.bool n, .slice A len cap, .int .i64 x]] w fun e w' => Below w.heap.size w w' ∧ RetDC k (nM z x) (nE z x) e w' := by
  have hz := h.lt; obtain ⟨d, h1, h2, rfl⟩ := h; refine (jco w n 0 _ d x h1 (by omega) hx0 hx1).mono ?_; rintro e w' ⟨hb, h⟩; exact ⟨hb, h.toDC (jsu hz)⟩
theorem jxg (h : Q w k n A len cap z) (h' : Q w k' m A' len' cap' z') (hk : k ≤ 9000) (hk' : k' ≤ 9000)
    (hx0 : -9223372036854775808 ≤ x) (hx1 : x ≤ 9223372036854775807) (hy0 : -9223372036854775808 ≤ y) (hy1 : y ≤ 9223372036854775807) (K : Nat) (hK : 4000 ≤ K) :
    Calls Tryz.prog 239 #[.agg #[.bool n, .slice A len cap, .int .i64 x], .agg #[.bool m, .slice A' len' cap', .int .i64 y]] w fun e w' => Below w.heap.size w w' ∧
      RetDC (k + k' + 126) (pM (av K z x - av K z' y)) (pE (av K z x - av K z' y) (-K)) e w' := by
  have hz := h.lt; have hz' := h'.lt; obtain ⟨d, h1, h2, rfl⟩ := h; obtain ⟨d', h1', h2', rfl⟩ := h'; refine (jhv w n m 0 0 _ _ d d' x y h1 h1' (by omega) (by omega) hx0 hx1 hy0 hy1).mono ?_; rintro e w' ⟨hb, hr⟩; rw [jpf K hK, ju4 K hK] at hr; have hlb := jdh (ival n (val W d)) x (ival m (val W d')) y; refine ⟨hb, hr.toDC (k := k + k' + 126) ?_⟩; rw [← jpf K hK]; refine jst (jmt (k := k + k' + 125) (Int.natAbs_sub_le _ _) ?_ ?_ (by omega))
  · exact jph (Nat.lt_of_lt_of_le hz (Nat.pow_le_pow_right jay (by omega))) hlb.1
  · exact jph (Nat.lt_of_lt_of_le hz' (Nat.pow_le_pow_right jay (by omega))) hlb.1
theorem jxh (h : Q w k n A len cap z) (hk : k ≤ 30000) (hx0 : -9223372036854775808 ≤ x) (hx1 : x ≤ 9223372036854775807) (K : Nat) (hK : 4000 ≤ K) :
    Calls Tryz.prog 257 #[.agg #[.bool n, .slice A len cap, .int .i64 x]] w fun e w' => Below w.heap.size w w' ∧ RetDC k (pM (-av K z x)) (pE (-av K z x) (-K)) e w' := by
  have hz := h.lt; obtain ⟨d, h1, h2, rfl⟩ := h; refine (jhu w n 0 _ d x h1 (by omega) hx0 hx1).mono ?_; rintro e w' ⟨hb, h⟩; rw [jpg K, ju5 K hK] at h; refine ⟨hb, h.toDC ?_⟩; rw [← jpg K]; exact jst (by rw [Int.natAbs_neg]; exact Nat.lt_of_le_of_lt (ji0 _ x) hz)
theorem jsk (h : Q w k n A len cap z) (hk : k ≤ 30000) (hx0 : -9223372036854775808 ≤ x) (hx1 : x ≤ 9223372036854775807) (K : Nat) (hK : 4000 ≤ K) (p : Int) :
    Calls Tryz.prog 249 #[.agg #[.bool n, .slice A len cap, .int .i64 x], .int .i64 p] w fun e w' => Below w.heap.size w w' ∧
      RetDC k (pM (av K z x)) (pE (av K z x) (nearZ p - K)) e w' := by
  have hz := h.lt; obtain ⟨d, h1, h2, rfl⟩ := h; refine (jf0 w n 0 _ d x p h1 (by omega) hx0 hx1).mono ?_; rintro e w' ⟨hb, h⟩; have hcb := jav (ival n (val W d)) x
  rw [jjs K, show pE (cM (ival n (val W d)) x) (cE (ival n (val W d)) x + nearZ p) = pE (av K (ival n (val W d)) x) (nearZ p - K) from by
    rw [jt2, show nearZ p - (K : Int) = -K + nearZ p from by omega, jt2]; unfold av; rw [jpc K _ _ (by omega)]
    by_cases h0 : cM (ival n (val W d)) x = 0
    · rw [h0, if_pos rfl, if_pos (jff _ _)]
    · rw [if_neg h0, if_neg (fun hh => h0 (jfg.1 hh))]] at h
  refine ⟨hb, h.toDC ?_⟩; rw [← jjs K]; exact jst (Nat.lt_of_le_of_lt (ji0 _ x) hz)
theorem jsl (h : Q w k n A len cap z) (hk : k ≤ 9000) (hx0 : -9223372036854775808 ≤ x) (hx1 : x ≤ 9223372036854775807) (K : Nat) (hK : 4000 ≤ K) (p : Int) :
    Calls Tryz.prog 232 #[.agg #[.bool n, .slice A len cap, .int .i64 x], .int .i64 p] w fun e w' => Below w.heap.size w w' ∧ RetIC (k + 125) (vFloor K (av K z x) (nearZ p)) e w' := by
  have hz := h.lt; obtain ⟨d, h1, h2, rfl⟩ := h; refine (jdo w n 0 _ d x p h1 (by omega) hx0 hx1).mono ?_; rintro e w' ⟨hb, h⟩; have hcb := jav (ival n (val W d)) x; have hnb := ja9 p; have hlt := jmr (e := cE (ival n (val W d)) x + nearZ p) (Nat.lt_of_le_of_lt (ji0 _ x) hz) (by omega); rw [jmq K _ _ _ (by omega)] at h hlt; exact ⟨hb, h.toIC hlt⟩
theorem jvb (h : Q w k n A len cap z) (hk : k ≤ 9000) (hx0 : -9223372036854775808 ≤ x) (hx1 : x ≤ 9223372036854775807) (K : Nat) (hK : 4000 ≤ K) (p : Int) :
    Calls Tryz.prog 233 #[.agg #[.bool n, .slice A len cap, .int .i64 x], .int .i64 p] w fun e w' => Below w.heap.size w w' ∧ RetIC (k + 125) (vCeil K (av K z x) (nearZ p)) e w' := by
  have hz := h.lt; obtain ⟨d, h1, h2, rfl⟩ := h; refine (jdr w n 0 _ d x p h1 (by omega) hx0 hx1).mono ?_; rintro e w' ⟨hb, h⟩; have hcb := jav (ival n (val W d)) x; have hnb := ja9 p; have hlt := jmr (a := -cM (ival n (val W d)) x) (e := cE (ival n (val W d)) x + nearZ p) (k := k) (by rw [Int.natAbs_neg]; exact Nat.lt_of_le_of_lt (ji0 _ x) hz) (by omega); rw [← Int.natAbs_neg, ← jlj] at hlt; rw [jpi K _ _ _ (by omega)] at h hlt; exact ⟨hb, h.toIC hlt⟩
end
end
end
section
section
open Go.RowKit
open L (val dig nth)
theorem jsm {d d' : List Nat} {z z' : Int} (hd : Canon d z.natAbs) (hd' : Canon d' z'.natAbs) : ((d == d') && (decide (z < 0) == decide (z' < 0))) = decide (z = z') := by
  by_cases h : z = z'
  · subst h
    have : d = d' := by rw [show d = dig W z.natAbs from hd, show d' = dig W z.natAbs from hd']
    subst this; simp
  · rw [decide_eq_false h]
    by_cases hn : decide (z < 0) = decide (z' < 0)
    · have hne : d ≠ d' := by
        rintro rfl; have h1 : z.natAbs = z'.natAbs := hd.val.symm.trans hd'.val; rw [decide_eq_decide] at hn
        omega
      rw [beq_eq_false_iff_ne.2 hne]; rfl
    · rw [beq_eq_false_iff_ne.2 hn, Bool.and_false]
set_option maxRecDepth 100000 in
theorem jvc {w : World} {n m : Bool} {A A' : Option Addr} {len cap len' cap' : Nat} {d d' : List Nat} (r : Bool) (h1 : Nums w 0 (.slice A len cap) d) (h1' : Nums w 0 (.slice A' len' cap') d') (HE : Hid (((d == d') && (n == m)) = r)) :
    Calls Tryz.prog 15 #[.agg #[.bool n, .slice A len cap], .agg #[.bool m, .slice A' len' cap']] w fun e w' => Below w.heap.size w w' ∧ e = .returned (.bool r) := by
  obtain ⟨b, HB⟩ : ∃ b, Hid ((d == d') = b) := ⟨_, hide rfl⟩; rw [HB.out] at HE; obtain ⟨W0, hW, hbx, hby, hB0, hs⟩ := start2 w 24 24 #[.bool n, .slice A len cap] #[.bool m, .slice A' len' cap']; have g1 := h1.up hB0; have g2 := h1'.up hB0; clear hs; obtain ⟨c0, c1, -, -⟩ := hbx.two; obtain ⟨c2, c3, -, -⟩ := hby.two
  go_enter Tryz.func15, Tryz.ntmps15
  go_upto_region 1 with (fail)
  rw [← hW]; clear hW; have HP := jlz W0 0 0 _ _ d d' g1 g2; rw [HB.out] at HP
  go_wp2_with fail
  refine HP.mono ?_; rintro e w1 ⟨hb1, rfl⟩; clear HP; have hB1 := hb1.below W0.heap.size; have hbx1 := hbx.below hB1 hbx.lt; have hby1 := hby.below hB1 hby.lt; obtain ⟨e0, e1, -, -⟩ := hbx1.two; obtain ⟨e2, e3, -, -⟩ := hby1.two
  cases b with
  | false =>
    rw [Bool.false_and] at HE; have hr := HE.out; subst hr
    go_wp2_with fail
    go_ret
    exact ⟨hB0.trans (hB1.mono hB0.size), rfl⟩
  | true =>
    rw [Bool.true_and] at HE
    go_wp2_with fail
    go_ret
    exact ⟨hB0.trans (hB1.mono hB0.size), by rw [← HE.out]; rfl⟩
set_option maxRecDepth 100000 in
theorem jpv {w : World} {k k' : Nat} {n m : Bool} {A A' : Option Addr} {len cap len' cap' : Nat} {z z' : Int} (h : QC w k n A len cap z) (h' : QC w k' m A' len' cap' z') :
    Calls Tryz.prog 15 #[.agg #[.bool n, .slice A len cap], .agg #[.bool m, .slice A' len' cap']] w fun e w' => Below w.heap.size w w' ∧ e = .returned (.bool (decide (z = z'))) := by
  obtain ⟨d, h1, -, h3, hn⟩ := h; obtain ⟨d', h1', -, h3', hm⟩ := h'; have HE := hide (jsm h3 h3'); rw [← hn, ← hm] at HE; exact jvc _ h1 h1' HE
end
end
section
section
open Go.RowKit
open L (val dig nth)
def InV (K : Nat) (lo hi V : Int) : Prop := 0 ≤ lo + K ∧ 0 ≤ hi + K ∧ (∃ u : Int, V = sv K u lo) ∧ V.natAbs < 2 ^ (hi + K).toNat
section
variable {K J : Nat} {lo hi lo' hi' V V' : Int}
theorem InV.mono (h : InV K lo hi V) (h1 : lo' ≤ lo) (h2 : 0 ≤ lo' + K) (h3 : hi ≤ hi') : InV K lo' hi' V := by
  obtain ⟨a, b, ⟨u, hu⟩, c⟩ := h; refine ⟨h2, by omega, ⟨u * 2 ^ (lo - lo').toNat, ?_⟩, Nat.lt_of_lt_of_le c (Nat.pow_le_pow_right (by omega) (by omega))⟩; rw [jpe K u lo lo' h1 h2]; exact hu
theorem jj1 {a b : Nat} {e : Int} (he : 0 ≤ e) (ha : a < 2 ^ e.toNat) (hb : b < 2 ^ e.toNat) : a + b < 2 ^ (e + 1).toNat := by
  rw [show (e + 1).toNat = e.toNat + 1 from by omega, Nat.pow_succ]; omega
theorem InV.add (h : InV K lo hi V) (h' : InV K lo hi V') : InV K lo (hi + 1) (V + V') := by
  obtain ⟨a, b, ⟨u, hu⟩, c⟩ := h; obtain ⟨a', b', ⟨u', hu'⟩, c'⟩ := h'; refine ⟨a, by omega, ⟨u + u', by rw [jwv, ← hu, ← hu']⟩, Nat.lt_of_le_of_lt (Int.natAbs_add_le _ _) ?_⟩; rw [show hi + 1 + (K : Int) = hi + K + 1 from by omega]; exact jj1 b c c'
theorem InV.neg (h : InV K lo hi V) : InV K lo hi (-V) := by
  obtain ⟨a, b, ⟨u, hu⟩, c⟩ := h; exact ⟨a, b, ⟨-u, by rw [jpa, ← hu]⟩, by rw [Int.natAbs_neg]; exact c⟩
theorem InV.sub (h : InV K lo hi V) (h' : InV K lo hi V') : InV K lo (hi + 1) (V - V') := by
  rw [Int.sub_eq_add_neg]; exact h.add h'.neg
theorem InV.mul (h : InV K lo hi V) (h' : InV J lo' hi' V') : InV (K + J) (lo + lo') (hi + hi') (V * V') := by
  obtain ⟨a, b, ⟨u, hu⟩, c⟩ := h; obtain ⟨a', b', ⟨u', hu'⟩, c'⟩ := h'; refine ⟨by omega, by omega, ⟨u * u', by rw [jww K J _ _ _ _ a a', ← hu, ← hu']⟩, ?_⟩; rw [Int.natAbs_mul, show (hi + hi' + ((K + J : Nat) : Int)).toNat = (hi + K).toNat + (hi' + J).toNat from by omega, Nat.pow_add]; exact Nat.mul_lt_mul'' c c'
theorem InV.pE (h : InV K lo hi V) : V = 0 ∧ pE V (-K) = 0 ∨ lo ≤ pE V (-K) ∧ pE V (-K) ≤ hi := by
  by_cases h0 : V = 0
  · left; subst h0; exact ⟨rfl, jde _⟩
  · right
    obtain ⟨a, b, hu, c⟩ := h; exact pE_bounds' h0 hu a c b
theorem jvd (K : Nat) (V : Int) : sv K V (-K) = V := by
  unfold sv; rw [show (-(K : Int) + K).toNat = 0 from by omega, Int.pow_zero, Int.mul_one]
theorem InV.av (h : InV K lo hi V) (h1 : -4000 ≤ lo) (h2 : hi ≤ 4000) : Proofs.YtdglddpigeamaaaGreat.av K (pM V) (Proofs.YtdglddpigeamaaaGreat.pE V (-K)) = V := by
  have hb := h.pE; rw [jwy (by omega) (by omega), jsg K V _ (by omega), jvd]
theorem InV.bd (h : InV K lo hi V) (h1 : -4000 ≤ lo) (h2 : hi ≤ 4000) : -4000 ≤ Proofs.YtdglddpigeamaaaGreat.pE V (-K) ∧ Proofs.YtdglddpigeamaaaGreat.pE V (-K) ≤ 4000 := by
  have hb := h.pE
  omega
end
theorem InV.small {K : Nat} (hK : 4000 ≤ K) {z x : Int} {k : Nat} {m : Int} (hz : z.natAbs < W ^ k) (hx : -m ≤ x ∧ x ≤ m) (hm : m ≤ 4000) (hm0 : 0 ≤ m) : InV K (-m) (64 * k + m) (Proofs.YtdglddpigeamaaaGreat.av K z x) := by
  rw [jwy (by omega) (by omega)]; refine ⟨by omega, by omega, ⟨z * 2 ^ (x - -m).toNat, by rw [jpe K z x (-m) (by omega) (by omega)]⟩, ?_⟩; rw [jdq, show (64 * (k : Int) + m + K).toNat = 64 * k + (m + K).toNat from by omega, Nat.pow_add]; rw [jep] at hz; exact Nat.lt_of_lt_of_le (Nat.mul_lt_mul_of_pos_right hz (Nat.two_pow_pos _)) (Nat.mul_le_mul_left _ (Nat.pow_le_pow_right (by omega) (by omega)))
theorem jve (x : Int) (m : Nat) (hm : 0 < m) : -((m : Int) - 1) ≤ x.tmod m ∧ x.tmod m ≤ (m : Int) - 1 := by
  have h1 := Int.natAbs_tmod x m; rw [Int.natAbs_natCast] at h1; have h2 := Nat.mod_lt x.natAbs hm
  omega
theorem jew (a b : Int) : cmpZ a b = (a - b).sign := by
  unfold cmpZ
  rcases jbr (a - b) with ⟨h, h'⟩ | ⟨h, h'⟩ | ⟨h, h'⟩ <;> rw [h]
  · rw [if_pos (by omega)]
  · rw [if_neg (by omega), if_neg (by omega)]
  · rw [if_neg (by omega), if_pos (by omega)]
end
end
section
section
open Go.RowKit
open L (val dig nth)
theorem jea {z : Int} {k c t : Nat} (hz : z.natAbs < W ^ k) (hc : c ≤ 64 * t) : (z * 2 ^ c).natAbs < W ^ (k + t) := by
  have := jf2 (d := dig W (z * 2 ^ c).natAbs) (k := k) (n := c) (t := t) (z := z) rfl hz hc
  rwa [L.dig_len W_gt] at this
theorem jy8 {w : World} {k : Nat} {n : Bool} {A : Option Addr} {len cap : Nat} {z : Int} (h : Q w k n A len cap z) (hk : k ≤ 50000) (c : Nat) (hc : c ≤ 8000) :
    Calls Tryz.prog 27 #[.agg #[.bool n, .slice A len cap], .int .i64 (c : Nat)] w fun e w' => Below w.heap.size w w' ∧ RetZ w.heap.size (z * 2 ^ c) e w' := by
  obtain ⟨d, h1, h2, rfl⟩ := h; exact jlk w n 0 _ d c c _ h1 (by omega) (by omega) (by omega) rfl rfl
section
variable {w : World} {k k' : Nat} {n m : Bool} {A A' : Option Addr} {len cap len' cap' : Nat} {z z' x y V V' zz xx : Int}
theorem jy9 (K : Nat) (h : Q w k n A len cap z) (h' : Q w k' m A' len' cap' z') (hK : 4000 ≤ K) (hk : k ≤ 9000) (hk' : k' ≤ 9000) (hx : -100000 ≤ x ∧ x ≤ 100000) (hy : -100000 ≤ y ∧ y ≤ 100000)
    (hV : av K z x = V) (hV' : av K z' y = V') (hz : pM (V - V') = zz) (hxx : pE (V - V') (-K) = xx) :
    Calls Tryz.prog 239 #[.agg #[.bool n, .slice A len cap, .int .i64 x], .agg #[.bool m, .slice A' len' cap', .int .i64 y]] w fun e w' => Below w.heap.size w w' ∧ RetDC (k + k' + 126) zz xx e w' := by
  have := jxg (x := x) (y := y) h h' hk hk' (by omega) (by omega) (by omega) (by omega) K hK
  rwa [hV, hV', hz, hxx] at this
theorem jxi (K : Nat) (h : Q w k n A len cap z) (hK : 4000 ≤ K) (hk : k ≤ 9000) (hx : -100000 ≤ x ∧ x ≤ 100000) (hV : av K z x = V) (hz : pM V = zz) (hxx : pE V (-K) = xx) :
    Calls Tryz.prog 74 #[.agg #[.bool n, .slice A len cap, .int .i64 x]] w fun e w' => Below w.heap.size w w' ∧ RetDC k zz xx e w' := by
  have := jva (x := x) h (by omega) (by omega) (by omega)
  rwa [jwz K, jw0 hK, hV, hz, hxx] at this
theorem jza (K : Nat) (h : Q w k n A len cap z) (hK : 4000 ≤ K) (hk : k ≤ 9000) (hx : -100000 ≤ x ∧ x ≤ 100000) (hV : av K z x = V) (hz : pM (-V) = zz) (hxx : pE (-V) (-K) = xx) :
    Calls Tryz.prog 257 #[.agg #[.bool n, .slice A len cap, .int .i64 x]] w fun e w' => Below w.heap.size w w' ∧ RetDC k zz xx e w' := by
  have := jxh (x := x) h (by omega) (by omega) (by omega) K hK
  rwa [hV, hz, hxx] at this
theorem jvf (K : Nat) (p : Int) (h : Q w k n A len cap z) (hK : 4000 ≤ K) (hk : k ≤ 9000) (hx : -100000 ≤ x ∧ x ≤ 100000) (hV : av K z x = V) (hz : pM V = zz) (hxx : pE V (nearZ p - K) = xx) :
    Calls Tryz.prog 249 #[.agg #[.bool n, .slice A len cap, .int .i64 x], .int .i64 p] w fun e w' => Below w.heap.size w w' ∧ RetDC k zz xx e w' := by
  have := jsk (x := x) h (by omega) (by omega) (by omega) K hK p
  rwa [hV, hz, hxx] at this
theorem jvg (K : Nat) (p : Int) (h : Q w k n A len cap z) (hK : 4000 ≤ K) (hk : k ≤ 9000) (hx : -100000 ≤ x ∧ x ≤ 100000) (hV : av K z x = V) (hz : vFloor K V (nearZ p) = zz) :
    Calls Tryz.prog 232 #[.agg #[.bool n, .slice A len cap, .int .i64 x], .int .i64 p] w fun e w' => Below w.heap.size w w' ∧ RetIC (k + 125) zz e w' := by
  have := jsl (x := x) h (by omega) (by omega) (by omega) K hK p
  rwa [hV, hz] at this
theorem jxj (K : Nat) (p : Int) (h : Q w k n A len cap z) (hK : 4000 ≤ K) (hk : k ≤ 9000) (hx : -100000 ≤ x ∧ x ≤ 100000) (hV : av K z x = V) (hz : vCeil K V (nearZ p) = zz) :
    Calls Tryz.prog 233 #[.agg #[.bool n, .slice A len cap, .int .i64 x], .int .i64 p] w fun e w' => Below w.heap.size w w' ∧ RetIC (k + 125) zz e w' := by
  have := jvb (x := x) h (by omega) (by omega) (by omega) K hK p
  rwa [hV, hz] at this
theorem e_of (h : Q w k n A len cap z) (hk : k ≤ 9000) (hx : -100000 ≤ x ∧ x ≤ 100000) (hz : nM z x = zz) (hxx : nE z x = xx) :
    Calls Tryz.prog 31 #[.agg #[.bool n, .slice A len cap], .int .i64 x] w fun e w' => Below w.heap.size w w' ∧ RetDC k zz xx e w' := by
  have := jy7 (x := x) h (by omega) (by omega) (by omega)
  rwa [hz, hxx] at this
end
end
end
end Go.Proofs.YtdglddpigeamaaaGreat