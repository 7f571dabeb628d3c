/- The value of a dyad, counted in places of 2^-K: what Norm, Sign, Log, Cmp, Add .. say of it. Plain facts. bits: Near. Contracts of dyad in the values' words, for the laws. -/
import Derived.Test.YtcjklbakhlehhaaGreatDyadB
import Derived.Test.YtcjklbakhlehhaaGreatPats
set_option linter.unusedVariables false
namespace Go.Proofs.YtcjklbakhlehhaaGreat
section
section
open Go.RowKit
open L (val dig nth)
def sv (K : Nat) (z x : Int) : Int := z * 2 ^ (x + K).toNat
theorem jfn (K : Nat) (x : Int) : sv K 0 x = 0 := Int.zero_mul _
theorem jjp (k : Nat) : (2 : Int) ^ k ≠ 0 := by have := jbt k; omega
theorem jfo {K : Nat} {z x : Int} : sv K z x = 0 ↔ z = 0 := by
  unfold sv
  constructor
  · intro h
    rcases Int.mul_eq_zero.1 h with h | h
    · exact h
    · exact absurd h (jjp _)
  · rintro rfl; exact Int.zero_mul _
theorem jmo (K : Nat) (z x : Int) (n : Nat) (h : 0 ≤ x + K) : sv K (z * 2 ^ n) x = sv K z (x + n) := by
  unfold sv; rw [show (x + n + K).toNat = n + (x + K).toNat from by omega, Int.pow_add, Int.mul_assoc]
theorem jzf (K : Nat) (a b x : Int) : sv K (a + b) x = sv K a x + sv K b x := Int.add_mul _ _ _
theorem ju1 (K : Nat) (a b x : Int) : sv K (a - b) x = sv K a x - sv K b x := Int.sub_mul _ _ _
theorem jp7 (K : Nat) (a x : Int) : sv K (-a) x = -sv K a x := Int.neg_mul _ _
theorem jzg (K J : Nat) (a b x y : Int) (hx : 0 ≤ x + K) (hy : 0 ≤ y + J) : sv (K + J) (a * b) (x + y) = sv K a x * sv J b y := by
  unfold sv; rw [show (x + y + ((K + J : Nat) : Int)).toNat = (x + K).toNat + (y + J).toNat from by omega, Int.pow_add]; simp only [Int.mul_assoc, Int.mul_left_comm]
theorem natAbs_pow (k : Nat) : ((2 : Int) ^ k).natAbs = 2 ^ k := by rw [natpow, Int.natAbs_natCast]
theorem jdv (K : Nat) (z x : Int) : (sv K z x).natAbs = z.natAbs * 2 ^ (x + K).toNat := by
  unfold sv; rw [Int.natAbs_mul, natAbs_pow]
theorem jw0 (K : Nat) (z x : Int) : (sv K z x).sign = z.sign := by
  unfold sv; rw [Int.sign_mul, Int.sign_eq_one_of_pos (jbt _), Int.mul_one]
theorem jep (z : Int) : pM z * 2 ^ tz z.natAbs = z := by
  unfold pM
  by_cases h : z = 0
  · subst h; simp
  · refine Int.ediv_mul_cancel ?_
    have h1 := (jgt z.natAbs (by omega)).1; rw [← Int.natAbs_dvd_natAbs, natAbs_pow]; exact ⟨_, by rw [Nat.mul_comm]; exact h1.symm⟩
theorem jer : pM 0 = 0 := by unfold pM; simp
theorem jcm (x : Int) : pE 0 x = 0 := by unfold pE; simp
theorem jjq (z : Int) : (pM z).natAbs = z.natAbs / 2 ^ tz z.natAbs := by
  have h := congrArg Int.natAbs (jep z); rw [Int.natAbs_mul, natAbs_pow] at h; exact (Nat.div_eq_of_eq_mul_left (Nat.two_pow_pos _) h.symm).symm
theorem ju2 {z : Int} (h : z ≠ 0) : (pM z).natAbs % 2 = 1 := by
  rw [jjq]; exact (jgt z.natAbs (by omega)).2
theorem j1u {z : Int} (h : z ≠ 0) : pM z ≠ 0 := by have := ju2 h; intro h0; rw [h0] at this; simp at this
theorem jlg {z : Int} (h : z ≠ 0) (x : Int) : pE z x = x + tz z.natAbs := by unfold pE; rw [if_neg h]
def nf (z x : Int) : Prop := (z = 0 ∧ x = 0) ∨ z.natAbs % 2 = 1
theorem js8 (z x : Int) : nf (pM z) (pE z x) := by
  by_cases h : z = 0
  · subst h; exact .inl ⟨jer, jcm x⟩
  · exact .inr (ju2 h)
theorem js9 (K : Nat) (z x : Int) (h : 0 ≤ x + K) : sv K (pM z) (pE z x) = sv K z x := by
  by_cases hz : z = 0
  · subst hz; rw [jer, jfn, jfn]
  · rw [jlg hz, ← jmo K _ _ _ h, jep]
theorem jp8 (N n : Nat) (h : N ≠ 0) : tz (N * 2 ^ n) = tz N + n := by
  obtain ⟨h1, h2⟩ := jgt N h; have e : N * 2 ^ n = N / 2 ^ tz N * 2 ^ (tz N + n) := by rw [Nat.pow_add, ← Nat.mul_assoc, h1]
  rw [e, jqi h2]
theorem ju3 (z : Int) (n : Nat) : pM (z * 2 ^ n) = pM z := by
  by_cases h : z = 0
  · subst h; simp [pM]
  · have e := jep (z * 2 ^ n)
    rw [Int.natAbs_mul, natAbs_pow, jp8 _ _ (by omega), Int.pow_add, ← Int.mul_assoc] at e; have e2 := Int.eq_of_mul_eq_mul_right (jjp n) e; have e3 := jep z; exact Int.eq_of_mul_eq_mul_right (jjp (tz z.natAbs)) (e2.trans e3.symm)
theorem jta (K : Nat) (z x : Int) : pM (sv K z x) = pM z := ju3 z _
theorem jp9 (K : Nat) (z x : Int) (h : 0 ≤ x + K) : pE (sv K z x) (-K) = pE z x := by
  by_cases hz : z = 0
  · subst hz; rw [jfn, jcm, jcm]
  · rw [jlg (fun h0 => hz (jfo.1 h0)), jlg hz, jdv, jp8 _ _ (by omega)]
    omega
theorem jw1 {z x : Int} (h : nf z x) : pM z = z := by
  rcases h with ⟨rfl, rfl⟩ | h
  · exact jer
  · unfold pM; rw [jjt h]; simp
theorem jzh {z x : Int} (h : nf z x) : pE z x = x := by
  rcases h with ⟨rfl, rfl⟩ | h
  · exact jcm 0
  · rw [jlg (by intro h0; subst h0; simp at h), jjt h]; simp
def av (K : Nat) (z x : Int) : Int := sv K (cM z x) (cE z x)
theorem jw2 {K : Nat} {z x : Int} (h1 : -4000 ≤ x) (h2 : x ≤ 4000) : av K z x = sv K z x := by
  unfold av cM cE
  by_cases hz : z = 0
  · subst hz; simp [jfn]
  · rw [if_neg (by omega), if_neg (by omega)]
theorem jqa (K : Nat) (z x : Int) : nM z x = pM (av K z x) := (jta K _ _).symm
theorem joo {K : Nat} (hK : 4000 ≤ K) (z x : Int) : nE z x = pE (av K z x) (-K) := by
  have := jas z x; exact (jp9 K _ _ (by omega)).symm
theorem jgs (K : Nat) (z x : Int) : (cM z x).sign = (av K z x).sign := (jw0 K _ _).symm
theorem nbits_mul (N n : Nat) (h : N ≠ 0) : nbits (N * 2 ^ n) = nbits N + n := by
  have h1 := je9 N; have h2 := je8 h; have h3 := jbv h; refine jb5 ?_ (.inr ?_)
  · rw [Nat.pow_add]; exact Nat.mul_lt_mul_of_pos_right h1 (Nat.two_pow_pos _)
  · rw [show nbits N + n - 1 = (nbits N - 1) + n from by omega, Nat.pow_add]
    exact Nat.mul_le_mul_right _ h2
def lg (K : Nat) (V : Int) : Int := nbits V.natAbs - 1 - K
theorem jzi {K : Nat} {V : Int} (h : V ≠ 0) {n : Int} (hn : 0 ≤ n + K) : n ≤ lg K V ↔ 2 ^ (n + K).toNat ≤ V.natAbs := by
  unfold lg; have h1 := ja2 V.natAbs (n + K).toNat; have h2 := jbv (n := V.natAbs) (by omega)
  omega
theorem j1v {K : Nat} {V : Int} (h : V ≠ 0) {n : Int} (hn : 0 ≤ n + K) : lg K V < n ↔ V.natAbs < 2 ^ (n + K).toNat := by
  have := jzi h hn
  omega
theorem jqb (K : Nat) (z x low : Int) (h1 : low ≤ x) (h2 : 0 ≤ low + K) : sv K (z * 2 ^ (x - low).toNat) low = sv K z x := by
  rw [jmo K _ _ _ h2]; congr 1; omega
theorem jiv (K : Nat) (z x low : Int) (h1 : low ≤ cE z x) (h2 : 0 ≤ low + K) : sv K (lift z x low) low = av K z x := jqb K _ _ _ h1 h2
theorem jqc (K : Nat) (hK : 4000 ≤ K) (z x z' x' : Int) : pM (lift z x (lowE z x z' x') - lift z' x' (lowE z x z' x')) = pM (av K z x - av K z' x') := by
  have hb := jdj z x z' x'; rw [← jta K _ (lowE z x z' x'), ju1, jiv K z x _ (by unfold lowE; omega) (by omega), jiv K z' x' _ (by unfold lowE; omega) (by omega)]
theorem jw3 (K : Nat) (hK : 4000 ≤ K) (z x z' x' : Int) : pE (lift z x (lowE z x z' x') - lift z' x' (lowE z x z' x')) (lowE z x z' x') = pE (av K z x - av K z' x') (-K) := by
  have hb := jdj z x z' x'; rw [← jp9 K _ (lowE z x z' x') (by omega), ju1, jiv K z x _ (by unfold lowE; omega) (by omega), jiv K z' x' _ (by unfold lowE; omega) (by omega)]
theorem ju4 (V : Int) : pM (-V) = -pM V := by
  have h := jep (-V); rw [Int.natAbs_neg] at h; have h2 := jep V; refine Int.eq_of_mul_eq_mul_right (jjp (tz V.natAbs)) ?_; rw [h, Int.neg_mul, h2]
theorem ju5 (V x : Int) : pE (-V) x = pE V x := by
  unfold pE; rw [Int.natAbs_neg]; simp
theorem jqd (K : Nat) (z x : Int) : pM (-cM z x) = pM (-av K z x) := by rw [ju4, ju4]; unfold av; rw [jta]
theorem jw4 (K : Nat) (hK : 4000 ≤ K) (z x : Int) : pE (-cM z x) (cE z x) = pE (-av K z x) (-K) := by
  have := jas z x; rw [ju5, ju5]; unfold av; rw [jp9 K _ _ (by omega)]
theorem jjr (K : Nat) (z x : Int) : pM (cM z x) = pM (av K z x) := (jta K _ _).symm
theorem ju6 (V x n : Int) : pE V (x + n) = if V = 0 then 0 else pE V x + n := by unfold pE; split <;> omega
theorem pE_bounds' {K : Nat} {V : Int} {lo hi : Int} (h0 : V ≠ 0) (hlo : ∃ u : Int, V = sv K u lo) (hl : 0 ≤ lo + K) (hhi : V.natAbs < 2 ^ (hi + K).toNat) (hh : 0 ≤ hi + K) : lo ≤ pE V (-K) ∧ pE V (-K) ≤ hi := by
  obtain ⟨u, rfl⟩ := hlo; have hu : u ≠ 0 := fun h => h0 (jfo.2 h)
  rw [jp9 K u lo hl]; rw [jlg hu]; rw [jdv] at hhi; have ht := jgt u.natAbs (by omega)
  have h1 : 2 ^ (tz u.natAbs + (lo + K).toNat) ≤ u.natAbs * 2 ^ (lo + K).toNat := by
    rw [Nat.pow_add]; refine Nat.mul_le_mul_right _ ?_; have h3 := Nat.le_mul_of_pos_left (2 ^ tz u.natAbs) (Nat.pos_of_ne_zero (n := u.natAbs / 2 ^ tz u.natAbs) (fun h => by rw [h] at ht; have := ht.2; simp at this))
    rwa [ht.1] at h3
  have h2 := (Nat.pow_lt_pow_iff_right (a := 2) (by omega)).1 (Nat.lt_of_le_of_lt h1 hhi)
  omega
end
end
section
section
open Go.RowKit
open L (val dig nth)
def nrBad (z x : Int) : Prop := lgOk z x = false ∨ (cM z x).sign < 0 ∨ lgN z x < -1022 ∨ 1023 < lgN z x
instance (z x : Int) : Decidable (nrBad z x) := by unfold nrBad; infer_instance
def nrM (z x : Int) : Int := scF (cM z x) (cE z x + nearZ (52 - lgN z x))
def nrZ (z x : Int) : Int := nM (nrM z x) (lgN z x - 52)
def nrY (z x : Int) : Int := nE (nrM z x) (lgN z x - 52)
def nrB (z x : Int) : Nat := if nrBad z x then 0 else oB1 (nM (nrZ z x) (nrY z x)) (nE (nrZ z x) (nrY z x))
def nrX (z x : Int) : Int := if nrBad z x then 1 else oX1 (nM (nrZ z x) (nrY z x)) (nE (nrZ z x) (nrY z x))
theorem jw5 {d : List Nat} {m e : Int} {k : Nat} (hd : Canon d (scF m e).natAbs) (hm : m.natAbs < W ^ k) (he : e ≤ 8000) : d.length ≤ k + 125 := by
  unfold scF at hd
  split at hd
  · exact jf4 (t := 125) hd hm (by omega)
  · have := jiw hd hm; omega
end
end
section
section
open Go.RowKit
open L (val dig nth)
def Q (w : World) (k : Nat) (n : Bool) (A : Option Addr) (len cap : Nat) (z : Int) : Prop := ∃ d, Nums w 0 (.slice A len cap) d ∧ d.length ≤ k ∧ ival n (val W d) = z
section
variable {w w' : World} {k : Nat} {n : Bool} {A : Option Addr} {len cap : Nat} {z : Int}
theorem Q.below (h : Q w k n A len cap z) (hb : Below w.heap.size w w') : Q w' k n A len cap z := by
  obtain ⟨d, h1, h2, h3⟩ := h; exact ⟨d, h1.below hb, h2, h3⟩
theorem Q.drewN (h : Q w k n A len cap z) (m : Nat) : Q (w.drewN m) k n A len cap z := h
theorem Q.drew (h : Q w k n A len cap z) : Q w.drew k n A len cap z := h
theorem Q.lt (h : Q w k n A len cap z) : z.natAbs < W ^ k := by
  obtain ⟨d, h1, h2, rfl⟩ := h; exact Nat.lt_of_lt_of_le (jbi h1.lt) (Nat.pow_le_pow_right ja0 h2)
theorem Q.mono {k' : Nat} (h : Q w k n A len cap z) (hk : k ≤ k') : Q w k' n A len cap z := by
  obtain ⟨d, h1, h2, h3⟩ := h; exact ⟨d, h1, by omega, h3⟩
end
def RetD (k : Nat) (z x : Int) (e : Ending) (w : World) : Prop := ∃ n A len cap, e = .returned (.agg #[.bool n, .slice A len cap, .int .i64 x]) ∧ Q w k n A len cap z
def RetI (k : Nat) (z : Int) (e : Ending) (w : World) : Prop := ∃ n A len cap, e = .returned (.agg #[.bool n, .slice A len cap]) ∧ Q w k n A len cap z
theorem Q.of_canon {w : World} {B k : Nat} {u : Value} {d : List Nat} {z : Int} (hu : Nums w B u d) (hd : Canon d z.natAbs) (hz : z.natAbs < W ^ k) :
    ∃ A len cap, u = .slice A len cap ∧ Q w k (decide (z < 0)) A len cap z := by
  obtain ⟨A, cap, rfl⟩ := hu.form; exact ⟨A, d.length, cap, rfl, d, hu.mono (Nat.zero_le _), by rw [hd.len]; exact hz, by rw [hd.val, jaw]⟩
section
variable {w : World} {k k' : Nat} {n m : Bool} {A A' : Option Addr} {len cap len' cap' : Nat} {z z' x y : Int}
theorem jzj (h : Q w k n A len cap z) (hk : k ≤ 40000) (hx0 : -9223372036854775808 ≤ x) (hx1 : x ≤ 9223372036854775807) :
    Calls Tryz.prog 10 #[.agg #[.bool n, .slice A len cap, .int .i64 x]] w fun e w' => Below w.heap.size w w' ∧ e = .returned (.int .i64 (cM z x).sign) := by
  obtain ⟨d, h1, h2, rfl⟩ := h; exact jgu w n 0 _ d x h1 (by omega) hx0 hx1
theorem j1w (h : Q w k n A len cap z) (hk : k ≤ 40000) (hx0 : -9223372036854775808 ≤ x) (hx1 : x ≤ 9223372036854775807) :
    Calls Tryz.prog 72 #[.agg #[.bool n, .slice A len cap, .int .i64 x]] w fun e w' => Below w.heap.size w w' ∧ e = .returned (.tuple #[.int .i64 (lgN z x), .bool (lgOk z x)]) := by
  obtain ⟨d, h1, h2, rfl⟩ := h; exact jhr w n 0 _ d x h1 (by omega) hx0 hx1
theorem jqe {low : Int} (hz : z.natAbs < W ^ k) (hl : -4000 ≤ low) : (lift z x low).natAbs < W ^ (k + 125) := by
  have h := jiy (d := dig W (lift z x low).natAbs) (x := x) rfl hz hl
  rwa [L.dig_len W_gt] at h
def vFloor (K : Nat) (V p : Int) : Int := if 0 ≤ p then V * 2 ^ p.toNat / 2 ^ K else V / 2 ^ (K + (-p).toNat)
theorem jmp (K : Nat) (a b p : Int) (h : 0 ≤ b + K) : scF a (b + p) = vFloor K (sv K a b) p := by
  have hd : ∀ (t : Int) (i j : Nat), t * 2 ^ (i + j) / 2 ^ i = t * 2 ^ j := by
    intro t i j; rw [Int.pow_add, ← Int.mul_assoc, Int.mul_right_comm]; exact Int.mul_ediv_cancel _ (jjp i)
  have hq : ∀ (t : Int) (i j : Nat), t * 2 ^ i / 2 ^ (i + j) = t / 2 ^ j := by
    intro t i j; rw [Int.pow_add, Int.mul_comm t]; exact Int.mul_ediv_mul_of_pos _ _ (jbt i)
  unfold scF vFloor sv
  by_cases hp : 0 ≤ p
  · rw [if_pos hp, Int.mul_assoc, ← Int.pow_add]
    by_cases hs : 0 ≤ b + p
    · rw [if_pos hs, show (b + K).toNat + p.toNat = K + (b + p).toNat from by omega, hd]
    · rw [if_neg hs, show K = ((b + K).toNat + p.toNat) + (-(b + p)).toNat from by omega]
      rw [show ((b + ((b + K).toNat + p.toNat + (-(b + p)).toNat : Nat))).toNat + p.toNat = (b + K).toNat + p.toNat from by omega, hq]
  · rw [if_neg hp]
    by_cases hs : 0 ≤ b + p
    · rw [if_pos hs, show (b + K).toNat = (K + (-p).toNat) + (b + p).toNat from by omega, hd]
    · rw [if_neg hs, show K + (-p).toNat = (b + K).toNat + (-(b + p)).toNat from by omega, hq]
theorem jlh (a b : Int) : scC a b = -scF (-a) b := by
  unfold scC scF
  split
  · rw [Int.neg_mul, Int.neg_neg]
  · rfl
def vCeil (K : Nat) (V p : Int) : Int := -vFloor K (-V) p
theorem jqf (K : Nat) (a b p : Int) (h : 0 ≤ b + K) : scC a (b + p) = vCeil K (sv K a b) p := by
  rw [jlh, jmp K _ _ _ h, jp7]; rfl
theorem jmq {a e : Int} (ha : a.natAbs < W ^ k) (he : e ≤ 8000) : (scF a e).natAbs < W ^ (k + 125) := by
  have h := jw5 (d := dig W (scF a e).natAbs) rfl ha he
  rwa [L.dig_len W_gt] at h
end
def RetDX (k : Nat) (z x er : Int) (e : Ending) (w : World) : Prop := ∃ n A len cap, e = .returned (.tuple #[.agg #[.bool n, .slice A len cap, .int .i64 x], .int .i64 er]) ∧ Q w k n A len cap z
theorem j1x (b : Nat) : (rM b).natAbs < W ^ 1 := by
  have : pFrc b < 4503599627370496 := Nat.mod_lt _ (by omega); rw [Nat.pow_one]; unfold rM W; rw [jba]; split <;> omega
theorem j1y (b : Nat) : (vM b).natAbs < W ^ 1 := by
  unfold vM
  split
  · rw [Nat.pow_one]; unfold W; omega
  · exact jxr (j1x b)
end
end
end Go.Proofs.YtcjklbakhlehhaaGreat