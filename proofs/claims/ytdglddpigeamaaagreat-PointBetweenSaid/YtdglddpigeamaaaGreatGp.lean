/- V: how far a ball is from whole numbers (point.Gap, point.Scale, and the document's): contracts. -/
import Derived.Test.YtdglddpigeamaaaGreatVg
set_option linter.unusedVariables false
set_option linter.unusedSimpArgs false
namespace Go.Proofs.YtdglddpigeamaaaGreat
open Go.RowKit Go.Shelf
def nearI (t x : Int) : Int := if t - x % t < x % t then t - x % t else x % t
def gLeast (lo hi t : Int) : Int := if vUp lo t * t ≤ hi then 0 else if nearI t hi < nearI t lo then nearI t hi else nearI t lo
def gMost (lo hi t h : Int) : Int := if vUp (lo - h) t * t + h ≤ hi then h else if nearI t hi < nearI t lo then nearI t lo else nearI t hi
theorem jpx (t x q : Int) : (x - q * t) % t = x % t := by
  have h := Int.add_mul_emod_self_right x (-q) t; rw [Int.neg_mul, ← Int.sub_eq_add_neg] at h; exact h
theorem jmz {t : Int} (ht : 0 < t) (x : Int) : vUp x t * t = x - x % t + (if x % t = 0 then 0 else t) := by
  unfold vUp vDown; rw [if_neg (by omega)]; have h1 := Int.emod_add_mul_ediv (-x) t; have h2 := Int.emod_nonneg (-x) (Int.ne_of_gt ht); have h3 := Int.emod_lt_of_pos (-x) ht; have h4 := Int.emod_nonneg x (Int.ne_of_gt ht); have h5 := Int.emod_lt_of_pos x ht
  have h6 : (-x) % t = (if x % t = 0 then 0 else t - x % t) := by
    have h7 := Int.emod_add_mul_ediv x t
    split
    · rename_i h
      have : -x = -(x / t) * t := by rw [Int.neg_mul, Int.mul_comm]; omega
      rw [this, Int.mul_emod_left]
    · have h8 : -x = (t - x % t) + (-(x / t) - 1) * t := by
        rw [Int.sub_mul, Int.neg_mul, Int.mul_comm (x / t)]; omega
      rw [h8, Int.add_mul_emod_self_right]; exact Int.emod_eq_of_lt (by omega) (by omega)
  rw [Int.neg_mul, Int.mul_comm]
  split at h6 <;> rename_i hc
  · rw [if_pos hc]; omega
  · rw [if_neg hc]; omega
theorem jfm (t x q : Int) : nearI t (x - q * t) = nearI t x := by unfold nearI; rw [jpx]
theorem jso {lo hi t : Int} (ht : 0 < t) (hl : lo ≤ hi) :
    gLeast lo hi t = (if lo - lo / t * t = 0 ∨ t ≤ hi - lo / t * t then 0 else if nearI t (hi - lo / t * t) < nearI t (lo - lo / t * t) then nearI t (hi - lo / t * t) else nearI t (lo - lo / t * t)) := by
  rw [jfm, jfm]; unfold gLeast; rw [jmz ht]; have h1 := Int.emod_add_mul_ediv lo t; have h2 := Int.emod_nonneg lo (Int.ne_of_gt ht); have h3 := Int.emod_lt_of_pos lo ht; rw [Int.mul_comm (lo / t) t]
  generalize t * (lo / t) = m at *
  generalize lo % t = f at *
  have e : (lo - f + (if f = 0 then 0 else t) ≤ hi) ↔ (lo - m = 0 ∨ t ≤ hi - m) := by split <;> omega
  simp only [e]
theorem jm0 {t h x : Int} (hh : 0 < h) (ht : t = 2 * h) : (x - h) % t = if h ≤ x % t then x % t - h else x % t - h + t := by
  have h1 := Int.emod_add_mul_ediv x t; have h2 := Int.emod_nonneg x (show t ≠ 0 by omega); have h3 := Int.emod_lt_of_pos x (show 0 < t by omega); have h4 : x - h = (x % t - h) + (x / t) * t := by rw [Int.mul_comm (x / t)]; omega
  split
  · rw [h4, Int.add_mul_emod_self_right]
    exact Int.emod_eq_of_lt (by omega) (by omega)
  · have h5 : x - h = (x % t - h + t) + (x / t - 1) * t := by rw [Int.sub_mul, Int.mul_comm (x / t)]; omega
    rw [h5, Int.add_mul_emod_self_right]; exact Int.emod_eq_of_lt (by omega) (by omega)
theorem jvh {lo hi t h : Int} (hh : 0 < h) (ht : t = 2 * h) (hl : lo ≤ hi) :
    gMost lo hi t h = (if (if h < lo - lo / t * t then h + t else h) ≤ hi - lo / t * t then h else if nearI t (hi - lo / t * t) < nearI t (lo - lo / t * t) then nearI t (lo - lo / t * t) else nearI t (hi - lo / t * t)) := by
  rw [jfm, jfm]; unfold gMost; rw [jmz (by omega), jm0 hh ht]; have h1 := Int.emod_add_mul_ediv lo t; have h2 := Int.emod_nonneg lo (show t ≠ 0 by omega); have h3 := Int.emod_lt_of_pos lo (show 0 < t by omega); rw [Int.mul_comm (lo / t) t]
  generalize t * (lo / t) = m at *
  generalize lo % t = f at *
  congr 1
  apply propext
  split <;> split <;> split <;> omega
theorem jon {lo hi t h x : Int} (s0 : Bool) (ht : 0 < t) (hs : s0 = false → t = 2 * h) (h0 : s0 = true → t = 1) (h1 : lo ≤ x) (h2 : x ≤ hi) :
    ∀ r, r = (if t < 2 * (x % t) then t - x % t else x % t) → gLeast lo hi t ≤ r ∧
      r ≤ (if s0 then (if nearI t hi < nearI t lo then nearI t lo else nearI t hi) else gMost lo hi t h) ∧
      2 * (if s0 then (if nearI t hi < nearI t lo then nearI t lo else nearI t hi) else gMost lo hi t h) ≤ t ∧ 0 ≤ gLeast lo hi t := by
  intro r hr; have a1 := Int.emod_add_mul_ediv x t; have a2 := Int.emod_nonneg x (Int.ne_of_gt ht); have a3 := Int.emod_lt_of_pos x ht; have b1 := Int.emod_add_mul_ediv lo t; have b2 := Int.emod_nonneg lo (Int.ne_of_gt ht); have b3 := Int.emod_lt_of_pos lo ht; have c1 := Int.emod_add_mul_ediv hi t; have c2 := Int.emod_nonneg hi (Int.ne_of_gt ht); have c3 := Int.emod_lt_of_pos hi ht; have d1 : lo / t ≤ x / t := Int.ediv_le_ediv ht h1; have d2 : x / t ≤ hi / t := Int.ediv_le_ediv ht h2
  have dd : ∀ p q : Int, p ≤ q → t * p = t * q ∨ t * p + t ≤ t * q := fun p q h => by
    rcases Int.lt_or_eq_of_le h with h | h
    · right
      have := Int.mul_le_mul_of_nonneg_left (show p + 1 ≤ q by omega) (Int.le_of_lt ht); rw [Int.mul_add, Int.mul_one] at this; exact this
    · exact .inl (by rw [h])
  have e1 := dd _ _ d1; have e2 := dd _ _ d2
  have near : ∀ y, (nearI t y = y % t ∧ 2 * (y % t) ≤ t) ∨ (nearI t y = t - y % t ∧ t < 2 * (y % t)) := fun y => by
    unfold nearI; split <;> omega
  have n1 := near lo; have n2 := near hi
  have hr' : (r = x % t ∧ 2 * (x % t) ≤ t) ∨ (r = t - x % t ∧ t < 2 * (x % t)) := by
    rw [hr]; split <;> omega
  have low : gLeast lo hi t ≤ r ∧ 0 ≤ gLeast lo hi t := by
    unfold gLeast; rw [jmz ht]
    generalize nearI t lo = u at *
    generalize nearI t hi = v at *
    generalize t * (lo / t) = m1 at *
    generalize t * (x / t) = m2 at *
    generalize t * (hi / t) = m3 at *
    generalize lo % t = f1 at *
    generalize x % t = f2 at *
    generalize hi % t = f3 at *
    clear d1 d2 hs h0 near hr dd
    by_cases hf : f1 = 0
    · rw [if_pos hf, if_pos (by omega)]; omega
    · rw [if_neg hf]
      by_cases hc : lo - f1 + t ≤ hi
      · rw [if_pos hc]; omega
      · rw [if_neg hc]; split <;> omega
  refine ⟨low.1, ?_, ?_, low.2⟩
  · cases s0 with
    | true =>
      have h0 := h0 rfl; rw [if_pos rfl]
      split <;> omega
    | false =>
      have hs := hs rfl; rw [if_neg (by simp)]; unfold gMost; rw [jmz ht, jm0 (by omega) hs]
      generalize nearI t lo = u at *
      generalize nearI t hi = v at *
      generalize t * (lo / t) = m1 at *
      generalize t * (x / t) = m2 at *
      generalize t * (hi / t) = m3 at *
      generalize lo % t = f1 at *
      generalize x % t = f2 at *
      generalize hi % t = f3 at *
      clear d1 d2 h0 near hr dd; obtain ⟨g, hg⟩ : ∃ g, g = (if h ≤ f1 then f1 - h else f1 - h + t) := ⟨_, rfl⟩; obtain ⟨g', hg'⟩ : ∃ g', g' = (if g = 0 then 0 else t) := ⟨_, rfl⟩; rw [← hg, ← hg']; have k1 : (h ≤ f1 ∧ g = f1 - h) ∨ (f1 < h ∧ g = f1 - h + t) := by rw [hg]; split <;> omega
      have k2 : (g = 0 ∧ g' = 0) ∨ (g ≠ 0 ∧ g' = t) := by rw [hg']; split <;> omega
      clear hg hg'
      by_cases hc : lo - h - g + g' + h ≤ hi
      · rw [if_pos hc]; omega
      · rw [if_neg hc]
        have k3 : (f1 < h ∧ hi < lo - f1 + h) ∨ (h < f1 ∧ hi < lo - f1 + h + t) := by omega
        clear k1 k2 hc
        split <;> omega
  · cases s0 with
    | true =>
      have h0 := h0 rfl; rw [if_pos rfl]
      split <;> omega
    | false =>
      have hs := hs rfl; rw [if_neg (by simp)]; unfold gMost
      split
      · omega
      · split <;> omega
def gIn (lo hi q s : Int) : Prop := 0 ≤ q ∧ q ≤ 2048 ∧ lo ≤ hi ∧ 0 ≤ s ∧ s ≤ 2048
instance (lo hi q s : Int) : Decidable (gIn lo hi q s) := by unfold gIn; infer_instance
def gLs (lo hi q s : Int) : Int := if gIn lo hi q s then gLeast lo hi (2 ^ s.toNat) else 0
def gMx (lo hi t : Int) : Int := if nearI t hi < nearI t lo then nearI t lo else nearI t hi
def gMs (lo hi q s : Int) : Int := if gIn lo hi q s then (if s = 0 then gMx lo hi (2 ^ s.toNat) else gMost lo hi (2 ^ s.toNat) (2 ^ (s - 1).toNat)) else 0
def gEr (lo hi q s : Int) : Int := if gIn lo hi q s then 0 else 1
def gOk (lo hi q : Int) : Prop := (0 ≤ q ∧ q ≤ 2048 ∧ lo ≤ hi) ∧ ¬(lo ≤ 0 ∧ 0 ≤ hi)
instance (lo hi q : Int) : Decidable (gOk lo hi q) := by unfold gOk; infer_instance
def gSc (lo hi q : Int) : Int := if gOk lo hi q then (nbits (if hi < 0 then 0 - hi else lo).natAbs : Nat) - 1 - q else 0
def hE (h : Nat → List Int → Int) : Nat → List Int → Int
  | 0, [a, b, q, s] => gLs a b q s
  | 1, [a, b, q, s] => gMs a b q s
  | 2, [a, b, q, s] => gEr a b q s
  | 3, [a, b, q] => gSc a b q
  | 4, [a, b, q] => V.b2i (decide (gOk a b q))
  | n, l => if n < 8 then 0 else h (n - 8) l
theorem jh1 (a b : Int) : (0 < cmpZ a b) ↔ b < a := by unfold cmpZ; split <;> (try split) <;> omega
theorem jt9 (a b : Int) : (cmpZ a b < 0) ↔ a < b := by unfold cmpZ; split <;> (try split) <;> omega
theorem jh2 (a b : Int) : (cmpZ a b ≤ 0) ↔ a ≤ b := by unfold cmpZ; split <;> (try split) <;> omega
theorem jxk (a b : Int) : (0 ≤ cmpZ a b) ↔ b ≤ a := by unfold cmpZ; split <;> (try split) <;> omega
theorem jlp (n : Nat) : (0 : Int) < 2 ^ n := by
  have := Nat.two_pow_pos n; have h : ((2 ^ n : Nat) : Int) = 2 ^ n := by push_cast; rfl
  omega
theorem jm1 {s : Int} (h0 : 0 ≤ s) (h1 : s ≠ 0) : (2 : Int) ^ s.toNat = 2 * 2 ^ (s - 1).toNat := by
  rw [show s.toNat = (s - 1).toNat + 1 by omega, Int.pow_succ, Int.mul_comm]
def pNear (t x : Int) : Int := if cmpZ (1 * t - (x - x / t * t)) (x - x / t * t) < 0 then 1 * t - (x - x / t * t) else x - x / t * t
theorem jvi (t x : Int) : x - x / t * t = x % t := by
  have := Int.emod_add_mul_ediv x t; rw [Int.mul_comm (x / t)]
  omega
theorem jf5 (t x : Int) : pNear t x = nearI t x := by
  unfold pNear nearI; simp only [jt9, jvi, Int.one_mul]
def rNear (t x : Int) : Int := if cmpZ (1 * t - x % (1 * t)) (x % (1 * t)) < 0 then 1 * t - x % (1 * t) else x % (1 * t)
theorem jf6 (t x : Int) : rNear t x = nearI t x := by
  unfold rNear nearI; simp only [jt9, Int.one_mul]
namespace V
def eqX (F : Nat → List Int → Int) (ρ : Nat → Int) : X → X → Prop
  | .i k t, .i k' t' => k = k' ∧ t.den F ρ = t'.den F ρ
  | .b t, .b t' => t.bd F ρ = t'.bd F ρ
  | .z k c t, .z k' c' t' => k ≤ k' ∧ c = c' ∧ t.den F ρ = t'.den F ρ
  | x, y => x = y
def eqL (F : Nat → List Int → Int) (ρ : Nat → Int) : List X → List X → Prop
  | [], [] => True
  | x :: xs, y :: ys => eqX F ρ x y ∧ eqL F ρ xs ys
  | _, _ => False
def eqV (F : Nat → List Int → Int) (ρ : Nat → Int) : V1 → V1 → Prop
  | .sc x, .sc y => eqX F ρ x y
  | .ag xs, .ag ys => eqL F ρ xs ys
  | x, y => x = y
def eqVs (F : Nat → List Int → Int) (ρ : Nat → Int) : List V1 → List V1 → Prop
  | [], [] => True
  | x :: xs, y :: ys => eqV F ρ x y ∧ eqVs F ρ xs ys
  | _, _ => False
def eqA (F : Nat → List Int → Int) (ρ : Nat → Int) : A → A → Prop
  | .one x, .one y => eqV F ρ x y
  | .tup xs, .tup ys => eqVs F ρ xs ys
  | x, y => x = y
section
variable {F : Nat → List Int → Int} {ρ : Nat → Int} {β : Nat → Nat} {w : World}
theorem jua {x y : X} {cs : List Value} (h : eqX F ρ x y) (k : x.has F ρ β w cs) : y.has F ρ β w cs := by
  cases x <;> cases y <;> simp only [eqX] at h <;> try (cases h; done)
  · show cs = _; rw [← h.2, ← h.1]; exact k
  · show cs = _; rw [← h]; exact k
  · obtain ⟨n, A, l, cc, h1, h2, h3⟩ := k
    refine ⟨n, A, l, cc, h1, ?_, fun hc => ?_⟩
    · rw [← h.2.2]; exact h2.up h.1
    · rw [← h.2.2]; exact (h3 (h.2.1.trans hc)).up h.1
  · cases h; exact k
  · exact k
  · cases h; exact k
theorem jub : ∀ {x y : List X} {cs : List Value}, eqL F ρ x y → hasL F ρ β w x cs → hasL F ρ β w y cs
  | [], [], _, _, k => k
  | [], _ :: _, _, h, _ => h.elim
  | _ :: _, [], _, h, _ => h.elim
  | _ :: _, _ :: _, _, h, ⟨c, d, h1, h2, h3⟩ => ⟨c, d, h1, jua h.1 h2, jub h.2 h3⟩
theorem juc {x y : V1} {v : Value} (h : eqV F ρ x y) (k : x.has F ρ β w v) : y.has F ρ β w v := by
  cases x <;> cases y <;> simp only [eqV] at h <;> try (cases h; done)
  · exact jua h k
  · obtain ⟨cs, h1, h2⟩ := k; exact ⟨cs, h1, jub h h2⟩
  · cases h; exact k
theorem jpy : ∀ {x y : List V1} {cs : List Value}, eqVs F ρ x y → hasV F ρ β w x cs → hasV F ρ β w y cs
  | [], [], _, _, k => k
  | [], _ :: _, _, h, _ => h.elim
  | _ :: _, [], _, h, _ => h.elim
  | _ :: _, _ :: _, _, h, ⟨c, d, h1, h2, h3⟩ => ⟨c, d, h1, juc h.1 h2, jpy h.2 h3⟩
theorem jxl {x y : A} {v : Value} (h : eqA F ρ x y) (k : x.has F ρ β w v) : y.has F ρ β w v := by
  cases x <;> cases y <;> simp only [eqA] at h <;> try (cases h; done)
  · exact juc h k
  · obtain ⟨cs, h1, h2⟩ := k; exact ⟨cs, h1, jpy h h2⟩
  · exact k
end
def in12 : Option (List T × A × List T) → Option (List T × A)
  | some (p, x, _) => some (p, x)
  | none => none
theorem jvj {o : Option (List T × A × List T)} {p : List T} {x : A} (h : in12 o = some (p, x)) : ∃ q, o = some (p, x, q) := by
  cases o with
  | none => cases h
  | some r => obtain ⟨a, b, c⟩ := r; cases h; exact ⟨c, rfl⟩
theorem jsp {P : Program} {F : Nat → List Int → Int} (hm : P.follows .mixedOrders = true) (tab : List (Ctr P F)) (f : FuncId) (he : Enters P f) : (Ctr.inl hm tab f he).inst = inlX tab f ∧ (Ctr.inl hm tab f he).f = f := ⟨rfl, rfl⟩
theorem jsq {P : Program} {F : Nat → List Int → Int} (c : Ctr P F) {sp : Spec} (e : c.f = sp.f) {res : A} {ps : List T} (hx : c.inst sp.fs sp.st.bx sp.ps = some ([], res, ps)) (hp : sp.post = [])
    (hr : ∀ ρ, allT F ρ sp.fs → eqA F ρ res sp.res) : SpecOK P F sp := by
  intro ρ β w vs ha hb hf; obtain ⟨-, h⟩ := c.ok hf hb ha hx trivial; rw [e] at h; exact ⟨by rw [hp]; trivial, h.mono fun e w' ⟨k1, u, k2, k3⟩ => ⟨k1, u, k2, jxl (hr ρ hf) k3⟩⟩
theorem jez {P : Program} {F : Nat → List Int → Int} {tab : List (Ctr P F)} {sp : Spec} (hm : P.follows .mixedOrders = true) (he : Enters P sp.f) {res : A} (hx : in12 (inlX tab sp.f sp.fs sp.st.bx sp.ps) = some ([], res)) (hp : sp.post = [])
    (hr : ∀ ρ, allT F ρ sp.fs → eqA F ρ res sp.res) : SpecOK P F sp := by
  obtain ⟨ps, hx'⟩ := jvj (o := inlX tab sp.f sp.fs sp.st.bx sp.ps) hx; have hi := jsp hm tab sp.f he; exact fun {ρ β w vs} ha hb hf => jsq (Ctr.inl hm tab sp.f he) hi.2 (by rw [hi.1]; exact hx') hp hr ha hb hf
section
variable (h : Nat → List Int → Int)
noncomputable def gp1 : List (Ctr Tryz.prog (FD h)) :=
  inl (dy1 h) 42 (by kernel_rfl) :: -- opt
  inl (dy1 h) 54 (by kernel_rfl) :: -- opt
  inl (dy1 h) 46 (by kernel_rfl) :: -- opt
  inl (dy1 h) 57 (by kernel_rfl) :: -- opt
  inl (dy1 h) 43 (by kernel_rfl) :: -- opt
  dy1 h
end
def gB : A := .one (.ag [.z 8 false (.v 0), .z 8 false (.v 1), .i .i64 (.v 2)])
def gF1 : List T := [.le (.n (-9223372036854775808)) (.v 2), .le (.v 2) (.n 9223372036854775807)]
def gF : List T := gF1 ++ [.le (.n (-9223372036854775808)) (.v 3), .le (.v 3) (.n 9223372036854775807)]
def zC (k : Nat) (t : T) : V1 := .ag [.z k true t]
def gapS (f : FuncId) : Spec := dsp f [gB, i64 (.v 3)] 4 gF (.tup [zC 77 (ap4 80 (.v 0) (.v 1) (.v 2) (.v 3)), zC 77 (ap4 81 (.v 0) (.v 1) (.v 2) (.v 3)), .sc (.i .i64 (ap4 82 (.v 0) (.v 1) (.v 2) (.v 3)))])
def scaS (f : FuncId) : Spec := dsp f [gB] 3 gF1 (.tup [.sc (.i .i64 (ap3 83 (.v 0) (.v 1) (.v 2))), .sc (.b (ap3 84 (.v 0) (.v 1) (.v 2)))])
def tW : T := ap1 0 (.v 3)
def tU : T := .mul (.n 1) tW
def tLow : T := .mul (ap2 1 (.v 0) tW) tW
def tFr : T := .sub (.v 0) tLow
def tTo : T := .sub (.v 1) tLow
def tRs (x : T) : T := .sub x (.mul (ap2 1 x tW) tW)
def tNr (r : T) : T := .ite (.lt (ap2 5 (.sub tU r) r) (.n 0)) (.sub tU r) r
def tH : T := .mul (.n 1) (ap1 0 (.sub (.v 3) (.n 1)))
def tOk : T := .and (.and (.le (.n 0) (.v 2)) (.le (.v 2) (.n 2048))) (.le (ap2 5 (.v 0) (.v 1)) (.n 0))
def tOk' : T := .and (.le (ap2 5 (.v 0) (.v 1)) (.n 0)) (.and (.le (.n 0) (.v 2)) (.le (.v 2) (.n 2048)))
def tG (ok z x : T) : T := .ite (.not ok) z (.ite (.lt (.v 3) (.n 0)) z (.ite (.lt (.n 2048) (.v 3)) z x))
def tL1 (y : T) : T := .ite (.eq (ap1 4 tFr) (.n 0)) (.n 0) (.ite (.le (.n 0) (ap2 5 tTo tU)) (.n 0) y)
def tM1 (y : T) : T := .ite (.lt (.n 0) (.v 3)) (.ite (.lt (.n 0) (ap2 5 tFr tH)) (.ite (.le (ap2 5 (.add tH tU) tTo) (.n 0)) tH y) (.ite (.le (ap2 5 tH tTo) (.n 0)) tH y)) y
def tN0 : T := tNr (tRs tFr)
def tN1 : T := tNr (tRs tTo)
def tSw (a b : T) : T := .ite (.lt (.n 0) (ap2 5 tN0 tN1)) a b
def gapR : A := .tup [zC 77 (tG tOk (.n 0) (tSw (tL1 tN1) (tL1 tN0))), zC 77 (tG tOk (.n 0) (tSw (tM1 tN0) (tM1 tN1))), .sc (.i .i64 (tG tOk (.n 1) (.n 0)))]
theorem gapX (h : Nat → List Int → Int) : in12 (inlX (gp1 h) (gapS 13).f (gapS 13).fs (gapS 13).st.bx (gapS 13).ps) = some ([], gapR) := by kernel_rfl
def uRs (x : T) : T := ap2 2 x tU
def uN0 : T := tNr (uRs (.v 0))
def uN1 : T := tNr (uRs (.v 1))
def uSw (a b : T) : T := .ite (.lt (.n 0) (ap2 5 uN0 uN1)) a b
def uL1 (y : T) : T := .ite (.le (ap2 5 (.mul (ap2 3 (.v 0) tU) tU) (.v 1)) (.n 0)) (.n 0) y
def uM1 (y : T) : T := .ite (.eq (.v 3) (.n 0)) y (.ite (.le (ap2 5 (.add (.mul (ap2 3 (.sub (.v 0) tH) tU) tU) tH) (.v 1)) (.n 0)) tH y)
def refR : A := .tup [zC 35 (tG tOk' (.n 0) (uSw (uL1 uN1) (uL1 uN0))), zC 35 (tG tOk' (.n 0) (uSw (uM1 uN0) (uM1 uN1))), .sc (.i .i64 (tG tOk' (.n 1) (.n 0)))]
theorem refX (h : Nat → List Int → Int) : in12 (inlX (gp1 h) (gapS 14).f (gapS 14).fs (gapS 14).st.bx (gapS 14).ps) = some ([], refR) := by kernel_rfl
def s0 : T := ap1 4 (.v 0)
def s1 : T := ap1 4 (.v 1)
def pSc (c : T) : T := .sub (.sub (ap1 6 (.ite c (.sub (.n 0) (.v 1)) (.v 0))) (.n 1)) (.v 2)
def scaR : A := .tup [.sc (.i .i64 (.ite (.not tOk) (.n 0) (.ite (.le (.mul s0 s1) (.n 0)) (.n 0) (pSc (.lt s0 (.n 0)))))), .sc (.b (.and (.not (.not tOk)) (.and (.not (.le (.mul s0 s1) (.n 0))) (.n 1))))]
theorem scaX (h : Nat → List Int → Int) : in12 (inlX (gp1 h) (scaS 16).f (scaS 16).fs (scaS 16).st.bx (scaS 16).ps) = some ([], scaR) := by kernel_rfl
def rscR : A := .tup [.sc (.i .i64 (.ite (.not tOk') (.n 0) (.ite (.le s0 (.n 0)) (.ite (.le (.n 0) s1) (.n 0) (.sub (.sub (ap1 6 (.sub (.n 0) (.v 1))) (.n 1)) (.v 2))) (pSc (.lt s1 (.n 0)))))),
  .sc (.b (.and (.not (.not tOk')) (.or (.not (.le s0 (.n 0))) (.and (.not (.le (.n 0) s1)) (.n 1)))))]
theorem rscX (h : Nat → List Int → Int) : in12 (inlX (gp1 h) (scaS 17).f (scaS 17).fs (scaS 17).st.bx (scaS 17).ps) = some ([], rscR) := by kernel_rfl
section
variable {g : Nat → List Int → Int}
variable {ρ : Nat → Int}
theorem jj3 : tOk.bd (stdF g) ρ = decide ((0 ≤ ρ 2 ∧ ρ 2 ≤ 2048) ∧ ρ 0 ≤ ρ 1) := by
  unfold tOk; rw [jbd, jbd, bd_le, bd_le, bd_le]
  show (decide (0 ≤ ρ 2) && decide (ρ 2 ≤ 2048) && decide (cmpZ (ρ 0) (ρ 1) ≤ 0)) = _
  simp only [jh2, Bool.decide_and]
theorem tOk'_bd : tOk'.bd (stdF g) ρ = decide ((0 ≤ ρ 2 ∧ ρ 2 ≤ 2048) ∧ ρ 0 ≤ ρ 1) := by
  unfold tOk'; rw [jbd, jbd, bd_le, bd_le, bd_le]
  show (decide (cmpZ (ρ 0) (ρ 1) ≤ 0) && (decide (0 ≤ ρ 2) && decide (ρ 2 ≤ 2048))) = _
  rw [Bool.and_comm]; simp only [jh2, Bool.decide_and]
theorem jh3 {ok z x : T} (hok : ok.bd (stdF g) ρ = decide ((0 ≤ ρ 2 ∧ ρ 2 ≤ 2048) ∧ ρ 0 ≤ ρ 1)) {y : Int} (hy : gIn (ρ 0) (ρ 1) (ρ 2) (ρ 3) → x.den (stdF g) ρ = y) :
    (tG ok z x).den (stdF g) ρ = if gIn (ρ 0) (ρ 1) (ρ 2) (ρ 3) then y else z.den (stdF g) ρ := by
  unfold tG; rw [ja0, ja0, ja0, jap, hok, bd_lt, bd_lt]
  show (if (!decide ((0 ≤ ρ 2 ∧ ρ 2 ≤ 2048) ∧ ρ 0 ≤ ρ 1)) = true then _ else if decide (ρ 3 < 0) = true then _ else if decide (2048 < ρ 3) = true then _ else _) = _
  by_cases hi : gIn (ρ 0) (ρ 1) (ρ 2) (ρ 3)
  · obtain ⟨h1, h2, h3, h4, h5⟩ := hi
    rw [if_pos (show gIn (ρ 0) (ρ 1) (ρ 2) (ρ 3) from ⟨h1, h2, h3, h4, h5⟩), decide_eq_true (show (0 ≤ ρ 2 ∧ ρ 2 ≤ 2048) ∧ ρ 0 ≤ ρ 1 from ⟨⟨h1, h2⟩, h3⟩), decide_eq_false (show ¬(ρ 3 < 0) by omega), decide_eq_false (show ¬(2048 < ρ 3) by omega)]; exact hy ⟨h1, h2, h3, h4, h5⟩
  · rw [if_neg hi]
    by_cases h1 : (0 ≤ ρ 2 ∧ ρ 2 ≤ 2048) ∧ ρ 0 ≤ ρ 1
    · rw [decide_eq_true h1]
      by_cases h2 : ρ 3 < 0
      · rw [decide_eq_true h2]; rfl
      · rw [decide_eq_false h2, decide_eq_true (by rcases h1 with ⟨⟨a, b⟩, c⟩; unfold gIn at hi; omega)]; rfl
    · rw [decide_eq_false h1]; rfl
theorem jpz : tN0.den (stdF g) ρ = pNear (2 ^ (ρ 3).toNat) (ρ 0 - ρ 0 / 2 ^ (ρ 3).toNat * 2 ^ (ρ 3).toNat) := by
  unfold tN0 tNr; rw [ja0, bd_lt]; unfold pNear; simp only [decide_eq_true_eq]
  rfl
theorem jp0 : tN1.den (stdF g) ρ = pNear (2 ^ (ρ 3).toNat) (ρ 1 - ρ 0 / 2 ^ (ρ 3).toNat * 2 ^ (ρ 3).toNat) := by
  unfold tN1 tNr; rw [ja0, bd_lt]; unfold pNear; simp only [decide_eq_true_eq]
  rfl
theorem jp1 : uN0.den (stdF g) ρ = rNear (2 ^ (ρ 3).toNat) (ρ 0) := by
  unfold uN0 tNr; rw [ja0, bd_lt]; unfold rNear; simp only [decide_eq_true_eq]
  rfl
theorem jp2 : uN1.den (stdF g) ρ = rNear (2 ^ (ρ 3).toNat) (ρ 1) := by
  unfold uN1 tNr; rw [ja0, bd_lt]; unfold rNear; simp only [decide_eq_true_eq]
  rfl
theorem jxm (hi : gIn (ρ 0) (ρ 1) (ρ 2) (ρ 3)) : (tSw (tL1 tN1) (tL1 tN0)).den (stdF g) ρ = gLeast (ρ 0) (ρ 1) (2 ^ (ρ 3).toNat) := by
  obtain ⟨h1, h2, h3, h4, h5⟩ := hi; have ht := jlp (ρ 3).toNat; rw [jso ht h3]; unfold tSw tL1; simp only [ja0, bd_lt, jcs, bd_le]
  show (if decide (0 < cmpZ (tN0.den (stdF g) ρ) (tN1.den (stdF g) ρ)) = true then (if (Int.sign (ρ 0 - ρ 0 / 2 ^ (ρ 3).toNat * 2 ^ (ρ 3).toNat) == 0) = true then (0 : Int) else if decide (0 ≤ cmpZ (ρ 1 - ρ 0 / 2 ^ (ρ 3).toNat * 2 ^ (ρ 3).toNat) (1 * 2 ^ (ρ 3).toNat)) = true then 0 else _)
    else (if (Int.sign (ρ 0 - ρ 0 / 2 ^ (ρ 3).toNat * 2 ^ (ρ 3).toNat) == 0) = true then (0 : Int) else if decide (0 ≤ cmpZ (ρ 1 - ρ 0 / 2 ^ (ρ 3).toNat * 2 ^ (ρ 3).toNat) (1 * 2 ^ (ρ 3).toNat)) = true then 0 else _)) = _
  rw [jpz, jp0, jf5, jf5]; simp only [decide_eq_true_eq, jh1, jxk, Int.one_mul, beq_iff_eq, Int.sign_eq_zero_iff_zero]
  generalize nearI (2 ^ (ρ 3).toNat) (ρ 0 - ρ 0 / 2 ^ (ρ 3).toNat * 2 ^ (ρ 3).toNat) = u
  generalize nearI (2 ^ (ρ 3).toNat) (ρ 1 - ρ 0 / 2 ^ (ρ 3).toNat * 2 ^ (ρ 3).toNat) = v
  by_cases a1 : ρ 0 - ρ 0 / 2 ^ (ρ 3).toNat * 2 ^ (ρ 3).toNat = 0
  · simp only [a1, if_true, true_or, ite_self]
  · by_cases a2 : (2 : Int) ^ (ρ 3).toNat ≤ ρ 1 - ρ 0 / 2 ^ (ρ 3).toNat * 2 ^ (ρ 3).toNat
    · simp only [a1, a2, if_true, if_false, or_true, ite_self]
    · simp only [a1, a2, if_false, or_false]
theorem jxn (hi : gIn (ρ 0) (ρ 1) (ρ 2) (ρ 3)) : (uSw (uL1 uN1) (uL1 uN0)).den (stdF g) ρ = gLeast (ρ 0) (ρ 1) (2 ^ (ρ 3).toNat) := by
  unfold uSw uL1; simp only [ja0, bd_lt, bd_le]
  show (if decide (0 < cmpZ (uN0.den (stdF g) ρ) (uN1.den (stdF g) ρ)) = true then (if decide (cmpZ (vUp (ρ 0) (1 * 2 ^ (ρ 3).toNat) * (1 * 2 ^ (ρ 3).toNat)) (ρ 1) ≤ 0) = true then (0 : Int) else _)
    else (if decide (cmpZ (vUp (ρ 0) (1 * 2 ^ (ρ 3).toNat) * (1 * 2 ^ (ρ 3).toNat)) (ρ 1) ≤ 0) = true then (0 : Int) else _)) = _
  rw [jp1, jp2, jf6, jf6]; simp only [decide_eq_true_eq, jh1, jh2, Int.one_mul]; unfold gLeast
  by_cases a1 : vUp (ρ 0) (2 ^ (ρ 3).toNat) * 2 ^ (ρ 3).toNat ≤ ρ 1
  · simp only [a1, if_true, ite_self]
  · simp only [a1, if_false]
def gMo (lo hi s : Int) : Int := if s = 0 then gMx lo hi (2 ^ s.toNat) else gMost lo hi (2 ^ s.toNat) (2 ^ (s - 1).toNat)
theorem jxo (hi : gIn (ρ 0) (ρ 1) (ρ 2) (ρ 3)) : (tSw (tM1 tN0) (tM1 tN1)).den (stdF g) ρ = gMo (ρ 0) (ρ 1) (ρ 3) := by
  obtain ⟨h1, h2, h3, h4, h5⟩ := hi; unfold tSw tM1; simp only [ja0, bd_lt, bd_le]
  show (if decide (0 < cmpZ (tN0.den (stdF g) ρ) (tN1.den (stdF g) ρ)) = true then
      (if decide (0 < ρ 3) = true then (if decide (0 < cmpZ (ρ 0 - ρ 0 / 2 ^ (ρ 3).toNat * 2 ^ (ρ 3).toNat) (1 * 2 ^ (ρ 3 - 1).toNat)) = true then (if decide (cmpZ (1 * 2 ^ (ρ 3 - 1).toNat + 1 * 2 ^ (ρ 3).toNat) (ρ 1 - ρ 0 / 2 ^ (ρ 3).toNat * 2 ^ (ρ 3).toNat) ≤ 0) = true then 1 * 2 ^ (ρ 3 - 1).toNat else _) else (if decide (cmpZ (1 * 2 ^ (ρ 3 - 1).toNat) (ρ 1 - ρ 0 / 2 ^ (ρ 3).toNat * 2 ^ (ρ 3).toNat) ≤ 0) = true then 1 * 2 ^ (ρ 3 - 1).toNat else _)) else _)
    else (if decide (0 < ρ 3) = true then (if decide (0 < cmpZ (ρ 0 - ρ 0 / 2 ^ (ρ 3).toNat * 2 ^ (ρ 3).toNat) (1 * 2 ^ (ρ 3 - 1).toNat)) = true then (if decide (cmpZ (1 * 2 ^ (ρ 3 - 1).toNat + 1 * 2 ^ (ρ 3).toNat) (ρ 1 - ρ 0 / 2 ^ (ρ 3).toNat * 2 ^ (ρ 3).toNat) ≤ 0) = true then 1 * 2 ^ (ρ 3 - 1).toNat else _) else (if decide (cmpZ (1 * 2 ^ (ρ 3 - 1).toNat) (ρ 1 - ρ 0 / 2 ^ (ρ 3).toNat * 2 ^ (ρ 3).toNat) ≤ 0) = true then 1 * 2 ^ (ρ 3 - 1).toNat else _)) else _)) = _
  rw [jpz, jp0, jf5, jf5]; simp only [decide_eq_true_eq, jh1, jh2, Int.one_mul]; unfold gMo
  by_cases hs : ρ 3 = 0
  · simp only [hs, if_true, if_false, Int.lt_irrefl]
    unfold gMx; rw [jfm, jfm]
  · have hn : 0 < ρ 3 := by omega
    simp only [hs, hn, if_true, if_false]; rw [jvh (jlp _) (jm1 h4 hs) h3]
    generalize nearI (2 ^ (ρ 3).toNat) (ρ 0 - ρ 0 / 2 ^ (ρ 3).toNat * 2 ^ (ρ 3).toNat) = u
    generalize nearI (2 ^ (ρ 3).toNat) (ρ 1 - ρ 0 / 2 ^ (ρ 3).toNat * 2 ^ (ρ 3).toNat) = v
    generalize ρ 0 - ρ 0 / 2 ^ (ρ 3).toNat * 2 ^ (ρ 3).toNat = f
    generalize ρ 1 - ρ 0 / 2 ^ (ρ 3).toNat * 2 ^ (ρ 3).toNat = t
    by_cases a1 : (2 : Int) ^ (ρ 3 - 1).toNat < f
    · simp only [a1, if_true]
      by_cases a2 : (2 : Int) ^ (ρ 3 - 1).toNat + 2 ^ (ρ 3).toNat ≤ t
      · simp only [a2, if_true, ite_self]
      · simp only [a2, if_false]
    · simp only [a1, if_false]
      by_cases a2 : (2 : Int) ^ (ρ 3 - 1).toNat ≤ t
      · simp only [a2, if_true, ite_self]
      · simp only [a2, if_false]
theorem jxp (hi : gIn (ρ 0) (ρ 1) (ρ 2) (ρ 3)) : (uSw (uM1 uN0) (uM1 uN1)).den (stdF g) ρ = gMo (ρ 0) (ρ 1) (ρ 3) := by
  unfold uSw uM1; simp only [ja0, bd_lt, bd_le, jcs]
  show (if decide (0 < cmpZ (uN0.den (stdF g) ρ) (uN1.den (stdF g) ρ)) = true then
      (if (ρ 3 == 0) = true then _ else (if decide (cmpZ (vUp (ρ 0 - 1 * 2 ^ (ρ 3 - 1).toNat) (1 * 2 ^ (ρ 3).toNat) * (1 * 2 ^ (ρ 3).toNat) + 1 * 2 ^ (ρ 3 - 1).toNat) (ρ 1) ≤ 0) = true then 1 * 2 ^ (ρ 3 - 1).toNat else _))
    else (if (ρ 3 == 0) = true then _ else (if decide (cmpZ (vUp (ρ 0 - 1 * 2 ^ (ρ 3 - 1).toNat) (1 * 2 ^ (ρ 3).toNat) * (1 * 2 ^ (ρ 3).toNat) + 1 * 2 ^ (ρ 3 - 1).toNat) (ρ 1) ≤ 0) = true then 1 * 2 ^ (ρ 3 - 1).toNat else _))) = _
  rw [jp1, jp2, jf6, jf6]; simp only [decide_eq_true_eq, jh1, jh2, Int.one_mul, beq_iff_eq]; unfold gMo gMx gMost
  by_cases hs : ρ 3 = 0
  · simp only [hs, if_true]
  · simp only [hs, if_false]
    by_cases a2 : vUp (ρ 0 - 2 ^ (ρ 3 - 1).toNat) (2 ^ (ρ 3).toNat) * 2 ^ (ρ 3).toNat + 2 ^ (ρ 3 - 1).toNat ≤ ρ 1
    · simp only [a2, if_true, ite_self]
    · simp only [a2, if_false]
end
theorem jgr (a : Int) : (a.sign < 0 ↔ a < 0) ∧ (a.sign ≤ 0 ↔ a ≤ 0) ∧ (0 ≤ a.sign ↔ 0 ≤ a) := by
  rcases Int.lt_trichotomy a 0 with h | h | h
  · rw [Int.sign_eq_neg_one_of_neg h]; omega
  · rw [h]; decide
  · rw [Int.sign_eq_one_of_pos h]; omega
theorem jud {a b : Int} (h : a ≤ b) : (a.sign * b.sign ≤ 0) ↔ (a ≤ 0 ∧ 0 ≤ b) := by
  rcases Int.lt_trichotomy a 0 with h1 | h1 | h1
  · rw [Int.sign_eq_neg_one_of_neg h1]
    rcases Int.lt_trichotomy b 0 with h2 | h2 | h2
    · rw [Int.sign_eq_neg_one_of_neg h2]; omega
    · rw [h2, Int.sign_zero]; omega
    · rw [Int.sign_eq_one_of_pos h2]; omega
  · rw [h1, Int.sign_zero]; omega
  · rw [Int.sign_eq_one_of_pos h1, Int.sign_eq_one_of_pos (show 0 < b by omega)]; omega
section
variable {g : Nat → List Int → Int} {ρ : Nat → Int}
def scaN : T := .ite (.not tOk) (.n 0) (.ite (.le (.mul s0 s1) (.n 0)) (.n 0) (pSc (.lt s0 (.n 0))))
def scaB : T := .and (.not (.not tOk)) (.and (.not (.le (.mul s0 s1) (.n 0))) (.n 1))
def rscN : T := .ite (.not tOk') (.n 0) (.ite (.le s0 (.n 0)) (.ite (.le (.n 0) s1) (.n 0) (.sub (.sub (ap1 6 (.sub (.n 0) (.v 1))) (.n 1)) (.v 2))) (pSc (.lt s1 (.n 0))))
def rscB : T := .and (.not (.not tOk')) (.or (.not (.le s0 (.n 0))) (.and (.not (.le (.n 0) s1)) (.n 1)))
theorem scaN_den : scaN.den (stdF g) ρ = gSc (ρ 0) (ρ 1) (ρ 2) := by
  unfold scaN; simp only [ja0, jap, jj3, bd_le]
  show (if (!decide ((0 ≤ ρ 2 ∧ ρ 2 ≤ 2048) ∧ ρ 0 ≤ ρ 1)) = true then (0 : Int) else if decide ((ρ 0).sign * (ρ 1).sign ≤ 0) = true then 0 else
    (nbits ((T.ite (.lt s0 (.n 0)) (.sub (.n 0) (.v 1)) (.v 0)).den (stdF g) ρ).natAbs : Nat) - 1 - ρ 2) = _
  rw [ja0, bd_lt]
  show (if (!decide ((0 ≤ ρ 2 ∧ ρ 2 ≤ 2048) ∧ ρ 0 ≤ ρ 1)) = true then (0 : Int) else if decide ((ρ 0).sign * (ρ 1).sign ≤ 0) = true then 0 else
    (nbits (if decide ((ρ 0).sign < 0) = true then 0 - ρ 1 else ρ 0).natAbs : Nat) - 1 - ρ 2) = _
  unfold gSc
  by_cases h1 : (0 ≤ ρ 2 ∧ ρ 2 ≤ 2048) ∧ ρ 0 ≤ ρ 1
  · have h1' : 0 ≤ ρ 2 ∧ ρ 2 ≤ 2048 ∧ ρ 0 ≤ ρ 1 := ⟨h1.1.1, h1.1.2, h1.2⟩
    simp only [h1, decide_true, Bool.not_true, Bool.false_eq_true, if_false, decide_eq_true_eq, jud h1.2, (jgr (ρ 0)).1, true_and, and_true, and_self]
    by_cases h2 : ρ 0 ≤ 0 ∧ 0 ≤ ρ 1
    · rw [if_pos h2, if_neg (fun h : gOk (ρ 0) (ρ 1) (ρ 2) => h.2 h2)]
    · rw [if_neg h2, if_pos (show gOk (ρ 0) (ρ 1) (ρ 2) from ⟨h1', h2⟩)]
      by_cases h3 : ρ 0 < 0
      · rw [if_pos h3, if_pos (by omega)]
      · rw [if_neg h3, if_neg (by omega)]
  · rw [decide_eq_false h1, if_pos (show (!false) = true from rfl)]
    rw [if_neg (fun h : gOk (ρ 0) (ρ 1) (ρ 2) => h1 ⟨⟨h.1.1, h.1.2.1⟩, h.1.2.2⟩)]
theorem rscN_den : rscN.den (stdF g) ρ = gSc (ρ 0) (ρ 1) (ρ 2) := by
  unfold rscN; simp only [ja0, jap, tOk'_bd, bd_le]
  show (if (!decide ((0 ≤ ρ 2 ∧ ρ 2 ≤ 2048) ∧ ρ 0 ≤ ρ 1)) = true then (0 : Int) else if decide ((ρ 0).sign ≤ 0) = true then (if decide (0 ≤ (ρ 1).sign) = true then 0 else (nbits (0 - ρ 1).natAbs : Nat) - 1 - ρ 2) else
    (nbits ((T.ite (.lt s1 (.n 0)) (.sub (.n 0) (.v 1)) (.v 0)).den (stdF g) ρ).natAbs : Nat) - 1 - ρ 2) = _
  rw [ja0, bd_lt]
  show (if (!decide ((0 ≤ ρ 2 ∧ ρ 2 ≤ 2048) ∧ ρ 0 ≤ ρ 1)) = true then (0 : Int) else if decide ((ρ 0).sign ≤ 0) = true then (if decide (0 ≤ (ρ 1).sign) = true then 0 else (nbits (0 - ρ 1).natAbs : Nat) - 1 - ρ 2) else
    (nbits (if decide ((ρ 1).sign < 0) = true then 0 - ρ 1 else ρ 0).natAbs : Nat) - 1 - ρ 2) = _
  unfold gSc
  by_cases h1 : (0 ≤ ρ 2 ∧ ρ 2 ≤ 2048) ∧ ρ 0 ≤ ρ 1
  · have h1' : 0 ≤ ρ 2 ∧ ρ 2 ≤ 2048 ∧ ρ 0 ≤ ρ 1 := ⟨h1.1.1, h1.1.2, h1.2⟩
    simp only [h1, decide_true, Bool.not_true, Bool.false_eq_true, if_false, decide_eq_true_eq, (jgr (ρ 0)).2.1, (jgr (ρ 1)).2.2, (jgr (ρ 1)).1, true_and, and_true, and_self]
    by_cases h2 : ρ 0 ≤ 0
    · by_cases h3 : 0 ≤ ρ 1
      · rw [if_pos h2, if_pos h3, if_neg (fun h : gOk (ρ 0) (ρ 1) (ρ 2) => h.2 ⟨h2, h3⟩)]
      · rw [if_pos h2, if_neg h3, if_pos (show gOk (ρ 0) (ρ 1) (ρ 2) from ⟨h1', fun h => h3 h.2⟩), if_pos (by omega)]
    · rw [if_neg h2, if_pos (show gOk (ρ 0) (ρ 1) (ρ 2) from ⟨h1', fun h => h2 h.1⟩)]
  · rw [decide_eq_false h1, if_pos (show (!false) = true from rfl)]
    rw [if_neg (fun h : gOk (ρ 0) (ρ 1) (ρ 2) => h1 ⟨⟨h.1.1, h.1.2.1⟩, h.1.2.2⟩)]
theorem scaB_bd : scaB.bd (stdF g) ρ = decide (gOk (ρ 0) (ρ 1) (ρ 2)) := by
  unfold scaB; rw [jbd, jbd, jap, jap, jap, jj3, bd_le]
  show (!!decide ((0 ≤ ρ 2 ∧ ρ 2 ≤ 2048) ∧ ρ 0 ≤ ρ 1) && (!decide ((ρ 0).sign * (ρ 1).sign ≤ 0) && true)) = _
  rw [Bool.not_not, Bool.and_true]
  by_cases h1 : (0 ≤ ρ 2 ∧ ρ 2 ≤ 2048) ∧ ρ 0 ≤ ρ 1
  · rw [decide_eq_true h1, Bool.true_and, ← decide_not]
    refine decide_eq_decide.2 ?_; rw [jud h1.2]; unfold gOk; exact ⟨fun h => ⟨⟨h1.1.1, h1.1.2, h1.2⟩, h⟩, fun h => h.2⟩
  · rw [decide_eq_false h1, decide_eq_false (fun h : gOk _ _ _ => h1 ⟨⟨h.1.1, h.1.2.1⟩, h.1.2.2⟩)]
    rfl
theorem rscB_bd : rscB.bd (stdF g) ρ = decide (gOk (ρ 0) (ρ 1) (ρ 2)) := by
  unfold rscB; rw [jbd, jfr, jbd, jap, jap, jap, jap, tOk'_bd, bd_le, bd_le]
  show (!!decide ((0 ≤ ρ 2 ∧ ρ 2 ≤ 2048) ∧ ρ 0 ≤ ρ 1) && (!decide ((ρ 0).sign ≤ 0) || (!decide (0 ≤ (ρ 1).sign) && true))) = _
  rw [Bool.not_not, Bool.and_true]
  by_cases h1 : (0 ≤ ρ 2 ∧ ρ 2 ≤ 2048) ∧ ρ 0 ≤ ρ 1
  · rw [decide_eq_true h1, Bool.true_and, ← decide_not, ← decide_not, ← Bool.decide_or]
    refine decide_eq_decide.2 ?_; rw [(jgr (ρ 0)).2.1, (jgr (ρ 1)).2.2]; unfold gOk
    constructor
    · exact fun h => ⟨⟨h1.1.1, h1.1.2, h1.2⟩, fun k => h.elim (fun a => a k.1) (fun a => a k.2)⟩
    · intro h
      by_cases h2 : ρ 0 ≤ 0
      · exact .inr fun k => h.2 ⟨h2, k⟩
      · exact .inl h2
  · rw [decide_eq_false h1, decide_eq_false (fun h : gOk _ _ _ => h1 ⟨⟨h.1.1, h.1.2.1⟩, h.1.2.2⟩)]
    rfl
end
section
variable (h : Nat → List Int → Int)
theorem gapOK : SpecOK Tryz.prog (FD (hE h)) (gapS 13) :=
  jez (sp := gapS 13) follows_any (jag (by kernel_rfl)) (gapX (hE h)) rfl fun ρ _ => ⟨⟨⟨by decide, rfl, (jh3 jj3 jxm).trans rfl⟩, trivial⟩, ⟨⟨by decide, rfl, (jh3 jj3 jxo).trans rfl⟩, trivial⟩, ⟨rfl, (jh3 jj3 (fun _ => rfl)).trans rfl⟩, trivial⟩
theorem refOK : SpecOK Tryz.prog (FD (hE h)) (gapS 14) :=
  jez (sp := gapS 14) follows_any (jag (by kernel_rfl)) (refX (hE h)) rfl fun ρ _ => ⟨⟨⟨by decide, rfl, (jh3 tOk'_bd jxn).trans rfl⟩, trivial⟩, ⟨⟨by decide, rfl, (jh3 tOk'_bd jxp).trans rfl⟩, trivial⟩, ⟨rfl, (jh3 tOk'_bd (fun _ => rfl)).trans rfl⟩, trivial⟩
theorem scaOK : SpecOK Tryz.prog (FD (hE h)) (scaS 16) :=
  jez (sp := scaS 16) follows_any (jag (by kernel_rfl)) (scaX (hE h)) rfl fun ρ _ => ⟨⟨rfl, scaN_den.trans rfl⟩, scaB_bd.trans (jdx _).symm, trivial⟩
theorem rscOK : SpecOK Tryz.prog (FD (hE h)) (scaS 17) :=
  jez (sp := scaS 17) follows_any (jag (by kernel_rfl)) (rscX (hE h)) rfl fun ρ _ => ⟨⟨rfl, rscN_den.trans rfl⟩, rscB_bd.trans (jdx _).symm, trivial⟩
end
end V
end Go.Proofs.YtdglddpigeamaaaGreat
