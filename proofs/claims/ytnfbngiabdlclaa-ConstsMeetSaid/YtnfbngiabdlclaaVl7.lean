/- V: hairlinelaw07. -/
import Derived.Test.YtnfbngiabdlclaaCm
import Derived.Test.YtnfbngiabdlclaaVx
set_option linter.unusedVariables false
set_option linter.unusedSimpArgs false
namespace Go.Proofs.Ytnfbngiabdlclaa
open Go.RowKit Go.Shelf
namespace V
section
variable (h : Nat → List Int → Int)
noncomputable def law7a : List (Ctr Try.prog (stdF (gR (hC h)))) := cText (gR (hC h)) :: cons2 h
end
def sh7 : Spec := { f := 7, ps := [], bx := [], np := 0, fs := [], res := .one (.sc (.b (.n 1))), post := [] }
def sh7L : List T := [.eq (ap1 48 (.n 8)) (.n 177), .eq (ap1 49 (.n 8)) (.n 178), .eq (ap1 50 (.n 8)) (.n 804), .eq (ap1 51 (.n 8)) (.n 805)]
theorem sh7C (h : Nat → List Int → Int) : checkF (P := Try.prog) (law7a h) R0 [] (drawX (law7a h)) { sh7 with fs := sh7L ++ sh7.fs } = true := by kernel_rfl
theorem sh7_ok (h : Nat → List Int → Int) (ρ : Nat → Int) (hp : allT (stdF (gR (hC h))) ρ sh7.fs) : allT (stdF (gR (hC h))) ρ sh7L := by
  have eq : ∀ {a : T} {z : Int}, a.den (stdF (gR (hC h))) ρ = z → (T.eq a (.n z)).bd (stdF (gR (hC h))) ρ = true := fun e => by rw [bd_eq, e, den_n]; exact beq_self_eq_true _
  exact ⟨eq (show lnLoZ 8 = 177 by kernel_rfl), eq (show lnHiZ 8 = 178 by kernel_rfl), eq (show piLoZ 8 = 804 by kernel_rfl), eq (show piHiZ 8 = 805 by kernel_rfl), trivial⟩
section
variable (h : Nat → List Int → Int)
noncomputable def law7b : List (Ctr Try.prog (stdF (gR (hC h)))) := Ctr.ofL (R0_ok _) follows_any sh7L (sh7_ok h) (sh7C h) :: law7a h
end
def pT : T := ap2 2 (.v 0) (.n 256)
def qT : T := ap2 2 (.v 1) (.n 256)
/-- One end is not above another one, m places being the fewer. -/
def befT (x px y py m : T) : T := rightL (.mul x (p2 (.sub py m))) (.mul y (p2 (.sub px m)))
def meetL (f : Nat) (m m' : T) : List T := [befT (ap1 f qT) qT (ap1 (f + 1) pT) pT m, befT (ap1 f pT) pT (ap1 (f + 1) qT) qT m']
def wideL (f : Nat) : List T := [rightL (.sub (ap1 (f + 1) pT) (ap1 f pT)) (.n 2)]
def meet7 (c : T) : Spec := { f := 3, ps := [i64 (.v 0), i64 (.v 1)], bx := [], np := 2, fs := [c], res := .one (.sc (.b (.n 1))), post := [] }
def m7L (m m' : T) : List T := wideL 48 ++ wideL 50 ++ meetL 48 m m' ++ meetL 50 m m'
theorem meet7aC (h : Nat → List Int → Int) : checkF (P := Try.prog) (law7b h) R0 [] (drawX (law7b h)) { meet7 (.lt pT qT) with fs := m7L pT pT ++ [.lt pT qT] } = true := by kernel_rfl
theorem meet7bC (h : Nat → List Int → Int) : checkF (P := Try.prog) (law7b h) R0 [] (drawX (law7b h)) { meet7 (.lt qT pT) with fs := m7L qT qT ++ [.lt qT pT] } = true := by kernel_rfl
theorem meet7cC (h : Nat → List Int → Int) : checkF (P := Try.prog) (law7b h) R0 [] (drawX (law7b h)) { meet7 (.eq pT qT) with fs := m7L qT pT ++ [.eq pT qT, .le pT qT, .le qT pT] } = true := by kernel_rfl
/-- The facts, for two numbers of places. -/
theorem m7_ok {h : Nat → List Int → Int} {ρ : Nat → Int} {m m' : T} (hm : m.den (stdF (gR (hC h))) ρ = min (ρ 0 % 256) (ρ 1 % 256)) (hm' : m'.den (stdF (gR (hC h))) ρ = min (ρ 0 % 256) (ρ 1 % 256)) : allT (stdF (gR (hC h))) ρ (m7L m m') := by
  obtain ⟨p, hp, hp2⟩ : ∃ p : Nat, ρ 0 % 256 = p ∧ p ≤ 255 := ⟨(ρ 0 % 256).toNat, by omega, by omega⟩; obtain ⟨q, hq, hq2⟩ : ∃ q : Nat, ρ 1 % 256 = q ∧ q ≤ 255 := ⟨(ρ 1 % 256).toNat, by omega, by omega⟩; rw [hp, hq] at hm hm'; have k1 := ln_one hp2; have k2 := ln_one hq2; have k3 := pi_one hp2; have k4 := pi_one hq2; have hmin : ((min (p : Int) q) : Int) = ((min p q : Nat) : Int) := by omega
  rw [hmin] at hm hm'; have e1 : ((q : Int) - ((min p q : Nat) : Int)).toNat = q - min p q := by omega
  have e2 : ((p : Int) - ((min p q : Nat) : Int)).toNat = p - min p q := by omega
  have bef : ∀ {x y : T} {px py : T} {a b : Int} {n : T}, n.den (stdF (gR (hC h))) ρ = ((min p q : Nat) : Int) → x.den (stdF (gR (hC h))) ρ = a → y.den (stdF (gR (hC h))) ρ = b → a * 2 ^ (py.den (stdF (gR (hC h))) ρ - ((min p q : Nat) : Int)).toNat ≤ b * 2 ^ (px.den (stdF (gR (hC h))) ρ - ((min p q : Nat) : Int)).toNat → (befT x px y py n).bd (stdF (gR (hC h))) ρ = true := fun {x y px py a b n} hn hx hy hh => by
    refine right_bd ?_
    show x.den (stdF (gR (hC h))) ρ * 2 ^ (py.den (stdF (gR (hC h))) ρ - n.den (stdF (gR (hC h))) ρ).toNat ≤ y.den (stdF (gR (hC h))) ρ * 2 ^ (px.den (stdF (gR (hC h))) ρ - n.den (stdF (gR (hC h))) ρ).toNat
    rw [hn, hx, hy]; exact hh
  have a1 : (ap1 48 pT).den (stdF (gR (hC h))) ρ = lnLoZ p := by rw [← hp]; rfl
  have a2 : (ap1 49 pT).den (stdF (gR (hC h))) ρ = lnHiZ p := by rw [← hp]; rfl
  have a3 : (ap1 50 pT).den (stdF (gR (hC h))) ρ = piLoZ p := by rw [← hp]; rfl
  have a4 : (ap1 51 pT).den (stdF (gR (hC h))) ρ = piHiZ p := by rw [← hp]; rfl
  have b1 : (ap1 48 qT).den (stdF (gR (hC h))) ρ = lnLoZ q := by rw [← hq]; rfl
  have b2 : (ap1 49 qT).den (stdF (gR (hC h))) ρ = lnHiZ q := by rw [← hq]; rfl
  have b3 : (ap1 50 qT).den (stdF (gR (hC h))) ρ = piLoZ q := by rw [← hq]; rfl
  have b4 : (ap1 51 qT).den (stdF (gR (hC h))) ρ = piHiZ q := by rw [← hq]; rfl
  have dp : pT.den (stdF (gR (hC h))) ρ = p := hp; have dq' : qT.den (stdF (gR (hC h))) ρ = q := hq; refine ⟨right_bd ?_, right_bd ?_, bef hm b1 a2 ?_, bef hm' a1 b2 ?_, bef hm b3 a4 ?_, bef hm' a3 b4 ?_, trivial⟩
  · show (ap1 49 pT).den (stdF (gR (hC h))) ρ - (ap1 48 pT).den (stdF (gR (hC h))) ρ ≤ 2
    rw [a1, a2]; have := k1.2.2; omega
  · show (ap1 51 pT).den (stdF (gR (hC h))) ρ - (ap1 50 pT).den (stdF (gR (hC h))) ρ ≤ 2
    rw [a3, a4]; have := k3.2.2; omega
  · rw [dp, dq', e1, e2]; exact k2.meet k1 (by omega) (by omega) (by omega)
  · rw [dp, dq', e1, e2]; exact k1.meet k2 (by omega) (by omega) rfl
  · rw [dp, dq', e1, e2]; exact k4.meet k3 (by omega) (by omega) (by omega)
  · rw [dp, dq', e1, e2]; exact k3.meet k4 (by omega) (by omega) rfl
def ρ2 (p q : Int) : Nat → Int := fun i => if i = 0 then p else q
theorem meet7_v {w : World} (p q : Int) : Calls Try.prog 3 #[.int .i64 p, .int .i64 q] w fun e w' => e = .returned (.bool true) ∧ Below w.heap.size w w' := by
  have ha : hasA (stdF (gR (hC g0))) (ρ2 p q) id w [i64 (.v 0), i64 (.v 1)] [.int .i64 p, .int .i64 q] := ⟨_, _, rfl, rfl, _, _, rfl, rfl, rfl⟩
  have fin : ∀ {e : Ending} {w' : World}, (Below w.heap.size w w' ∧ ∃ u, e = .returned u ∧ (A.one (.sc (.b (.n 1)))).has (stdF (gR (hC g0))) (ρ2 p q) id w' u) → e = .returned (.bool true) ∧ Below w.heap.size w w' := fun ⟨h1, u, h2, h3⟩ => by
    have h4 : [u] = [Value.bool true] := h3; rw [h2, List.head_eq_of_cons_eq h4]; exact ⟨rfl, h1⟩
  have dp : pT.den (stdF (gR (hC g0))) (ρ2 p q) = p % 256 := rfl; have dq' : qT.den (stdF (gR (hC g0))) (ρ2 p q) = q % 256 := rfl; have r0 : ρ2 p q 0 = p := rfl; have r1 : ρ2 p q 1 = q := rfl
  rcases Int.lt_trichotomy (p % 256) (q % 256) with hlt | heq | hgt
  · obtain ⟨-, -, k⟩ := fn_ok (R0_ok _) (fun n w0 => drawX_ok follows_any _ n w0) (meet7aC g0) ha bxOK_nil (allT_app (m7_ok (by rw [dp, r0, r1]; omega) (by rw [dp, r0, r1]; omega)) ⟨lt_bd (by rw [dp, dq']; exact hlt), trivial⟩)
    exact k.mono fun e w' h => fin h
  · obtain ⟨-, -, k⟩ := fn_ok (R0_ok _) (fun n w0 => drawX_ok follows_any _ n w0) (meet7cC g0) ha bxOK_nil (allT_app (m7_ok (by rw [dq', r0, r1]; omega) (by rw [dp, r0, r1]; omega)) ⟨by rw [bd_eq, dp, dq', heq]; exact beq_self_eq_true _, le_bd (by rw [dp, dq']; omega), le_bd (by rw [dp, dq']; omega), trivial⟩)
    exact k.mono fun e w' h => fin h
  · obtain ⟨-, -, k⟩ := fn_ok (R0_ok _) (fun n w0 => drawX_ok follows_any _ n w0) (meet7bC g0) ha bxOK_nil (allT_app (m7_ok (by rw [dq', r0, r1]; omega) (by rw [dq', r0, r1]; omega)) ⟨lt_bd (by rw [dp, dq']; exact hgt), trivial⟩)
    exact k.mono fun e w' h => fin h
end V
end Go.Proofs.Ytnfbngiabdlclaa
