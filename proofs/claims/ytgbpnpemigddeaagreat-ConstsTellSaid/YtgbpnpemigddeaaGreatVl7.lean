/- Plain: the constants' balls hold one number, by reckoning. V: zed.Text of what has at most three digits. V: hairlinelaw07. -/
import Derived.Test.YtgbpnpemigddeaaGreatVk
import Derived.Test.YtgbpnpemigddeaaGreatVe
import Derived.Test.YtgbpnpemigddeaaGreatTx
set_option linter.unusedVariables false
set_option linter.unusedSimpArgs false
namespace Go.Proofs.YtgbpnpemigddeaaGreat
section
section
namespace Co
def lnL (q : Nat) : Nat := lnLo (q + 16) * 2 / 65536
def lnH (q : Nat) : Nat := up (lnHi (q + 16) * 2) 65536
def piL (q : Nat) : Int := match 2 ^ (q + 16) / 5, 2 ^ (q + 16) / 239, (q + 16) / 9 + 2 with
  | d, e, n => (((atLoP d (q + 16) n : Int) - (atLoN d (q + 16) n : Int)) * 16 + (0 - ((atHiP (e + 1) (q + 16) n : Int) - (atHiN (e + 1) (q + 16) n : Int)) * 4)) / 65536
def piH (q : Nat) : Int := match 2 ^ (q + 16) / 5, 2 ^ (q + 16) / 239, (q + 16) / 9 + 2 with
  | d, e, n => 0 - (0 - (((atHiP (d + 1) (q + 16) n : Int) - (atHiN (d + 1) (q + 16) n : Int)) * 16 + (0 - ((atLoP e (q + 16) n : Int) - (atLoN e (q + 16) n : Int)) * 4))) / 65536
def lnOne : Nat := lnL 300
def piOne : Int := piL 300
def lnM (q : Nat) : Bool := match lnL q, lnH q with
  | a, b => Nat.ble (a * 2 ^ (300 - q)) lnOne && Nat.ble lnOne (b * 2 ^ (300 - q)) && Nat.ble b (a + 2)
def piM (q : Nat) : Bool := match piL q, piH q with
  | a, b => decide (a * (2 ^ (300 - q) : Nat) ≤ piOne) && decide (piOne ≤ b * (2 ^ (300 - q) : Nat)) && decide (b ≤ a + 2)
set_option maxRecDepth 1000000
end Co
def Holds1 (x : Int) (lo hi : Int) (q : Nat) : Prop := lo * 2 ^ (300 - q) ≤ x ∧ x ≤ hi * 2 ^ (300 - q) ∧ hi ≤ lo + 2
theorem Holds1.meet {x a b c d : Int} {p q m : Nat} (h : Holds1 x a b p) (k : Holds1 x c d q) (hp : p ≤ 300) (hq : q ≤ 300) (hm : m = min p q) : a * 2 ^ (q - m) ≤ d * 2 ^ (p - m) := by
  have h1 := Int.le_trans h.1 k.2.1; have e1 : 300 - p = (q - m) + (300 - max p q) := by omega
  have e2 : 300 - q = (p - m) + (300 - max p q) := by omega
  rw [e1, e2, Int.pow_add, Int.pow_add, ← Int.mul_assoc, ← Int.mul_assoc] at h1; exact Int.le_of_mul_le_mul_right h1 (Int.pow_pos (by omega))
end
end
section
section
open Go.RowKit Go.Shelf
namespace V
def txtN (z : Nat) : List Nat := if z = 0 then [48] else if z ≤ 9 then [48 + z] else if z ≤ 99 then [48 + z / 10 % 10, 48 + z % 10] else [48 + z / 100 % 10, 48 + z / 10 % 10, 48 + z % 10]
theorem jql {w : World} {k : Nat} {n : Bool} {A : Option Addr} {len cap : Nat} {N : Nat} (h : QB w 0 k n A len cap (N : Int)) (hk : k ≤ 40000) (h9 : N ≤ 999) :
    Calls Tryz.prog 10 #[.agg #[.bool n, .slice A len cap]] w fun e w' => Below w.heap.size w w' ∧ VF (Fact.eq (Kc.str (txtN N)).val) e w' := by
  have u : ∀ m : Nat, (48 + (m : Int)).toNat = 48 + m := fun m => by omega
  unfold txtN
  split
  · rename_i e
    subst e; exact jj1 h hk
  · split
    · refine jmn h hk (by omega) (by omega) ?_
      unfold txt; simp only [Bool.false_eq_true, if_false, List.foldl_cons, List.foldl_nil, u]
      rfl
    · split
      · refine jmo h hk (by omega) (by omega) ?_
        unfold txtL; simp only [List.foldl_cons, List.foldl_nil, u]
        rfl
      · refine jio h hk (by omega) h9 ?_
        unfold txtL; simp only [List.foldl_cons, List.foldl_nil, u]
        rfl
def oneI (i : Iv) : Option Nat := match i with
  | (some (.ofNat a), some (.ofNat b)) => if Nat.beq a b && Nat.ble a 999 then some a else none
  | _ => none
def cText (g : Nat → List Int → Int) : Ctr Tryz.prog (stdF g) where
  f := 10
  ent := jat (by kernel_rfl)
  inst := fun fs _ ar => match ar with
    | [a] => match isZ a with
      | some (k, true, t) => match oneI (iv fs t) with
        | some z => if Nat.ble k 29000 then some ([], .one (.sc (.cst (.str (txtN z)))), []) else none
        | none => none
      | _ => none
    | _ => none
  ok := by
    intro ρ β w fs bx ar vs pre res post hf _ ha hi _
    split at hi
    · split at hi
      · rename_i a _ k t ea
        split at hi
        · rename_i z ez
          split at hi
          · rename_i hk
            cases hi
            obtain ⟨v, rfl, hv⟩ := args1 ha; obtain ⟨n, A, l, c', rfl, -, hq⟩ := jb1 ea hv
            have hz : t.den (stdF g) ρ = (z : Int) ∧ z ≤ 999 := by
              unfold oneI at ez
              split at ez
              · rename_i p q ei
                split at ez
                · rename_i hab
                  cases ez
                  rw [Bool.and_eq_true] at hab; have h1 := Nat.eq_of_beq_eq_true hab.1; have h2 := jcw hf t; rw [ei] at h2; have h3 := h2.1 _ rfl; have h4 := h2.2 _ rfl; have h5 : (Int.ofNat z) = (z : Int) := rfl; have h6 : (Int.ofNat q) = (q : Int) := rfl; exact ⟨by omega, Nat.le_of_ble_eq_true hab.2⟩
                · cases ez
              · cases ez
            have hq' := hq rfl; rw [hz.1] at hq'; refine ⟨trivial, (jql hq' (Nat.le_trans (Nat.le_of_ble_eq_true hk) (by omega)) hz.2).mono fun e w' ⟨h1, u, h2, h3⟩ => ⟨h1, u, h2, ?_⟩⟩
            show [u] = [_]
            rw [Fact.eq_of h3]
          · cases hi
        · cases hi
      · cases hi
    · cases hi
end V
end
end
section
section
open Go.RowKit Go.Shelf
namespace V
section
variable (h : Nat → List Int → Int)
noncomputable def law7a : List (Ctr Tryz.prog (stdF (gR (hC h)))) := cText (gR (hC h)) :: cons2 h
end
def sh7 : Spec := { f := 4, ps := [], bx := [], np := 0, fs := [], res := .one (.sc (.b (.n 1))), post := [] }
def sh7L : List T := [.eq (ap1 48 (.n 8)) (.n 177), .eq (ap1 49 (.n 8)) (.n 178), .eq (ap1 50 (.n 8)) (.n 804), .eq (ap1 51 (.n 8)) (.n 805)]
theorem sh7C (h : Nat → List Int → Int) : checkF (P := Tryz.prog) (law7a h) R0 [] (drawX (law7a h)) { sh7 with fs := sh7L ++ sh7.fs } = true := by kernel_rfl
theorem jua (h : Nat → List Int → Int) (ρ : Nat → Int) (hp : allT (stdF (gR (hC h))) ρ sh7.fs) : allT (stdF (gR (hC h))) ρ sh7L := by
  have eq : ∀ {a : T} {z : Int}, a.den (stdF (gR (hC h))) ρ = z → (T.eq a (.n z)).bd (stdF (gR (hC h))) ρ = true := fun e => by rw [jck, e, jcb]; exact beq_self_eq_true _
  exact ⟨eq (show lnLoZ 8 = 177 by kernel_rfl), eq (show lnHiZ 8 = 178 by kernel_rfl), eq (show piLoZ 8 = 804 by kernel_rfl), eq (show piHiZ 8 = 805 by kernel_rfl), trivial⟩
section
variable (h : Nat → List Int → Int)
noncomputable def law7b : List (Ctr Tryz.prog (stdF (gR (hC h)))) := Ctr.ofL (jhw _) follows_any sh7L (jua h) (sh7C h) :: law7a h
end
def pT : T := ap2 2 (.v 0) (.n 256)
def qT : T := ap2 2 (.v 1) (.n 256)
def befT (x px y py m : T) : T := rightL (.mul x (p2 (.sub py m))) (.mul y (p2 (.sub px m)))
def meetL (f : Nat) (m m' : T) : List T := [befT (ap1 f qT) qT (ap1 (f + 1) pT) pT m, befT (ap1 f pT) pT (ap1 (f + 1) qT) qT m']
def wideL (f : Nat) : List T := [rightL (.sub (ap1 (f + 1) pT) (ap1 f pT)) (.n 2)]
def m7L (m m' : T) : List T := wideL 48 ++ wideL 50 ++ meetL 48 m m' ++ meetL 50 m m'
def ρ2 (p q : Int) : Nat → Int := fun i => if i = 0 then p else q
end V
end
end
end Go.Proofs.YtgbpnpemigddeaaGreat