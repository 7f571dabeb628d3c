/- V: zed.Text of what has at most three digits. -/
import Derived.Test.YtnfbngiabdlclaaVe
import Derived.Test.YtnfbngiabdlclaaTx
set_option linter.unusedVariables false
set_option linter.unusedSimpArgs false
namespace Go.Proofs.Ytnfbngiabdlclaa
open Go.RowKit Go.Shelf
namespace V
def txtN (z : Nat) : List Nat := if z = 0 then [48] else if z ≤ 9 then [48 + z] else if z ≤ 99 then [48 + z / 10 % 10, 48 + z % 10] else [48 + z / 100 % 10, 48 + z / 10 % 10, 48 + z % 10]
theorem text_any {w : World} {k : Nat} {n : Bool} {A : Option Addr} {len cap : Nat} {N : Nat} (h : QB w 0 k n A len cap (N : Int)) (hk : k ≤ 40000) (h9 : N ≤ 999) :
    Calls Try.prog 29 #[.agg #[.bool n, .slice A len cap]] w fun e w' => Below w.heap.size w w' ∧ VF (Fact.eq (Kc.str (txtN N)).val) e w' := by
  have u : ∀ m : Nat, (48 + (m : Int)).toNat = 48 + m := fun m => by omega
  unfold txtN
  split
  · rename_i e
    subst e; exact v_text_zero h hk
  · split
    · refine v_text_one h hk (by omega) (by omega) ?_
      unfold txt; simp only [Bool.false_eq_true, if_false, List.foldl_cons, List.foldl_nil, u]
      rfl
    · split
      · refine v_text_two h hk (by omega) (by omega) ?_
        unfold txtL; simp only [List.foldl_cons, List.foldl_nil, u]
        rfl
      · refine v_text_three h hk (by omega) h9 ?_
        unfold txtL; simp only [List.foldl_cons, List.foldl_nil, u]
        rfl
def oneI (i : Iv) : Option Nat := match i with
  | (some (.ofNat a), some (.ofNat b)) => if Nat.beq a b && Nat.ble a 999 then some a else none
  | _ => none
def cText (g : Nat → List Int → Int) : Ctr Try.prog (stdF g) where
  f := 29
  ent := entersB_ok (by kernel_rfl)
  inst := fun fs _ ar => match ar with
    | [a] => match isZ a with
      | some (k, true, t) => match oneI (iv fs t) with
        | some z => if Nat.ble k 29000 then some ([], .one (.sc (.cst (.str (txtN z)))), []) else none
        | none => none
      | _ => none
    | _ => none
  ok := by
    intro ρ β w fs bx ar vs pre res post hf _ ha hi _
    split at hi
    · split at hi
      · rename_i a _ k t ea
        split at hi
        · rename_i z ez
          split at hi
          · rename_i hk
            cases hi
            obtain ⟨v, rfl, hv⟩ := args1 ha; obtain ⟨n, A, l, c', rfl, -, hq⟩ := isZ_ok ea hv
            have hz : t.den (stdF g) ρ = (z : Int) ∧ z ≤ 999 := by
              unfold oneI at ez
              split at ez
              · rename_i p q ei
                split at ez
                · rename_i hab
                  cases ez
                  rw [Bool.and_eq_true] at hab; have h1 := Nat.eq_of_beq_eq_true hab.1; have h2 := iv_ok hf t; rw [ei] at h2; have h3 := h2.1 _ rfl; have h4 := h2.2 _ rfl; have h5 : (Int.ofNat z) = (z : Int) := rfl; have h6 : (Int.ofNat q) = (q : Int) := rfl; exact ⟨by omega, Nat.le_of_ble_eq_true hab.2⟩
                · cases ez
              · cases ez
            have hq' := hq rfl; rw [hz.1] at hq'; refine ⟨trivial, (text_any hq' (Nat.le_trans (Nat.le_of_ble_eq_true hk) (by omega)) hz.2).mono fun e w' ⟨h1, u, h2, h3⟩ => ⟨h1, u, h2, ?_⟩⟩
            show [u] = [_]
            rw [Fact.eq_of h3]
          · cases hi
        · cases hi
      · cases hi
    · cases hi
end V
end Go.Proofs.Ytnfbngiabdlclaa
