/- V: hairlinelaw09.PointGaps. -/
import Derived.Test.YtdglddpigeamaaaGreatEv
import Derived.Test.YtdglddpigeamaaaGreatGp
import Derived.Test.YtdglddpigeamaaaGreatLm
set_option linter.unusedVariables false
set_option linter.unusedSimpArgs false
namespace Go.Proofs.YtdglddpigeamaaaGreat
open Go.RowKit Go.Shelf L
namespace V
section
variable (h : Nat → List Int → Int)
noncomputable def ga1 : List (Ctr Tryz.prog (FD (hE h))) :=
  c09 (hE h) ::
  Ctr.lem (jag (by kernel_rfl)) (gapOK h) ::
  Ctr.lem (jag (by kernel_rfl)) (refOK h) ::
  Ctr.lem (jag (by kernel_rfl)) (scaOK h) ::
  Ctr.lem (jag (by kernel_rfl)) (rscOK h) ::
  Ctr.lem (jag (by kernel_rfl)) (limbsOK (hE h) 8 (by decide)) ::
  dy1 (hE h)
end
def aB : A := .one (.ag [.z hugeK false (.v 0), .z hugeK false (.v 1), .i .i64 (.v 2)])
def gapsS : Spec := { f := 3, ps := [aB, i64 (.v 3)], bx := [], np := 4, fs := gF, res := .one (.sc (.b (.n 1))), post := [] }
def gaP : T := ap3 84 (ap2 7 (.v 0) (.n ((W ^ 8 : Nat) : Int))) (ap2 7 (.v 1) (.n ((W ^ 8 : Nat) : Int))) (.v 2)
def gaR : Rs := { rs := [{ cs := [], l := .or (.and gaP gaP) (.and (.not gaP) (.not gaP)), r := .n 1 }], ft := [] }
theorem jyl (F : Nat → List Int → Int) : RsOK F gaR where
  rs := fun r hr ρ _ => by
    obtain rfl := List.mem_singleton.1 hr
    show b2i _ = 1
    have e : ((T.and gaP gaP).bd F ρ || (T.and (.not gaP) (.not gaP)).bd F ρ) = true := by
      rw [jbd, jbd, jap]
      cases gaP.bd F ρ <;> rfl
    exact congrArg b2i e
  ft := fun r hr => by cases hr
theorem gapsC (h : Nat → List Int → Int) : checkF (P := Tryz.prog) (ga1 h) gaR [] (drawX (ga1 h)) gapsS = true := by kernel_rfl
def ρ4 (a b c d : Int) : Nat → Int
  | 0 => a
  | 1 => b
  | 2 => c
  | _ => d
theorem zHuge {F : Nat → List Int → Int} {ρ : Nat → Int} {β : Nat → Nat} {w : World} {n : Bool} {A : Option Addr} {l c : Nat} {L : List Nat} (hN : Nums w 0 (.slice A l c) L) {t : T} (ht : t.den F ρ = ival n (val W L)) :
    (X.z hugeK false t).has F ρ β w [.bool n, .slice A l c] := by
  refine ⟨n, A, l, c, rfl, ?_, fun hh => by cases hh⟩; rw [ht]; refine ⟨L, hN, ?_, rfl⟩; obtain ⟨A', c', h1, ⟨h2, -⟩, h3, -⟩ := hN; injection h1 with _ h4 h5
  show L.length ≤ 9223372036854775807
  omega
theorem juz {F : Nat → List Int → Int} {ρ : Nat → Int} {β : Nat → Nat} {w : World} {n : Bool} {A : Option Addr} {l c : Nat} {m : Bool} {B : Option Addr} {j d : Nat} {L M : List Nat} {x : Int} (hN : Nums w 0 (.slice A l c) L) (hM : Nums w 0 (.slice B j d) M)
    (h0 : ρ 0 = ival n (val W L)) (h1 : ρ 1 = ival m (val W M)) (h2 : ρ 2 = x) : aB.has F ρ β w (.agg #[.bool n, .slice A l c, .bool m, .slice B j d, .int .i64 x]) := by
  subst h2; exact ⟨[.bool n, .slice A l c, .bool m, .slice B j d, .int .i64 (ρ 2)], rfl, _, [.bool m, .slice B j d, .int .i64 (ρ 2)], rfl, zHuge hN h0, _, [.int .i64 (ρ 2)], rfl, zHuge hM h1, _, [], rfl, rfl, rfl⟩
def zz : Nat → List Int → Int := fun _ _ => 0
theorem gaps_v {w : World} {n : Bool} {A : Option Addr} {l c : Nat} {m : Bool} {B : Option Addr} {j d : Nat} {L M : List Nat} {x s : Int} (hN : Nums w 0 (.slice A l c) L) (hM : Nums w 0 (.slice B j d) M)
    (hx : -9223372036854775808 ≤ x ∧ x ≤ 9223372036854775807) (hs : -9223372036854775808 ≤ s ∧ s ≤ 9223372036854775807) :
    Calls Tryz.prog 3 #[.agg #[.bool n, .slice A l c, .bool m, .slice B j d, .int .i64 x], .int .i64 s] w fun e w' => e = .returned (.bool true) ∧ Below w.heap.size w w' := by
  have ha : hasA (FD (hE zz)) (ρ4 (ival n (val W L)) (ival m (val W M)) x s) id w gapsS.ps [.agg #[.bool n, .slice A l c, .bool m, .slice B j d, .int .i64 x], .int .i64 s] :=
    ⟨_, _, rfl, juz hN hM rfl rfl rfl, _, _, rfl, rfl, rfl⟩
  have hf : allT (FD (hE zz)) (ρ4 (ival n (val W L)) (ival m (val W M)) x s) gapsS.fs := ⟨jbu hx.1, jbu hx.2, jbu hs.1, jbu hs.2, trivial⟩; obtain ⟨-, -, g⟩ := jq5 (jyl _) (fun n w0 => jeg follows_any _ n w0) (gapsC zz) ha jjm hf; refine g.mono fun e w' ⟨h1, u, h2, h3⟩ => ⟨?_, h1⟩
  have h4 : [u] = [Value.bool true] := h3; rw [h2, List.head_eq_of_cons_eq h4]
end V
end Go.Proofs.YtdglddpigeamaaaGreat
