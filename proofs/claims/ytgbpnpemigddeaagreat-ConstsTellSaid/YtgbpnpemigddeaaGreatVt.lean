/- V: hairlineref05.Times, hairlineref06, hairlineref07; hairlinelaw07.ConstsTell. -/
import Derived.Test.YtgbpnpemigddeaaGreatVg
import Derived.Test.YtgbpnpemigddeaaGreatVl7
import Derived.Test.YtgbpnpemigddeaaGreatUg
import Derived.Test.YtgbpnpemigddeaaGreatUn
import Derived.Test.YtgbpnpemigddeaaGreatBa6
set_option linter.unusedVariables false
set_option linter.unusedSimpArgs false
namespace Go.Proofs.YtgbpnpemigddeaaGreat
open Go.RowKit Go.Shelf
namespace V
section
variable (h : Nat → List Int → Int)
def tmS (f : FuncId) : Spec := dsp f [bA 400 false (.v 0) (.v 1) (.v 2), vz 400 false (.v 3)] 4 [.le (.n 0) (.v 2), .le (.v 2) (.n 2048), rightL (.v 0) (.v 1), .le (.n 0) (.v 3)] (.tup [.ag [.z 800 true (.mul (.v 0) (.v 3)), .z 800 true (.mul (.v 1) (.v 3)), .i .i64 (.v 2)], .sc (.i .i64 (.n 0))])
theorem tmOK : SpecOK Tryz.prog (FD h) (tmS 16) := by
  intro ρ β w vs ha _ hf; obtain ⟨v, u, rfl, hv, hu⟩ := args2 ha; obtain ⟨n, A, l, c, n', A', l', c', rfl, q1, q2⟩ := ju3 hv; obtain ⟨m, B, j, d, rfl, q3, -⟩ := jb1 (k := 400) (c := false) (t := .v 3) rfl hu; obtain ⟨h0, h1, h2, h3, -⟩ := hf; have g0 : 0 ≤ ρ 2 := jaj h0; have g1 : ρ 2 ≤ 2048 := jaj h1; have g2 : cmpZ (ρ 0) (ρ 1) ≤ 0 := jaj h2; have g3 : 0 ≤ ρ 3 := jaj h3; rw [jb9] at g2; have g4 := Int.mul_le_mul_of_nonneg_right g2 g3; refine ⟨trivial, (jh7 _ q1 q2 q3 (by omega)).mono fun e w' ⟨k1, k2⟩ => ⟨k1, ?_⟩⟩
  have e0 : rightB ((T.v 0).den (FD h) ρ) ((T.v 1).den (FD h) ρ) ((T.v 2).den (FD h) ρ) = true := by
    show rightB (ρ 0) (ρ 1) (ρ 2) = true
    unfold rightB Proofs.YtgbpnpemigddeaaGreat.mayQ; simp [g2, g0, g1]
  rw [e0] at k2; have k3 : RetB w.heap.size (400 + 400) (min (ρ 0 * ρ 3) (ρ 1 * ρ 3)) (max (ρ 0 * ρ 3) (ρ 1 * ρ 3)) (ρ 2) 0 e w' := k2; rw [Int.min_eq_left g4, Int.max_eq_right g4] at k3; exact resB k3 rfl rfl rfl rfl
noncomputable def rAtanh : Ctr Tryz.prog (FD h) := ctrRow 15 (by kernel_rfl) 34 1 atanhLo atanhHi (fun _ _ _ _ => rfl) (fun _ _ _ _ => rfl) fun hq hk => jip hq hk
noncomputable def rAtan : Ctr Tryz.prog (FD h) := ctrRow 57 (by kernel_rfl) 36 1 atanLo atanHi (fun _ _ _ _ => rfl) (fun _ _ _ _ => rfl) fun hq hk => jj2 hq hk
noncomputable def ct1 : List (Ctr Tryz.prog (FD h)) :=
  rAtanh h ::
  rAtan h ::
  Ctr.lem (jat (by kernel_rfl)) (tmOK h) ::
  cons2 (hD h)
noncomputable def ct2 : List (Ctr Tryz.prog (FD h)) :=
  inl (ct1 h) 48 (by kernel_rfl) ::
  inl (ct1 h) 52 (by kernel_rfl) ::
  inl (ct1 h) 9 (by kernel_rfl) ::
  inl (ct1 h) 14 (by kernel_rfl) ::
  ct1 h
noncomputable def ct3 : List (Ctr Tryz.prog (FD h)) :=
  inl (ct2 h) 53 (by kernel_rfl) ::
  inl (ct2 h) 58 (by kernel_rfl) ::
  inl (ct2 h) 21 (by kernel_rfl) ::
  ct2 h
noncomputable def ct4 : List (Ctr Tryz.prog (FD h)) :=
  inl (ct3 h) 18 (by kernel_rfl) ::
  inl (ct3 h) 22 (by kernel_rfl) ::
  ct3 h
def piA' : T := .sub (.mul (atLo 5) (.n 16)) (.mul (atHi 239) (.n 4))
def piB' : T := .sub (.mul (atHi 5) (.n 16)) (.mul (atLo 239) (.n 4))
def piL3 : List T := piL2 ++ [rightL (.mul (atLo 239) (.n 4)) (.mul (atHi 239) (.n 4)), rightL piA' piB']
theorem jsw (ρ : Nat → Int) (hp : allT (FD h) ρ q0F) : allT (FD h) ρ piL3 := by
  obtain ⟨q, e, hq⟩ := jqj hp; have d1 : (atLo 5).den (FD h) ρ = atLoZ 5 q := by rw [← e]; rfl
  have d2 : (atHi 5).den (FD h) ρ = atHiZ 5 q := by rw [← e]; rfl
  have d3 : (atLo 239).den (FD h) ρ = atLoZ 239 q := by rw [← e]; rfl
  have d4 : (atHi 239).den (FD h) ρ = atHiZ 239 q := by rw [← e]; rfl
  have h1 := jrh q hq; have h2 := jl2 q hq; refine jaz (jrk (hD h) ρ hp) ⟨jbu ?_, jbu ?_, trivial⟩
  · rw [jb3, jb3, jcb, d3, d4]; omega
  · show (atLo 5).den (FD h) ρ * 16 - (atHi 239).den (FD h) ρ * 4 ≤ (atHi 5).den (FD h) ρ * 16 - (atLo 239).den (FD h) ρ * 4
    rw [d1, d2, d3, d4]; omega
def cR3 : Rs := { rs := cR.rs ++ [⟨[], nf R0 [] (ap2 1 piA' dq), ap1 50 (.v 0)⟩, ⟨[], nf R0 [] (.sub (.n 0) (ap2 1 (.sub (.n 0) piB') dq)), ap1 51 (.v 0)⟩], ft := cR.ft }
theorem juc : RsOK (FD h) cR3 := by
  have hc := jqk (hD h); refine ⟨fun r hr ρ hp => ?_, hc.ft⟩
  rcases List.mem_append.1 hr with hr | hr
  · exact hc.rs r hr ρ hp
  · have k : ∀ t : T, (nf R0 [] t).den (FD h) ρ = t.den (FD h) ρ := fun t => (ja2 (jhw _) (fs := []) trivial t).1
    simp only [List.mem_cons, List.not_mem_nil, or_false] at hr
    rcases hr with rfl | rfl
    · rw [k]
      show ((atLo 5).den (FD h) ρ * 16 - (atHi 239).den (FD h) ρ * 4) / dq.den (FD h) ρ = ((atLo 5).den (FD h) ρ * 16 + (0 - (atHi 239).den (FD h) ρ * 4)) / dq.den (FD h) ρ
      congr 1
      omega
    · rw [k]
      show 0 - (0 - ((atHi 5).den (FD h) ρ * 16 - (atLo 239).den (FD h) ρ * 4)) / dq.den (FD h) ρ = 0 - (0 - ((atHi 5).den (FD h) ρ * 16 + (0 - (atLo 239).den (FD h) ρ * 4))) / dq.den (FD h) ρ
      congr 2
      omega
def ln2R : Spec := { ln2N with f := 6 }
def piR : Spec := { piN2 with f := 8 }
theorem ln2RC : checkF (P := Tryz.prog) (ct4 h) cR [] (drawX (ct4 h)) { ln2R with fs := lnL2 ++ ln2R.fs } = true := by kernel_rfl
theorem piRC : checkF (P := Tryz.prog) (ct4 h) cR3 [] (drawX (ct4 h)) { piR with fs := piL3 ++ piR.fs } = true := by kernel_rfl
noncomputable def rLn2 : Ctr Tryz.prog (FD h) := Ctr.ofL (jqk (hD h)) follows_any lnL2 (jrj (hD h)) (ln2RC h)
noncomputable def rPi : Ctr Tryz.prog (FD h) := Ctr.ofL (juc h) follows_any piL3 (jsw h) (piRC h)
noncomputable def tl1 : List (Ctr Tryz.prog (FD h)) :=
  law7b (hD h) ++
  [rLn2 h, rPi h,
  inl (cons1 (hC (hD h))) 5 (by kernel_rfl),
  inl (cons1 (hC (hD h))) 7 (by kernel_rfl),
  inl (ct4 h) 6 (by kernel_rfl),
  inl (ct4 h) 8 (by kernel_rfl),
  inl (ct1 h) 9 (by kernel_rfl)]
end
def tellS (c : List T) : Spec := { f := 3, ps := [i64 (.v 0)], bx := [], np := 1, fs := c, res := .one (.sc (.b (.n 1))), post := [] }
def tlA : List T := [.le (.n 0) (.v 0), .le (.v 0) (.n 200)]
def tlB : List T := [.le (.n 0) (.v 0), .lt (.n 200) (.v 0), .le (.v 0) (.n 900)]
def tlC : List T := [.lt (.v 0) (.n 0)]
def tlD : List T := [.le (.n 0) (.v 0), .lt (.n 900) (.v 0)]
theorem tellA (h : Nat → List Int → Int) : checkF (P := Tryz.prog) (tl1 h) R0 [] (drawX (tl1 h)) (tellS tlA) = true := by kernel_rfl
theorem tellB (h : Nat → List Int → Int) : checkF (P := Tryz.prog) (tl1 h) R0 [] (drawX (tl1 h)) (tellS tlB) = true := by kernel_rfl
theorem tellC (h : Nat → List Int → Int) : checkF (P := Tryz.prog) (tl1 h) R0 [] (drawX (tl1 h)) (tellS tlC) = true := by kernel_rfl
theorem tellD (h : Nat → List Int → Int) : checkF (P := Tryz.prog) (tl1 h) R0 [] (drawX (tl1 h)) (tellS tlD) = true := by kernel_rfl
theorem tell_v {w : World} (q : Int) : Calls Tryz.prog 3 #[.int .i64 q] w fun e w' => e = .returned (.bool true) ∧ Below w.heap.size w w' := by
  have ha : hasA (FD g0) (fun _ => q) id w [i64 (.v 0)] [.int .i64 q] := ⟨_, _, rfl, rfl, rfl⟩
  have fin : ∀ {e : Ending} {w' : World}, (Below w.heap.size w w' ∧ ∃ u, e = .returned u ∧ (A.one (.sc (.b (.n 1)))).has (FD g0) (fun _ => q) id w' u) → e = .returned (.bool true) ∧ Below w.heap.size w w' := fun ⟨h1, u, h2, h3⟩ => by
    have h4 : [u] = [Value.bool true] := h3; rw [h2, List.head_eq_of_cons_eq h4]; exact ⟨rfl, h1⟩
  by_cases h0 : q < 0
  · obtain ⟨-, -, k⟩ := ji1 (jhw _) (fun n w0 => jb6 follows_any _ n w0) (tellC g0) ha jej ⟨jqg h0, trivial⟩
    exact k.mono fun e w' h => fin h
  · by_cases h9 : 900 < q
    · obtain ⟨-, -, k⟩ := ji1 (jhw _) (fun n w0 => jb6 follows_any _ n w0) (tellD g0) ha jej ⟨jbw (show (0 : Int) ≤ q by omega), jqg h9, trivial⟩
      exact k.mono fun e w' h => fin h
    · by_cases h2 : 200 < q
      · obtain ⟨-, -, k⟩ := ji1 (jhw _) (fun n w0 => jb6 follows_any _ n w0) (tellB g0) ha jej ⟨jbw (show (0 : Int) ≤ q by omega), jqg h2, jbw (show q ≤ (900 : Int) by omega), trivial⟩
        exact k.mono fun e w' h => fin h
      · obtain ⟨-, -, k⟩ := ji1 (jhw _) (fun n w0 => jb6 follows_any _ n w0) (tellA g0) ha jej ⟨jbw (show (0 : Int) ≤ q by omega), jbw (show q ≤ (200 : Int) by omega), trivial⟩
        exact k.mono fun e w' h => fin h
end V
end Go.Proofs.YtgbpnpemigddeaaGreat
