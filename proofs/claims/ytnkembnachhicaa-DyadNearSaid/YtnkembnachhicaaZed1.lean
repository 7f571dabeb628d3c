/- zed: made, Norm: integers as they stand. -/
import Derived.Test.YtnkembnachhicaaStruct
set_option linter.unusedVariables false
namespace Go.Proofs.Ytnkembnachhicaa
open Go.RowKit
open L (val dig nth)

theorem made_calls (w : World) (n : Bool) (B : Nat) (v : Value) (l : List Nat) (h : Nums w B v l) :
    Calls Try.prog 81 #[.bool n, v] w fun e w' => Below w.heap.size w w' ∧ e = .returned (.agg #[.bool (n && decide (0 < l.length)), v]) := by
  obtain ⟨A, cap, rfl, -, -, -, hc⟩ := h
  cases n with
  | false =>
    go_enter Try.func81, Try.ntmps81
    go_wp2_with fail
    refine bodyPost_ret (v := .agg #[.bool false, .slice A l.length cap]) (by simp [results, Try.results81, go_sem]) rfl ⟨?_, rfl⟩
    exact (Below.refl _ _).alloc (Nat.le_refl _) _
  | true =>
    go_enter Try.func81, Try.ntmps81
    go_wp2_with fail
    refine bodyPost_ret (v := .agg #[.bool (decide (0 < l.length)), .slice A l.length cap]) (by simp [results, Try.results81, go_sem]) rfl ⟨?_, by rw [Bool.true_and]⟩
    exact (Below.refl _ _).alloc (Nat.le_refl _) _

theorem znorm_calls (w : World) (n : Bool) (B : Nat) (v : Value) (l : List Nat) (h : Nums w B v l) (hl : l.length ≤ 60000) :
    Calls Try.prog 95 #[.agg #[.bool n, v]] w fun e w' => Below w.heap.size w w' ∧ RetZ w.heap.size (ival n (val W l)) e w' := by
  have h0 := h
  obtain ⟨A, cap, rfl, -, -, -, hc⟩ := h
  obtain ⟨W0, hW, hbx, hrs, hB0, hs⟩ := start_11 w 24 24 (.bool n) (.slice A l.length cap) (.bool false) (.slice none 0 0)
  have h1 := h0.keep (w' := W0) (by omega) (fun b o hlt => hB0.cell (p := ⟨b, o, none⟩) hlt)
  have HS := hide hs
  have hs2 : w.heap.size + 1 < W0.heap.size := by omega
  clear hs hc
  go_enter Try.func95, Try.ntmps95
  go_wp2_with fail
  rw [← hW]
  clear hW
  obtain ⟨c0, c1, -, -⟩ := hbx.two
  go_region_held3 (fun w' => w'.cell? ⟨w.heap.size, 0, none⟩ = some (.bool n) ∧ w'.cell? ⟨w.heap.size, 1, none⟩ = some (.slice A l.length cap)) (go_keep)
    (first
      | (go_at_call 82; refine (norm_calls _ B _ l h1.drew hl).mono ?_; rintro e w1 ⟨hb1, u, d, rfl, hu, hd⟩
         obtain ⟨A1, cap1, rfl⟩ := hu.form
         have hbx1 := hbx.drew.below hb1 (by simp; omega)
         have hrs1 := hrs.drew.below hb1 (by simp; omega)
         obtain ⟨e0, e1, -, -⟩ := hbx1.two)
      | (go_at_call 81; refine (made_calls _ n _ _ d hu).mono ?_; rintro e w2 ⟨hb2, rfl⟩
         have hbx2 := hbx1.below hb2 hbx1.lt
         have hrs2 := hrs1.below hb2 hrs1.lt
         obtain ⟨f0, f1, -, -⟩ := hbx2.two
         obtain ⟨g0, g1, g2, g3⟩ := hrs2.two))
  go_wp2_with fail
  have s1 := hb1.size
  have s2 := hb2.size
  have s0 := HS.out
  simp at s1
  refine bodyPost_ret (results_int rfl _ _ _ _ _ _ rfl ((hrs2.set_ 0 _).set_ 1 _)) rfl ⟨below2 ((hB0.drew.trans (hb1.mono (by simp; omega))).trans (hb2.mono (by omega))) (by omega) _ _, ?_⟩
  exact retZ (by simp; omega) (by simp; omega) (hu.below hb2) hd _ _
end Go.Proofs.Ytnkembnachhicaa
