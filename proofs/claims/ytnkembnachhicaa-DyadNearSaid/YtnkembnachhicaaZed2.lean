/- zed: Neg, Shl, BitLen, Sign: integers. -/
import Derived.Test.YtnkembnachhicaaZed1
set_option linter.unusedVariables false
namespace Go.Proofs.Ytnkembnachhicaa
open Go.RowKit
open L (val dig nth)

theorem zneg_calls (w : World) (n : Bool) (B : Nat) (v : Value) (l : List Nat) (h : Nums w B v l) (hl : l.length ≤ 60000) :
    Calls Try.prog 71 #[.agg #[.bool n, v]] w fun e w' => Below w.heap.size w w' ∧ RetZ w.heap.size (-ival n (val W l)) e w' := by
  have h0 := h
  obtain ⟨A, cap, rfl, -, -, -, hc⟩ := h
  obtain ⟨W0, hW, hbx, hrs, hB0, hs⟩ := start_11 w 24 24 (.bool n) (.slice A l.length cap) (.bool false) (.slice none 0 0)
  have h1 := h0.up hB0
  have HS := hide hs
  have hs2 : w.heap.size + 1 < W0.heap.size := by omega
  clear hs hc
  go_enter Try.func71, Try.ntmps71
  go_wp2_with fail
  rw [← hW]
  clear hW
  obtain ⟨c0, c1, -, -⟩ := hbx.two
  go_region_held3 (fun w' => w'.cell? ⟨w.heap.size, 0, none⟩ = some (.bool n) ∧ w'.cell? ⟨w.heap.size, 1, none⟩ = some (.slice A l.length cap)) (go_keep)
    (first
      | (go_at_call 82; refine (norm_calls _ B _ l h1.drew hl).mono ?_; rintro e w1 ⟨hb1, u, d, rfl, hu, hd⟩
         obtain ⟨A1, cap1, rfl⟩ := hu.form
         have hbx1 := hbx.drew.below hb1 (by simp; omega)
         have hrs1 := hrs.drew.below hb1 (by simp; omega)
         obtain ⟨e0, e1, -, -⟩ := hbx1.two)
      | (go_at_call 81; refine (made_calls _ (!n) _ _ d hu).mono ?_; rintro e w2 ⟨hb2, rfl⟩
         have hbx2 := hbx1.below hb2 hbx1.lt
         have hrs2 := hrs1.below hb2 hrs1.lt
         obtain ⟨f0, f1, -, -⟩ := hbx2.two
         obtain ⟨g0, g1, g2, g3⟩ := hrs2.two))
  go_wp2_with fail
  have s1 := hb1.size
  have s2 := hb2.size
  have s0 := HS.out
  simp at s1
  refine bodyPost_ret (results_int rfl _ _ _ _ _ _ rfl ((hrs2.set_ 0 _).set_ 1 _)) rfl ⟨below2 ((hB0.drew.trans (hb1.mono (by simp; omega))).trans (hb2.mono (by omega))) (by omega) _ _, ?_⟩
  exact (retZ (by simp; omega) (by simp; omega) (hu.below hb2) hd _ _).of (ival_not _ _)

theorem zshl_calls (w : World) (n : Bool) (B : Nat) (v : Value) (l : List Nat) (k : Int) (h : Nums w B v l) (hl : l.length ≤ 60000) (hk0 : -9223372036854775808 ≤ k) (hk1 : k ≤ 9223372036854775807) :
    Calls Try.prog 61 #[.agg #[.bool n, v], .int .i64 k] w fun e w' => Below w.heap.size w w' ∧ RetZ w.heap.size (ival n (val W l) * 2 ^ clampN k) e w' := by
  have h0 := h
  obtain ⟨A, cap, rfl, -, -, -, hc⟩ := h
  obtain ⟨W0, hW, hbx, hrs, hB0, hs⟩ := start_11 w 24 24 (.bool n) (.slice A l.length cap) (.bool false) (.slice none 0 0)
  have h1 := h0.up hB0
  have HS := hide hs
  have hs2 : w.heap.size + 1 < W0.heap.size := by omega
  clear hs hc
  go_enter Try.func61, Try.ntmps61
  go_wp2_with fail
  rw [← hW]
  clear hW
  obtain ⟨c0, c1, -, -⟩ := hbx.two
  go_region_held3 (fun w' => w'.cell? ⟨w.heap.size, 0, none⟩ = some (.bool n) ∧ w'.cell? ⟨w.heap.size, 1, none⟩ = some (.slice A l.length cap)) (go_keep)
    (first
      | (go_at_call 89; refine (shl_calls _ B _ l k h1.drew hl hk0 hk1).mono ?_; rintro e w1 ⟨hb1, u, d, rfl, hu, hd⟩
         obtain ⟨A1, cap1, rfl⟩ := hu.form
         have hbx1 := hbx.drew.below hb1 (by simp; omega)
         have hrs1 := hrs.drew.below hb1 (by simp; omega)
         obtain ⟨e0, e1, -, -⟩ := hbx1.two)
      | (go_at_call 81; refine (made_calls _ n _ _ d hu).mono ?_; rintro e w2 ⟨hb2, rfl⟩
         have hbx2 := hbx1.below hb2 hbx1.lt
         have hrs2 := hrs1.below hb2 hrs1.lt
         obtain ⟨f0, f1, -, -⟩ := hbx2.two
         obtain ⟨g0, g1, g2, g3⟩ := hrs2.two))
  go_wp2_with fail
  have s1 := hb1.size
  have s2 := hb2.size
  have s0 := HS.out
  simp at s1
  refine bodyPost_ret (results_int rfl _ _ _ _ _ _ rfl ((hrs2.set_ 0 _).set_ 1 _)) rfl ⟨below2 ((hB0.drew.trans (hb1.mono (by simp; omega))).trans (hb2.mono (by omega))) (by omega) _ _, ?_⟩
  exact (retZ (by simp; omega) (by simp; omega) (hu.below hb2) hd _ _).of (ival_pow _ _ _)

theorem zbitlen_calls (w : World) (n : Bool) (B : Nat) (v : Value) (l : List Nat) (h : Nums w B v l) (hl : l.length ≤ 60000) :
    Calls Try.prog 74 #[.agg #[.bool n, v]] w fun e w' => Below w.heap.size w w' ∧ e = .returned (.int .i64 (nbits (val W l) : Nat)) := by
  have h0 := h
  obtain ⟨A, cap, rfl, -, -, -, hc⟩ := h
  obtain ⟨W0, hW, hbx, hB0, hs⟩ := start_10 w 24 (.bool n) (.slice A l.length cap)
  have h1 := h0.up hB0
  obtain ⟨c0, c1, -, -⟩ := hbx.two
  clear hs hc
  go_enter Try.func74, Try.ntmps74
  go_upto_region 1 with (fail)
  rw [← hW]
  clear hW
  go_wp2_with fail
  refine (bitlen_calls _ B _ l h1 hl).mono ?_
  rintro e w1 ⟨rfl, rfl⟩
  go_wp2_with fail
  go_ret
  exact ⟨hB0, rfl⟩

theorem zsign_calls (w : World) (n : Bool) (B : Nat) (v : Value) (l : List Nat) (h : Nums w B v l) (hl : l.length ≤ 60000) :
    Calls Try.prog 45 #[.agg #[.bool n, v]] w fun e w' => Below w.heap.size w w' ∧ e = .returned (.int .i64 (ival n (val W l)).sign) := by
  have h0 := h
  obtain ⟨A, cap, rfl, -, -, -, hc⟩ := h
  obtain ⟨W0, hW, hbx, hB0, hs⟩ := start_10 w 24 (.bool n) (.slice A l.length cap)
  have h1 := h0.up hB0
  obtain ⟨c0, c1, -, -⟩ := hbx.two
  have hbl : nbits (val W l) = 0 ↔ val W l = 0 := by
    constructor
    · intro h2
      have := (nbits_le (val W l) 0).1 (by omega)
      omega
    · intro h2; rw [h2]; exact nbits_zero
  have HBL := hide hbl
  clear hs hc hbl
  go_enter Try.func45, Try.ntmps45
  go_upto_region 1 with (fail)
  rw [← hW]
  clear hW
  go_wp2_with fail
  refine (bitlen_calls _ B _ l h1 hl).mono ?_
  rintro e w1 ⟨rfl, rfl⟩
  by_cases hz : val W l = 0
  · have HV : Hid ((ival n (val W l)).sign = 0) := hide (by rw [hz, ival_zero]; rfl)
    have d0 : ((nbits (val W l) : Int) == 0) = true := beq_iff_eq.2 (by have := HBL.out.2 hz; omega)
    clear hz
    go_wp2_with fail
    go_ret
    exact ⟨hB0, ret_int HV.out.symm⟩
  · have d0 : ((nbits (val W l) : Int) == 0) = false := beq_eq_false_iff_ne.2 (by intro h2; exact hz (HBL.out.1 (by omega)))
    cases n with
    | true =>
      have HV : Hid ((ival true (val W l)).sign = -1) := hide (by simp only [ival, if_true]; exact Int.sign_eq_neg_one_of_neg (by omega))
      clear hz
      go_wp2_with fail
      go_ret
      exact ⟨hB0, ret_int HV.out.symm⟩
    | false =>
      have HV : Hid ((ival false (val W l)).sign = 1) := hide (by simp only [ival]; exact Int.sign_eq_one_of_pos (by simp; omega))
      clear hz
      go_wp2_with fail
      go_ret
      exact ⟨hB0, ret_int HV.out.symm⟩
end Go.Proofs.Ytnkembnachhicaa
