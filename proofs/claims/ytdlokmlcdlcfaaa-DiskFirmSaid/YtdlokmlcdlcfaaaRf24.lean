/- The document's disk: Read. -/
import Derived.Test.YtdlokmlcdlcfaaaRf23
set_option linter.unusedVariables false
set_option linter.unusedSimpArgs false
namespace Go.Proofs.Ytdlokmlcdlcfaaa
open Go.RowKit Go.MapKept
def rreadV (d : DS) (i : Int) : Value := if d.at_ i = 0 then .tuple #[.string (bstr (d.look i)), .int .i64 0] else .tuple #[.string ⟨#[]⟩, .int .i64 (d.at_ i)]
set_option maxRecDepth 100000 in
set_option maxHeartbeats 4000000 in
theorem rread_calls {w : World} {R : Nat} {F : Nat → Prop} {d : DS} (h : RefAt w R F d) (hn : d.loose.length ≤ 1000000) (i : Int) :
    Calls Try.prog 22 #[.pointer (some ⟨R, 0, none⟩), .int .i64 i] w fun e w' => e = .returned (rreadV d i) ∧ w' = w := by
  obtain ⟨fv, lv, kv, hM, ho, fR, ff, fl, fk, hlt⟩ := h
  obtain ⟨c0, c1, c2, c3, c4⟩ := hM.cell
  unfold rreadV
  obtain ⟨N, hN⟩ : ∃ N, d.n.toNat = N := ⟨_, rfl⟩
  have hNn : d.n = (N : Int) := by have := ho.n; omega
  have hF := hM.firm
  rw [hN] at hF
  obtain ⟨g, cap, rfl, -, hgl⟩ := hF.form (by have := ho.n; omega)
  obtain ⟨A, c, hlv⟩ := row_form hM.loose
  subst hlv
  have hat : d.at_ i = if d.down then 6 else if i < 0 ∨ (N : Int) ≤ i then 1 else 0 := by unfold DS.at_; rw [hNn]
  cases hdn : d.down
  · rw [hdn] at c2 hat
    by_cases h0 : i < 0
    · rw [if_neg (by simp), if_pos (.inl h0)] at hat
      rw [hat, if_neg (by decide)]
      clear hM hF
      go_enter Try.func22, Try.ntmps22
      go_wp2_with fail
      go_ret2
      exact ⟨rfl, rfl⟩
    · by_cases h1 : (N : Int) ≤ i
      · rw [if_neg (by simp), if_pos (.inr h1)] at hat
        rw [hat, if_neg (by decide)]
        clear hM hF
        go_enter Try.func22, Try.ntmps22
        go_wp2_with fail
        go_ret2
        exact ⟨rfl, rfl⟩
      · rw [if_neg (by simp), if_neg (by omega)] at hat
        rw [hat, if_pos rfl]
        have h0' : 0 ≤ i := by omega
        have h1' : i < (N : Int) := by omega
        obtain ⟨e4, -⟩ := firm_cell hF i ⟨h0', h1'⟩
        go_enter Try.func22, Try.ntmps22
        go_wp2_with fail
        go_loopw [7, 6] (fun a b wr => ∃ k : Nat, k ≤ d.loose.length ∧ a = .int .i64 (k : Int) ∧ b = .string (bstr (DS.put d.firm (d.loose.take k) i)) ∧ wr = w) (fun a _ _ => d.loose.length - (intOf a).toNat)
        case atStart => exact ⟨0, Nat.zero_le _, rfl, rfl, rfl⟩
        case round =>
          obtain ⟨k, hk, rfl, rfl, rfl⟩ := hrel
          by_cases hkl : k < d.loose.length
          · obtain ⟨x, hx⟩ : ∃ x, d.loose[k]? = some x := ⟨_, List.getElem?_eq_getElem hkl⟩
            obtain ⟨gl, cl, hgv, hg1, hg2⟩ := rloose_at hM.loose hx
            injection hgv with hA hlen hc
            subst hA hc
            have hki : (k : Int) < (d.loose.length : Int) := by omega
            have hk0 : (0 : Int) ≤ (k : Int) := by omega
            have hkb : (k : Int) ≤ 1000000 := by omega
            have hpt := congrFun (DS.put_take hx d.firm) i
            by_cases hxi : x.1 = i
            · have he : (x.1 == i) = true := by simpa using hxi
              have hpt2 : x.2 = DS.put d.firm (d.loose.take (k + 1)) i := by rw [hpt, if_pos hxi.symm]
              have hxi := hideK hxi
              clear hM hF hpt
              have hpt2 := hideK hpt2
              go_wp2_with fail
              exact ⟨⟨k + 1, by omega, rfl, by first | rfl | rw [hpt2.out], by first | rfl | trivial⟩, by simp only [intOf]; omega⟩
            · have he : (x.1 == i) = false := by simpa using hxi
              have hpt2 : DS.put d.firm (d.loose.take k) i = DS.put d.firm (d.loose.take (k + 1)) i := by rw [hpt, if_neg (fun e => hxi e.symm)]
              have hxi := hideK hxi
              clear hM hF hpt
              have hpt2 := hideK hpt2
              go_wp2_with fail
              exact ⟨⟨k + 1, by omega, rfl, by first | rfl | rw [hpt2.out], by first | rfl | trivial⟩, by simp only [intOf]; omega⟩
          · obtain rfl : k = d.loose.length := by omega
            rw [List.take_length]
            clear hM hF
            go_wp2_with fail
            go_ret2
            exact ⟨rfl, rfl⟩
  · rw [hdn] at c2 hat
    rw [if_pos rfl] at hat
    rw [hat, if_neg (by decide)]
    clear hM hF
    go_enter Try.func22, Try.ntmps22
    go_wp2_with fail
    go_ret2
    exact ⟨rfl, rfl⟩
end Go.Proofs.Ytdlokmlcdlcfaaa
