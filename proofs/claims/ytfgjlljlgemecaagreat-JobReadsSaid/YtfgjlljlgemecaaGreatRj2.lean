/- What both read of the same bytes is one. -/
import Derived.Test.YtfgjlljlgemecaaGreatRi2
set_option linter.unusedVariables false
set_option linter.unusedSimpArgs false
namespace Go.Proofs.YtfgjlljlgemecaaGreat
open Go.RowKit
theorem byteAt_nums {xs : List Int} (hx : ∀ x ∈ xs, 0 ≤ x ∧ x < 256) (i : Nat) : byteAt (strOfNums xs) i = xs.getD i 0 := by
  unfold byteAt
  by_cases h : i < xs.length
  · rw [dif_pos (by rw [strOfNums_size]; exact h)]
    have h' : i < (strOfNums xs).size := by rw [strOfNums_size]; exact h
    have e : (strOfNums xs)[i]'h' = UInt8.ofNat (xs[i]).toNat := by
      have h1 : (strOfNums xs).data.toList[i]? = some (UInt8.ofNat (xs[i]).toNat) := by rw [strOfNums_data]; simp [h]
      have h2 : (strOfNums xs).data.toList[i]? = some ((strOfNums xs)[i]'h') := by rw [Array.getElem?_toList]; exact Array.getElem?_eq_getElem _
      exact Option.some.inj (h2.symm.trans h1)
    rw [e]
    obtain ⟨a, b⟩ := hx _ (List.getElem_mem h)
    rw [UInt8.toNat_ofNat', Nat.mod_eq_of_lt (by omega)]
    simp [List.getD, List.getElem?_eq_getElem h]
    omega
  · rw [dif_neg (by rw [strOfNums_size]; exact h)]
    simp [List.getD, List.getElem?_eq_none (by omega : xs.length ≤ i)]
theorem numS_nums {xs : List Int} (hx : ∀ x ∈ xs, 0 ≤ x ∧ x < 256) (j : Nat) : numS (strOfNums xs) j = numJ xs j := by
  unfold numS numJ
  rw [show byteAt (strOfNums xs) = fun i => xs.getD i 0 from funext (byteAt_nums hx)]
theorem okV_eq (n0 n1 n2 n3 n4 : Int) : okV n0 n1 n2 n3 n4 = .tuple #[.agg #[.int .i64 (wrap64 n0), .int .i64 (wrap64 (wrap64 n1 + -64)), .int .u64 n2, .int .u64 n3, .int .i64 (wrap64 n4)], .int .i64 0] := by
  unfold okV
  rw [Int.sub_eq_add_neg]
theorem letters_iff {xs : List Int} (hx : ∀ x ∈ xs, 0 ≤ x ∧ x < 256) : (((strOfNums xs).extract 0 8).toList == [72, 65, 73, 82, 74, 79, 66, 49]) = true ↔ xs.take 8 = hj := by
  rw [beq_iff_eq, Go.ByteArray.toList_eq]
  have e : ((strOfNums xs).extract 0 8).data.toList = (strOfNums (xs.take 8)).data.toList := by
    simp [strOfNums, List.map_take]
  rw [e]
  constructor
  · intro h
    refine strOfNums_inj (fun x hx' => hx x (List.mem_of_mem_take hx')) (by decide) ?_
    refine ByteArray.ext (Array.toList_inj.1 ?_)
    rw [h]
    rfl
  · intro h
    rw [h]
    rfl
theorem refOut_nums {xs : List Int} (hx : ∀ x ∈ xs, 0 ≤ x ∧ x < 256) : refOut (strOfNums xs) = if xs.length = 48 ∧ xs.take 8 = hj then rdOut xs else badV := by
  unfold refOut
  rw [strOfNums_size]
  simp only [letters_iff hx, numS_nums hx]
  by_cases h : xs.length = 48 ∧ xs.take 8 = hj
  · rw [if_pos h, if_pos h]
    unfold rdOut
    by_cases hn : numJ xs 0 ≤ 65535 ∧ numJ xs 1 ≤ 65535 ∧ numJ xs 4 ≤ 65535
    · rw [if_pos hn, if_pos hn, okV_eq]
    · rw [if_neg hn, if_neg hn]
      rfl
  · rw [if_neg h, if_neg h]
end Go.Proofs.YtfgjlljlgemecaaGreat
