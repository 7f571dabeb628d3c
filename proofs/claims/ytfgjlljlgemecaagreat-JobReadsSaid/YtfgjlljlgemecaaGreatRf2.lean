/- bytes.CutPrefix at the job's eight letters. -/
import Derived.WalkKit
import Derived.LoopN
import Derived.Laws.BytesArg
import Derived.Test.YtfgjlljlgemecaaGreatProg
set_option linter.unusedVariables false
set_option linter.unusedSimpArgs false
namespace Go.Proofs.YtfgjlljlgemecaaGreat
open Go.RowKit
def hj : List Int := [72, 65, 73, 82, 74, 79, 66, 49]
theorem strOfNums_inj {xs ys : List Int} (hx : ∀ x ∈ xs, 0 ≤ x ∧ x < 256) (hy : ∀ x ∈ ys, 0 ≤ x ∧ x < 256) (h : strOfNums xs = strOfNums ys) : xs = ys := by
  have h1 : xs.map (fun n => UInt8.ofNat n.toNat) = ys.map (fun n => UInt8.ofNat n.toNat) := by
    have := congrArg (fun s : ByteArray => s.data.toList) h
    exact this
  have back : ∀ l : List Int, (∀ x ∈ l, 0 ≤ x ∧ x < 256) → (l.map (fun n => UInt8.ofNat n.toNat)).map (fun b => (b.toNat : Int)) = l := by
    intro l hl
    rw [List.map_map]
    conv => rhs; rw [← List.map_id l]
    refine List.map_congr_left fun x hx => ?_
    obtain ⟨a, b⟩ := hl x hx
    show ((UInt8.ofNat x.toNat).toNat : Int) = x
    rw [UInt8.toNat_ofNat']
    rw [Nat.mod_eq_of_lt (by omega)]
    omega
  rw [← back xs hx, ← back ys hy, h1]
set_option maxRecDepth 100000 in
set_option maxHeartbeats 4000000 in
theorem cut_calls (w : World) (b off len cap p : Nat) (xs : List Int) (hl : xs.length = len) (hcap : len ≤ cap ∧ cap ≤ 9223372036854775807) (hx : ∀ x ∈ xs, 0 ≤ x ∧ x < 256)
    (hcell : ∀ i, i < len → w.cell? ⟨b, off + i, none⟩ = some (.int .u8 (xs.getD i 0))) (hpre : ∀ i, i < 8 → w.cell? ⟨p, 0 + i, none⟩ = some (.int .u8 (hj.getD i 0))) :
    Calls Tryz.prog 10 #[.slice (some ⟨b, off, none⟩) len cap, .slice (some ⟨p, 0, none⟩) 8 8] w fun e w' => w' = w ∧
      ((8 ≤ len ∧ xs.take 8 = hj ∧ ∃ A c, e = .returned (.tuple #[.slice A (len - 8) c, .bool true]) ∧ (8 < len → A = some ⟨b, off + 8, none⟩ ∧ c = cap - 8)) ∨
        (¬(8 ≤ len ∧ xs.take 8 = hj) ∧ ∃ v, e = .returned (.tuple #[v, .bool false]))) := by
  by_cases h8 : 8 ≤ len
  · have h8i : (8 : Int) ≤ (len : Int) := by omega
    have e1 := run_convert_bytes_arg (P := Tryz.prog) w 22 5 Tryz.underlying22 Tryz.underlying5 b off 8 cap (xs.take 8) (by rw [List.length_take]; omega) (fun i hi => by
      rw [hcell i (by omega)]
      congr 2
      simp [List.getD, List.getElem?_take, hi])
    have e2 := run_convert_bytes_arg (P := Tryz.prog) w 22 5 Tryz.underlying22 Tryz.underlying5 p 0 8 8 hj rfl hpre
    have f1 := e1 _ Tryz.underlying9
    have f2 := e2 _ Tryz.underlying9
    clear e1 e2
    by_cases hp : xs.take 8 = hj
    · rw [hp] at f1
      go_enter Tryz.func10, Tryz.ntmps10
      go_wp2
      · go_ret2
        exact ⟨rfl, _, _, rfl, fun h => absurd h (by omega)⟩
      · go_ret2
        exact ⟨rfl, _, _, rfl, fun h => ⟨rfl, rfl⟩⟩
    · have hne : ((strOfNums (xs.take 8)).toList == (strOfNums hj).toList) = false := by
        rw [Go.ByteArray.toList_eq, Go.ByteArray.toList_eq]
        refine beq_eq_false_iff_ne.2 fun h => hp ?_
        refine strOfNums_inj (fun x hx' => hx x (List.mem_of_mem_take hx')) (by decide) ?_
        exact ByteArray.ext (Array.toList_inj.1 h)
      go_enter Tryz.func10, Tryz.ntmps10
      go_wp2
      go_ret2
      exact ⟨rfl, .inr ⟨fun h => hp h.2, _, rfl⟩⟩
  · have h8i : (len : Int) < 8 := by omega
    go_enter Tryz.func10, Tryz.ntmps10
    go_wp2
    go_ret2
    exact ⟨rfl, _, rfl⟩
end Go.Proofs.YtfgjlljlgemecaaGreat
