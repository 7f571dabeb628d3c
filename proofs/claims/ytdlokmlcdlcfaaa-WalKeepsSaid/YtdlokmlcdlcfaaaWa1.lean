/- wal: sum, sectors. -/
import Derived.Test.YtdlokmlcdlcfaaaDl1
set_option linter.unusedVariables false
set_option linter.unusedSimpArgs false
namespace Go.Proofs.Ytdlokmlcdlcfaaa
open Go.RowKit Go.MapKept
/-- A sum goes on by a byte. -/
def wone (h : Int) (b : UInt8) : Int := IntKind.u64.wrap (bits .xor .u64 h (IntKind.u64.wrap (b.toNat : Int)) * 1099511628211)
def wsum (h : Int) (l : List UInt8) : Int := l.foldl wone h
set_option maxRecDepth 100000 in
set_option maxHeartbeats 2000000 in
theorem sum_calls (w : World) (h : Int) (v : Value) (l : List UInt8) (hv : Sl w v (cel l)) (hl : l.length ≤ 140737488355328) :
    Calls Try.prog 55 #[.int .u64 h, v] w fun e w' => e = .returned (.int .u64 (wsum h l)) ∧ w' = w := by
  obtain ⟨A, c, rfl, hv1, hv2, hv3, hv4⟩ := hv
  rw [cel_length] at hv1 hv3 hv4 ⊢
  go_enter Try.func55, Try.ntmps55
  go_wp2_with fail
  go_loopw [0, 9] (fun a b wr => ∃ k : Nat, k ≤ l.length ∧ a = .int .u64 (wsum h (l.take k)) ∧ b = .int .i64 (k : Int) ∧ wr = w) (fun _ b _ => l.length - (intOf b).toNat)
  case atStart => exact ⟨0, Nat.zero_le _, rfl, rfl, rfl⟩
  case round =>
    obtain ⟨k, hk, rfl, rfl, rfl⟩ := hrel
    by_cases hkl : k < l.length
    · have hki : (k : Int) < (l.length : Int) := by omega
      have hk0 : (0 : Int) ≤ (k : Int) := by omega
      have hkb : (k : Int) ≤ 140737488355328 := by omega
      obtain ⟨b, o, rfl, hb, hr⟩ := hv4 (by omega)
      obtain ⟨x, hx⟩ : ∃ x, l[k]? = some x := ⟨_, List.getElem?_eq_getElem hkl⟩
      have hc : wr.cell? ⟨b, o + k, none⟩ = some (.int .u8 (x.toNat : Int)) := hr k _ (by unfold cel; rw [List.getElem?_map, hx]; rfl)
      have hstep : wsum h (l.take (k + 1)) = wone (wsum h (l.take k)) x := by
        unfold wsum
        rw [List.take_add_one, hx, Option.toList_some, List.foldl_append]
        rfl
      go_wp2_with fail
      exact ⟨⟨k + 1, by omega, by rw [hstep, wone], rfl, trivial⟩, by simp only [intOf]; omega⟩
    · obtain rfl : k = l.length := by omega
      rw [List.take_length]
      go_wp2_with fail
      go_ret
      exact ⟨rfl, rfl⟩
theorem sectors_calls (w : World) (n : Nat) (hn : n ≤ 140737488355328) :
    Calls Try.prog 43 #[.int .i64 (n : Int)] w fun e w' => e = .returned (.int .i64 (((n + 511) / 512 : Nat) : Int)) ∧ w' = w := by
  have h1 : ((n : Int) + 512 - 1).tdiv 512 = (((n + 511) / 512 : Nat) : Int) := by
    rw [Int.tdiv_eq_ediv_of_nonneg (by omega)]
    omega
  go_enter Try.func43, Try.ntmps43
  go_wp2_with fail
  go_ret
  exact ⟨rfl, rfl⟩
end Go.Proofs.Ytdlokmlcdlcfaaa
