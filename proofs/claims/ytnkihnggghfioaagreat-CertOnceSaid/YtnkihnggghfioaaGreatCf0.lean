/- cert.Read: what it tells, and how it is left. cert.Read: its loop's plain side. -/
import Derived.Test.YtnkihnggghfioaaGreatCe7
import Derived.Test.YtnkihnggghfioaaGreatRg2
set_option linter.unusedVariables false
set_option linter.unusedSimpArgs false
namespace Go.Proofs.YtnkihnggghfioaaGreat
section
section
open Go.RowKit Go.Shelf
def jobOk (l : List UInt8) : Prop := nums (l.take 8) = hj ∧ numJ (nums l) 0 ≤ 65535 ∧ numJ (nums l) 1 ≤ 65535 ∧ numJ (nums l) 4 ≤ 65535
def pHits : Nat → List UInt8 → Option (List UInt8)
  | 0, l => some l
  | k + 1, l => (pHits k l).bind fun t => (pHit t).map fun y => y.2
abbrev Dy := Bool × List Nat × Int
def pTail (n : Nat) (t : List UInt8) : Option (Nat × Dy × Dy) := (pDyad t).bind fun x => (pDyad x.2).bind fun y => if 0 < y.2.length then none else some (n, x.1, y.1)
def pBody (l : List UInt8) : Option (Nat × Dy × Dy) := (pBelow 4 2048 l).bind fun n => (pHits n.1 n.2).bind (pTail n.1)
open Classical in
noncomputable def certP (l : List UInt8) : Option (Nat × Dy × Dy) :=
  if 68 ≤ l.length ∧ nums (l.take 8) = hcL ∧ (le (l.drop (l.length - 8)) : Int) = csum (l.take (l.length - 8)) ∧ jobOk ((l.drop 8).take 48) then pBody ((l.take (l.length - 8)).drop 56) else none
def rdJob (xs : List Int) : Value := .agg #[.int .i64 (wrap64 (numJ xs 0)), .int .i64 (wrap64 (wrap64 (numJ xs 1) + -64)), .int .u64 (numJ xs 2), .int .u64 (numJ xs 3), .int .i64 (wrap64 (numJ xs 4))]
def dyC : Array Value := #[.bool false, .slice none 0 0, .int .i64 0]
def RdOut (l : List UInt8) (e : Ending) : Prop :=
  (certP l = none ∧ e = .returned (.tuple #[.agg jobC, .slice none 0 0, .agg dyC, .agg dyC, .int .i64 7])) ∨
    (∃ n A c x y xA xc yA yc, certP l = some (n, x, y) ∧ (xc ≤ maxLen ∧ yc ≤ maxLen) ∧ e = .returned (.tuple #[rdJob (nums ((l.drop 8).take 48)), .slice A n c, .agg #[.bool x.1, .slice xA x.2.1.length xc, .int .i64 x.2.2], .agg #[.bool y.1, .slice yA y.2.1.length yc, .int .i64 y.2.2], .int .i64 0]))
theorem jj9 (w : World) (b o c : Nat) (q : List UInt8) (hl : q.length = 48) (hb : b < w.heap.size) (hcap : 48 ≤ c ∧ c ≤ 9223372036854775807) (hra : w.rangeAt b o (cel q)) :
    Calls Tryz.prog 13 #[.slice (some ⟨b, o, none⟩) 48 c] w fun e w' => Below w.heap.size w w' ∧ ((jobOk q ∧ e = .returned (.tuple #[rdJob (nums q), .int .i64 0])) ∨ (¬jobOk q ∧ e = .returned (.tuple #[.agg jobC, .int .i64 7]))) := by
  have hn : (nums q).length = 48 := by unfold nums; rw [List.length_map, hl]
  have hbyte : ∀ x ∈ nums q, 0 ≤ x ∧ x < 256 := fun x hx => by
    obtain ⟨y, -, rfl⟩ := List.mem_map.1 hx; have := y.toNat_lt
    constructor <;> omega
  have hcell : ∀ i, i < 48 → w.cell? ⟨b, o + i, none⟩ = some (.int .u8 ((nums q).getD i 0)) := fun i hi => by
    obtain ⟨x, hx⟩ : ∃ x, q[i]? = some x := ⟨_, List.getElem?_eq_getElem (by omega)⟩; rw [show (nums q).getD i 0 = (x.toNat : Int) by unfold nums; rw [List.getD_eq_getElem?_getD, List.getElem?_map, hx]; rfl]; exact hra i _ (by unfold cel; rw [List.getElem?_map, hx]; rfl)
  have ht : (nums q).take 8 = nums (q.take 8) := by unfold nums; rw [List.map_take]
  by_cases hp : (nums q).take 8 = hj
  · refine (readOk w b o c (nums q) hn hp hb hcap hbyte hcell).mono ?_
    rintro e w' ⟨rfl, hB⟩; refine ⟨hB, ?_⟩; unfold rdOut
    by_cases h : numJ (nums q) 0 ≤ 65535 ∧ numJ (nums q) 1 ≤ 65535 ∧ numJ (nums q) 4 ≤ 65535
    · rw [if_pos h]
      exact .inl ⟨⟨by rw [← ht]; exact hp, h⟩, rfl⟩
    · rw [if_neg h]
      exact .inr ⟨fun k => h k.2, rfl⟩
  · refine (readBad w (some ⟨b, o, none⟩) 48 c fun W0 hB0 hpre => ?_).mono ?_
    · refine (jjk W0 b o 48 c (w.heap.size + 1) (nums q) hn hcap hbyte (fun i hi => (World.cell?_of_block (w := w) (a := ⟨b, o + i, none⟩) (hB0.block b hb)).trans (hcell i hi)) hpre).mono ?_
      rintro e w' ⟨rfl, ⟨-, h, -⟩ | ⟨-, v, rfl⟩⟩
      · exact absurd h hp
      · exact ⟨rfl, .inl ⟨v, rfl⟩⟩
    · rintro e w' ⟨rfl, hB⟩
      exact ⟨hB, .inr ⟨fun k => hp (by rw [ht]; exact k.1), rfl⟩⟩
structure Five (w : World) (J : Nat) (cj cl cx cy ce : Array Value) : Prop where
  j : w.heap[J]? = some (.cells cj 27)
  l : w.heap[J + 1]? = some (.cells cl 28)
  x : w.heap[J + 2]? = some (.cells cx 33)
  y : w.heap[J + 3]? = some (.cells cy 33)
  e : w.heap[J + 4]? = some (.cells ce 34)
theorem Five.drew {w : World} {J : Nat} {cj cl cx cy ce : Array Value} (h : Five w J cj cl cx cy ce) : Five w.drew J cj cl cx cy ce := ⟨h.j, h.l, h.x, h.y, h.e⟩
theorem Five.chg {w w' : World} {J : Nat} {cj cl cx cy ce : Array Value} {F : Nat → Prop} (h : Five w J cj cl cx cy ce) (k : Chg F w w') (hF : ∀ q, J ≤ q → q ≤ J + 4 → ¬F q) : Five w' J cj cl cx cy ce := by
  have hs := (Array.getElem?_eq_some_iff.1 h.e).1; exact ⟨(k.block _ (by omega) (hF _ (by omega) (by omega))).trans h.j, (k.block _ (by omega) (hF _ (by omega) (by omega))).trans h.l, (k.block _ (by omega) (hF _ (by omega) (by omega))).trans h.x, (k.block _ (by omega) (hF _ (by omega) (by omega))).trans h.y, (k.block _ (by omega) (hF _ (by omega) (by omega))).trans h.e⟩
theorem Five.over {w w' : World} {J : Nat} {cj cl cx cy ce : Array Value} (h : Five w J cj cl cx cy ce) (k : Below w.heap.size w w') : Five w' J cj cl cx cy ce := h.chg (F := fun _ => False) (Chg.of_below k) fun _ _ _ h => h
theorem jnz {w w' : World} {J : Nat} {k0 k1 k2 k3 k4 ke j0 j1 j2 j3 j4 ev : Value} {cl cx cy : Array Value} (h : Five w J #[k0, k1, k2, k3, k4] cl cx cy #[ke])
    (hw : (((((w.setCell ⟨J, 0, none⟩ j0).setCell ⟨J, 1, none⟩ j1).setCell ⟨J, 2, none⟩ j2).setCell ⟨J, 3, none⟩ j3).setCell ⟨J, 4, none⟩ j4).setCell ⟨J + 4, 0, none⟩ ev = w') :
    Five w' J #[j0, j1, j2, j3, j4] cl cx cy #[ev] ∧ Chg (fun q => J ≤ q ∧ q ≤ J + 4) w w' := by
  obtain ⟨u, hu⟩ : ∃ u, ((((w.setCell ⟨J, 0, none⟩ j0).setCell ⟨J, 1, none⟩ j1).setCell ⟨J, 2, none⟩ j2).setCell ⟨J, 3, none⟩ j3).setCell ⟨J, 4, none⟩ j4 = u := ⟨_, rfl⟩; have h1 := (jet h.j (v0 := j0) (v1 := j1) (v2 := j2) (v3 := j3) (v4 := j4)).1; have oj : Onl J w u := by rw [← hu]; exact (((only_set.trans only_set).trans only_set).trans only_set).trans only_set
  rw [hu] at hw h1; have oe : Onl (J + 4) u w' := by rw [← hw]; exact only_set
  refine ⟨⟨(oe.block _ (by omega)).trans h1, (oe.block _ (by omega)).trans ((oj.block _ (by omega)).trans h.l), (oe.block _ (by omega)).trans ((oj.block _ (by omega)).trans h.x), (oe.block _ (by omega)).trans ((oj.block _ (by omega)).trans h.y), ?_⟩,
    (oj.chg (F := fun q => J ≤ q ∧ q ≤ J + 4) (by constructor <;> omega)).trans (oe.chg (by constructor <;> omega))⟩
  rw [← hw]; exact jae (o := 0) ((oj.block _ (by omega)).trans h.e)
def doorT (J : Nat) : Deferred := { target := .fn (.func 9) #[.pointer (some ⟨J, 0, none⟩), .pointer (some ⟨J + 1, 0, none⟩), .pointer (some ⟨J + 2, 0, none⟩), .pointer (some ⟨J + 3, 0, none⟩), .pointer (some ⟨J + 4, 0, none⟩)], args := #[] }
def ptrs (tmps : Array Value) (J : Nat) : Prop := tmps[2]? = some (.pointer (some ⟨J, 0, none⟩)) ∧ tmps[3]? = some (.pointer (some ⟨J + 1, 0, none⟩)) ∧ tmps[4]? = some (.pointer (some ⟨J + 2, 0, none⟩)) ∧ tmps[5]? = some (.pointer (some ⟨J + 3, 0, none⟩)) ∧ tmps[6]? = some (.pointer (some ⟨J + 4, 0, none⟩))
theorem jqw {w W0 : World} (h : ((((w.alloc (.cells jobC 27)).alloc (.cells #[.slice none 0 0] 28)).alloc (.cells dyC 33)).alloc (.cells dyC 33)).alloc (.cells #[.int .i64 0] 34) = W0) :
    Five W0 w.heap.size #[.int .i64 0, .int .i64 0, .int .u64 0, .int .u64 0, .int .i64 0] #[.slice none 0 0] #[.bool false, .slice none 0 0, .int .i64 0] #[.bool false, .slice none 0 0, .int .i64 0] #[.int .i64 0] ∧ Below w.heap.size w W0 := by
  obtain ⟨a, ha⟩ : ∃ a, w.alloc (.cells jobC 27) = a := ⟨_, rfl⟩; obtain ⟨b, hb⟩ : ∃ b, a.alloc (.cells #[.slice none 0 0] 28) = b := ⟨_, rfl⟩; obtain ⟨c, hc⟩ : ∃ c, b.alloc (.cells dyC 33) = c := ⟨_, rfl⟩; obtain ⟨d, hd⟩ : ∃ d, c.alloc (.cells dyC 33) = d := ⟨_, rfl⟩; rw [ha, hb, hc, hd] at h; have A := ha ▸ jac w (.cells jobC 27); have B := hb ▸ jac a (.cells #[.slice none 0 0] 28); have C := hc ▸ jac b (.cells dyC 33); have D := hd ▸ jac c (.cells dyC 33); have E := h ▸ jac d (.cells #[.int .i64 0] 34); have sa : a.heap.size = w.heap.size + 1 := by rw [← ha]; exact World.size_alloc ..
  have sb : b.heap.size = a.heap.size + 1 := by rw [← hb]; exact World.size_alloc ..
  have sc : c.heap.size = b.heap.size + 1 := by rw [← hc]; exact World.size_alloc ..
  have sd : d.heap.size = c.heap.size + 1 := by rw [← hd]; exact World.size_alloc ..
  have n0 : a.heap[w.heap.size]? = some (.cells jobC 27) := by rw [← ha]; exact heap_alloc_new w _
  have n1 : b.heap[a.heap.size]? = some (.cells #[.slice none 0 0] 28) := by rw [← hb]; exact heap_alloc_new a _
  have n2 : c.heap[b.heap.size]? = some (.cells dyC 33) := by rw [← hc]; exact heap_alloc_new b _
  have n3 : d.heap[c.heap.size]? = some (.cells dyC 33) := by rw [← hd]; exact heap_alloc_new c _
  have n4 : W0.heap[d.heap.size]? = some (.cells #[.int .i64 0] 34) := by rw [← h]; exact heap_alloc_new d _
  rw [sa] at n1; rw [sb, sa] at n2; rw [sc, sb, sa] at n3; rw [sd, sc, sb, sa] at n4; refine ⟨⟨?_, ?_, ?_, ?_, n4⟩, ?_⟩
  · exact (E.block _ (by omega)).trans ((D.block _ (by omega)).trans ((C.block _ (by omega)).trans ((B.block _ (by omega)).trans n0)))
  · exact (E.block _ (by omega)).trans ((D.block _ (by omega)).trans ((C.block _ (by omega)).trans n1))
  · exact (E.block _ (by omega)).trans ((D.block _ (by omega)).trans n2)
  · exact (E.block _ (by omega)).trans n3
  · exact (((A.trans (B.mono (by omega))).trans (C.mono (by omega))).trans (D.mono (by omega))).trans (E.mono (by omega))
theorem jfg {w : World} {J : Nat} {j0 j1 j2 j3 j4 l0 x0 x1 x2 y0 y1 y2 e0 : Value} (h : Five w J #[j0, j1, j2, j3, j4] #[l0] #[x0, x1, x2] #[y0, y1, y2] #[e0]) {tmps : Array Value} (hp : ptrs tmps J) :
    (results Tryz.f6 tmps).run Tryz.prog w = .ok (.tuple #[.agg #[j0, j1, j2, j3, j4], l0, .agg #[x0, x1, x2], .agg #[y0, y1, y2], e0]) w := by
  obtain ⟨p0, p1, p2, p3, p4⟩ := hp; have a0 : w.cell? ⟨J, 0, none⟩ = some j0 := jaa h.j rfl; have a1 : w.cell? ⟨J, 1, none⟩ = some j1 := jaa h.j rfl; have a2 : w.cell? ⟨J, 2, none⟩ = some j2 := jaa h.j rfl; have a3 : w.cell? ⟨J, 3, none⟩ = some j3 := jaa h.j rfl; have a4 : w.cell? ⟨J, 4, none⟩ = some j4 := jaa h.j rfl; have b0 : w.cell? ⟨J + 1, 0, none⟩ = some l0 := jaa h.l rfl; have c0 : w.cell? ⟨J + 2, 0, none⟩ = some x0 := jaa h.x rfl; have c1 : w.cell? ⟨J + 2, 1, none⟩ = some x1 := jaa h.x rfl; have c2 : w.cell? ⟨J + 2, 2, none⟩ = some x2 := jaa h.x rfl; have d0 : w.cell? ⟨J + 3, 0, none⟩ = some y0 := jaa h.y rfl; have d1 : w.cell? ⟨J + 3, 1, none⟩ = some y1 := jaa h.y rfl; have d2 : w.cell? ⟨J + 3, 2, none⟩ = some y2 := jaa h.y rfl; have e0' : w.cell? ⟨J + 4, 0, none⟩ = some e0 := jaa h.e rfl; clear h; simp [results, Tryz.f6, go_sem, p0, p1, p2, p3, p4, a0, a1, a2, a3, a4, b0, c0, c1, c2, d0, d1, d2, e0']
theorem jba {w w' : World} {J : Nat} {l : List UInt8} {j0 j1 j2 j3 j4 l0 x0 x1 x2 y0 y1 y2 e0 : Value} (h : Five w' J #[j0, j1, j2, j3, j4] #[l0] #[x0, x1, x2] #[y0, y1, y2] #[e0])
    (hB : Below J w w') (hJ : w.heap.size = J) {tmps : Array Value} (hp : ptrs tmps J) (hc : certP l = none) :
    Leaves Tryz.prog Tryz.f6 tmps (fun e w2 => Below J w w2 ∧ RdOut l e) [doorT J] (.panicking [{ v := formP, recovered := false }]) w' := by
  refine leaves_cons (f := 9) (args := #[.pointer (some ⟨J, 0, none⟩), .pointer (some ⟨J + 1, 0, none⟩), .pointer (some ⟨J + 2, 0, none⟩), .pointer (some ⟨J + 3, 0, none⟩), .pointer (some ⟨J + 4, 0, none⟩)]) (by simp) (by simp [go_sem]) ?_; refine (jm6 J w' _ _ _ _ _ _ _ _ _ _ _ _ _ [] h.j h.l h.x h.y h.e).mono ?_; rintro e u' w'' ⟨rfl, rfl, hC, k0, k1, k2, k3, k4⟩; have hr := jfg ⟨k0, k1, k2, k3, k4⟩ hp; refine ⟨_, hr, ?_, .inl ⟨hc, rfl⟩⟩; subst hJ; exact ⟨hC.os.trans hB.os, hC.tape.trans hB.tape, hC.output.trans hB.output, Nat.le_trans hB.size hC.size, fun k hk => (hC.block k (Nat.lt_of_lt_of_le hk hB.size) (by omega)).trans (hB.block k hk)⟩
theorem jka {w w' : World} {J : Nat} {l : List UInt8} {n c : Nat} {A : Option Addr} {j0 j1 j2 j3 j4 : Value} {x y : Dy} {xA yA : Option Addr} {xc yc : Nat} (h : Five w' J #[j0, j1, j2, j3, j4] #[.slice A n c] #[.bool x.1, .slice xA x.2.1.length xc, .int .i64 x.2.2] #[.bool y.1, .slice yA y.2.1.length yc, .int .i64 y.2.2] #[.int .i64 0])
    (hB : Below J w w') {tmps : Array Value} (hp : ptrs tmps J) (hc : certP l = some (n, x, y)) (hxy : xc ≤ maxLen ∧ yc ≤ maxLen) (hj : .agg #[j0, j1, j2, j3, j4] = rdJob (nums ((l.drop 8).take 48))) :
    Leaves Tryz.prog Tryz.f6 tmps (fun e w2 => Below J w w2 ∧ RdOut l e) [doorT J] .returning w' := by
  refine leaves_cons (f := 9) (args := #[.pointer (some ⟨J, 0, none⟩), .pointer (some ⟨J + 1, 0, none⟩), .pointer (some ⟨J + 2, 0, none⟩), .pointer (some ⟨J + 3, 0, none⟩), .pointer (some ⟨J + 4, 0, none⟩)]) (by simp) (by simp [go_sem]) ?_; refine (jnx _ _ _ _ _ w').mono ?_; rintro e u' w'' ⟨rfl, rfl, rfl⟩; have hr := jfg h hp; exact ⟨_, hr, hB, .inr ⟨n, A, c, x, y, xA, xc, yA, yc, hc, hxy, by rw [hj]⟩⟩
end
end
section
section
open Go.RowKit Go.Shelf
theorem jn0 {w : World} {base : Nat} {e : TypeId} {size n : Nat} {v : Value} {xs : List Value} (h : w.ownsRow base e size v n xs) : ∃ A c, Hid (c ≤ maxLen) ∧ v = .slice A n c := by
  rcases h.2 with ⟨rfl, h1⟩ | ⟨g, cap, cur, rfl, -, -, -, hcm, -⟩
  · exact ⟨none, 0, hideK (Nat.zero_le _), by rw [h1]⟩
  · exact ⟨_, cap, hideK hcm, rfl⟩
theorem infH : (Tryz.prog.info? 58).map (fun i => (i.zero, i.size, i.bytes)) = some (some (.agg #[.int .u64 0, .bool false, .slice none 0 0, .bool false, .slice none 0 0, .int .i64 0, .int .i64 0, .int .i64 0, .int .i64 0, .bool false, .slice none 0 0, .bool false, .slice none 0 0, .bool false]), 14, 176) := by kernel_rfl
theorem jh2 {most : Nat} {l : List UInt8} {x : Bool × List Nat} {t : List UInt8} (h : pInt most l = some (x, t)) : t.length ≤ l.length := (jh1 h).2.2
theorem jqx {l t : List UInt8} (h : pHit l = some ((), t)) : t.length ≤ l.length := by
  unfold pHit at h
  cases e1 : pNum 8 l with
  | none => rw [e1] at h; cases h
  | some a =>
    rw [e1] at h
    change (pBelow 4 131071 a.2).bind _ = _ at h
    cases e2 : pBelow 4 131071 a.2 with
    | none => rw [e2] at h; cases h
    | some k =>
      rw [e2] at h
      change (pBelow 4 2048 k.2).bind _ = _ at h
      cases e3 : pBelow 4 2048 k.2 with
      | none => rw [e3] at h; cases h
      | some q =>
        rw [e3] at h
        change (pInt 64 q.2).bind _ = _ at h
        cases e4 : pInt 64 q.2 with
        | none => rw [e4] at h; cases h
        | some x =>
          rw [e4] at h
          change (pInt 64 x.2).map _ = _ at h
          cases e5 : pInt 64 x.2 with
          | none => rw [e5] at h; cases h
          | some y =>
            rw [e5] at h; injection h with h
            injection h with h1 h2
            have a1 := (jc0 (by decide) (show pNum 8 l = some (a.1, a.2) from e1)).2.2; have a2 := jbe (show pBelow 4 131071 a.2 = some (k.1, k.2) from e2); have a3 := jbe (show pBelow 4 2048 k.2 = some (q.1, q.2) from e3); have a4 := jh2 (show pInt 64 q.2 = some (x.1, x.2) from e4); have a5 := jh2 (show pInt 64 x.2 = some (y.1, y.2) from e5); rw [← h2]
            omega
theorem jiu : ∀ (k : Nat) (l t : List UInt8), pHits k l = some t → t.length ≤ l.length
  | 0, l, t, h => by
    injection h with h
    rw [h]; exact Nat.le_refl _
  | k + 1, l, t, h => by
    rw [pHits] at h
    cases e : pHits k l with
    | none => rw [e] at h; cases h
    | some p =>
      rw [e] at h
      change (pHit p).map _ = _ at h
      cases e2 : pHit p with
      | none => rw [e2] at h; cases h
      | some q =>
        rw [e2] at h; injection h with h
        have := jiu k l p e; have := jqx (show pHit p = some ((), q.2) from e2); rw [← h]
        show q.2.length ≤ _
        omega
theorem jg9 {k : Nat} {l : List UInt8} (h : pHits k l = none) : ∀ j, pHits (k + j) l = none
  | 0 => h
  | j + 1 => by
    rw [← Nat.add_assoc, pHits, jg9 h j]
    rfl
theorem jiv {w w' : World} {J : Nat} {cj cx cy ce : Array Value} {l0 lv : Value} (h : Five w J cj #[l0] cx cy ce) (hw : w.setCell ⟨J + 1, 0, none⟩ lv = w') : Five w' J cj #[lv] cx cy ce ∧ Onl (J + 1) w w' := by
  have o : Onl (J + 1) w w' := by rw [← hw]; exact only_set
  refine ⟨⟨(o.block _ (by omega)).trans h.j, ?_, (o.block _ (by omega)).trans h.x, (o.block _ (by omega)).trans h.y, (o.block _ (by omega)).trans h.e⟩, o⟩; rw [← hw]; exact jae (o := 0) h.l
theorem jiw {l t : List UInt8} {x : Bool × List Nat × Int} (h : pDyad l = some (x, t)) : t.length ≤ l.length := by
  unfold pDyad at h
  cases e1 : pInt 65535 l with
  | none => rw [e1] at h; cases h
  | some m =>
    rw [e1] at h
    change (pNum 4 m.2).bind _ = _ at h
    cases e2 : pNum 4 m.2 with
    | none => rw [e2] at h; cases h
    | some e =>
      rw [e2] at h
      change (if _ then some _ else none) = _ at h
      split at h
      · injection h with h
        injection h with h1 h2
        have a1 := jh2 (show pInt 65535 l = some (m.1, m.2) from e1); have a2 := (jc0 (by decide) (show pNum 4 m.2 = some (e.1, e.2) from e2)).2.2; rw [← h2]
        omega
      · cases h
theorem jeg {w w' : World} {b : Nat} {c0 c1 c2 v0 v1 v2 : Value} {t : TypeId} (h : w.heap[b]? = some (.cells #[c0, c1, c2] t)) (hw : ((w.setCell ⟨b, 0, none⟩ v0).setCell ⟨b, 1, none⟩ v1).setCell ⟨b, 2, none⟩ v2 = w') :
    w'.heap[b]? = some (.cells #[v0, v1, v2] t) ∧ Onl b w w' := by
  have h1 := jae (o := 0) (v := v0) h; have h2 := jae (o := 1) (v := v1) h1; rw [← hw]; exact ⟨jae (o := 2) (v := v2) h2, (only_set.trans only_set).trans only_set⟩
theorem jsb {w w' : World} {J : Nat} {cj cl cy ce : Array Value} {c0 c1 c2 v0 v1 v2 : Value} (h : Five w J cj cl #[c0, c1, c2] cy ce) (hw : ((w.setCell ⟨J + 2, 0, none⟩ v0).setCell ⟨J + 2, 1, none⟩ v1).setCell ⟨J + 2, 2, none⟩ v2 = w') :
    Five w' J cj cl #[v0, v1, v2] cy ce ∧ Onl (J + 2) w w' := by
  obtain ⟨h1, o⟩ := jeg h.x hw; exact ⟨⟨(o.block _ (by omega)).trans h.j, (o.block _ (by omega)).trans h.l, h1, (o.block _ (by omega)).trans h.y, (o.block _ (by omega)).trans h.e⟩, o⟩
theorem jsc {w w' : World} {J : Nat} {cj cl cx ce : Array Value} {c0 c1 c2 v0 v1 v2 : Value} (h : Five w J cj cl cx #[c0, c1, c2] ce) (hw : ((w.setCell ⟨J + 3, 0, none⟩ v0).setCell ⟨J + 3, 1, none⟩ v1).setCell ⟨J + 3, 2, none⟩ v2 = w') :
    Five w' J cj cl cx #[v0, v1, v2] ce ∧ Onl (J + 3) w w' := by
  obtain ⟨h1, o⟩ := jeg h.y hw; exact ⟨⟨(o.block _ (by omega)).trans h.j, (o.block _ (by omega)).trans h.l, (o.block _ (by omega)).trans h.x, h1, (o.block _ (by omega)).trans h.e⟩, o⟩
theorem jva {w w' : World} {J : Nat} {k0 k1 k2 k3 k4 j0 j1 j2 j3 j4 : Value} {cl cx cy ce : Array Value} (h : Five w J #[k0, k1, k2, k3, k4] cl cx cy ce)
    (hw : ((((w.setCell ⟨J, 0, none⟩ j0).setCell ⟨J, 1, none⟩ j1).setCell ⟨J, 2, none⟩ j2).setCell ⟨J, 3, none⟩ j3).setCell ⟨J, 4, none⟩ j4 = w') : Five w' J #[j0, j1, j2, j3, j4] cl cx cy ce ∧ Onl J w w' := by
  have h1 := (jet h.j (v0 := j0) (v1 := j1) (v2 := j2) (v3 := j3) (v4 := j4)).1; have o : Onl J w w' := by rw [← hw]; exact (((only_set.trans only_set).trans only_set).trans only_set).trans only_set
  rw [hw] at h1; exact ⟨⟨h1, (o.block _ (by omega)).trans h.l, (o.block _ (by omega)).trans h.x, (o.block _ (by omega)).trans h.y, (o.block _ (by omega)).trans h.e⟩, o⟩
theorem jvb {w w' : World} {J : Nat} {cj cl cx cy : Array Value} {e0 ev : Value} (h : Five w J cj cl cx cy #[e0]) (hw : w.setCell ⟨J + 4, 0, none⟩ ev = w') : Five w' J cj cl cx cy #[ev] ∧ Onl (J + 4) w w' := by
  have o : Onl (J + 4) w w' := by rw [← hw]; exact only_set
  refine ⟨⟨(o.block _ (by omega)).trans h.j, (o.block _ (by omega)).trans h.l, (o.block _ (by omega)).trans h.x, (o.block _ (by omega)).trans h.y, ?_⟩, o⟩; rw [← hw]; exact jae (o := 0) h.e
end
end
end Go.Proofs.YtnkihnggghfioaaGreat