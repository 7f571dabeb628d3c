/- slices.MinFunc and slices.MaxFunc of integers. -/
import Derived.Test.YtllgjggkchgpbaaGreatBa1
set_option linter.unusedVariables false
set_option linter.unusedSimpArgs false
namespace Go.Proofs.YtllgjggkchgpbaaGreat
open Go.RowKit
open L (val dig nth)
theorem jmf {a:Int} (h:a<0):a.sign<0:=by rw [Int.sign_eq_neg_one_of_neg h];omega
theorem jmg {a:Int} (h:a.sign<0):a<0:=by
  rcases Int.lt_or_le a 0 with h1 | h1
  · exact h1
  · rcases Int.lt_or_eq_of_le h1 with h2 | h2
    · rw [Int.sign_eq_one_of_pos h2] at h;omega
    · rw [←h2] at h;exact absurd h (by decide)
def QB (w:World) (B k:Nat) (n:Bool) (A:Option Addr) (len cap:Nat) (z:Int):Prop:=∃d,Nums w B (.slice A len cap) d∧d.length≤k∧Canon d z.natAbs∧n=decide (z<0)
section
variable {w w':World} {B k:Nat} {n:Bool} {A:Option Addr} {len cap:Nat} {z:Int}
theorem QB.qc (h:QB w B k n A len cap z):QC w k n A len cap z:=by
  obtain ⟨d,h1,h2,h3,h4⟩:=h;exact ⟨d,h1.mono (Nat.zero_le _),h2,h3,h4⟩
theorem QB.q (h:QB w B k n A len cap z):Q w k n A len cap z:=h.qc.q
theorem QB.below (h:QB w B k n A len cap z) (hb:Below w.heap.size w w'):QB w' B k n A len cap z:=by
  obtain ⟨d,h1,h2,h3⟩:=h;exact ⟨d,h1.below hb,h2,h3⟩
theorem QB.drew (h:QB w B k n A len cap z):QB w.drew B k n A len cap z:=h
theorem QB.mono {B':Nat} (h:QB w B k n A len cap z) (hB:B'≤B):QB w B' k n A len cap z:=by
  obtain ⟨d,h1,h2,h3⟩:=h;exact ⟨d,h1.mono hB,h2,h3⟩
theorem QB.low2 (h:QB w B k n A len cap z) {r:Nat} (hr:r<B) (x y:Value):QB ((w.setCell ⟨r,0,none⟩ x).setCell ⟨r,1,none⟩ y) B k n A len cap z:=by
  obtain ⟨d,h1,h2,h3⟩:=h;exact ⟨d,jaf h1 hr x y,h2,h3⟩
theorem QB.low (h:QB w B k n A len cap z) {p:Addr} (hr:p.block<B) (x:Value):QB (w.setCell p x) B k n A len cap z:=by
  obtain ⟨d,h1,h2,h3⟩:=h;exact ⟨d,h1.set_low hr x,h2,h3⟩
theorem QB.zero (w:World) (B k:Nat):QB w B k false none 0 0 0:=⟨[],Nums.nil _ _,Nat.zero_le _,(L.dig_zero W).symm,rfl⟩
theorem QB.up (h:QB w B k n A len cap z) {k':Nat} (hk:k≤k'):QB w B k' n A len cap z:=by
  obtain ⟨d,h1,h2,h3⟩:=h;exact ⟨d,h1,Nat.le_trans h2 hk,h3⟩
end
theorem RetZ.qb {w:World} {B k:Nat} {A:Option Addr} {c:Nat} {z:Int} {d:List Nat} (hu:Nums w B (.slice A d.length c) d) (hd:Canon d z.natAbs) (hz:z.natAbs<W^k):QB w B k (decide (z<0)) A d.length c z:=
  ⟨d,hu,by rw [hd.len];exact hz,hd,rfl⟩
structure Ints (w:World) (k B g m:Nat) (N:Nat→Bool) (As:Nat→Option Addr) (ls cs:Nat→Nat) (zs:Nat→Int):Prop where
  lt:g<w.heap.size
  c0:∀i,i<m→w.cell? ⟨g,i*2,none⟩=some (.bool (N i))
  c1:∀i,i<m→w.cell? ⟨g,i*2+1,none⟩=some (.slice (As i) (ls i) (cs i))
  q:∀i,i<m→QB w B k (N i) (As i) (ls i) (cs i) (zs i)
theorem Ints.below {w w':World} {k B g m:Nat} {N:Nat→Bool} {As:Nat→Option Addr} {ls cs:Nat→Nat} {zs:Nat→Int} (h:Ints w k B g m N As ls cs zs) (hb:Below w.heap.size w w'):Ints w' k B g m N As ls cs zs:=
  ⟨Nat.lt_of_lt_of_le h.lt hb.size,fun i hi=>(hb.cell (p:=⟨g,i*2,none⟩) h.lt).trans (h.c0 i hi),fun i hi=>(hb.cell (p:=⟨g,i*2+1,none⟩) h.lt).trans (h.c1 i hi),fun i hi=>(h.q i hi).below hb⟩
set_option maxHeartbeats 2000000 in
set_option maxRecDepth 100000 in
theorem jdh {w:World} {k B g m:Nat} {N:Nat→Bool} {As:Nat→Option Addr} {ls cs:Nat→Nat} {zs:Nat→Int} (h:Ints w k B g m N As ls cs zs) (hm:1≤m) (hm1:m≤1000) (hk:k≤30000) :
    Calls Tryz.prog 274 #[.slice (some ⟨g,0,none⟩) m m,.func (.func 36) #[] #[]] w fun e w'=>Below w.heap.size w w'∧
      ∃j,j<m∧e=.returned (.agg #[.bool (N j),.slice (As j) (ls j) (cs j)])∧∀i,i<m→zs j≤zs i:=by
  obtain ⟨W0,hW,hrs,hB0,hs⟩:=start1 w 26 #[.bool false,.slice none 0 0];have h0:=h.below hB0;obtain ⟨W1,hW1,hmb,hB1,hs1⟩:=start1 W0 26 #[.bool (N 0),.slice (As 0) (ls 0) (cs 0)];have h1:=h0.below hB1;have hrs1:=hrs.below hB1 hrs.lt;have HB1:=hide (hB0.trans (hB1.mono hB0.size));have hsz:W1.heap.size=w.heap.size+2:=by omega
  have HS:=hide hs;have a0:=h0.c0 0 hm;have a1:=h0.c1 0 hm;have hgl:=h.lt;have HQ:=hide h.q;have HC0:=hide h1.c0;have HC1:=hide h1.c1;have hge:¬ ((m:Int)<1):=by omega
  have a0':W0.cell? ⟨g,0,none⟩=some (.bool (N 0)):=a0;have a1':W0.cell? ⟨g,1,none⟩=some (.slice (As 0) (ls 0) (cs 0)):=a1;clear hs hs1 a0 a1 h0 h1 hB0 hB1
  go_enter Tryz.func274,Tryz.ntmps274
  go_upto_region 1 with (fail)
  rw [←hW];clear hW
  go_upto_region 4 with (fail)
  rw [←hW1];clear hW1
  go_wp2_with fail
  go_loopw [6] (fun i_ wr=>∃i j:Nat,i_=.int .i64 i∧j<i∧i≤m∧Blk wr W0.heap.size 26 #[.bool (N j),.slice (As j) (ls j) (cs j)]∧Blk wr w.heap.size 26 #[.bool false,.slice none 0 0]∧Hid (Below w.heap.size w wr)∧Hid (∀i',i'<i→zs j≤zs i')) (fun i_ _=>m - (intOf i_).toNat)
  case atStart=>exact ⟨1,0,rfl,by omega,hm,hmb,hrs1,HB1,hide (fun i' hi'=>by rw [show i'=0 from by omega];exact Int.le_refl _)⟩
  case round=>
    clear HC0 HC1 a0' a1' hmb hrs1 HB1;obtain ⟨i,j,rfl,hji,him,hmb,hrs,HB,HM⟩:=hrel;have hsr:=hmb.lt
    by_cases hlt:i<m
    · have hI:=h.below HB.out
      have a0:=hI.c0 i hlt;have a1:=hI.c1 i hlt;have HC:=hide (jn2 (hI.q i hlt).q.drew (hI.q j (by omega)).q.drew (by omega) (by omega));obtain ⟨c,HCC⟩:∃c,Hid (cmpZ (zs i) (zs j)=c):=⟨_,hide rfl⟩;rw [HCC.out] at HC;have hil:(i:Int)<(m:Int):=by omega
      obtain ⟨b0,b1,b2,b3⟩:=hmb.two;have hs0:w.heap.size<W0.heap.size:=by have:=HS.out;omega
      have hne:¬ W0.heap.size=w.heap.size:=by omega
      have hne2:¬ w.heap.size=W0.heap.size:=by omega
      have hne3:¬ g=W0.heap.size:=by omega
      have HBI:=hide hI;clear hI
      go_wp2_with fail
      go_region_held3 (fun w'=>w'.cell? ⟨g,i*2,none⟩=some (.bool (N i))∧w'.cell? ⟨g,i*2+1,none⟩=some (.slice (As i) (ls i) (cs i))∧w'.cell? ⟨W0.heap.size,0,none⟩=some (.bool (N j))∧w'.cell? ⟨W0.heap.size,1,none⟩=some (.slice (As j) (ls j) (cs j))) (go_keep)
        ((go_at_call 36;(with_reducible refine HC.out.mono ?_);rintro e w1 ⟨hb1,rfl⟩
          have mb1:=hmb.drew.below hb1 hmb.lt;have rs1:=hrs.drew.below hb1 hrs.lt;have HB1:=hide (HB.out.drew.trans (hb1.mono HB.out.size));have hI1:=h.below HB1.out;have d0:=hI1.c0 i hlt;have d1:=hI1.c1 i hlt;obtain ⟨e0,e1,e2,e3⟩:=mb1.two))
      by_cases hc:zs i<zs j
      · have hc':c<0:=by rw [←HCC.out,jgf];exact jmf (by omega)
        go_wp2_with fail
        go_roundw
        case rel=>
          exact ⟨i+1,i,by go_num,by omega,by omega,jai mb1,jao rs1 hne2 _ _,hide (below2 HB1.out (by omega) _ _),hide (fun i' hi'=>by
            rcases Nat.lt_or_ge i' i with h1 | h1
            · have:=HM.out i' h1;omega
            · rw [show i'=i from by omega];exact Int.le_refl _)⟩
        case measure=>simp [intOf];omega
      · have hc':¬ c<0:=by
          have:=jce (zs j) (zs i);rw [←HCC.out,jgf];intro hs;have:=jmg hs
          omega
        go_wp2_with fail
        go_roundw
        case rel=>
          exact ⟨i+1,j,by go_num,by omega,by omega,mb1,rs1,HB1,hide (fun i' hi'=>by
            rcases Nat.lt_or_ge i' i with h1 | h1
            · exact HM.out i' h1
            · rw [show i'=i from by omega];omega)⟩
        case measure=>simp [intOf];omega
    · have hmi:i=m:=by omega
      have hil:¬ ((i:Int)<(m:Int)):=by omega
      have hs0:w.heap.size<W0.heap.size:=by have:=HS.out;omega
      have hne:¬ W0.heap.size=w.heap.size:=by omega
      obtain ⟨b0,b1,b2,b3⟩:=hmb.two;obtain ⟨r0,r1,r2,r3⟩:=hrs.two
      go_wp2_with fail
      refine bodyPost_ret (jah rfl _ _ _ _ _ _ rfl (jai hrs)) rfl ⟨below2 HB.out (Nat.le_refl _) _ _,j,by omega,rfl,fun i' hi'=>HM.out i' (by omega)⟩
set_option maxHeartbeats 2000000 in
set_option maxRecDepth 100000 in
theorem jdi {w:World} {k B g m:Nat} {N:Nat→Bool} {As:Nat→Option Addr} {ls cs:Nat→Nat} {zs:Nat→Int} (h:Ints w k B g m N As ls cs zs) (hm:1≤m) (hm1:m≤1000) (hk:k≤30000) :
    Calls Tryz.prog 275 #[.slice (some ⟨g,0,none⟩) m m,.func (.func 36) #[] #[]] w fun e w'=>Below w.heap.size w w'∧
      ∃j,j<m∧e=.returned (.agg #[.bool (N j),.slice (As j) (ls j) (cs j)])∧∀i,i<m→zs i≤zs j:=by
  obtain ⟨W0,hW,hrs,hB0,hs⟩:=start1 w 26 #[.bool false,.slice none 0 0];have h0:=h.below hB0;obtain ⟨W1,hW1,hmb,hB1,hs1⟩:=start1 W0 26 #[.bool (N 0),.slice (As 0) (ls 0) (cs 0)];have h1:=h0.below hB1;have hrs1:=hrs.below hB1 hrs.lt;have HB1:=hide (hB0.trans (hB1.mono hB0.size));have hsz:W1.heap.size=w.heap.size+2:=by omega
  have HS:=hide hs;have a0:=h0.c0 0 hm;have a1:=h0.c1 0 hm;have hgl:=h.lt;have HQ:=hide h.q;have HC0:=hide h1.c0;have HC1:=hide h1.c1;have hge:¬ ((m:Int)<1):=by omega
  have a0':W0.cell? ⟨g,0,none⟩=some (.bool (N 0)):=a0;have a1':W0.cell? ⟨g,1,none⟩=some (.slice (As 0) (ls 0) (cs 0)):=a1;clear hs hs1 a0 a1 h0 h1 hB0 hB1
  go_enter Tryz.func275,Tryz.ntmps275
  go_upto_region 1 with (fail)
  rw [←hW];clear hW
  go_upto_region 4 with (fail)
  rw [←hW1];clear hW1
  go_wp2_with fail
  go_loopw [6] (fun i_ wr=>∃i j:Nat,i_=.int .i64 i∧j<i∧i≤m∧Blk wr W0.heap.size 26 #[.bool (N j),.slice (As j) (ls j) (cs j)]∧Blk wr w.heap.size 26 #[.bool false,.slice none 0 0]∧Hid (Below w.heap.size w wr)∧Hid (∀i',i'<i→zs i'≤zs j)) (fun i_ _=>m - (intOf i_).toNat)
  case atStart=>exact ⟨1,0,rfl,by omega,hm,hmb,hrs1,HB1,hide (fun i' hi'=>by rw [show i'=0 from by omega];exact Int.le_refl _)⟩
  case round=>
    clear HC0 HC1 a0' a1' hmb hrs1 HB1;obtain ⟨i,j,rfl,hji,him,hmb,hrs,HB,HM⟩:=hrel;have hsr:=hmb.lt
    by_cases hlt:i<m
    · have hI:=h.below HB.out
      have a0:=hI.c0 i hlt;have a1:=hI.c1 i hlt;have HC:=hide (jn2 (hI.q i hlt).q.drew (hI.q j (by omega)).q.drew (by omega) (by omega));obtain ⟨c,HCC⟩:∃c,Hid (cmpZ (zs i) (zs j)=c):=⟨_,hide rfl⟩;rw [HCC.out] at HC;have hil:(i:Int)<(m:Int):=by omega
      obtain ⟨b0,b1,b2,b3⟩:=hmb.two;have hs0:w.heap.size<W0.heap.size:=by have:=HS.out;omega
      have hne:¬ W0.heap.size=w.heap.size:=by omega
      have hne2:¬ w.heap.size=W0.heap.size:=by omega
      have hne3:¬ g=W0.heap.size:=by omega
      have HBI:=hide hI;clear hI
      go_wp2_with fail
      go_region_held3 (fun w'=>w'.cell? ⟨g,i*2,none⟩=some (.bool (N i))∧w'.cell? ⟨g,i*2+1,none⟩=some (.slice (As i) (ls i) (cs i))∧w'.cell? ⟨W0.heap.size,0,none⟩=some (.bool (N j))∧w'.cell? ⟨W0.heap.size,1,none⟩=some (.slice (As j) (ls j) (cs j))) (go_keep)
        ((go_at_call 36;(with_reducible refine HC.out.mono ?_);rintro e w1 ⟨hb1,rfl⟩
          have mb1:=hmb.drew.below hb1 hmb.lt;have rs1:=hrs.drew.below hb1 hrs.lt;have HB1:=hide (HB.out.drew.trans (hb1.mono HB.out.size));have hI1:=h.below HB1.out;have d0:=hI1.c0 i hlt;have d1:=hI1.c1 i hlt;obtain ⟨e0,e1,e2,e3⟩:=mb1.two))
      by_cases hc:zs j<zs i
      · have hc':0<c:=by rw [←HCC.out,jgf,Int.sign_eq_one_of_pos (by omega)];omega
        go_wp2_with fail
        go_roundw
        case rel=>
          exact ⟨i+1,i,by go_num,by omega,by omega,jai mb1,jao rs1 hne2 _ _,hide (below2 HB1.out (by omega) _ _),hide (fun i' hi'=>by
            rcases Nat.lt_or_ge i' i with h1 | h1
            · have:=HM.out i' h1;omega
            · rw [show i'=i from by omega];exact Int.le_refl _)⟩
        case measure=>simp [intOf];omega
      · have hc':¬ 0<c:=by
          rw [←HCC.out];have:=(jce (zs i) (zs j)).2 (by omega)
          omega
        go_wp2_with fail
        go_roundw
        case rel=>
          exact ⟨i+1,j,by go_num,by omega,by omega,mb1,rs1,HB1,hide (fun i' hi'=>by
            rcases Nat.lt_or_ge i' i with h1 | h1
            · exact HM.out i' h1
            · rw [show i'=i from by omega];omega)⟩
        case measure=>simp [intOf];omega
    · have hmi:i=m:=by omega
      have hil:¬ ((i:Int)<(m:Int)):=by omega
      have hs0:w.heap.size<W0.heap.size:=by have:=HS.out;omega
      have hne:¬ W0.heap.size=w.heap.size:=by omega
      obtain ⟨b0,b1,b2,b3⟩:=hmb.two;obtain ⟨r0,r1,r2,r3⟩:=hrs.two
      go_wp2_with fail
      refine bodyPost_ret (jah rfl _ _ _ _ _ _ rfl (jai hrs)) rfl ⟨below2 HB.out (Nat.le_refl _) _ _,j,by omega,rfl,fun i' hi'=>HM.out i' (by omega)⟩
end Go.Proofs.YtllgjggkchgpbaaGreat
