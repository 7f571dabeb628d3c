/- ball: may, Right, down, up. slices.MinFunc and slices.MaxFunc of integers. ball.corners: what comes of the ends of two balls. ball.Div's two functions. ball.corners with ball.Div's two functions. -/
import Derived.Test.YtcjklbakhlehhaaGreatZe
set_option linter.unusedVariables false
set_option linter.unusedSimpArgs false
namespace Go.Proofs.YtcjklbakhlehhaaGreat
section
section
open Go.RowKit
open L (val dig nth)
theorem Blk.five {w:World} {g:Nat} {t:TypeId} {a b c d e:Value} (h:Blk w g t #[a,b,c,d,e]) :
    w.cell? ⟨g,0,none⟩=some a∧w.cell? ⟨g,1,none⟩=some b∧w.cell? ⟨g,2,none⟩=some c∧w.cell? ⟨g,3,none⟩=some d∧w.cell? ⟨g,4,none⟩=some e∧
    w.frozen? ⟨g,0,none⟩=false∧w.frozen? ⟨g,1,none⟩=false∧w.frozen? ⟨g,2,none⟩=false∧w.frozen? ⟨g,3,none⟩=false∧w.frozen? ⟨g,4,none⟩=false:=
  ⟨h.cell 0,h.cell 1,h.cell 2,h.cell 3,h.cell 4,h.frozen 0,h.frozen 1,h.frozen 2,h.frozen 3,h.frozen 4⟩
def mayQ (q:Int):Bool:=decide (0≤q∧q≤2048)
theorem jhe (w:World) (q:Int):Calls Tryz.prog 38 #[.int .i64 q] w fun e w'=>w=w'∧e=.returned (.bool (mayQ q)):=by
  by_cases h0:0≤q
  · by_cases h1:q≤2048
    · have hm:mayQ q=true:=decide_eq_true ⟨h0,h1⟩
      rw [hm]
      go_enter Tryz.func38,Tryz.ntmps38
      go_wp2_with fail
      go_ret
      exact ⟨rfl,rfl⟩
    · have hm:mayQ q=false:=decide_eq_false (fun h=>h1 h.2)
      rw [hm]
      go_enter Tryz.func38,Tryz.ntmps38
      go_wp2_with fail
      go_ret
      exact ⟨rfl,rfl⟩
  · have hm:mayQ q=false:=decide_eq_false (fun h=>h0 h.1)
    rw [hm]
    go_enter Tryz.func38,Tryz.ntmps38
    go_wp2_with fail
    go_ret
    exact ⟨rfl,rfl⟩
def rightB (x y q:Int):Bool:=mayQ q && decide (x≤y)
theorem jcd (x y:Int):(cmpZ x y≤0)↔x≤y:=by
  rw [jgp]
  constructor
  · intro h
    rcases Int.lt_or_le y x with h1 | h1
    · have:=Int.sign_eq_one_of_pos (show 0<x - y by omega);omega
    · exact h1
  · intro h
    rcases Int.lt_or_eq_of_le h with h1 | h1
    · have:=Int.sign_eq_neg_one_of_neg (show x - y<0 by omega);omega
    · subst h1;rw [Int.sub_self];decide
set_option maxRecDepth 100000 in
theorem jhf {w:World} {k k':Nat} {n m:Bool} {A A':Option Addr} {len cap len' cap':Nat} {x y:Int} (q:Int) (h:Q w k n A len cap x) (h':Q w k' m A' len' cap' y) (hk:k≤30000) (hk':k'≤30000) :
    Calls Tryz.prog 14 #[.agg #[.bool n,.slice A len cap,.bool m,.slice A' len' cap',.int .i64 q]] w fun e w'=>Below w.heap.size w w'∧e=.returned (.bool (rightB x y q)):=by
  obtain ⟨W0,hW,hbx,hB0,hs⟩:=start1 w 31 #[.bool n,.slice A len cap,.bool m,.slice A' len' cap',.int .i64 q];have HB0:=hide hB0;clear hs hB0;obtain ⟨c0,c1,c2,c3,c4,-⟩:=hbx.five;have HC:=hide (jof (h.at_ HB0) (h'.at_ HB0) (by omega) (by omega));obtain ⟨c,HCC⟩:∃c,Hid (cmpZ x y=c):=⟨_,hide rfl⟩;rw [HCC.out] at HC;have HL:Hid (c≤0↔x≤y):=hide (by rw [←HCC.out];exact jcd x y)
  cases hm:mayQ q with
  | false=>
    have hr:rightB x y q=false:=by unfold rightB;rw [hm];rfl
    have HM:=hide (jhe W0 q);rw [hr,hm] at *;clear hm hr
    go_enter Tryz.func14,Tryz.ntmps14
    go_upto_region 1 with (fail)
    rw [←hW];clear hW
    go_wp2_with fail
    refine HM.out.mono ?_;rintro e w1 ⟨rfl,rfl⟩
    go_wp2_with fail
    go_ret
    exact ⟨HB0.out,rfl⟩
  | true=>
    have hr:rightB x y q=decide (x≤y):=by unfold rightB;rw [hm];rfl
    have HM:=hide (jhe W0 q);rw [hm] at HM;rw [hr];clear hm hr
    go_enter Tryz.func14,Tryz.ntmps14
    go_upto_region 1 with (fail)
    rw [←hW];clear hW
    go_wp2_with fail
    refine HM.out.mono ?_;rintro e w1 ⟨rfl,rfl⟩
    go_wp2_with fail
    refine HC.out.mono ?_;rintro e w1 ⟨hb1,rfl⟩;have HB1:=hide (HB0.out.trans (hb1.mono HB0.out.size))
    by_cases hl:x≤y
    · have hc0:c≤0:=HL.out.2 hl
      have hd:decide (x≤y)=true:=decide_eq_true hl
      go_wp2_with fail
      go_ret
      exact ⟨HB1.out,by rw [hd];rfl⟩
    · have hc0:¬ c≤0:=fun h=>hl (HL.out.1 h)
      have hd:decide (x≤y)=false:=decide_eq_false hl
      go_wp2_with fail
      go_ret
      exact ⟨HB1.out,by rw [hd];exact congrArg (fun b=>Ending.returned (Value.bool b)) (decide_eq_false (by omega))⟩
theorem jis {w:World} {k:Nat} {n:Bool} {A:Option Addr} {len cap:Nat} {z:Int} (h:Q w k n A len cap z) (hk:k≤30000) (c:Nat) (hc:c≤8000) :
    Calls Tryz.prog 22 #[.agg #[.bool n,.slice A len cap],.int .i64 (c:Nat)] w fun e w'=>Below w.heap.size w w'∧RetZ w.heap.size (z*2^c) e w':=j39 h (by omega) c hc
def vDn (z n:Int):Int:=if n≤0 then z*2^(-n).toNat else z / 2^n.toNat
def vOv (z n:Int):Int := -vDn (-z) n
theorem jyz {z:Int} {k c:Nat} (hz:z.natAbs<W^k):(z / 2^c).natAbs<W^k:=by
  refine Nat.lt_of_le_of_lt ?_ hz;have hp:(0:Int)<2^c:=Int.pow_pos (by omega)
  rcases Int.lt_or_le z 0 with h | h
  · have h1:z≤z / 2^c:=by
      rw [Int.le_ediv_iff_mul_le hp];have h2:(1:Int)≤2^c:=hp;have h3:z*2^c≤z*1:=Int.mul_le_mul_of_nonpos_left (by omega) h2
      omega
    have h2:z / 2^c≤0:=by
      have:=Int.ediv_neg_of_neg_of_pos h hp
      omega
    omega
  · have h1:z / 2^c≤z:=Int.ediv_le_self _ h
    have h2:0≤z / 2^c:=Int.ediv_nonneg h (by omega)
    omega
theorem jrm {z n:Int} {k:Nat} (hz:z.natAbs<W^k) (hn : -8000≤n):(vDn z n).natAbs<W^(k+125):=by
  unfold vDn
  split
  · exact jep hz (by omega)
  · exact Nat.lt_of_lt_of_le (jyz hz) (Nat.pow_le_pow_right ja5 (by omega))
theorem j1l {z n:Int} {k:Nat} (hz:z.natAbs<W^k) (hn : -8000≤n):(vOv z n).natAbs<W^(k+125):=by
  unfold vOv;rw [Int.natAbs_neg];exact jrm (by rw [Int.natAbs_neg];exact hz) hn
set_option maxRecDepth 100000 in
theorem jhg {w:World} {k:Nat} {n:Bool} {A:Option Addr} {len cap:Nat} {z:Int} (c:Int) (h:Q w k n A len cap z) (hk:k≤30000) (hc0 : -8000≤c) (hc1:c≤8000) :
    Calls Tryz.prog 47 #[.agg #[.bool n,.slice A len cap],.int .i64 c] w fun e w'=>Below w.heap.size w w'∧RetZ w.heap.size (vDn z c) e w':=by
  obtain ⟨W0,hW,hbx,hrs,hB0,hs⟩:=start2 w 24 24 #[.bool n,.slice A len cap] #[.bool false,.slice none 0 0];have HB0:=hide hB0;have hs2:w.heap.size+2≤W0.heap.size:=by omega
  clear hs hB0;obtain ⟨c0,c1,-,-⟩:=hbx.two
  by_cases hle:c≤0
  · have HS:=jis (h.at_ HB0) hk (-c).toNat (by omega)
    rw [show (((-c).toNat:Nat):Int) = -c from by omega] at HS;have HV:Hid (vDn z c=z*2^(-c).toNat):=hide (by unfold vDn;rw [if_pos hle]);rw [←HV.out] at HS;have HSS:=hide HS;have hw:IntKind.i64.wrap (-c) = -c:=by rw [IntWalk.i64_in _ (by omega)]
    clear HS HV;obtain ⟨x,HX⟩:∃x,Hid (vDn z c=x):=⟨_,hide rfl⟩;rw [HX.out] at HSS ⊢
    go_enter Tryz.func47,Tryz.ntmps47
    go_upto_region 1 with (fail)
    rw [←hW];clear hW
    go_wp2_with fail
    refine HSS.out.mono ?_;rintro e w1 ⟨hb1,u,d,rfl,hu,hd⟩;obtain ⟨A1,cap1,rfl⟩:=hu.form;have rs1:=hrs.below hb1 hrs.lt;have HB1:=hide (HB0.out.trans (hb1.mono HB0.out.size));obtain ⟨r0,r1,r2,r3⟩:=rs1.two
    go_wp2_with fail
    refine bodyPost_ret (jah rfl _ _ _ _ _ _ rfl (jai rs1)) rfl ⟨below2 HB1.out (by omega) _ _,?_⟩;exact ⟨_,d,rfl,(jag (r:=w.heap.size+1) (hu.mono hs2) (by omega) _ _).mono (by omega),hd⟩
  · have HS:=jx2 (h.at_ HB0) hk c.toNat (by omega)
    rw [show ((c.toNat:Nat):Int)=c from by omega] at HS;have HV:Hid (vDn z c=z / 2^c.toNat):=hide (by unfold vDn;rw [if_neg hle]);rw [←HV.out] at HS;have HSS:=hide HS;clear HS HV;obtain ⟨x,HX⟩:∃x,Hid (vDn z c=x):=⟨_,hide rfl⟩;rw [HX.out] at HSS ⊢
    go_enter Tryz.func47,Tryz.ntmps47
    go_upto_region 1 with (fail)
    rw [←hW];clear hW
    go_wp2_with fail
    refine HSS.out.mono ?_;rintro e w1 ⟨hb1,u,d,rfl,hu,hd⟩;obtain ⟨A1,cap1,rfl⟩:=hu.form;have rs1:=hrs.below hb1 hrs.lt;have HB1:=hide (HB0.out.trans (hb1.mono HB0.out.size));obtain ⟨r0,r1,r2,r3⟩:=rs1.two
    go_wp2_with fail
    refine bodyPost_ret (jah rfl _ _ _ _ _ _ rfl (jai rs1)) rfl ⟨below2 HB1.out (by omega) _ _,?_⟩;exact ⟨_,d,rfl,(jag (r:=w.heap.size+1) (hu.mono hs2) (by omega) _ _).mono (by omega),hd⟩
theorem RetZ.q {w:World} {B k:Nat} {A:Option Addr} {c:Nat} {z:Int} {d:List Nat} (hu:Nums w B (.slice A d.length c) d) (hd:Canon d z.natAbs) (hz:z.natAbs<W^k):Q w k (decide (z<0)) A d.length c z:=
  ⟨d,hu.mono (Nat.zero_le _),by rw [hd.len];exact hz,by rw [hd.val,jas]⟩
set_option maxRecDepth 100000 in
theorem jrn {w:World} {k:Nat} {n:Bool} {A:Option Addr} {len cap:Nat} {z:Int} (c:Int) (h:Q w k n A len cap z) (hk:k≤29000) (hc0 : -8000≤c) (hc1:c≤8000) :
    Calls Tryz.prog 48 #[.agg #[.bool n,.slice A len cap],.int .i64 c] w fun e w'=>Below w.heap.size w w'∧RetZ w.heap.size (vOv z c) e w':=by
  obtain ⟨W0,hW,hbx,hrs,hB0,hs⟩:=start2 w 24 24 #[.bool n,.slice A len cap] #[.bool false,.slice none 0 0];have HB0:=hide hB0;have hs2:w.heap.size+2≤W0.heap.size:=by omega
  clear hs hB0;obtain ⟨c0,c1,-,-⟩:=hbx.two;have hz:=h.lt;have hz2:(-z).natAbs<W^k:=by rw [Int.natAbs_neg];exact hz
  have HL2:=hide (jrm hz2 hc0);have HL1:=hide hz2;have HN1:=hide (jdf (h.at_ HB0) (by omega));obtain ⟨x2,HX2⟩:∃x,Hid (vDn (-z) c=x):=⟨_,hide rfl⟩;obtain ⟨x1,HX1⟩:∃x,Hid (-z=x):=⟨_,hide rfl⟩;have HV:Hid (vOv z c = -x2):=hide (by unfold vOv;rw [HX2.out]);rw [HX2.out] at HL2;rw [HX1.out] at HL1 HN1 HX2;rw [HV.out];obtain ⟨x3,HX3⟩:∃x,Hid (-x2=x):=⟨_,hide rfl⟩;rw [HX3.out];clear hz hz2
  go_enter Tryz.func48,Tryz.ntmps48
  go_upto_region 1 with (fail)
  rw [←hW];clear hW
  go_wp2_with fail
  refine HN1.out.mono ?_;rintro e w1 ⟨hb1,u1,d1,rfl,hu1,hd1⟩;obtain ⟨A1,cap1,rfl⟩:=hu1.form;have rs1:=hrs.below hb1 hrs.lt;have HB1:=hide (HB0.out.trans (hb1.mono HB0.out.size));have HN2:=hide (jhg c (RetZ.q hu1 hd1 HL1.out) (by omega) hc0 hc1);rw [HX2.out] at HN2;have hs3:=hb1.size
  go_wp2_with fail
  refine HN2.out.mono ?_;rintro e w2 ⟨hb2,u2,d2,rfl,hu2,hd2⟩;obtain ⟨A2,cap2,rfl⟩:=hu2.form;have rs2:=rs1.below hb2 rs1.lt;have HB2:=hide (HB1.out.trans (hb2.mono HB1.out.size));have HN3:=hide (jdf (RetZ.q hu2 hd2 HL2.out) (by omega));rw [HX3.out] at HN3;have hs4:=hb2.size
  go_wp2_with fail
  refine HN3.out.mono ?_;rintro e w3 ⟨hb3,u3,d3,rfl,hu3,hd3⟩;obtain ⟨A3,cap3,rfl⟩:=hu3.form;have rs3:=rs2.below hb3 rs2.lt;have HB3:=hide (HB2.out.trans (hb3.mono HB2.out.size));obtain ⟨r0,r1,r2,r3⟩:=rs3.two
  go_wp2_with fail
  refine bodyPost_ret (jah rfl _ _ _ _ _ _ rfl (jai rs3)) rfl ⟨below2 HB3.out (by omega) _ _,?_⟩;exact ⟨_,d3,rfl,(jag (r:=w.heap.size+1) (hu3.mono (show w.heap.size+2≤_ by omega)) (by omega) _ _).mono (by omega),hd3⟩
end
end
section
section
open Go.RowKit
open L (val dig nth)
theorem jml {a:Int} (h:a<0):a.sign<0:=by rw [Int.sign_eq_neg_one_of_neg h];omega
theorem jmm {a:Int} (h:a.sign<0):a<0:=by
  rcases Int.lt_or_le a 0 with h1 | h1
  · exact h1
  · rcases Int.lt_or_eq_of_le h1 with h2 | h2
    · rw [Int.sign_eq_one_of_pos h2] at h;omega
    · rw [←h2] at h;exact absurd h (by decide)
def QB (w:World) (B k:Nat) (n:Bool) (A:Option Addr) (len cap:Nat) (z:Int):Prop:=∃d,Nums w B (.slice A len cap) d∧d.length≤k∧Canon d z.natAbs∧n=decide (z<0)
section
variable {w w':World} {B k:Nat} {n:Bool} {A:Option Addr} {len cap:Nat} {z:Int}
theorem QB.qc (h:QB w B k n A len cap z):QC w k n A len cap z:=by
  obtain ⟨d,h1,h2,h3,h4⟩:=h;exact ⟨d,h1.mono (Nat.zero_le _),h2,h3,h4⟩
theorem QB.q (h:QB w B k n A len cap z):Q w k n A len cap z:=h.qc.q
theorem QB.below (h:QB w B k n A len cap z) (hb:Below w.heap.size w w'):QB w' B k n A len cap z:=by
  obtain ⟨d,h1,h2,h3⟩:=h;exact ⟨d,h1.below hb,h2,h3⟩
theorem QB.drew (h:QB w B k n A len cap z):QB w.drew B k n A len cap z:=h
theorem QB.mono {B':Nat} (h:QB w B k n A len cap z) (hB:B'≤B):QB w B' k n A len cap z:=by
  obtain ⟨d,h1,h2,h3⟩:=h;exact ⟨d,h1.mono hB,h2,h3⟩
theorem QB.low2 (h:QB w B k n A len cap z) {r:Nat} (hr:r<B) (x y:Value):QB ((w.setCell ⟨r,0,none⟩ x).setCell ⟨r,1,none⟩ y) B k n A len cap z:=by
  obtain ⟨d,h1,h2,h3⟩:=h;exact ⟨d,jag h1 hr x y,h2,h3⟩
theorem QB.low (h:QB w B k n A len cap z) {p:Addr} (hr:p.block<B) (x:Value):QB (w.setCell p x) B k n A len cap z:=by
  obtain ⟨d,h1,h2,h3⟩:=h;exact ⟨d,h1.set_low hr x,h2,h3⟩
theorem QB.zero (w:World) (B k:Nat):QB w B k false none 0 0 0:=⟨[],Nums.nil _ _,Nat.zero_le _,(L.dig_zero W).symm,rfl⟩
theorem QB.up (h:QB w B k n A len cap z) {k':Nat} (hk:k≤k'):QB w B k' n A len cap z:=by
  obtain ⟨d,h1,h2,h3⟩:=h;exact ⟨d,h1,Nat.le_trans h2 hk,h3⟩
end
theorem RetZ.qb {w:World} {B k:Nat} {A:Option Addr} {c:Nat} {z:Int} {d:List Nat} (hu:Nums w B (.slice A d.length c) d) (hd:Canon d z.natAbs) (hz:z.natAbs<W^k):QB w B k (decide (z<0)) A d.length c z:=
  ⟨d,hu,by rw [hd.len];exact hz,hd,rfl⟩
structure Ints (w:World) (k B g m:Nat) (N:Nat→Bool) (As:Nat→Option Addr) (ls cs:Nat→Nat) (zs:Nat→Int):Prop where
  lt:g<w.heap.size
  c0:∀i,i<m→w.cell? ⟨g,i*2,none⟩=some (.bool (N i))
  c1:∀i,i<m→w.cell? ⟨g,i*2+1,none⟩=some (.slice (As i) (ls i) (cs i))
  q:∀i,i<m→QB w B k (N i) (As i) (ls i) (cs i) (zs i)
theorem Ints.below {w w':World} {k B g m:Nat} {N:Nat→Bool} {As:Nat→Option Addr} {ls cs:Nat→Nat} {zs:Nat→Int} (h:Ints w k B g m N As ls cs zs) (hb:Below w.heap.size w w'):Ints w' k B g m N As ls cs zs:=
  ⟨Nat.lt_of_lt_of_le h.lt hb.size,fun i hi=>(hb.cell (p:=⟨g,i*2,none⟩) h.lt).trans (h.c0 i hi),fun i hi=>(hb.cell (p:=⟨g,i*2+1,none⟩) h.lt).trans (h.c1 i hi),fun i hi=>(h.q i hi).below hb⟩
set_option maxHeartbeats 2000000 in
set_option maxRecDepth 100000 in
theorem jdj {w:World} {k B g m:Nat} {N:Nat→Bool} {As:Nat→Option Addr} {ls cs:Nat→Nat} {zs:Nat→Int} (h:Ints w k B g m N As ls cs zs) (hm:1≤m) (hm1:m≤1000) (hk:k≤30000) :
    Calls Tryz.prog 67 #[.slice (some ⟨g,0,none⟩) m m,.func (.func 23) #[] #[]] w fun e w'=>Below w.heap.size w w'∧
      ∃j,j<m∧e=.returned (.agg #[.bool (N j),.slice (As j) (ls j) (cs j)])∧∀i,i<m→zs j≤zs i:=by
  obtain ⟨W0,hW,hrs,hB0,hs⟩:=start1 w 24 #[.bool false,.slice none 0 0];have h0:=h.below hB0;obtain ⟨W1,hW1,hmb,hB1,hs1⟩:=start1 W0 24 #[.bool (N 0),.slice (As 0) (ls 0) (cs 0)];have h1:=h0.below hB1;have hrs1:=hrs.below hB1 hrs.lt;have HB1:=hide (hB0.trans (hB1.mono hB0.size));have hsz:W1.heap.size=w.heap.size+2:=by omega
  have HS:=hide hs;have a0:=h0.c0 0 hm;have a1:=h0.c1 0 hm;have hgl:=h.lt;have HQ:=hide h.q;have HC0:=hide h1.c0;have HC1:=hide h1.c1;have hge:¬ ((m:Int)<1):=by omega
  have a0':W0.cell? ⟨g,0,none⟩=some (.bool (N 0)):=a0;have a1':W0.cell? ⟨g,1,none⟩=some (.slice (As 0) (ls 0) (cs 0)):=a1;clear hs hs1 a0 a1 h0 h1 hB0 hB1
  go_enter Tryz.func67,Tryz.ntmps67
  go_upto_region 1 with (fail)
  rw [←hW];clear hW
  go_upto_region 4 with (fail)
  rw [←hW1];clear hW1
  go_wp2_with fail
  go_loopw [6] (fun i_ wr=>∃i j:Nat,i_=.int .i64 i∧j<i∧i≤m∧Blk wr W0.heap.size 24 #[.bool (N j),.slice (As j) (ls j) (cs j)]∧Blk wr w.heap.size 24 #[.bool false,.slice none 0 0]∧Hid (Below w.heap.size w wr)∧Hid (∀i',i'<i→zs j≤zs i')) (fun i_ _=>m - (intOf i_).toNat)
  case atStart=>exact ⟨1,0,rfl,by omega,hm,hmb,hrs1,HB1,hide (fun i' hi'=>by rw [show i'=0 from by omega];exact Int.le_refl _)⟩
  case round=>
    clear HC0 HC1 a0' a1' hmb hrs1 HB1;obtain ⟨i,j,rfl,hji,him,hmb,hrs,HB,HM⟩:=hrel;have hsr:=hmb.lt
    by_cases hlt:i<m
    · have hI:=h.below HB.out
      have a0:=hI.c0 i hlt;have a1:=hI.c1 i hlt;have HC:=hide (jof (hI.q i hlt).q.drew (hI.q j (by omega)).q.drew (by omega) (by omega));obtain ⟨c,HCC⟩:∃c,Hid (cmpZ (zs i) (zs j)=c):=⟨_,hide rfl⟩;rw [HCC.out] at HC;have hil:(i:Int)<(m:Int):=by omega
      obtain ⟨b0,b1,b2,b3⟩:=hmb.two;have hs0:w.heap.size<W0.heap.size:=by have:=HS.out;omega
      have hne:¬ W0.heap.size=w.heap.size:=by omega
      have hne2:¬ w.heap.size=W0.heap.size:=by omega
      have hne3:¬ g=W0.heap.size:=by omega
      have HBI:=hide hI;clear hI
      go_wp2_with fail
      go_region_held3 (fun w'=>w'.cell? ⟨g,i*2,none⟩=some (.bool (N i))∧w'.cell? ⟨g,i*2+1,none⟩=some (.slice (As i) (ls i) (cs i))∧w'.cell? ⟨W0.heap.size,0,none⟩=some (.bool (N j))∧w'.cell? ⟨W0.heap.size,1,none⟩=some (.slice (As j) (ls j) (cs j))) (go_keep)
        ((go_at_call 23;(with_reducible refine HC.out.mono ?_);rintro e w1 ⟨hb1,rfl⟩
          have mb1:=hmb.drew.below hb1 hmb.lt;have rs1:=hrs.drew.below hb1 hrs.lt;have HB1:=hide (HB.out.drew.trans (hb1.mono HB.out.size));have hI1:=h.below HB1.out;have d0:=hI1.c0 i hlt;have d1:=hI1.c1 i hlt;obtain ⟨e0,e1,e2,e3⟩:=mb1.two))
      by_cases hc:zs i<zs j
      · have hc':c<0:=by rw [←HCC.out,jgp];exact jml (by omega)
        go_wp2_with fail
        go_roundw
        case rel=>
          exact ⟨i+1,i,by go_num,by omega,by omega,jai mb1,jap rs1 hne2 _ _,hide (below2 HB1.out (by omega) _ _),hide (fun i' hi'=>by
            rcases Nat.lt_or_ge i' i with h1 | h1
            · have:=HM.out i' h1;omega
            · rw [show i'=i from by omega];exact Int.le_refl _)⟩
        case measure=>simp [intOf];omega
      · have hc':¬ c<0:=by
          have:=jcd (zs j) (zs i);rw [←HCC.out,jgp];intro hs;have:=jmm hs
          omega
        go_wp2_with fail
        go_roundw
        case rel=>
          exact ⟨i+1,j,by go_num,by omega,by omega,mb1,rs1,HB1,hide (fun i' hi'=>by
            rcases Nat.lt_or_ge i' i with h1 | h1
            · exact HM.out i' h1
            · rw [show i'=i from by omega];omega)⟩
        case measure=>simp [intOf];omega
    · have hmi:i=m:=by omega
      have hil:¬ ((i:Int)<(m:Int)):=by omega
      have hs0:w.heap.size<W0.heap.size:=by have:=HS.out;omega
      have hne:¬ W0.heap.size=w.heap.size:=by omega
      obtain ⟨b0,b1,b2,b3⟩:=hmb.two;obtain ⟨r0,r1,r2,r3⟩:=hrs.two
      go_wp2_with fail
      refine bodyPost_ret (jah rfl _ _ _ _ _ _ rfl (jai hrs)) rfl ⟨below2 HB.out (Nat.le_refl _) _ _,j,by omega,rfl,fun i' hi'=>HM.out i' (by omega)⟩
set_option maxHeartbeats 2000000 in
set_option maxRecDepth 100000 in
theorem jdk {w:World} {k B g m:Nat} {N:Nat→Bool} {As:Nat→Option Addr} {ls cs:Nat→Nat} {zs:Nat→Int} (h:Ints w k B g m N As ls cs zs) (hm:1≤m) (hm1:m≤1000) (hk:k≤30000) :
    Calls Tryz.prog 68 #[.slice (some ⟨g,0,none⟩) m m,.func (.func 23) #[] #[]] w fun e w'=>Below w.heap.size w w'∧
      ∃j,j<m∧e=.returned (.agg #[.bool (N j),.slice (As j) (ls j) (cs j)])∧∀i,i<m→zs i≤zs j:=by
  obtain ⟨W0,hW,hrs,hB0,hs⟩:=start1 w 24 #[.bool false,.slice none 0 0];have h0:=h.below hB0;obtain ⟨W1,hW1,hmb,hB1,hs1⟩:=start1 W0 24 #[.bool (N 0),.slice (As 0) (ls 0) (cs 0)];have h1:=h0.below hB1;have hrs1:=hrs.below hB1 hrs.lt;have HB1:=hide (hB0.trans (hB1.mono hB0.size));have hsz:W1.heap.size=w.heap.size+2:=by omega
  have HS:=hide hs;have a0:=h0.c0 0 hm;have a1:=h0.c1 0 hm;have hgl:=h.lt;have HQ:=hide h.q;have HC0:=hide h1.c0;have HC1:=hide h1.c1;have hge:¬ ((m:Int)<1):=by omega
  have a0':W0.cell? ⟨g,0,none⟩=some (.bool (N 0)):=a0;have a1':W0.cell? ⟨g,1,none⟩=some (.slice (As 0) (ls 0) (cs 0)):=a1;clear hs hs1 a0 a1 h0 h1 hB0 hB1
  go_enter Tryz.func68,Tryz.ntmps68
  go_upto_region 1 with (fail)
  rw [←hW];clear hW
  go_upto_region 4 with (fail)
  rw [←hW1];clear hW1
  go_wp2_with fail
  go_loopw [6] (fun i_ wr=>∃i j:Nat,i_=.int .i64 i∧j<i∧i≤m∧Blk wr W0.heap.size 24 #[.bool (N j),.slice (As j) (ls j) (cs j)]∧Blk wr w.heap.size 24 #[.bool false,.slice none 0 0]∧Hid (Below w.heap.size w wr)∧Hid (∀i',i'<i→zs i'≤zs j)) (fun i_ _=>m - (intOf i_).toNat)
  case atStart=>exact ⟨1,0,rfl,by omega,hm,hmb,hrs1,HB1,hide (fun i' hi'=>by rw [show i'=0 from by omega];exact Int.le_refl _)⟩
  case round=>
    clear HC0 HC1 a0' a1' hmb hrs1 HB1;obtain ⟨i,j,rfl,hji,him,hmb,hrs,HB,HM⟩:=hrel;have hsr:=hmb.lt
    by_cases hlt:i<m
    · have hI:=h.below HB.out
      have a0:=hI.c0 i hlt;have a1:=hI.c1 i hlt;have HC:=hide (jof (hI.q i hlt).q.drew (hI.q j (by omega)).q.drew (by omega) (by omega));obtain ⟨c,HCC⟩:∃c,Hid (cmpZ (zs i) (zs j)=c):=⟨_,hide rfl⟩;rw [HCC.out] at HC;have hil:(i:Int)<(m:Int):=by omega
      obtain ⟨b0,b1,b2,b3⟩:=hmb.two;have hs0:w.heap.size<W0.heap.size:=by have:=HS.out;omega
      have hne:¬ W0.heap.size=w.heap.size:=by omega
      have hne2:¬ w.heap.size=W0.heap.size:=by omega
      have hne3:¬ g=W0.heap.size:=by omega
      have HBI:=hide hI;clear hI
      go_wp2_with fail
      go_region_held3 (fun w'=>w'.cell? ⟨g,i*2,none⟩=some (.bool (N i))∧w'.cell? ⟨g,i*2+1,none⟩=some (.slice (As i) (ls i) (cs i))∧w'.cell? ⟨W0.heap.size,0,none⟩=some (.bool (N j))∧w'.cell? ⟨W0.heap.size,1,none⟩=some (.slice (As j) (ls j) (cs j))) (go_keep)
        ((go_at_call 23;(with_reducible refine HC.out.mono ?_);rintro e w1 ⟨hb1,rfl⟩
          have mb1:=hmb.drew.below hb1 hmb.lt;have rs1:=hrs.drew.below hb1 hrs.lt;have HB1:=hide (HB.out.drew.trans (hb1.mono HB.out.size));have hI1:=h.below HB1.out;have d0:=hI1.c0 i hlt;have d1:=hI1.c1 i hlt;obtain ⟨e0,e1,e2,e3⟩:=mb1.two))
      by_cases hc:zs j<zs i
      · have hc':0<c:=by rw [←HCC.out,jgp,Int.sign_eq_one_of_pos (by omega)];omega
        go_wp2_with fail
        go_roundw
        case rel=>
          exact ⟨i+1,i,by go_num,by omega,by omega,jai mb1,jap rs1 hne2 _ _,hide (below2 HB1.out (by omega) _ _),hide (fun i' hi'=>by
            rcases Nat.lt_or_ge i' i with h1 | h1
            · have:=HM.out i' h1;omega
            · rw [show i'=i from by omega];exact Int.le_refl _)⟩
        case measure=>simp [intOf];omega
      · have hc':¬ 0<c:=by
          rw [←HCC.out];have:=(jcd (zs i) (zs j)).2 (by omega)
          omega
        go_wp2_with fail
        go_roundw
        case rel=>
          exact ⟨i+1,j,by go_num,by omega,by omega,mb1,rs1,HB1,hide (fun i' hi'=>by
            rcases Nat.lt_or_ge i' i with h1 | h1
            · exact HM.out i' h1
            · rw [show i'=i from by omega];omega)⟩
        case measure=>simp [intOf];omega
    · have hmi:i=m:=by omega
      have hil:¬ ((i:Int)<(m:Int)):=by omega
      have hs0:w.heap.size<W0.heap.size:=by have:=HS.out;omega
      have hne:¬ W0.heap.size=w.heap.size:=by omega
      obtain ⟨b0,b1,b2,b3⟩:=hmb.two;obtain ⟨r0,r1,r2,r3⟩:=hrs.two
      go_wp2_with fail
      refine bodyPost_ret (jah rfl _ _ _ _ _ _ rfl (jai hrs)) rfl ⟨below2 HB.out (Nat.le_refl _) _ _,j,by omega,rfl,fun i' hi'=>HM.out i' (by omega)⟩
end
end
section
section
open Go.RowKit
open L (val dig nth)
def pick {α:Type} (a b c d:α) (i:Nat):α:=if i=0 then a else if i=1 then b else if i=2 then c else d
theorem Ints.four {w:World} {k B g:Nat} {t:TypeId} {n0 n1 n2 n3:Bool} {A0 A1 A2 A3:Option Addr} {l0 l1 l2 l3 c0 c1 c2 c3:Nat} {z0 z1 z2 z3:Int}
    (h:Blk w g t #[.bool n0,.slice A0 l0 c0,.bool n1,.slice A1 l1 c1,.bool n2,.slice A2 l2 c2,.bool n3,.slice A3 l3 c3]) (h0:QB w B k n0 A0 l0 c0 z0) (h1:QB w B k n1 A1 l1 c1 z1) (h2:QB w B k n2 A2 l2 c2 z2) (h3:QB w B k n3 A3 l3 c3 z3) :
    Ints w k B g 4 (pick n0 n1 n2 n3) (pick A0 A1 A2 A3) (pick l0 l1 l2 l3) (pick c0 c1 c2 c3) (pick z0 z1 z2 z3):=by
  refine ⟨h.lt,fun i hi=>?_,fun i hi=>?_,fun i hi=>?_⟩
  all_goals obtain rfl | rfl | rfl | rfl:i=0∨i=1∨i=2∨i=3:=by omega
  · exact h.cell 0
  · exact h.cell 2
  · exact h.cell 4
  · exact h.cell 6
  · exact h.cell 1
  · exact h.cell 3
  · exact h.cell 5
  · exact h.cell 7
  · exact h0
  · exact h1
  · exact h2
  · exact h3
def min4 (a b c d:Int):Int:=min (min a b) (min c d)
def max4 (a b c d:Int):Int:=max (max a b) (max c d)
theorem jjt {a b c d:Int} {j:Nat} (hj:j<4) (h:∀i,i<4→pick a b c d j≤pick a b c d i):pick a b c d j=min4 a b c d:=by
  have h0:pick a b c d j≤a:=h 0 (by omega);have h1:pick a b c d j≤b:=h 1 (by omega);have h2:pick a b c d j≤c:=h 2 (by omega);have h3:pick a b c d j≤d:=h 3 (by omega)
  have hp:pick a b c d j=a∨pick a b c d j=b∨pick a b c d j=c∨pick a b c d j=d:=by
    unfold pick;split
    · exact .inl rfl
    · split
      · exact .inr (.inl rfl)
      · split
        · exact .inr (.inr (.inl rfl))
        · exact .inr (.inr (.inr rfl))
  unfold min4
  omega
theorem jju {a b c d:Int} {j:Nat} (hj:j<4) (h:∀i,i<4→pick a b c d i≤pick a b c d j):pick a b c d j=max4 a b c d:=by
  have h0:a≤pick a b c d j:=h 0 (by omega);have h1:b≤pick a b c d j:=h 1 (by omega);have h2:c≤pick a b c d j:=h 2 (by omega);have h3:d≤pick a b c d j:=h 3 (by omega)
  have hp:pick a b c d j=a∨pick a b c d j=b∨pick a b c d j=c∨pick a b c d j=d:=by
    unfold pick;split
    · exact .inl rfl
    · split
      · exact .inr (.inl rfl)
      · split
        · exact .inr (.inr (.inl rfl))
        · exact .inr (.inr (.inr rfl))
  unfold max4
  omega
theorem jcs {fn:Func} {p q:Tmp} (h:fn.results=#[.cell p 24,.cell q 24]) (tmps:Array Value) (w:World) (r r':Nat) (t t':TypeId) (a b c d:Value)
    (hp:tmps.getD p undef=.pointer (some ⟨r,0,none⟩)) (hb:Blk w r t #[a,b]) (hq:tmps.getD q undef=.pointer (some ⟨r',0,none⟩)) (hb':Blk w r' t' #[c,d]) :
    (results fn tmps).run Tryz.prog w=.ok (.tuple #[.agg #[a,b],.agg #[c,d]]) w:=by
  simp only [results,h];simp only [Array.getD_eq_getD_getElem?] at hp hq;simp [Sem.run_bind,Result.andThen,asAddr,hp,jex hb,hq,jex hb']
def RetII (B k:Nat) (x y:Int) (e:Ending) (w:World):Prop:=∃n A l c n' A' l' c',e=.returned (.tuple #[.agg #[.bool n,.slice A l c],.agg #[.bool n',.slice A' l' c']])∧QB w B k n A l c x∧QB w B k n' A' l' c' y
set_option maxHeartbeats 4000000 in
set_option maxRecDepth 100000 in
theorem jid {w:World} {k:Nat} {n0 n1 m0 m1:Bool} {A0 A1 B0 B1:Option Addr} {l0 l1 j0 j1 c0 c1 d0 d1:Nat} {x0 x1 y0 y1:Int} (qa qb:Int) (hx0:Q w k n0 A0 l0 c0 x0) (hx1:Q w k n1 A1 l1 c1 x1) (hy0:Q w k m0 B0 j0 d0 y0) (hy1:Q w k m1 B1 j1 d1 y1) (hk:k≤1000) :
    Calls Tryz.prog 46 #[.agg #[.bool n0,.slice A0 l0 c0,.bool n1,.slice A1 l1 c1,.int .i64 qa],.agg #[.bool m0,.slice B0 j0 d0,.bool m1,.slice B1 j1 d1,.int .i64 qb],.func (.func 42) #[] #[]] w fun e w'=>
      Below w.heap.size w w'∧RetII w.heap.size (k+k) (min4 (x0*y0) (x0*y1) (x1*y0) (x1*y1)) (max4 (x0*y0) (x0*y1) (x1*y0) (x1*y1)) e w':=by
  obtain ⟨W0,hW,ha,hb,hr1,hr2,hB0,hs⟩:=start4 w 31 31 24 24 #[.bool n0,.slice A0 l0 c0,.bool n1,.slice A1 l1 c1,.int .i64 qa] #[.bool m0,.slice B0 j0 d0,.bool m1,.slice B1 j1 d1,.int .i64 qb] #[.bool false,.slice none 0 0] #[.bool false,.slice none 0 0];have HB0:=hide hB0.drew;have hs2:w.heap.size+4≤W0.heap.size:=by omega
  clear hs hB0;obtain ⟨a0,a1,a2,a3,a4,-⟩:=ha.five;obtain ⟨b0,b1,b2,b3,b4,-⟩:=hb.five;obtain ⟨z0,HZ0⟩:∃z,Hid (x0*y0=z):=⟨_,hide rfl⟩;have HL0:Hid (z0.natAbs<W^(k+k)):=hide (by rw [←HZ0.out];exact jiu hx0.lt hy0.lt);obtain ⟨z1,HZ1⟩:∃z,Hid (x0*y1=z):=⟨_,hide rfl⟩;have HL1:Hid (z1.natAbs<W^(k+k)):=hide (by rw [←HZ1.out];exact jiu hx0.lt hy1.lt);obtain ⟨z2,HZ2⟩:∃z,Hid (x1*y0=z):=⟨_,hide rfl⟩;have HL2:Hid (z2.natAbs<W^(k+k)):=hide (by rw [←HZ2.out];exact jiu hx1.lt hy0.lt);obtain ⟨z3,HZ3⟩:∃z,Hid (x1*y1=z):=⟨_,hide rfl⟩;have HL3:Hid (z3.natAbs<W^(k+k)):=hide (by rw [←HZ3.out];exact jiu hx1.lt hy1.lt);rw [HZ0.out,HZ1.out,HZ2.out,HZ3.out];have tok0:True:=trivial;have hs0_:w.heap.size+4≤W0.drew.heap.size:=hs2;have HC0:=hide (jl9 (hx0.at_ HB0) (hy0.at_ HB0) (by omega) (by omega));rw [HZ0.out] at HC0
  go_enter Tryz.func46,Tryz.ntmps46
  go_upto_region 1 with (fail)
  rw [←hW];clear hW;have ha:=ha.drew;have hb:=hb.drew;have hr1:=hr1.drew;have hr2:=hr2.drew
  go_region_held3 (fun w'=>w'.cell? ⟨w.heap.size,0,none⟩=some (.bool n0)∧w'.cell? ⟨w.heap.size,1,none⟩=some (.slice A0 l0 c0)∧w'.cell? ⟨w.heap.size,2,none⟩=some (.bool n1)∧w'.cell? ⟨w.heap.size,3,none⟩=some (.slice A1 l1 c1)∧
      w'.cell? ⟨w.heap.size+1,0,none⟩=some (.bool m0)∧w'.cell? ⟨w.heap.size+1,1,none⟩=some (.slice B0 j0 d0)∧w'.cell? ⟨w.heap.size+1,2,none⟩=some (.bool m1)∧w'.cell? ⟨w.heap.size+1,3,none⟩=some (.slice B1 j1 d1)) (go_keep)
    (first
      | (go_at_call 42;have _t:=tok0;(with_reducible refine HC0.out.mono ?_);rintro e w1 ⟨hb0,u0,e0,rfl,hu0,hd0⟩
         obtain ⟨C0,cc0,rfl⟩:=hu0.form;have ha:=ha.below hb0 ha.lt;have hb:=hb.below hb0 hb.lt;have hr1:=hr1.below hb0 hr1.lt;have hr2:=hr2.below hb0 hr2.lt;have HB1:=hide (HB0.out.trans (hb0.mono HB0.out.size));have hs1_:w.heap.size+4≤w1.heap.size:=Nat.le_trans hs0_ hb0.size;have HC1:=hide (jl9 (hx0.at_ HB1) (hy1.at_ HB1) (by omega) (by omega));rw [HZ1.out] at HC1;obtain ⟨a0,a1,a2,a3,a4,-⟩:=ha.five;obtain ⟨b0,b1,b2,b3,b4,-⟩:=hb.five;clear _t tok0;have tok1:True:=trivial)
      | (go_at_call 42;have _t:=tok1;(with_reducible refine HC1.out.mono ?_);rintro e w2 ⟨hb1,u1,e1,rfl,hu1,hd1⟩
         obtain ⟨C1,cc1,rfl⟩:=hu1.form;have ha:=ha.below hb1 ha.lt;have hb:=hb.below hb1 hb.lt;have hr1:=hr1.below hb1 hr1.lt;have hr2:=hr2.below hb1 hr2.lt;have hu0:=hu0.below hb1;have HB2:=hide (HB1.out.trans (hb1.mono HB1.out.size));have hs2_:w.heap.size+4≤w2.heap.size:=Nat.le_trans hs1_ hb1.size;have HC2:=hide (jl9 (hx1.at_ HB2) (hy0.at_ HB2) (by omega) (by omega));rw [HZ2.out] at HC2;obtain ⟨a0,a1,a2,a3,a4,-⟩:=ha.five;obtain ⟨b0,b1,b2,b3,b4,-⟩:=hb.five;clear _t tok1;have tok2:True:=trivial)
      | (go_at_call 42;have _t:=tok2;(with_reducible refine HC2.out.mono ?_);rintro e w3 ⟨hb2,u2,e2,rfl,hu2,hd2⟩
         obtain ⟨C2,cc2,rfl⟩:=hu2.form;have ha:=ha.below hb2 ha.lt;have hb:=hb.below hb2 hb.lt;have hr1:=hr1.below hb2 hr1.lt;have hr2:=hr2.below hb2 hr2.lt;have hu0:=hu0.below hb2;have hu1:=hu1.below hb2;have HB3:=hide (HB2.out.trans (hb2.mono HB2.out.size));have hs3_:w.heap.size+4≤w3.heap.size:=Nat.le_trans hs2_ hb2.size;have HC3:=hide (jl9 (hx1.at_ HB3) (hy1.at_ HB3) (by omega) (by omega));rw [HZ3.out] at HC3;obtain ⟨a0,a1,a2,a3,a4,-⟩:=ha.five;obtain ⟨b0,b1,b2,b3,b4,-⟩:=hb.five;clear _t tok2;have tok3:True:=trivial)
      | (go_at_call 42;have _t:=tok3;(with_reducible refine HC3.out.mono ?_);rintro e w4 ⟨hb3,u3,e3,rfl,hu3,hd3⟩
         obtain ⟨C3,cc3,rfl⟩:=hu3.form;have ha:=ha.below hb3 ha.lt;have hb:=hb.below hb3 hb.lt;have hr1:=hr1.below hb3 hr1.lt;have hr2:=hr2.below hb3 hr2.lt;have hu0:=hu0.below hb3;have hu1:=hu1.below hb3;have hu2:=hu2.below hb3;have HB4:=hide (HB3.out.trans (hb3.mono HB3.out.size));have hs4_:w.heap.size+4≤w4.heap.size:=Nat.le_trans hs3_ hb3.size;obtain ⟨a0,a1,a2,a3,a4,-⟩:=ha.five;obtain ⟨b0,b1,b2,b3,b4,-⟩:=hb.five;clear _t tok3;have tok4:True:=trivial)
    )
  have q0:=(RetZ.qb hu0 hd0 HL0.out).mono hs0_;have q1:=(RetZ.qb hu1 hd1 HL1.out).mono hs1_;have q2:=(RetZ.qb hu2 hd2 HL2.out).mono hs2_;have q3:=(RetZ.qb hu3 hd3 HL3.out).mono hs3_;have hsz:w.heap.size+4≤w4.heap.size:=by have:=hr2.lt;have:=hr1.lt;have:=HB4.out.size;omega
  obtain ⟨W5,hW5,bl,hB5,hs5⟩:=start1 w4 24 #[.bool (decide (z0<0)),.slice C0 e0.length cc0,.bool (decide (z1<0)),.slice C1 e1.length cc1,.bool (decide (z2<0)),.slice C2 e2.length cc2,.bool (decide (z3<0)),.slice C3 e3.length cc3];have HI:=hide (Ints.four bl (q0.below hB5) (q1.below hB5) (q2.below hB5) (q3.below hB5));have r1:=hr1.below hB5 hr1.lt;have r2:=hr2.below hB5 hr2.lt;have HB5:=hide (HB4.out.trans (hB5.mono HB4.out.size));have HM:=hide (jdj HI.out (by omega) (by omega) (by omega));clear a0 a1 a2 a3 a4 b0 b1 b2 b3 b4 q0 q1 q2 q3
  go_upto_region 2 with (fail)
  rw [←hW5];clear hW5
  go_wp2_with fail
  refine HM.out.mono ?_;rintro e w6 ⟨hb6,i,hi,rfl,hmin⟩;have HI6:=hide (HI.out.below hb6);have r16:=r1.below hb6 r1.lt;have r26:=r2.below hb6 r2.lt;have HB6:=hide (HB5.out.trans (hb6.mono HB5.out.size));have HX:=hide (jdk HI6.out (by omega) (by omega) (by omega));have HMIN:=hide (jjt hi hmin);clear hmin HM
  go_wp2_with fail
  refine HX.out.mono ?_;rintro e w7 ⟨hb7,j,hj,rfl,hmax⟩;have HI7:=hide (HI6.out.below hb7);have r17:=r16.below hb7 r16.lt;have r27:=r26.below hb7 r26.lt;have HB7:=hide (HB6.out.trans (hb7.mono HB6.out.size));have HMAX:=hide (jju hj hmax);have q6:=HI7.out.q i hi;have q7:=HI7.out.q j hj;rw [HMIN.out] at q6;rw [HMAX.out] at q7;clear hmax HX
  generalize pick (decide (z0<0)) (decide (z1<0)) (decide (z2<0)) (decide (z3<0)) i=N1 at *
  generalize pick (decide (z0<0)) (decide (z1<0)) (decide (z2<0)) (decide (z3<0)) j=N2 at *
  generalize pick C0 C1 C2 C3 i=D1 at *
  generalize pick C0 C1 C2 C3 j=D2 at *
  generalize pick e0.length e1.length e2.length e3.length i=L1 at *
  generalize pick e0.length e1.length e2.length e3.length j=L2 at *
  generalize pick cc0 cc1 cc2 cc3 i=K1 at *
  generalize pick cc0 cc1 cc2 cc3 j=K2 at *
  obtain ⟨j0,j1,j2,j3⟩:=r17.two;obtain ⟨i0,i1,i2,i3⟩:=r27.two;have hn1:¬ w.heap.size+2=w.heap.size+3:=by omega
  have hn2:¬ w.heap.size+3=w.heap.size+2:=by omega
  go_wp2_with fail
  have z1:=jap (r:=w.heap.size+3) (jai (x:=.bool N1) (y:=.slice D1 L1 K1) r17) (by omega) (.bool N2) (.slice D2 L2 K2);have z2:=jai (x:=.bool N2) (y:=.slice D2 L2 K2) (jap (r:=w.heap.size+2) r27 (by omega) (.bool N1) (.slice D1 L1 K1));refine bodyPost_ret (jcs rfl _ _ _ _ _ _ _ _ _ _ rfl z1 rfl z2) rfl ⟨below2 (below2 HB7.out (by omega) _ _) (by omega) _ _,?_⟩;exact ⟨N1,D1,L1,K1,N2,D2,L2,K2,rfl,((q6.low2 (by omega) _ _).low2 (by omega) _ _).mono (by omega),((q7.low2 (by omega) _ _).low2 (by omega) _ _).mono (by omega)⟩
end
end
section
section
open Go.RowKit
open L (val dig nth)
def QK (w:World) (B k:Nat) (A:Option Addr) (len cap:Nat) (z:Int):Prop:=∃d,Nums w B (.slice A len cap) d∧len=d.length∧Canon d z.natAbs∧z.natAbs<W^k
theorem QK.q {w:World} {B k:Nat} {A:Option Addr} {len cap:Nat} {z:Int} (h:QK w B k A len cap z):Q w k (decide (z<0)) A len cap z:=by
  obtain ⟨d,h1,rfl,h3,h4⟩:=h;exact RetZ.q h1 h3 h4
theorem jnz {z y:Int} (hy:0<y):(z / y).natAbs≤z.natAbs:=by
  rcases Int.lt_or_le z 0 with h | h
  · have h1:z≤z / y:=by
      rw [Int.le_ediv_iff_mul_le hy];have h3:z*y≤z*1:=Int.mul_le_mul_of_nonpos_left (by omega) hy
      omega
    have h2:=Int.ediv_neg_of_neg_of_pos h hy
    omega
  · have h1:z / y≤z:=Int.ediv_le_self _ h
    have h2:0≤z / y:=Int.ediv_nonneg h (by omega)
    omega
theorem jdl {z y:Int} {k:Nat} (hy:y≠0) (hz:z.natAbs<W^k):(vDown z y).natAbs<W^k:=by
  unfold vDown
  split
  · exact Nat.lt_of_le_of_lt (Nat.le_trans (jnz (by omega)) (by rw [Int.natAbs_neg];exact Nat.le_refl _)) hz
  · exact Nat.lt_of_le_of_lt (jnz (by omega)) hz
set_option maxHeartbeats 4000000 in
set_option maxRecDepth 100000 in
theorem jp1 {w:World} {k k':Nat} {n m:Bool} {A A':Option Addr} {len cap len' cap':Nat} {x y:Int} {q:Int} {p:Nat} {b0 b1 b2 b3:Value} (h:Q w k n A len cap x) (h':Q w k' m A' len' cap' y) (hp:Blk w p 31 #[b0,b1,b2,b3,.int .i64 q]) (hk:k≤1000) (hk':k'≤1000) (hq0:0≤q) (hq1:q≤2048) (hy:y≠0) :
    Calls Tryz.prog 140 #[.agg #[.bool n,.slice A len cap],.agg #[.bool m,.slice A' len' cap'],.pointer (some ⟨p,0,none⟩)] w fun e w'=>Below w.heap.size w w'∧RetZ w.heap.size (-vUp (-(x*2^q.toNat)) y) e w':=by
  obtain ⟨W0,hW,bx,bY,rs,hB0,hs⟩:=start3 w 24 24 24 #[.bool n,.slice A len cap] #[.bool m,.slice A' len' cap'] #[.bool false,.slice none 0 0];have hpl:=hp.lt;have bp:=hp.below hB0 hp.lt;have HB0:=hide hB0;have hs2:w.heap.size+3≤W0.heap.size:=by omega
  clear hs hB0;obtain ⟨e0,e1,-,-⟩:=bx.two;obtain ⟨e2,e3,-,-⟩:=bY.two;obtain ⟨-,-,-,-,e4,-⟩:=bp.five;obtain ⟨c,rfl⟩:∃c:Nat,q=(c:Int):=⟨q.toNat,by omega⟩;have hc:c≤2048:=by omega
  have hxl:=h.lt;obtain ⟨x1,HX1⟩:∃z,Hid (x*2^c=z):=⟨_,hide rfl⟩;have HL1:Hid (x1.natAbs<W^(k+32)):=hide (by rw [←HX1.out];exact jep hxl (by omega));obtain ⟨x2,HX2⟩:∃z,Hid (-x1=z):=⟨_,hide rfl⟩;have HL2:Hid (x2.natAbs<W^(k+32)):=hide (by rw [←HX2.out,Int.natAbs_neg];exact HL1.out);obtain ⟨x3,HX3⟩:∃z,Hid (vUp x2 y=z):=⟨_,hide rfl⟩;have HUL:Hid ((vDown (-x2) y).natAbs<W^(k+32+1)):=hide (Nat.lt_of_lt_of_le (jdl hy (by rw [Int.natAbs_neg];exact HL2.out)) (Nat.pow_le_pow_right ja5 (by omega)));have HL3:Hid (x3.natAbs<W^(k+34)):=hide (by rw [←HX3.out];unfold vUp;rw [Int.natAbs_neg];exact Nat.lt_of_lt_of_le HUL.out (Nat.pow_le_pow_right ja5 (by omega)));obtain ⟨x9,HX9⟩:∃z,Hid (-x3=z):=⟨_,hide rfl⟩;rw [show -vUp (-(x*2^((c:Int)).toNat)) y=x9 from by rw [Int.toNat_natCast,HX1.out,HX2.out,HX3.out,HX9.out]];clear hxl
  go_enter Tryz.func140,Tryz.ntmps140
  go_upto_region 1 with (fail)
  rw [←hW];clear hW
  go_cut [6,7] (fun v b wx=>b=.bool true∧∃g C l c,v=.pointer (some ⟨g,0,none⟩)∧Blk wx g 24 #[.bool (decide (x3<0)),.slice C l c]∧Blk wx (w.heap.size+2) 24 #[.bool false,.slice none 0 0]∧Below w.heap.size w wx∧QK wx (w.heap.size+3) (k+34) C l c x3∧w.heap.size+3≤wx.heap.size)
  case first=>
    have HBd:=hide HB0.out.drew;have HBe:=hide ((HB0.out.alloc (by omega) (.cells #[.bool false,.slice none 0 0] 24)).drew);have bx_e:=(bx.alloc (.cells #[.bool false,.slice none 0 0] 24)).drew;have bY_e:=(bY.alloc (.cells #[.bool false,.slice none 0 0] 24)).drew;have bp_e:=(bp.alloc (.cells #[.bool false,.slice none 0 0] 24)).drew;have rs_e:=(rs.alloc (.cells #[.bool false,.slice none 0 0] 24)).drew;have bt1_e:=(Blk.new W0 24 #[.bool false,.slice none 0 0]).drew;have tok0:True:=trivial;have HC1:=hide (jis (h.at_ HBd) (by omega) c (by omega));have HC1a:=hide (jis (h.at_ HBe) (by omega) c (by omega));rw [HX1.out] at HC1 HC1a
    go_region_held3 (fun w'=>w'.cell? ⟨w.heap.size,0,none⟩=some (.bool n)∧w'.cell? ⟨w.heap.size,1,none⟩=some (.slice A len cap)∧w'.cell? ⟨w.heap.size+1,0,none⟩=some (.bool m)∧w'.cell? ⟨w.heap.size+1,1,none⟩=some (.slice A' len' cap')∧w'.cell? ⟨p,4,none⟩=some (.int .i64 (c:Int))) (go_keep)
      (first
        | (go_at_call 22;have _t:=tok0;(with_reducible refine HC1.out.mono ?_);rintro e v1 ⟨hb1,u1,d1,rfl,hu1,hd1⟩
           have bx:=bx.drew.below hb1 bx.lt;have bY:=bY.drew.below hb1 bY.lt;have bp:=bp.drew.below hb1 bp.lt;have rs:=rs.drew.below hb1 rs.lt;have HV1:=hide (HBd.out.trans (hb1.mono HBd.out.size));have hz1:W0.heap.size≤v1.heap.size:=hb1.size;have tagA1n:True:=trivial;obtain ⟨C1,cc1,rfl⟩:=hu1.form;have qv1:=RetZ.q hu1 hd1 HL1.out;have HV1a:=hide (HV1.out.alloc (Nat.le_trans (Nat.le_trans (by omega) hs2) hz1) (.cells #[.bool false,.slice none 0 0] 24));have HC2:=hide (jdf qv1 (by omega));have HC2a:=hide (jdf (qv1.below ((Below.refl _ _).alloc (Nat.le_refl _) (.cells #[.bool false,.slice none 0 0] 24))) (by omega));rw [HX2.out] at HC2 HC2a;obtain ⟨e0,e1,-,-⟩:=bx.two;obtain ⟨e2,e3,-,-⟩:=bY.two;obtain ⟨-,-,-,-,e4,-⟩:=bp.five;clear _t tok0;have tok1:True:=trivial)
        | (go_at_call 22;have _t:=tok0;(with_reducible refine HC1a.out.mono ?_);rintro e v1 ⟨hb1,u1,d1,rfl,hu1,hd1⟩
           have bx:=bx_e.below hb1 bx_e.lt;have bY:=bY_e.below hb1 bY_e.lt;have bp:=bp_e.below hb1 bp_e.lt;have rs:=rs_e.below hb1 rs_e.lt;have bt1:=bt1_e.below hb1 bt1_e.lt;have HV1:=hide (HBe.out.trans (hb1.mono HBe.out.size));have hz1:W0.heap.size≤v1.heap.size:=Nat.le_trans (Nat.le_of_lt bt1_e.lt) hb1.size;have hg1:W0.heap.size<v1.heap.size:=bt1.lt;have tagA1a:True:=trivial;obtain ⟨C1,cc1,rfl⟩:=hu1.form;have qv1:=RetZ.q hu1 hd1 HL1.out;have HV1a:=hide (HV1.out.alloc (Nat.le_trans (Nat.le_trans (by omega) hs2) hz1) (.cells #[.bool false,.slice none 0 0] 24));have HC2:=hide (jdf qv1 (by omega));have HC2a:=hide (jdf (qv1.below ((Below.refl _ _).alloc (Nat.le_refl _) (.cells #[.bool false,.slice none 0 0] 24))) (by omega));rw [HX2.out] at HC2 HC2a;obtain ⟨e0,e1,-,-⟩:=bx.two;obtain ⟨e2,e3,-,-⟩:=bY.two;obtain ⟨-,-,-,-,e4,-⟩:=bp.five;clear _t tok0;have tok1:True:=trivial)
        | (go_at_call 24;have _t:=tok1;(with_reducible refine HC2.out.mono ?_);rintro e v2 ⟨hb2,u2,d2,rfl,hu2,hd2⟩
           have bx:=bx.below hb2 bx.lt;have bY:=bY.below hb2 bY.lt;have bp:=bp.below hb2 bp.lt;have rs:=rs.below hb2 rs.lt
           (try have bt1:=bt1.below hb2 bt1.lt)
           have HV2:=hide (HV1.out.trans (hb2.mono HV1.out.size));have hv2:v1.heap.size≤v2.heap.size:=hb2.size;have hz2:W0.heap.size≤v2.heap.size:=Nat.le_trans hz1 (hb2.size);have tagA2n:True:=trivial;obtain ⟨C2,cc2,rfl⟩:=hu2.form;have qv2:=RetZ.q hu2 hd2 HL2.out;have HV2a:=hide (HV2.out.alloc (Nat.le_trans (Nat.le_trans (by omega) hs2) hz2) (.cells #[.bool false,.slice none 0 0] 24));have HC3:=hide (jcb qv2 (h'.at_ HV2) (by omega) (by omega) hy HUL.out);have HC3a:=hide (jcb (qv2.below ((Below.refl _ _).alloc (Nat.le_refl _) (.cells #[.bool false,.slice none 0 0] 24))) (h'.at_ HV2a) (by omega) (by omega) hy HUL.out);rw [HX3.out] at HC3 HC3a;obtain ⟨e0,e1,-,-⟩:=bx.two;obtain ⟨e2,e3,-,-⟩:=bY.two;obtain ⟨-,-,-,-,e4,-⟩:=bp.five;clear _t tok1;have tok2:True:=trivial)
        | (go_at_call 24;have _t:=tok1;(with_reducible refine HC2a.out.mono ?_);rintro e v2 ⟨hb2,u2,d2,rfl,hu2,hd2⟩
           have hba:Below v1.heap.size v1 (v1.alloc (.cells #[.bool false,.slice none 0 0] 24)):=(Below.refl _ _).alloc (Nat.le_refl _) _;have bx:=(bx.below hba bx.lt).below hb2 (Nat.lt_of_lt_of_le bx.lt hba.size);have bY:=(bY.below hba bY.lt).below hb2 (Nat.lt_of_lt_of_le bY.lt hba.size);have bp:=(bp.below hba bp.lt).below hb2 (Nat.lt_of_lt_of_le bp.lt hba.size);have rs:=(rs.below hba rs.lt).below hb2 (Nat.lt_of_lt_of_le rs.lt hba.size);have bt2:=(Blk.new v1 24 #[.bool false,.slice none 0 0]).below hb2 (by simp);have hg2:v1.heap.size<v2.heap.size:=bt2.lt;have HV2:=hide (HV1a.out.trans (hb2.mono HV1a.out.size));have hv2:v1.heap.size≤v2.heap.size:=Nat.le_trans hba.size hb2.size;have hz2:W0.heap.size≤v2.heap.size:=Nat.le_trans hz1 (Nat.le_trans hba.size hb2.size);have tagA2a:True:=trivial;obtain ⟨C2,cc2,rfl⟩:=hu2.form;have qv2:=RetZ.q hu2 hd2 HL2.out;have HV2a:=hide (HV2.out.alloc (Nat.le_trans (Nat.le_trans (by omega) hs2) hz2) (.cells #[.bool false,.slice none 0 0] 24));have HC3:=hide (jcb qv2 (h'.at_ HV2) (by omega) (by omega) hy HUL.out);have HC3a:=hide (jcb (qv2.below ((Below.refl _ _).alloc (Nat.le_refl _) (.cells #[.bool false,.slice none 0 0] 24))) (h'.at_ HV2a) (by omega) (by omega) hy HUL.out);rw [HX3.out] at HC3 HC3a;obtain ⟨e0,e1,-,-⟩:=bx.two;obtain ⟨e2,e3,-,-⟩:=bY.two;obtain ⟨-,-,-,-,e4,-⟩:=bp.five;clear _t tok1;have tok2:True:=trivial)
        | (go_at_call 95;have _t:=tok2;(with_reducible refine HC3.out.mono ?_);rintro e v3 ⟨hb3,u3,d3,rfl,hu3,hd3⟩
           have bx:=bx.below hb3 bx.lt;have bY:=bY.below hb3 bY.lt;have bp:=bp.below hb3 bp.lt;have rs:=rs.below hb3 rs.lt
           (try have bt1:=bt1.below hb3 bt1.lt)
           (try have bt2:=bt2.below hb3 bt2.lt)
           have HV3:=hide (HV2.out.trans (hb3.mono HV2.out.size));have hv3:v2.heap.size≤v3.heap.size:=hb3.size;have hz3:W0.heap.size≤v3.heap.size:=Nat.le_trans hz2 (hb3.size);have tagA3n:True:=trivial;obtain ⟨C3,cc3,rfl⟩:=hu3.form;have qv3:=RetZ.q hu3 hd3 HL3.out
           (try obtain ⟨t0,t1,t2,t3⟩:=bt1.two)
           have hn1_0:¬ W0.heap.size=w.heap.size:=by omega
           have hm1_0:¬ w.heap.size=W0.heap.size:=by omega
           have hn1_1:¬ W0.heap.size=w.heap.size+1:=by omega
           have hm1_1:¬ w.heap.size+1=W0.heap.size:=by omega
           have hn1_2:¬ W0.heap.size=p:=by omega
           have hm1_2:¬ p=W0.heap.size:=by omega
           have hn1_3:¬ W0.heap.size=w.heap.size+2:=by omega
           have hm1_3:¬ w.heap.size+2=W0.heap.size:=by omega
           (try obtain ⟨t0,t1,t2,t3⟩:=bt2.two)
           have hn2_0:¬ v1.heap.size=w.heap.size:=by omega
           have hm2_0:¬ w.heap.size=v1.heap.size:=by omega
           have hn2_1:¬ v1.heap.size=w.heap.size+1:=by omega
           have hm2_1:¬ w.heap.size+1=v1.heap.size:=by omega
           have hn2_2:¬ v1.heap.size=p:=by omega
           have hm2_2:¬ p=v1.heap.size:=by omega
           have hn2_3:¬ v1.heap.size=w.heap.size+2:=by omega
           have hm2_3:¬ w.heap.size+2=v1.heap.size:=by omega
           (try obtain ⟨t0,t1,t2,t3⟩:=bt3.two)
           have hn3_0:¬ v2.heap.size=w.heap.size:=by omega
           have hm3_0:¬ w.heap.size=v2.heap.size:=by omega
           have hn3_1:¬ v2.heap.size=w.heap.size+1:=by omega
           have hm3_1:¬ w.heap.size+1=v2.heap.size:=by omega
           have hn3_2:¬ v2.heap.size=p:=by omega
           have hm3_2:¬ p=v2.heap.size:=by omega
           have hn3_3:¬ v2.heap.size=w.heap.size+2:=by omega
           have hm3_3:¬ w.heap.size+2=v2.heap.size:=by omega
           obtain ⟨e0,e1,-,-⟩:=bx.two;obtain ⟨e2,e3,-,-⟩:=bY.two;obtain ⟨-,-,-,-,e4,-⟩:=bp.five;clear _t tok2;have tok3:True:=trivial)
        | (go_at_call 95;have _t:=tok2;(with_reducible refine HC3a.out.mono ?_);rintro e v3 ⟨hb3,u3,d3,rfl,hu3,hd3⟩
           have hba:Below v2.heap.size v2 (v2.alloc (.cells #[.bool false,.slice none 0 0] 24)):=(Below.refl _ _).alloc (Nat.le_refl _) _;have bx:=(bx.below hba bx.lt).below hb3 (Nat.lt_of_lt_of_le bx.lt hba.size);have bY:=(bY.below hba bY.lt).below hb3 (Nat.lt_of_lt_of_le bY.lt hba.size);have bp:=(bp.below hba bp.lt).below hb3 (Nat.lt_of_lt_of_le bp.lt hba.size);have rs:=(rs.below hba rs.lt).below hb3 (Nat.lt_of_lt_of_le rs.lt hba.size);have bt3:=(Blk.new v2 24 #[.bool false,.slice none 0 0]).below hb3 (by simp);have hg3:v2.heap.size<v3.heap.size:=bt3.lt;have HV3:=hide (HV2a.out.trans (hb3.mono HV2a.out.size));have hv3:v2.heap.size≤v3.heap.size:=Nat.le_trans hba.size hb3.size;have hz3:W0.heap.size≤v3.heap.size:=Nat.le_trans hz2 (Nat.le_trans hba.size hb3.size);have tagA3a:True:=trivial;obtain ⟨C3,cc3,rfl⟩:=hu3.form;have qv3:=RetZ.q hu3 hd3 HL3.out
           (try obtain ⟨t0,t1,t2,t3⟩:=bt1.two)
           have hn1_0:¬ W0.heap.size=w.heap.size:=by omega
           have hm1_0:¬ w.heap.size=W0.heap.size:=by omega
           have hn1_1:¬ W0.heap.size=w.heap.size+1:=by omega
           have hm1_1:¬ w.heap.size+1=W0.heap.size:=by omega
           have hn1_2:¬ W0.heap.size=p:=by omega
           have hm1_2:¬ p=W0.heap.size:=by omega
           have hn1_3:¬ W0.heap.size=w.heap.size+2:=by omega
           have hm1_3:¬ w.heap.size+2=W0.heap.size:=by omega
           (try obtain ⟨t0,t1,t2,t3⟩:=bt2.two)
           have hn2_0:¬ v1.heap.size=w.heap.size:=by omega
           have hm2_0:¬ w.heap.size=v1.heap.size:=by omega
           have hn2_1:¬ v1.heap.size=w.heap.size+1:=by omega
           have hm2_1:¬ w.heap.size+1=v1.heap.size:=by omega
           have hn2_2:¬ v1.heap.size=p:=by omega
           have hm2_2:¬ p=v1.heap.size:=by omega
           have hn2_3:¬ v1.heap.size=w.heap.size+2:=by omega
           have hm2_3:¬ w.heap.size+2=v1.heap.size:=by omega
           (try obtain ⟨t0,t1,t2,t3⟩:=bt3.two)
           have hn3_0:¬ v2.heap.size=w.heap.size:=by omega
           have hm3_0:¬ w.heap.size=v2.heap.size:=by omega
           have hn3_1:¬ v2.heap.size=w.heap.size+1:=by omega
           have hm3_1:¬ w.heap.size+1=v2.heap.size:=by omega
           have hn3_2:¬ v2.heap.size=p:=by omega
           have hm3_2:¬ p=v2.heap.size:=by omega
           have hn3_3:¬ v2.heap.size=w.heap.size+2:=by omega
           have hm3_3:¬ w.heap.size+2=v2.heap.size:=by omega
           obtain ⟨e0,e1,-,-⟩:=bx.two;obtain ⟨e2,e3,-,-⟩:=bY.two;obtain ⟨-,-,-,-,e4,-⟩:=bp.five;clear _t tok2;have tok3:True:=trivial)
        )
    all_goals go_wp2_with fail
    all_goals go_meet
    all_goals first
      | (have hx:=bt1
         have hu7:=jag (r:=W0.heap.size) (hu3.mono (show W0.heap.size+1≤_ by (first | (simp;done) | omega))) (by omega) (.bool (decide (x3<0))) (.slice C3 d3.length cc3);exact ⟨rfl,W0.heap.size,C3,d3.length,cc3,rfl,jai bt1,jap rs (by omega) _ _,below2 HV3.out (by omega) _ _,⟨d3,hu7.mono (by omega),rfl,hd3,HL3.out⟩,by simp;omega⟩)
      | (have hx:=bt2
         have hu7:=jag (r:=v1.heap.size) (hu3.mono (show v1.heap.size+1≤_ by (first | (simp;done) | omega))) (by omega) (.bool (decide (x3<0))) (.slice C3 d3.length cc3);exact ⟨rfl,v1.heap.size,C3,d3.length,cc3,rfl,jai bt2,jap rs (by omega) _ _,below2 HV3.out (by omega) _ _,⟨d3,hu7.mono (by omega),rfl,hd3,HL3.out⟩,by simp;omega⟩)
      | (have hx:=bt3
         have hu7:=jag (r:=v2.heap.size) (hu3.mono (show v2.heap.size+1≤_ by (first | (simp;done) | omega))) (by omega) (.bool (decide (x3<0))) (.slice C3 d3.length cc3);exact ⟨rfl,v2.heap.size,C3,d3.length,cc3,rfl,jai bt3,jap rs (by omega) _ _,below2 HV3.out (by omega) _ _,⟨d3,hu7.mono (by omega),rfl,hd3,HL3.out⟩,by simp;omega⟩)
      | exact ⟨rfl,v3.heap.size,C3,d3.length,cc3,rfl,Blk.new _ _ _,rs.alloc _,HV3.out.alloc HV3.out.size _,⟨d3,(hu3.alloc _).mono (by omega),rfl,hd3,HL3.out⟩,by simp;omega⟩
  case rest=>
    obtain ⟨rfl,g,C9,l9,c9,rfl,ba,rs3,HV,q9,hs6⟩:=hcut;have HV:=hide HV;obtain ⟨t0,t1,-,-⟩:=ba.two;have HN3:=hide (jdf q9.q (by omega));rw [HX9.out] at HN3
    go_upto_region 2 with (fail)
    go_wp2_with fail
    refine HN3.out.mono ?_;rintro e w3 ⟨hb3,u3,d3,rfl,hu3,hd3⟩;obtain ⟨A3,cap3,rfl⟩:=hu3.form;have rs4:=rs3.below hb3 rs3.lt;have HB3:=hide (HV.out.trans (hb3.mono HV.out.size));obtain ⟨r0,r1,r2,r3⟩:=rs4.two
    go_wp2_with fail
    refine bodyPost_ret (jah rfl _ _ _ _ _ _ rfl (jai rs4)) rfl ⟨below2 HB3.out (by omega) _ _,?_⟩;exact ⟨_,d3,rfl,(jag (r:=w.heap.size+2) (hu3.mono hs6) (by omega) _ _).mono (by omega),hd3⟩
set_option maxHeartbeats 4000000 in
set_option maxRecDepth 100000 in
theorem jp2 {w:World} {k k':Nat} {n m:Bool} {A A':Option Addr} {len cap len' cap':Nat} {x y:Int} {q:Int} {p:Nat} {b0 b1 b2 b3:Value} (h:Q w k n A len cap x) (h':Q w k' m A' len' cap' y) (hp:Blk w p 31 #[b0,b1,b2,b3,.int .i64 q]) (hk:k≤1000) (hk':k'≤1000) (hq0:0≤q) (hq1:q≤2048) (hy:y≠0) :
    Calls Tryz.prog 141 #[.agg #[.bool n,.slice A len cap],.agg #[.bool m,.slice A' len' cap'],.pointer (some ⟨p,0,none⟩)] w fun e w'=>Below w.heap.size w w'∧RetZ w.heap.size (vUp (x*2^q.toNat) y) e w':=by
  obtain ⟨W0,hW,bx,bY,rs,hB0,hs⟩:=start3 w 24 24 24 #[.bool n,.slice A len cap] #[.bool m,.slice A' len' cap'] #[.bool false,.slice none 0 0];have hpl:=hp.lt;have bp:=hp.below hB0 hp.lt;have HB0:=hide hB0;have hs2:w.heap.size+3≤W0.heap.size:=by omega
  clear hs hB0;obtain ⟨e0,e1,-,-⟩:=bx.two;obtain ⟨e2,e3,-,-⟩:=bY.two;obtain ⟨-,-,-,-,e4,-⟩:=bp.five;obtain ⟨c,rfl⟩:∃c:Nat,q=(c:Int):=⟨q.toNat,by omega⟩;have hc:c≤2048:=by omega
  have hxl:=h.lt;obtain ⟨x1,HX1⟩:∃z,Hid (x*2^c=z):=⟨_,hide rfl⟩;have HL1:Hid (x1.natAbs<W^(k+32)):=hide (by rw [←HX1.out];exact jep hxl (by omega));obtain ⟨x2,HX2⟩:∃z,Hid (vUp x1 y=z):=⟨_,hide rfl⟩;have HUL:Hid ((vDown (-x1) y).natAbs<W^(k+32+1)):=hide (Nat.lt_of_lt_of_le (jdl hy (by rw [Int.natAbs_neg];exact HL1.out)) (Nat.pow_le_pow_right ja5 (by omega)));have HL2:Hid (x2.natAbs<W^(k+34)):=hide (by rw [←HX2.out];unfold vUp;rw [Int.natAbs_neg];exact Nat.lt_of_lt_of_le HUL.out (Nat.pow_le_pow_right ja5 (by omega)));rw [show vUp (x*2^((c:Int)).toNat) y=x2 from by rw [Int.toNat_natCast,HX1.out,HX2.out]];clear hxl
  go_enter Tryz.func141,Tryz.ntmps141
  go_upto_region 1 with (fail)
  rw [←hW];clear hW
  go_cut [6,7] (fun v b wx=>b=.bool true∧∃g C l c,v=.pointer (some ⟨g,0,none⟩)∧Blk wx g 24 #[.bool (decide (x2<0)),.slice C l c]∧Blk wx (w.heap.size+2) 24 #[.bool false,.slice none 0 0]∧Below w.heap.size w wx∧QK wx (w.heap.size+3) (k+34) C l c x2∧w.heap.size+3≤wx.heap.size)
  case first=>
    have HBd:=hide HB0.out.drew;have HBe:=hide ((HB0.out.alloc (by omega) (.cells #[.bool false,.slice none 0 0] 24)).drew);have bx_e:=(bx.alloc (.cells #[.bool false,.slice none 0 0] 24)).drew;have bY_e:=(bY.alloc (.cells #[.bool false,.slice none 0 0] 24)).drew;have bp_e:=(bp.alloc (.cells #[.bool false,.slice none 0 0] 24)).drew;have rs_e:=(rs.alloc (.cells #[.bool false,.slice none 0 0] 24)).drew;have bt1_e:=(Blk.new W0 24 #[.bool false,.slice none 0 0]).drew;have tok0:True:=trivial;have HC1:=hide (jis (h.at_ HBd) (by omega) c (by omega));have HC1a:=hide (jis (h.at_ HBe) (by omega) c (by omega));rw [HX1.out] at HC1 HC1a
    go_region_held3 (fun w'=>w'.cell? ⟨w.heap.size,0,none⟩=some (.bool n)∧w'.cell? ⟨w.heap.size,1,none⟩=some (.slice A len cap)∧w'.cell? ⟨w.heap.size+1,0,none⟩=some (.bool m)∧w'.cell? ⟨w.heap.size+1,1,none⟩=some (.slice A' len' cap')∧w'.cell? ⟨p,4,none⟩=some (.int .i64 (c:Int))) (go_keep)
      (first
        | (go_at_call 22;have _t:=tok0;(with_reducible refine HC1.out.mono ?_);rintro e v1 ⟨hb1,u1,d1,rfl,hu1,hd1⟩
           have bx:=bx.drew.below hb1 bx.lt;have bY:=bY.drew.below hb1 bY.lt;have bp:=bp.drew.below hb1 bp.lt;have rs:=rs.drew.below hb1 rs.lt;have HV1:=hide (HBd.out.trans (hb1.mono HBd.out.size));have hz1:W0.heap.size≤v1.heap.size:=hb1.size;have tagA1n:True:=trivial;obtain ⟨C1,cc1,rfl⟩:=hu1.form;have qv1:=RetZ.q hu1 hd1 HL1.out;have HV1a:=hide (HV1.out.alloc (Nat.le_trans (Nat.le_trans (by omega) hs2) hz1) (.cells #[.bool false,.slice none 0 0] 24));have HC2:=hide (jcb qv1 (h'.at_ HV1) (by omega) (by omega) hy HUL.out);have HC2a:=hide (jcb (qv1.below ((Below.refl _ _).alloc (Nat.le_refl _) (.cells #[.bool false,.slice none 0 0] 24))) (h'.at_ HV1a) (by omega) (by omega) hy HUL.out);rw [HX2.out] at HC2 HC2a;obtain ⟨e0,e1,-,-⟩:=bx.two;obtain ⟨e2,e3,-,-⟩:=bY.two;obtain ⟨-,-,-,-,e4,-⟩:=bp.five;clear _t tok0;have tok1:True:=trivial)
        | (go_at_call 22;have _t:=tok0;(with_reducible refine HC1a.out.mono ?_);rintro e v1 ⟨hb1,u1,d1,rfl,hu1,hd1⟩
           have bx:=bx_e.below hb1 bx_e.lt;have bY:=bY_e.below hb1 bY_e.lt;have bp:=bp_e.below hb1 bp_e.lt;have rs:=rs_e.below hb1 rs_e.lt;have bt1:=bt1_e.below hb1 bt1_e.lt;have HV1:=hide (HBe.out.trans (hb1.mono HBe.out.size));have hz1:W0.heap.size≤v1.heap.size:=Nat.le_trans (Nat.le_of_lt bt1_e.lt) hb1.size;have hg1:W0.heap.size<v1.heap.size:=bt1.lt;have tagA1a:True:=trivial;obtain ⟨C1,cc1,rfl⟩:=hu1.form;have qv1:=RetZ.q hu1 hd1 HL1.out;have HV1a:=hide (HV1.out.alloc (Nat.le_trans (Nat.le_trans (by omega) hs2) hz1) (.cells #[.bool false,.slice none 0 0] 24));have HC2:=hide (jcb qv1 (h'.at_ HV1) (by omega) (by omega) hy HUL.out);have HC2a:=hide (jcb (qv1.below ((Below.refl _ _).alloc (Nat.le_refl _) (.cells #[.bool false,.slice none 0 0] 24))) (h'.at_ HV1a) (by omega) (by omega) hy HUL.out);rw [HX2.out] at HC2 HC2a;obtain ⟨e0,e1,-,-⟩:=bx.two;obtain ⟨e2,e3,-,-⟩:=bY.two;obtain ⟨-,-,-,-,e4,-⟩:=bp.five;clear _t tok0;have tok1:True:=trivial)
        | (go_at_call 95;have _t:=tok1;(with_reducible refine HC2.out.mono ?_);rintro e v2 ⟨hb2,u2,d2,rfl,hu2,hd2⟩
           have bx:=bx.below hb2 bx.lt;have bY:=bY.below hb2 bY.lt;have bp:=bp.below hb2 bp.lt;have rs:=rs.below hb2 rs.lt
           (try have bt1:=bt1.below hb2 bt1.lt)
           have HV2:=hide (HV1.out.trans (hb2.mono HV1.out.size));have hv2:v1.heap.size≤v2.heap.size:=hb2.size;have hz2:W0.heap.size≤v2.heap.size:=Nat.le_trans hz1 (hb2.size);have tagA2n:True:=trivial;obtain ⟨C2,cc2,rfl⟩:=hu2.form;have qv2:=RetZ.q hu2 hd2 HL2.out
           (try obtain ⟨t0,t1,t2,t3⟩:=bt1.two)
           have hn1_0:¬ W0.heap.size=w.heap.size:=by omega
           have hm1_0:¬ w.heap.size=W0.heap.size:=by omega
           have hn1_1:¬ W0.heap.size=w.heap.size+1:=by omega
           have hm1_1:¬ w.heap.size+1=W0.heap.size:=by omega
           have hn1_2:¬ W0.heap.size=p:=by omega
           have hm1_2:¬ p=W0.heap.size:=by omega
           have hn1_3:¬ W0.heap.size=w.heap.size+2:=by omega
           have hm1_3:¬ w.heap.size+2=W0.heap.size:=by omega
           (try obtain ⟨t0,t1,t2,t3⟩:=bt2.two)
           have hn2_0:¬ v1.heap.size=w.heap.size:=by omega
           have hm2_0:¬ w.heap.size=v1.heap.size:=by omega
           have hn2_1:¬ v1.heap.size=w.heap.size+1:=by omega
           have hm2_1:¬ w.heap.size+1=v1.heap.size:=by omega
           have hn2_2:¬ v1.heap.size=p:=by omega
           have hm2_2:¬ p=v1.heap.size:=by omega
           have hn2_3:¬ v1.heap.size=w.heap.size+2:=by omega
           have hm2_3:¬ w.heap.size+2=v1.heap.size:=by omega
           obtain ⟨e0,e1,-,-⟩:=bx.two;obtain ⟨e2,e3,-,-⟩:=bY.two;obtain ⟨-,-,-,-,e4,-⟩:=bp.five;clear _t tok1;have tok2:True:=trivial)
        | (go_at_call 95;have _t:=tok1;(with_reducible refine HC2a.out.mono ?_);rintro e v2 ⟨hb2,u2,d2,rfl,hu2,hd2⟩
           have hba:Below v1.heap.size v1 (v1.alloc (.cells #[.bool false,.slice none 0 0] 24)):=(Below.refl _ _).alloc (Nat.le_refl _) _;have bx:=(bx.below hba bx.lt).below hb2 (Nat.lt_of_lt_of_le bx.lt hba.size);have bY:=(bY.below hba bY.lt).below hb2 (Nat.lt_of_lt_of_le bY.lt hba.size);have bp:=(bp.below hba bp.lt).below hb2 (Nat.lt_of_lt_of_le bp.lt hba.size);have rs:=(rs.below hba rs.lt).below hb2 (Nat.lt_of_lt_of_le rs.lt hba.size);have bt2:=(Blk.new v1 24 #[.bool false,.slice none 0 0]).below hb2 (by simp);have hg2:v1.heap.size<v2.heap.size:=bt2.lt;have HV2:=hide (HV1a.out.trans (hb2.mono HV1a.out.size));have hv2:v1.heap.size≤v2.heap.size:=Nat.le_trans hba.size hb2.size;have hz2:W0.heap.size≤v2.heap.size:=Nat.le_trans hz1 (Nat.le_trans hba.size hb2.size);have tagA2a:True:=trivial;obtain ⟨C2,cc2,rfl⟩:=hu2.form;have qv2:=RetZ.q hu2 hd2 HL2.out
           (try obtain ⟨t0,t1,t2,t3⟩:=bt1.two)
           have hn1_0:¬ W0.heap.size=w.heap.size:=by omega
           have hm1_0:¬ w.heap.size=W0.heap.size:=by omega
           have hn1_1:¬ W0.heap.size=w.heap.size+1:=by omega
           have hm1_1:¬ w.heap.size+1=W0.heap.size:=by omega
           have hn1_2:¬ W0.heap.size=p:=by omega
           have hm1_2:¬ p=W0.heap.size:=by omega
           have hn1_3:¬ W0.heap.size=w.heap.size+2:=by omega
           have hm1_3:¬ w.heap.size+2=W0.heap.size:=by omega
           (try obtain ⟨t0,t1,t2,t3⟩:=bt2.two)
           have hn2_0:¬ v1.heap.size=w.heap.size:=by omega
           have hm2_0:¬ w.heap.size=v1.heap.size:=by omega
           have hn2_1:¬ v1.heap.size=w.heap.size+1:=by omega
           have hm2_1:¬ w.heap.size+1=v1.heap.size:=by omega
           have hn2_2:¬ v1.heap.size=p:=by omega
           have hm2_2:¬ p=v1.heap.size:=by omega
           have hn2_3:¬ v1.heap.size=w.heap.size+2:=by omega
           have hm2_3:¬ w.heap.size+2=v1.heap.size:=by omega
           obtain ⟨e0,e1,-,-⟩:=bx.two;obtain ⟨e2,e3,-,-⟩:=bY.two;obtain ⟨-,-,-,-,e4,-⟩:=bp.five;clear _t tok1;have tok2:True:=trivial)
        )
    all_goals go_wp2_with fail
    all_goals go_meet
    all_goals first
      | (have hx:=bt1
         have hu7:=jag (r:=W0.heap.size) (hu2.mono (show W0.heap.size+1≤_ by (first | (simp;done) | omega))) (by omega) (.bool (decide (x2<0))) (.slice C2 d2.length cc2);exact ⟨rfl,W0.heap.size,C2,d2.length,cc2,rfl,jai bt1,jap rs (by omega) _ _,below2 HV2.out (by omega) _ _,⟨d2,hu7.mono (by omega),rfl,hd2,HL2.out⟩,by simp;omega⟩)
      | (have hx:=bt2
         have hu7:=jag (r:=v1.heap.size) (hu2.mono (show v1.heap.size+1≤_ by (first | (simp;done) | omega))) (by omega) (.bool (decide (x2<0))) (.slice C2 d2.length cc2);exact ⟨rfl,v1.heap.size,C2,d2.length,cc2,rfl,jai bt2,jap rs (by omega) _ _,below2 HV2.out (by omega) _ _,⟨d2,hu7.mono (by omega),rfl,hd2,HL2.out⟩,by simp;omega⟩)
      | exact ⟨rfl,v2.heap.size,C2,d2.length,cc2,rfl,Blk.new _ _ _,rs.alloc _,HV2.out.alloc HV2.out.size _,⟨d2,(hu2.alloc _).mono (by omega),rfl,hd2,HL2.out⟩,by simp;omega⟩
  case rest=>
    obtain ⟨rfl,g,C9,l9,c9,rfl,ba,rs3,HV,q9,hs6⟩:=hcut;have HV:=hide HV;obtain ⟨t0,t1,-,-⟩:=ba.two;obtain ⟨r0,r1,r2,r3⟩:=rs3.two;have hgl:=ba.lt;have hq9:=q9
    go_upto_region 2 with (fail)
    go_wp2_with fail
    refine bodyPost_ret (jah rfl _ _ _ _ _ _ rfl (jai rs3)) rfl ⟨below2 HV.out (by omega) _ _,?_⟩;obtain ⟨d9,g1,rfl,g3,-⟩:=q9;exact ⟨_,d9,rfl,(jag (r:=w.heap.size+2) g1 (by omega) _ _).mono (by omega),g3⟩
end
end
section
section
open Go.RowKit
open L (val dig nth)
def vLo (q x y:Int):Int := -vUp (-(x*2^q.toNat)) y
def vHi (q x y:Int):Int:=vUp (x*2^q.toNat) y
theorem jn0 {q x y:Int} {k:Nat} (hy:y≠0) (hx:x.natAbs<W^k) (hq:q≤2048):(vHi q x y).natAbs<W^(k+34):=by
  unfold vHi vUp;rw [Int.natAbs_neg];have h1:(x*2^q.toNat).natAbs<W^(k+32):=jep hx (by omega);exact Nat.lt_of_lt_of_le (jdl hy (by rw [Int.natAbs_neg];exact h1)) (Nat.pow_le_pow_right ja5 (by omega))
theorem jn1 {q x y:Int} {k:Nat} (hy:y≠0) (hx:x.natAbs<W^k) (hq:q≤2048):(vLo q x y).natAbs<W^(k+34):=by
  unfold vLo vUp;rw [Int.natAbs_neg,Int.natAbs_neg];have h1:(x*2^q.toNat).natAbs<W^(k+32):=jep hx (by omega);exact Nat.lt_of_lt_of_le (jdl hy (by rw [Int.natAbs_neg,Int.natAbs_neg];exact h1)) (Nat.pow_le_pow_right ja5 (by omega))
theorem jdm {w:World} {k k':Nat} {n m:Bool} {A A':Option Addr} {len cap len' cap':Nat} {x y:Int} {q:Int} {p:Nat} {b0 b1 b2 b3:Value} (h:Q w k n A len cap x) (h':Q w k' m A' len' cap' y) (hp:Blk w p 31 #[b0,b1,b2,b3,.int .i64 q]) (hk:k≤1000) (hk':k'≤1000) (hq0:0≤q) (hq1:q≤2048) (hy:y≠0) :
    Calls Tryz.prog 140 #[.agg #[.bool n,.slice A len cap],.agg #[.bool m,.slice A' len' cap'],.pointer (some ⟨p,0,none⟩)] w fun e w'=>Below w.heap.size w w'∧RetZ w.heap.size (vLo q x y) e w':=
  jp1 h h' hp hk hk' hq0 hq1 hy
theorem jdn {w:World} {k k':Nat} {n m:Bool} {A A':Option Addr} {len cap len' cap':Nat} {x y:Int} {q:Int} {p:Nat} {b0 b1 b2 b3:Value} (h:Q w k n A len cap x) (h':Q w k' m A' len' cap' y) (hp:Blk w p 31 #[b0,b1,b2,b3,.int .i64 q]) (hk:k≤1000) (hk':k'≤1000) (hq0:0≤q) (hq1:q≤2048) (hy:y≠0) :
    Calls Tryz.prog 141 #[.agg #[.bool n,.slice A len cap],.agg #[.bool m,.slice A' len' cap'],.pointer (some ⟨p,0,none⟩)] w fun e w'=>Below w.heap.size w w'∧RetZ w.heap.size (vHi q x y) e w':=
  jp2 h h' hp hk hk' hq0 hq1 hy
set_option maxHeartbeats 4000000 in
set_option maxRecDepth 100000 in
theorem jie {w:World} {k:Nat} {n0 n1 m0 m1:Bool} {A0 A1 B0 B1:Option Addr} {l0 l1 j0 j1 c0 c1 d0 d1:Nat} {x0 x1 y0 y1:Int} (qa qb:Int) {q:Int} {p:Nat} {v0 v1 v2 v3:Value} (hx0:Q w k n0 A0 l0 c0 x0) (hx1:Q w k n1 A1 l1 c1 x1) (hy0:Q w k m0 B0 j0 d0 y0) (hy1:Q w k m1 B1 j1 d1 y1) (hk:k≤1000) (hp:Blk w p 31 #[v0,v1,v2,v3,.int .i64 q]) (hq0:0≤q) (hq1:q≤2048) (hny0:y0≠0) (hny1:y1≠0) :
    Calls Tryz.prog 46 #[.agg #[.bool n0,.slice A0 l0 c0,.bool n1,.slice A1 l1 c1,.int .i64 qa],.agg #[.bool m0,.slice B0 j0 d0,.bool m1,.slice B1 j1 d1,.int .i64 qb],.func (.func 140) #[] #[.pointer (some ⟨p,0,none⟩)]] w fun e w'=>
      Below w.heap.size w w'∧RetII w.heap.size (k+34) (min4 (vLo q x0 y0) (vLo q x0 y1) (vLo q x1 y0) (vLo q x1 y1)) (max4 (vLo q x0 y0) (vLo q x0 y1) (vLo q x1 y0) (vLo q x1 y1)) e w':=by
  obtain ⟨W0,hW,ha,hb,hr1,hr2,hB0,hs⟩:=start4 w 31 31 24 24 #[.bool n0,.slice A0 l0 c0,.bool n1,.slice A1 l1 c1,.int .i64 qa] #[.bool m0,.slice B0 j0 d0,.bool m1,.slice B1 j1 d1,.int .i64 qb] #[.bool false,.slice none 0 0] #[.bool false,.slice none 0 0];have HB0:=hide hB0.drew;have hs2:w.heap.size+4≤W0.heap.size:=by omega
  clear hs hB0;obtain ⟨a0,a1,a2,a3,a4,-⟩:=ha.five;obtain ⟨b0,b1,b2,b3,b4,-⟩:=hb.five;obtain ⟨z0,HZ0⟩:∃z,Hid (vLo q x0 y0=z):=⟨_,hide rfl⟩;have HL0:Hid (z0.natAbs<W^(k+34)):=hide (by rw [←HZ0.out];exact jn1 hny0 hx0.lt hq1);obtain ⟨z1,HZ1⟩:∃z,Hid (vLo q x0 y1=z):=⟨_,hide rfl⟩;have HL1:Hid (z1.natAbs<W^(k+34)):=hide (by rw [←HZ1.out];exact jn1 hny1 hx0.lt hq1);obtain ⟨z2,HZ2⟩:∃z,Hid (vLo q x1 y0=z):=⟨_,hide rfl⟩;have HL2:Hid (z2.natAbs<W^(k+34)):=hide (by rw [←HZ2.out];exact jn1 hny0 hx1.lt hq1);obtain ⟨z3,HZ3⟩:∃z,Hid (vLo q x1 y1=z):=⟨_,hide rfl⟩;have HL3:Hid (z3.natAbs<W^(k+34)):=hide (by rw [←HZ3.out];exact jn1 hny1 hx1.lt hq1);rw [HZ0.out,HZ1.out,HZ2.out,HZ3.out];have tok0:True:=trivial;have hs0_:w.heap.size+4≤W0.drew.heap.size:=hs2;have HC0:=hide (jdm (hx0.at_ HB0) (hy0.at_ HB0) (hp.below HB0.out hp.lt) (by omega) (by omega) hq0 hq1 hny0);rw [HZ0.out] at HC0
  go_enter Tryz.func46,Tryz.ntmps46
  go_upto_region 1 with (fail)
  rw [←hW];clear hW;have ha:=ha.drew;have hb:=hb.drew;have hr1:=hr1.drew;have hr2:=hr2.drew
  go_region_held3 (fun w'=>w'.cell? ⟨w.heap.size,0,none⟩=some (.bool n0)∧w'.cell? ⟨w.heap.size,1,none⟩=some (.slice A0 l0 c0)∧w'.cell? ⟨w.heap.size,2,none⟩=some (.bool n1)∧w'.cell? ⟨w.heap.size,3,none⟩=some (.slice A1 l1 c1)∧
      w'.cell? ⟨w.heap.size+1,0,none⟩=some (.bool m0)∧w'.cell? ⟨w.heap.size+1,1,none⟩=some (.slice B0 j0 d0)∧w'.cell? ⟨w.heap.size+1,2,none⟩=some (.bool m1)∧w'.cell? ⟨w.heap.size+1,3,none⟩=some (.slice B1 j1 d1)) (go_keep)
    (first
      | (go_at_call 140;have _t:=tok0;(with_reducible refine HC0.out.mono ?_);rintro e w1 ⟨hb0,u0,e0,rfl,hu0,hd0⟩
         obtain ⟨C0,cc0,rfl⟩:=hu0.form;have ha:=ha.below hb0 ha.lt;have hb:=hb.below hb0 hb.lt;have hr1:=hr1.below hb0 hr1.lt;have hr2:=hr2.below hb0 hr2.lt;have HB1:=hide (HB0.out.trans (hb0.mono HB0.out.size));have hs1_:w.heap.size+4≤w1.heap.size:=Nat.le_trans hs0_ hb0.size;have HC1:=hide (jdm (hx0.at_ HB1) (hy1.at_ HB1) (hp.below HB1.out hp.lt) (by omega) (by omega) hq0 hq1 hny1);rw [HZ1.out] at HC1;obtain ⟨a0,a1,a2,a3,a4,-⟩:=ha.five;obtain ⟨b0,b1,b2,b3,b4,-⟩:=hb.five;clear _t tok0;have tok1:True:=trivial)
      | (go_at_call 140;have _t:=tok1;(with_reducible refine HC1.out.mono ?_);rintro e w2 ⟨hb1,u1,e1,rfl,hu1,hd1⟩
         obtain ⟨C1,cc1,rfl⟩:=hu1.form;have ha:=ha.below hb1 ha.lt;have hb:=hb.below hb1 hb.lt;have hr1:=hr1.below hb1 hr1.lt;have hr2:=hr2.below hb1 hr2.lt;have hu0:=hu0.below hb1;have HB2:=hide (HB1.out.trans (hb1.mono HB1.out.size));have hs2_:w.heap.size+4≤w2.heap.size:=Nat.le_trans hs1_ hb1.size;have HC2:=hide (jdm (hx1.at_ HB2) (hy0.at_ HB2) (hp.below HB2.out hp.lt) (by omega) (by omega) hq0 hq1 hny0);rw [HZ2.out] at HC2;obtain ⟨a0,a1,a2,a3,a4,-⟩:=ha.five;obtain ⟨b0,b1,b2,b3,b4,-⟩:=hb.five;clear _t tok1;have tok2:True:=trivial)
      | (go_at_call 140;have _t:=tok2;(with_reducible refine HC2.out.mono ?_);rintro e w3 ⟨hb2,u2,e2,rfl,hu2,hd2⟩
         obtain ⟨C2,cc2,rfl⟩:=hu2.form;have ha:=ha.below hb2 ha.lt;have hb:=hb.below hb2 hb.lt;have hr1:=hr1.below hb2 hr1.lt;have hr2:=hr2.below hb2 hr2.lt;have hu0:=hu0.below hb2;have hu1:=hu1.below hb2;have HB3:=hide (HB2.out.trans (hb2.mono HB2.out.size));have hs3_:w.heap.size+4≤w3.heap.size:=Nat.le_trans hs2_ hb2.size;have HC3:=hide (jdm (hx1.at_ HB3) (hy1.at_ HB3) (hp.below HB3.out hp.lt) (by omega) (by omega) hq0 hq1 hny1);rw [HZ3.out] at HC3;obtain ⟨a0,a1,a2,a3,a4,-⟩:=ha.five;obtain ⟨b0,b1,b2,b3,b4,-⟩:=hb.five;clear _t tok2;have tok3:True:=trivial)
      | (go_at_call 140;have _t:=tok3;(with_reducible refine HC3.out.mono ?_);rintro e w4 ⟨hb3,u3,e3,rfl,hu3,hd3⟩
         obtain ⟨C3,cc3,rfl⟩:=hu3.form;have ha:=ha.below hb3 ha.lt;have hb:=hb.below hb3 hb.lt;have hr1:=hr1.below hb3 hr1.lt;have hr2:=hr2.below hb3 hr2.lt;have hu0:=hu0.below hb3;have hu1:=hu1.below hb3;have hu2:=hu2.below hb3;have HB4:=hide (HB3.out.trans (hb3.mono HB3.out.size));have hs4_:w.heap.size+4≤w4.heap.size:=Nat.le_trans hs3_ hb3.size;obtain ⟨a0,a1,a2,a3,a4,-⟩:=ha.five;obtain ⟨b0,b1,b2,b3,b4,-⟩:=hb.five;clear _t tok3;have tok4:True:=trivial)
    )
  have q0:=(RetZ.qb hu0 hd0 HL0.out).mono hs0_;have q1:=(RetZ.qb hu1 hd1 HL1.out).mono hs1_;have q2:=(RetZ.qb hu2 hd2 HL2.out).mono hs2_;have q3:=(RetZ.qb hu3 hd3 HL3.out).mono hs3_;have hsz:w.heap.size+4≤w4.heap.size:=by have:=hr2.lt;have:=hr1.lt;have:=HB4.out.size;omega
  obtain ⟨W5,hW5,bl,hB5,hs5⟩:=start1 w4 24 #[.bool (decide (z0<0)),.slice C0 e0.length cc0,.bool (decide (z1<0)),.slice C1 e1.length cc1,.bool (decide (z2<0)),.slice C2 e2.length cc2,.bool (decide (z3<0)),.slice C3 e3.length cc3];have HI:=hide (Ints.four bl (q0.below hB5) (q1.below hB5) (q2.below hB5) (q3.below hB5));have r1:=hr1.below hB5 hr1.lt;have r2:=hr2.below hB5 hr2.lt;have HB5:=hide (HB4.out.trans (hB5.mono HB4.out.size));have HM:=hide (jdj HI.out (by omega) (by omega) (by omega));clear a0 a1 a2 a3 a4 b0 b1 b2 b3 b4 q0 q1 q2 q3
  go_upto_region 2 with (fail)
  rw [←hW5];clear hW5
  go_wp2_with fail
  refine HM.out.mono ?_;rintro e w6 ⟨hb6,i,hi,rfl,hmin⟩;have HI6:=hide (HI.out.below hb6);have r16:=r1.below hb6 r1.lt;have r26:=r2.below hb6 r2.lt;have HB6:=hide (HB5.out.trans (hb6.mono HB5.out.size));have HX:=hide (jdk HI6.out (by omega) (by omega) (by omega));have HMIN:=hide (jjt hi hmin);clear hmin HM
  go_wp2_with fail
  refine HX.out.mono ?_;rintro e w7 ⟨hb7,j,hj,rfl,hmax⟩;have HI7:=hide (HI6.out.below hb7);have r17:=r16.below hb7 r16.lt;have r27:=r26.below hb7 r26.lt;have HB7:=hide (HB6.out.trans (hb7.mono HB6.out.size));have HMAX:=hide (jju hj hmax);have q6:=HI7.out.q i hi;have q7:=HI7.out.q j hj;rw [HMIN.out] at q6;rw [HMAX.out] at q7;clear hmax HX
  generalize pick (decide (z0<0)) (decide (z1<0)) (decide (z2<0)) (decide (z3<0)) i=N1 at *
  generalize pick (decide (z0<0)) (decide (z1<0)) (decide (z2<0)) (decide (z3<0)) j=N2 at *
  generalize pick C0 C1 C2 C3 i=D1 at *
  generalize pick C0 C1 C2 C3 j=D2 at *
  generalize pick e0.length e1.length e2.length e3.length i=L1 at *
  generalize pick e0.length e1.length e2.length e3.length j=L2 at *
  generalize pick cc0 cc1 cc2 cc3 i=K1 at *
  generalize pick cc0 cc1 cc2 cc3 j=K2 at *
  obtain ⟨j0,j1,j2,j3⟩:=r17.two;obtain ⟨i0,i1,i2,i3⟩:=r27.two;have hn1:¬ w.heap.size+2=w.heap.size+3:=by omega
  have hn2:¬ w.heap.size+3=w.heap.size+2:=by omega
  go_wp2_with fail
  have z1:=jap (r:=w.heap.size+3) (jai (x:=.bool N1) (y:=.slice D1 L1 K1) r17) (by omega) (.bool N2) (.slice D2 L2 K2);have z2:=jai (x:=.bool N2) (y:=.slice D2 L2 K2) (jap (r:=w.heap.size+2) r27 (by omega) (.bool N1) (.slice D1 L1 K1));refine bodyPost_ret (jcs rfl _ _ _ _ _ _ _ _ _ _ rfl z1 rfl z2) rfl ⟨below2 (below2 HB7.out (by omega) _ _) (by omega) _ _,?_⟩;exact ⟨N1,D1,L1,K1,N2,D2,L2,K2,rfl,((q6.low2 (by omega) _ _).low2 (by omega) _ _).mono (by omega),((q7.low2 (by omega) _ _).low2 (by omega) _ _).mono (by omega)⟩
set_option maxHeartbeats 4000000 in
set_option maxRecDepth 100000 in
theorem jif {w:World} {k:Nat} {n0 n1 m0 m1:Bool} {A0 A1 B0 B1:Option Addr} {l0 l1 j0 j1 c0 c1 d0 d1:Nat} {x0 x1 y0 y1:Int} (qa qb:Int) {q:Int} {p:Nat} {v0 v1 v2 v3:Value} (hx0:Q w k n0 A0 l0 c0 x0) (hx1:Q w k n1 A1 l1 c1 x1) (hy0:Q w k m0 B0 j0 d0 y0) (hy1:Q w k m1 B1 j1 d1 y1) (hk:k≤1000) (hp:Blk w p 31 #[v0,v1,v2,v3,.int .i64 q]) (hq0:0≤q) (hq1:q≤2048) (hny0:y0≠0) (hny1:y1≠0) :
    Calls Tryz.prog 46 #[.agg #[.bool n0,.slice A0 l0 c0,.bool n1,.slice A1 l1 c1,.int .i64 qa],.agg #[.bool m0,.slice B0 j0 d0,.bool m1,.slice B1 j1 d1,.int .i64 qb],.func (.func 141) #[] #[.pointer (some ⟨p,0,none⟩)]] w fun e w'=>
      Below w.heap.size w w'∧RetII w.heap.size (k+34) (min4 (vHi q x0 y0) (vHi q x0 y1) (vHi q x1 y0) (vHi q x1 y1)) (max4 (vHi q x0 y0) (vHi q x0 y1) (vHi q x1 y0) (vHi q x1 y1)) e w':=by
  obtain ⟨W0,hW,ha,hb,hr1,hr2,hB0,hs⟩:=start4 w 31 31 24 24 #[.bool n0,.slice A0 l0 c0,.bool n1,.slice A1 l1 c1,.int .i64 qa] #[.bool m0,.slice B0 j0 d0,.bool m1,.slice B1 j1 d1,.int .i64 qb] #[.bool false,.slice none 0 0] #[.bool false,.slice none 0 0];have HB0:=hide hB0.drew;have hs2:w.heap.size+4≤W0.heap.size:=by omega
  clear hs hB0;obtain ⟨a0,a1,a2,a3,a4,-⟩:=ha.five;obtain ⟨b0,b1,b2,b3,b4,-⟩:=hb.five;obtain ⟨z0,HZ0⟩:∃z,Hid (vHi q x0 y0=z):=⟨_,hide rfl⟩;have HL0:Hid (z0.natAbs<W^(k+34)):=hide (by rw [←HZ0.out];exact jn0 hny0 hx0.lt hq1);obtain ⟨z1,HZ1⟩:∃z,Hid (vHi q x0 y1=z):=⟨_,hide rfl⟩;have HL1:Hid (z1.natAbs<W^(k+34)):=hide (by rw [←HZ1.out];exact jn0 hny1 hx0.lt hq1);obtain ⟨z2,HZ2⟩:∃z,Hid (vHi q x1 y0=z):=⟨_,hide rfl⟩;have HL2:Hid (z2.natAbs<W^(k+34)):=hide (by rw [←HZ2.out];exact jn0 hny0 hx1.lt hq1);obtain ⟨z3,HZ3⟩:∃z,Hid (vHi q x1 y1=z):=⟨_,hide rfl⟩;have HL3:Hid (z3.natAbs<W^(k+34)):=hide (by rw [←HZ3.out];exact jn0 hny1 hx1.lt hq1);rw [HZ0.out,HZ1.out,HZ2.out,HZ3.out];have tok0:True:=trivial;have hs0_:w.heap.size+4≤W0.drew.heap.size:=hs2;have HC0:=hide (jdn (hx0.at_ HB0) (hy0.at_ HB0) (hp.below HB0.out hp.lt) (by omega) (by omega) hq0 hq1 hny0);rw [HZ0.out] at HC0
  go_enter Tryz.func46,Tryz.ntmps46
  go_upto_region 1 with (fail)
  rw [←hW];clear hW;have ha:=ha.drew;have hb:=hb.drew;have hr1:=hr1.drew;have hr2:=hr2.drew
  go_region_held3 (fun w'=>w'.cell? ⟨w.heap.size,0,none⟩=some (.bool n0)∧w'.cell? ⟨w.heap.size,1,none⟩=some (.slice A0 l0 c0)∧w'.cell? ⟨w.heap.size,2,none⟩=some (.bool n1)∧w'.cell? ⟨w.heap.size,3,none⟩=some (.slice A1 l1 c1)∧
      w'.cell? ⟨w.heap.size+1,0,none⟩=some (.bool m0)∧w'.cell? ⟨w.heap.size+1,1,none⟩=some (.slice B0 j0 d0)∧w'.cell? ⟨w.heap.size+1,2,none⟩=some (.bool m1)∧w'.cell? ⟨w.heap.size+1,3,none⟩=some (.slice B1 j1 d1)) (go_keep)
    (first
      | (go_at_call 141;have _t:=tok0;(with_reducible refine HC0.out.mono ?_);rintro e w1 ⟨hb0,u0,e0,rfl,hu0,hd0⟩
         obtain ⟨C0,cc0,rfl⟩:=hu0.form;have ha:=ha.below hb0 ha.lt;have hb:=hb.below hb0 hb.lt;have hr1:=hr1.below hb0 hr1.lt;have hr2:=hr2.below hb0 hr2.lt;have HB1:=hide (HB0.out.trans (hb0.mono HB0.out.size));have hs1_:w.heap.size+4≤w1.heap.size:=Nat.le_trans hs0_ hb0.size;have HC1:=hide (jdn (hx0.at_ HB1) (hy1.at_ HB1) (hp.below HB1.out hp.lt) (by omega) (by omega) hq0 hq1 hny1);rw [HZ1.out] at HC1;obtain ⟨a0,a1,a2,a3,a4,-⟩:=ha.five;obtain ⟨b0,b1,b2,b3,b4,-⟩:=hb.five;clear _t tok0;have tok1:True:=trivial)
      | (go_at_call 141;have _t:=tok1;(with_reducible refine HC1.out.mono ?_);rintro e w2 ⟨hb1,u1,e1,rfl,hu1,hd1⟩
         obtain ⟨C1,cc1,rfl⟩:=hu1.form;have ha:=ha.below hb1 ha.lt;have hb:=hb.below hb1 hb.lt;have hr1:=hr1.below hb1 hr1.lt;have hr2:=hr2.below hb1 hr2.lt;have hu0:=hu0.below hb1;have HB2:=hide (HB1.out.trans (hb1.mono HB1.out.size));have hs2_:w.heap.size+4≤w2.heap.size:=Nat.le_trans hs1_ hb1.size;have HC2:=hide (jdn (hx1.at_ HB2) (hy0.at_ HB2) (hp.below HB2.out hp.lt) (by omega) (by omega) hq0 hq1 hny0);rw [HZ2.out] at HC2;obtain ⟨a0,a1,a2,a3,a4,-⟩:=ha.five;obtain ⟨b0,b1,b2,b3,b4,-⟩:=hb.five;clear _t tok1;have tok2:True:=trivial)
      | (go_at_call 141;have _t:=tok2;(with_reducible refine HC2.out.mono ?_);rintro e w3 ⟨hb2,u2,e2,rfl,hu2,hd2⟩
         obtain ⟨C2,cc2,rfl⟩:=hu2.form;have ha:=ha.below hb2 ha.lt;have hb:=hb.below hb2 hb.lt;have hr1:=hr1.below hb2 hr1.lt;have hr2:=hr2.below hb2 hr2.lt;have hu0:=hu0.below hb2;have hu1:=hu1.below hb2;have HB3:=hide (HB2.out.trans (hb2.mono HB2.out.size));have hs3_:w.heap.size+4≤w3.heap.size:=Nat.le_trans hs2_ hb2.size;have HC3:=hide (jdn (hx1.at_ HB3) (hy1.at_ HB3) (hp.below HB3.out hp.lt) (by omega) (by omega) hq0 hq1 hny1);rw [HZ3.out] at HC3;obtain ⟨a0,a1,a2,a3,a4,-⟩:=ha.five;obtain ⟨b0,b1,b2,b3,b4,-⟩:=hb.five;clear _t tok2;have tok3:True:=trivial)
      | (go_at_call 141;have _t:=tok3;(with_reducible refine HC3.out.mono ?_);rintro e w4 ⟨hb3,u3,e3,rfl,hu3,hd3⟩
         obtain ⟨C3,cc3,rfl⟩:=hu3.form;have ha:=ha.below hb3 ha.lt;have hb:=hb.below hb3 hb.lt;have hr1:=hr1.below hb3 hr1.lt;have hr2:=hr2.below hb3 hr2.lt;have hu0:=hu0.below hb3;have hu1:=hu1.below hb3;have hu2:=hu2.below hb3;have HB4:=hide (HB3.out.trans (hb3.mono HB3.out.size));have hs4_:w.heap.size+4≤w4.heap.size:=Nat.le_trans hs3_ hb3.size;obtain ⟨a0,a1,a2,a3,a4,-⟩:=ha.five;obtain ⟨b0,b1,b2,b3,b4,-⟩:=hb.five;clear _t tok3;have tok4:True:=trivial)
    )
  have q0:=(RetZ.qb hu0 hd0 HL0.out).mono hs0_;have q1:=(RetZ.qb hu1 hd1 HL1.out).mono hs1_;have q2:=(RetZ.qb hu2 hd2 HL2.out).mono hs2_;have q3:=(RetZ.qb hu3 hd3 HL3.out).mono hs3_;have hsz:w.heap.size+4≤w4.heap.size:=by have:=hr2.lt;have:=hr1.lt;have:=HB4.out.size;omega
  obtain ⟨W5,hW5,bl,hB5,hs5⟩:=start1 w4 24 #[.bool (decide (z0<0)),.slice C0 e0.length cc0,.bool (decide (z1<0)),.slice C1 e1.length cc1,.bool (decide (z2<0)),.slice C2 e2.length cc2,.bool (decide (z3<0)),.slice C3 e3.length cc3];have HI:=hide (Ints.four bl (q0.below hB5) (q1.below hB5) (q2.below hB5) (q3.below hB5));have r1:=hr1.below hB5 hr1.lt;have r2:=hr2.below hB5 hr2.lt;have HB5:=hide (HB4.out.trans (hB5.mono HB4.out.size));have HM:=hide (jdj HI.out (by omega) (by omega) (by omega));clear a0 a1 a2 a3 a4 b0 b1 b2 b3 b4 q0 q1 q2 q3
  go_upto_region 2 with (fail)
  rw [←hW5];clear hW5
  go_wp2_with fail
  refine HM.out.mono ?_;rintro e w6 ⟨hb6,i,hi,rfl,hmin⟩;have HI6:=hide (HI.out.below hb6);have r16:=r1.below hb6 r1.lt;have r26:=r2.below hb6 r2.lt;have HB6:=hide (HB5.out.trans (hb6.mono HB5.out.size));have HX:=hide (jdk HI6.out (by omega) (by omega) (by omega));have HMIN:=hide (jjt hi hmin);clear hmin HM
  go_wp2_with fail
  refine HX.out.mono ?_;rintro e w7 ⟨hb7,j,hj,rfl,hmax⟩;have HI7:=hide (HI6.out.below hb7);have r17:=r16.below hb7 r16.lt;have r27:=r26.below hb7 r26.lt;have HB7:=hide (HB6.out.trans (hb7.mono HB6.out.size));have HMAX:=hide (jju hj hmax);have q6:=HI7.out.q i hi;have q7:=HI7.out.q j hj;rw [HMIN.out] at q6;rw [HMAX.out] at q7;clear hmax HX
  generalize pick (decide (z0<0)) (decide (z1<0)) (decide (z2<0)) (decide (z3<0)) i=N1 at *
  generalize pick (decide (z0<0)) (decide (z1<0)) (decide (z2<0)) (decide (z3<0)) j=N2 at *
  generalize pick C0 C1 C2 C3 i=D1 at *
  generalize pick C0 C1 C2 C3 j=D2 at *
  generalize pick e0.length e1.length e2.length e3.length i=L1 at *
  generalize pick e0.length e1.length e2.length e3.length j=L2 at *
  generalize pick cc0 cc1 cc2 cc3 i=K1 at *
  generalize pick cc0 cc1 cc2 cc3 j=K2 at *
  obtain ⟨j0,j1,j2,j3⟩:=r17.two;obtain ⟨i0,i1,i2,i3⟩:=r27.two;have hn1:¬ w.heap.size+2=w.heap.size+3:=by omega
  have hn2:¬ w.heap.size+3=w.heap.size+2:=by omega
  go_wp2_with fail
  have z1:=jap (r:=w.heap.size+3) (jai (x:=.bool N1) (y:=.slice D1 L1 K1) r17) (by omega) (.bool N2) (.slice D2 L2 K2);have z2:=jai (x:=.bool N2) (y:=.slice D2 L2 K2) (jap (r:=w.heap.size+2) r27 (by omega) (.bool N1) (.slice D1 L1 K1));refine bodyPost_ret (jcs rfl _ _ _ _ _ _ _ _ _ _ rfl z1 rfl z2) rfl ⟨below2 (below2 HB7.out (by omega) _ _) (by omega) _ _,?_⟩;exact ⟨N1,D1,L1,K1,N2,D2,L2,K2,rfl,((q6.low2 (by omega) _ _).low2 (by omega) _ _).mono (by omega),((q7.low2 (by omega) _ _).low2 (by omega) _ _).mono (by omega)⟩
end
end
end Go.Proofs.YtcjklbakhlehhaaGreat