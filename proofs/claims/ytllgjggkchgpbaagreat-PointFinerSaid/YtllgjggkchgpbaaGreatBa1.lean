/- ball: may, Right, down, up. -/
import Derived.Test.YtllgjggkchgpbaaGreatZe
set_option linter.unusedVariables false
set_option linter.unusedSimpArgs false
namespace Go.Proofs.YtllgjggkchgpbaaGreat
open Go.RowKit
open L (val dig nth)
theorem Blk.five {w:World} {g:Nat} {t:TypeId} {a b c d e:Value} (h:Blk w g t #[a,b,c,d,e]) :
    w.cell? ⟨g,0,none⟩=some a∧w.cell? ⟨g,1,none⟩=some b∧w.cell? ⟨g,2,none⟩=some c∧w.cell? ⟨g,3,none⟩=some d∧w.cell? ⟨g,4,none⟩=some e∧
    w.frozen? ⟨g,0,none⟩=false∧w.frozen? ⟨g,1,none⟩=false∧w.frozen? ⟨g,2,none⟩=false∧w.frozen? ⟨g,3,none⟩=false∧w.frozen? ⟨g,4,none⟩=false:=
  ⟨h.cell 0,h.cell 1,h.cell 2,h.cell 3,h.cell 4,h.frozen 0,h.frozen 1,h.frozen 2,h.frozen 3,h.frozen 4⟩
def mayQ (q:Int):Bool:=decide (0≤q∧q≤2048)
theorem jg4 (w:World) (q:Int):Calls Tryz.prog 158 #[.int .i64 q] w fun e w'=>w=w'∧e=.returned (.bool (mayQ q)):=by
  by_cases h0:0≤q
  · by_cases h1:q≤2048
    · have hm:mayQ q=true:=decide_eq_true ⟨h0,h1⟩
      rw [hm]
      go_enter Tryz.func158,Tryz.ntmps158
      go_wp2_with fail
      go_ret
      exact ⟨rfl,rfl⟩
    · have hm:mayQ q=false:=decide_eq_false (fun h=>h1 h.2)
      rw [hm]
      go_enter Tryz.func158,Tryz.ntmps158
      go_wp2_with fail
      go_ret
      exact ⟨rfl,rfl⟩
  · have hm:mayQ q=false:=decide_eq_false (fun h=>h0 h.1)
    rw [hm]
    go_enter Tryz.func158,Tryz.ntmps158
    go_wp2_with fail
    go_ret
    exact ⟨rfl,rfl⟩
def rightB (x y q:Int):Bool:=mayQ q && decide (x≤y)
theorem jce (x y:Int):(cmpZ x y≤0)↔x≤y:=by
  rw [jgf]
  constructor
  · intro h
    rcases Int.lt_or_le y x with h1 | h1
    · have:=Int.sign_eq_one_of_pos (show 0<x - y by omega);omega
    · exact h1
  · intro h
    rcases Int.lt_or_eq_of_le h with h1 | h1
    · have:=Int.sign_eq_neg_one_of_neg (show x - y<0 by omega);omega
    · subst h1;rw [Int.sub_self];decide
set_option maxRecDepth 100000 in
theorem jg5 {w:World} {k k':Nat} {n m:Bool} {A A':Option Addr} {len cap len' cap':Nat} {x y:Int} (q:Int) (h:Q w k n A len cap x) (h':Q w k' m A' len' cap' y) (hk:k≤30000) (hk':k'≤30000) :
    Calls Tryz.prog 110 #[.agg #[.bool n,.slice A len cap,.bool m,.slice A' len' cap',.int .i64 q]] w fun e w'=>Below w.heap.size w w'∧e=.returned (.bool (rightB x y q)):=by
  obtain ⟨W0,hW,hbx,hB0,hs⟩:=start1 w 28 #[.bool n,.slice A len cap,.bool m,.slice A' len' cap',.int .i64 q];have HB0:=hide hB0;clear hs hB0;obtain ⟨c0,c1,c2,c3,c4,-⟩:=hbx.five;have HC:=hide (jn2 (h.at_ HB0) (h'.at_ HB0) (by omega) (by omega));obtain ⟨c,HCC⟩:∃c,Hid (cmpZ x y=c):=⟨_,hide rfl⟩;rw [HCC.out] at HC;have HL:Hid (c≤0↔x≤y):=hide (by rw [←HCC.out];exact jce x y)
  cases hm:mayQ q with
  | false=>
    have hr:rightB x y q=false:=by unfold rightB;rw [hm];rfl
    have HM:=hide (jg4 W0 q);rw [hr,hm] at *;clear hm hr
    go_enter Tryz.func110,Tryz.ntmps110
    go_upto_region 1 with (fail)
    rw [←hW];clear hW
    go_wp2_with fail
    refine HM.out.mono ?_;rintro e w1 ⟨rfl,rfl⟩
    go_wp2_with fail
    go_ret
    exact ⟨HB0.out,rfl⟩
  | true=>
    have hr:rightB x y q=decide (x≤y):=by unfold rightB;rw [hm];rfl
    have HM:=hide (jg4 W0 q);rw [hm] at HM;rw [hr];clear hm hr
    go_enter Tryz.func110,Tryz.ntmps110
    go_upto_region 1 with (fail)
    rw [←hW];clear hW
    go_wp2_with fail
    refine HM.out.mono ?_;rintro e w1 ⟨rfl,rfl⟩
    go_wp2_with fail
    refine HC.out.mono ?_;rintro e w1 ⟨hb1,rfl⟩;have HB1:=hide (HB0.out.trans (hb1.mono HB0.out.size))
    by_cases hl:x≤y
    · have hc0:c≤0:=HL.out.2 hl
      have hd:decide (x≤y)=true:=decide_eq_true hl
      go_wp2_with fail
      go_ret
      exact ⟨HB1.out,by rw [hd];rfl⟩
    · have hc0:¬ c≤0:=fun h=>hl (HL.out.1 h)
      have hd:decide (x≤y)=false:=decide_eq_false hl
      go_wp2_with fail
      go_ret
      exact ⟨HB1.out,by rw [hd];exact congrArg (fun b=>Ending.returned (Value.bool b)) (decide_eq_false (by omega))⟩
theorem jig {w:World} {k:Nat} {n:Bool} {A:Option Addr} {len cap:Nat} {z:Int} (h:Q w k n A len cap z) (hk:k≤30000) (c:Nat) (hc:c≤8000) :
    Calls Tryz.prog 69 #[.agg #[.bool n,.slice A len cap],.int .i64 (c:Nat)] w fun e w'=>Below w.heap.size w w'∧RetZ w.heap.size (z*2^c) e w':=j4d h (by omega) c hc
def vDn (z n:Int):Int:=if n≤0 then z*2^(-n).toNat else z / 2^n.toNat
def vOv (z n:Int):Int := -vDn (-z) n
theorem jy4 {z:Int} {k c:Nat} (hz:z.natAbs<W^k):(z / 2^c).natAbs<W^k:=by
  refine Nat.lt_of_le_of_lt ?_ hz;have hp:(0:Int)<2^c:=Int.pow_pos (by omega)
  rcases Int.lt_or_le z 0 with h | h
  · have h1:z≤z / 2^c:=by
      rw [Int.le_ediv_iff_mul_le hp];have h2:(1:Int)≤2^c:=hp;have h3:z*2^c≤z*1:=Int.mul_le_mul_of_nonpos_left (by omega) h2
      omega
    have h2:z / 2^c≤0:=by
      have:=Int.ediv_neg_of_neg_of_pos h hp
      omega
    omega
  · have h1:z / 2^c≤z:=Int.ediv_le_self _ h
    have h2:0≤z / 2^c:=Int.ediv_nonneg h (by omega)
    omega
theorem jrh {z n:Int} {k:Nat} (hz:z.natAbs<W^k) (hn : -8000≤n):(vDn z n).natAbs<W^(k+125):=by
  unfold vDn
  split
  · exact jel hz (by omega)
  · exact Nat.lt_of_lt_of_le (jy4 hz) (Nat.pow_le_pow_right ja5 (by omega))
theorem j1t {z n:Int} {k:Nat} (hz:z.natAbs<W^k) (hn : -8000≤n):(vOv z n).natAbs<W^(k+125):=by
  unfold vOv;rw [Int.natAbs_neg];exact jrh (by rw [Int.natAbs_neg];exact hz) hn
set_option maxRecDepth 100000 in
theorem jg6 {w:World} {k:Nat} {n:Bool} {A:Option Addr} {len cap:Nat} {z:Int} (c:Int) (h:Q w k n A len cap z) (hk:k≤30000) (hc0 : -8000≤c) (hc1:c≤8000) :
    Calls Tryz.prog 159 #[.agg #[.bool n,.slice A len cap],.int .i64 c] w fun e w'=>Below w.heap.size w w'∧RetZ w.heap.size (vDn z c) e w':=by
  obtain ⟨W0,hW,hbx,hrs,hB0,hs⟩:=start2 w 26 26 #[.bool n,.slice A len cap] #[.bool false,.slice none 0 0];have HB0:=hide hB0;have hs2:w.heap.size+2≤W0.heap.size:=by omega
  clear hs hB0;obtain ⟨c0,c1,-,-⟩:=hbx.two
  by_cases hle:c≤0
  · have HS:=jig (h.at_ HB0) hk (-c).toNat (by omega)
    rw [show (((-c).toNat:Nat):Int) = -c from by omega] at HS;have HV:Hid (vDn z c=z*2^(-c).toNat):=hide (by unfold vDn;rw [if_pos hle]);rw [←HV.out] at HS;have HSS:=hide HS;have hw:IntKind.i64.wrap (-c) = -c:=by rw [IntWalk.i64_in _ (by omega)]
    clear HS HV;obtain ⟨x,HX⟩:∃x,Hid (vDn z c=x):=⟨_,hide rfl⟩;rw [HX.out] at HSS ⊢
    go_enter Tryz.func159,Tryz.ntmps159
    go_upto_region 1 with (fail)
    rw [←hW];clear hW
    go_wp2_with fail
    refine HSS.out.mono ?_;rintro e w1 ⟨hb1,u,d,rfl,hu,hd⟩;obtain ⟨A1,cap1,rfl⟩:=hu.form;have rs1:=hrs.below hb1 hrs.lt;have HB1:=hide (HB0.out.trans (hb1.mono HB0.out.size));obtain ⟨r0,r1,r2,r3⟩:=rs1.two
    go_wp2_with fail
    refine bodyPost_ret (jah rfl _ _ _ _ _ _ rfl (jai rs1)) rfl ⟨below2 HB1.out (by omega) _ _,?_⟩;exact ⟨_,d,rfl,(jaf (r:=w.heap.size+1) (hu.mono hs2) (by omega) _ _).mono (by omega),hd⟩
  · have HS:=jyf (h.at_ HB0) hk c.toNat (by omega)
    rw [show ((c.toNat:Nat):Int)=c from by omega] at HS;have HV:Hid (vDn z c=z / 2^c.toNat):=hide (by unfold vDn;rw [if_neg hle]);rw [←HV.out] at HS;have HSS:=hide HS;clear HS HV;obtain ⟨x,HX⟩:∃x,Hid (vDn z c=x):=⟨_,hide rfl⟩;rw [HX.out] at HSS ⊢
    go_enter Tryz.func159,Tryz.ntmps159
    go_upto_region 1 with (fail)
    rw [←hW];clear hW
    go_wp2_with fail
    refine HSS.out.mono ?_;rintro e w1 ⟨hb1,u,d,rfl,hu,hd⟩;obtain ⟨A1,cap1,rfl⟩:=hu.form;have rs1:=hrs.below hb1 hrs.lt;have HB1:=hide (HB0.out.trans (hb1.mono HB0.out.size));obtain ⟨r0,r1,r2,r3⟩:=rs1.two
    go_wp2_with fail
    refine bodyPost_ret (jah rfl _ _ _ _ _ _ rfl (jai rs1)) rfl ⟨below2 HB1.out (by omega) _ _,?_⟩;exact ⟨_,d,rfl,(jaf (r:=w.heap.size+1) (hu.mono hs2) (by omega) _ _).mono (by omega),hd⟩
theorem RetZ.q {w:World} {B k:Nat} {A:Option Addr} {c:Nat} {z:Int} {d:List Nat} (hu:Nums w B (.slice A d.length c) d) (hd:Canon d z.natAbs) (hz:z.natAbs<W^k):Q w k (decide (z<0)) A d.length c z:=
  ⟨d,hu.mono (Nat.zero_le _),by rw [hd.len];exact hz,by rw [hd.val,jaz]⟩
set_option maxRecDepth 100000 in
theorem jri {w:World} {k:Nat} {n:Bool} {A:Option Addr} {len cap:Nat} {z:Int} (c:Int) (h:Q w k n A len cap z) (hk:k≤29000) (hc0 : -8000≤c) (hc1:c≤8000) :
    Calls Tryz.prog 160 #[.agg #[.bool n,.slice A len cap],.int .i64 c] w fun e w'=>Below w.heap.size w w'∧RetZ w.heap.size (vOv z c) e w':=by
  obtain ⟨W0,hW,hbx,hrs,hB0,hs⟩:=start2 w 26 26 #[.bool n,.slice A len cap] #[.bool false,.slice none 0 0];have HB0:=hide hB0;have hs2:w.heap.size+2≤W0.heap.size:=by omega
  clear hs hB0;obtain ⟨c0,c1,-,-⟩:=hbx.two;have hz:=h.lt;have hz2:(-z).natAbs<W^k:=by rw [Int.natAbs_neg];exact hz
  have HL2:=hide (jrh hz2 hc0);have HL1:=hide hz2;have HN1:=hide (jdd (h.at_ HB0) (by omega));obtain ⟨x2,HX2⟩:∃x,Hid (vDn (-z) c=x):=⟨_,hide rfl⟩;obtain ⟨x1,HX1⟩:∃x,Hid (-z=x):=⟨_,hide rfl⟩;have HV:Hid (vOv z c = -x2):=hide (by unfold vOv;rw [HX2.out]);rw [HX2.out] at HL2;rw [HX1.out] at HL1 HN1 HX2;rw [HV.out];obtain ⟨x3,HX3⟩:∃x,Hid (-x2=x):=⟨_,hide rfl⟩;rw [HX3.out];clear hz hz2
  go_enter Tryz.func160,Tryz.ntmps160
  go_upto_region 1 with (fail)
  rw [←hW];clear hW
  go_wp2_with fail
  refine HN1.out.mono ?_;rintro e w1 ⟨hb1,u1,d1,rfl,hu1,hd1⟩;obtain ⟨A1,cap1,rfl⟩:=hu1.form;have rs1:=hrs.below hb1 hrs.lt;have HB1:=hide (HB0.out.trans (hb1.mono HB0.out.size));have HN2:=hide (jg6 c (RetZ.q hu1 hd1 HL1.out) (by omega) hc0 hc1);rw [HX2.out] at HN2;have hs3:=hb1.size
  go_wp2_with fail
  refine HN2.out.mono ?_;rintro e w2 ⟨hb2,u2,d2,rfl,hu2,hd2⟩;obtain ⟨A2,cap2,rfl⟩:=hu2.form;have rs2:=rs1.below hb2 rs1.lt;have HB2:=hide (HB1.out.trans (hb2.mono HB1.out.size));have HN3:=hide (jdd (RetZ.q hu2 hd2 HL2.out) (by omega));rw [HX3.out] at HN3;have hs4:=hb2.size
  go_wp2_with fail
  refine HN3.out.mono ?_;rintro e w3 ⟨hb3,u3,d3,rfl,hu3,hd3⟩;obtain ⟨A3,cap3,rfl⟩:=hu3.form;have rs3:=rs2.below hb3 rs2.lt;have HB3:=hide (HB2.out.trans (hb3.mono HB2.out.size));obtain ⟨r0,r1,r2,r3⟩:=rs3.two
  go_wp2_with fail
  refine bodyPost_ret (jah rfl _ _ _ _ _ _ rfl (jai rs3)) rfl ⟨below2 HB3.out (by omega) _ _,?_⟩;exact ⟨_,d3,rfl,(jaf (r:=w.heap.size+1) (hu3.mono (show w.heap.size+2≤_ by omega)) (by omega) _ _).mono (by omega),hd3⟩
end Go.Proofs.YtllgjggkchgpbaaGreat
