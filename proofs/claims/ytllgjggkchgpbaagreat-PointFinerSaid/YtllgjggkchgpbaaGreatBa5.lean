/- ball.corners with ball.Div's two functions. -/
import Derived.Test.YtllgjggkchgpbaaGreatBa3
import Derived.Test.YtllgjggkchgpbaaGreatBa4
set_option linter.unusedVariables false
set_option linter.unusedSimpArgs false
namespace Go.Proofs.YtllgjggkchgpbaaGreat
open Go.RowKit
open L (val dig nth)
def vLo (q x y:Int):Int := -vUp (-(x*2^q.toNat)) y
def vHi (q x y:Int):Int:=vUp (x*2^q.toNat) y
theorem jnu {q x y:Int} {k:Nat} (hy:y≠0) (hx:x.natAbs<W^k) (hq:q≤2048):(vHi q x y).natAbs<W^(k+34):=by
  unfold vHi vUp;rw [Int.natAbs_neg];have h1:(x*2^q.toNat).natAbs<W^(k+32):=jel hx (by omega);exact Nat.lt_of_lt_of_le (jdj hy (by rw [Int.natAbs_neg];exact h1)) (Nat.pow_le_pow_right ja5 (by omega))
theorem jnv {q x y:Int} {k:Nat} (hy:y≠0) (hx:x.natAbs<W^k) (hq:q≤2048):(vLo q x y).natAbs<W^(k+34):=by
  unfold vLo vUp;rw [Int.natAbs_neg,Int.natAbs_neg];have h1:(x*2^q.toNat).natAbs<W^(k+32):=jel hx (by omega);exact Nat.lt_of_lt_of_le (jdj hy (by rw [Int.natAbs_neg,Int.natAbs_neg];exact h1)) (Nat.pow_le_pow_right ja5 (by omega))
theorem jdk {w:World} {k k':Nat} {n m:Bool} {A A':Option Addr} {len cap len' cap':Nat} {x y:Int} {q:Int} {p:Nat} {b0 b1 b2 b3:Value} (h:Q w k n A len cap x) (h':Q w k' m A' len' cap' y) (hp:Blk w p 28 #[b0,b1,b2,b3,.int .i64 q]) (hk:k≤1000) (hk':k'≤1000) (hq0:0≤q) (hq1:q≤2048) (hy:y≠0) :
    Calls Tryz.prog 283 #[.agg #[.bool n,.slice A len cap],.agg #[.bool m,.slice A' len' cap'],.pointer (some ⟨p,0,none⟩)] w fun e w'=>Below w.heap.size w w'∧RetZ w.heap.size (vLo q x y) e w':=
  jp2 h h' hp hk hk' hq0 hq1 hy
theorem jdl {w:World} {k k':Nat} {n m:Bool} {A A':Option Addr} {len cap len' cap':Nat} {x y:Int} {q:Int} {p:Nat} {b0 b1 b2 b3:Value} (h:Q w k n A len cap x) (h':Q w k' m A' len' cap' y) (hp:Blk w p 28 #[b0,b1,b2,b3,.int .i64 q]) (hk:k≤1000) (hk':k'≤1000) (hq0:0≤q) (hq1:q≤2048) (hy:y≠0) :
    Calls Tryz.prog 284 #[.agg #[.bool n,.slice A len cap],.agg #[.bool m,.slice A' len' cap'],.pointer (some ⟨p,0,none⟩)] w fun e w'=>Below w.heap.size w w'∧RetZ w.heap.size (vHi q x y) e w':=
  jp3 h h' hp hk hk' hq0 hq1 hy
set_option maxHeartbeats 4000000 in
set_option maxRecDepth 100000 in
theorem jh5 {w:World} {k:Nat} {n0 n1 m0 m1:Bool} {A0 A1 B0 B1:Option Addr} {l0 l1 j0 j1 c0 c1 d0 d1:Nat} {x0 x1 y0 y1:Int} (qa qb:Int) {q:Int} {p:Nat} {v0 v1 v2 v3:Value} (hx0:Q w k n0 A0 l0 c0 x0) (hx1:Q w k n1 A1 l1 c1 x1) (hy0:Q w k m0 B0 j0 d0 y0) (hy1:Q w k m1 B1 j1 d1 y1) (hk:k≤1000) (hp:Blk w p 28 #[v0,v1,v2,v3,.int .i64 q]) (hq0:0≤q) (hq1:q≤2048) (hny0:y0≠0) (hny1:y1≠0) :
    Calls Tryz.prog 273 #[.agg #[.bool n0,.slice A0 l0 c0,.bool n1,.slice A1 l1 c1,.int .i64 qa],.agg #[.bool m0,.slice B0 j0 d0,.bool m1,.slice B1 j1 d1,.int .i64 qb],.func (.func 283) #[] #[.pointer (some ⟨p,0,none⟩)]] w fun e w'=>
      Below w.heap.size w w'∧RetII w.heap.size (k+34) (min4 (vLo q x0 y0) (vLo q x0 y1) (vLo q x1 y0) (vLo q x1 y1)) (max4 (vLo q x0 y0) (vLo q x0 y1) (vLo q x1 y0) (vLo q x1 y1)) e w':=by
  obtain ⟨W0,hW,ha,hb,hr1,hr2,hB0,hs⟩:=start4 w 28 28 26 26 #[.bool n0,.slice A0 l0 c0,.bool n1,.slice A1 l1 c1,.int .i64 qa] #[.bool m0,.slice B0 j0 d0,.bool m1,.slice B1 j1 d1,.int .i64 qb] #[.bool false,.slice none 0 0] #[.bool false,.slice none 0 0];have HB0:=hide hB0.drew;have hs2:w.heap.size+4≤W0.heap.size:=by omega
  clear hs hB0;obtain ⟨a0,a1,a2,a3,a4,-⟩:=ha.five;obtain ⟨b0,b1,b2,b3,b4,-⟩:=hb.five;obtain ⟨z0,HZ0⟩:∃z,Hid (vLo q x0 y0=z):=⟨_,hide rfl⟩;have HL0:Hid (z0.natAbs<W^(k+34)):=hide (by rw [←HZ0.out];exact jnv hny0 hx0.lt hq1);obtain ⟨z1,HZ1⟩:∃z,Hid (vLo q x0 y1=z):=⟨_,hide rfl⟩;have HL1:Hid (z1.natAbs<W^(k+34)):=hide (by rw [←HZ1.out];exact jnv hny1 hx0.lt hq1);obtain ⟨z2,HZ2⟩:∃z,Hid (vLo q x1 y0=z):=⟨_,hide rfl⟩;have HL2:Hid (z2.natAbs<W^(k+34)):=hide (by rw [←HZ2.out];exact jnv hny0 hx1.lt hq1);obtain ⟨z3,HZ3⟩:∃z,Hid (vLo q x1 y1=z):=⟨_,hide rfl⟩;have HL3:Hid (z3.natAbs<W^(k+34)):=hide (by rw [←HZ3.out];exact jnv hny1 hx1.lt hq1);rw [HZ0.out,HZ1.out,HZ2.out,HZ3.out];have tok0:True:=trivial;have hs0_:w.heap.size+4≤W0.drew.heap.size:=hs2;have HC0:=hide (jdk (hx0.at_ HB0) (hy0.at_ HB0) (hp.below HB0.out hp.lt) (by omega) (by omega) hq0 hq1 hny0);rw [HZ0.out] at HC0
  go_enter Tryz.func273,Tryz.ntmps273
  go_upto_region 1 with (fail)
  rw [←hW];clear hW;have ha:=ha.drew;have hb:=hb.drew;have hr1:=hr1.drew;have hr2:=hr2.drew
  go_region_held3 (fun w'=>w'.cell? ⟨w.heap.size,0,none⟩=some (.bool n0)∧w'.cell? ⟨w.heap.size,1,none⟩=some (.slice A0 l0 c0)∧w'.cell? ⟨w.heap.size,2,none⟩=some (.bool n1)∧w'.cell? ⟨w.heap.size,3,none⟩=some (.slice A1 l1 c1)∧
      w'.cell? ⟨w.heap.size+1,0,none⟩=some (.bool m0)∧w'.cell? ⟨w.heap.size+1,1,none⟩=some (.slice B0 j0 d0)∧w'.cell? ⟨w.heap.size+1,2,none⟩=some (.bool m1)∧w'.cell? ⟨w.heap.size+1,3,none⟩=some (.slice B1 j1 d1)) (go_keep)
    (first
      | (go_at_call 283;have _t:=tok0;(with_reducible refine HC0.out.mono ?_);rintro e w1 ⟨hb0,u0,e0,rfl,hu0,hd0⟩
         obtain ⟨C0,cc0,rfl⟩:=hu0.form;have ha:=ha.below hb0 ha.lt;have hb:=hb.below hb0 hb.lt;have hr1:=hr1.below hb0 hr1.lt;have hr2:=hr2.below hb0 hr2.lt;have HB1:=hide (HB0.out.trans (hb0.mono HB0.out.size));have hs1_:w.heap.size+4≤w1.heap.size:=Nat.le_trans hs0_ hb0.size;have HC1:=hide (jdk (hx0.at_ HB1) (hy1.at_ HB1) (hp.below HB1.out hp.lt) (by omega) (by omega) hq0 hq1 hny1);rw [HZ1.out] at HC1;obtain ⟨a0,a1,a2,a3,a4,-⟩:=ha.five;obtain ⟨b0,b1,b2,b3,b4,-⟩:=hb.five;clear _t tok0;have tok1:True:=trivial)
      | (go_at_call 283;have _t:=tok1;(with_reducible refine HC1.out.mono ?_);rintro e w2 ⟨hb1,u1,e1,rfl,hu1,hd1⟩
         obtain ⟨C1,cc1,rfl⟩:=hu1.form;have ha:=ha.below hb1 ha.lt;have hb:=hb.below hb1 hb.lt;have hr1:=hr1.below hb1 hr1.lt;have hr2:=hr2.below hb1 hr2.lt;have hu0:=hu0.below hb1;have HB2:=hide (HB1.out.trans (hb1.mono HB1.out.size));have hs2_:w.heap.size+4≤w2.heap.size:=Nat.le_trans hs1_ hb1.size;have HC2:=hide (jdk (hx1.at_ HB2) (hy0.at_ HB2) (hp.below HB2.out hp.lt) (by omega) (by omega) hq0 hq1 hny0);rw [HZ2.out] at HC2;obtain ⟨a0,a1,a2,a3,a4,-⟩:=ha.five;obtain ⟨b0,b1,b2,b3,b4,-⟩:=hb.five;clear _t tok1;have tok2:True:=trivial)
      | (go_at_call 283;have _t:=tok2;(with_reducible refine HC2.out.mono ?_);rintro e w3 ⟨hb2,u2,e2,rfl,hu2,hd2⟩
         obtain ⟨C2,cc2,rfl⟩:=hu2.form;have ha:=ha.below hb2 ha.lt;have hb:=hb.below hb2 hb.lt;have hr1:=hr1.below hb2 hr1.lt;have hr2:=hr2.below hb2 hr2.lt;have hu0:=hu0.below hb2;have hu1:=hu1.below hb2;have HB3:=hide (HB2.out.trans (hb2.mono HB2.out.size));have hs3_:w.heap.size+4≤w3.heap.size:=Nat.le_trans hs2_ hb2.size;have HC3:=hide (jdk (hx1.at_ HB3) (hy1.at_ HB3) (hp.below HB3.out hp.lt) (by omega) (by omega) hq0 hq1 hny1);rw [HZ3.out] at HC3;obtain ⟨a0,a1,a2,a3,a4,-⟩:=ha.five;obtain ⟨b0,b1,b2,b3,b4,-⟩:=hb.five;clear _t tok2;have tok3:True:=trivial)
      | (go_at_call 283;have _t:=tok3;(with_reducible refine HC3.out.mono ?_);rintro e w4 ⟨hb3,u3,e3,rfl,hu3,hd3⟩
         obtain ⟨C3,cc3,rfl⟩:=hu3.form;have ha:=ha.below hb3 ha.lt;have hb:=hb.below hb3 hb.lt;have hr1:=hr1.below hb3 hr1.lt;have hr2:=hr2.below hb3 hr2.lt;have hu0:=hu0.below hb3;have hu1:=hu1.below hb3;have hu2:=hu2.below hb3;have HB4:=hide (HB3.out.trans (hb3.mono HB3.out.size));have hs4_:w.heap.size+4≤w4.heap.size:=Nat.le_trans hs3_ hb3.size;obtain ⟨a0,a1,a2,a3,a4,-⟩:=ha.five;obtain ⟨b0,b1,b2,b3,b4,-⟩:=hb.five;clear _t tok3;have tok4:True:=trivial)
    )
  have q0:=(RetZ.qb hu0 hd0 HL0.out).mono hs0_;have q1:=(RetZ.qb hu1 hd1 HL1.out).mono hs1_;have q2:=(RetZ.qb hu2 hd2 HL2.out).mono hs2_;have q3:=(RetZ.qb hu3 hd3 HL3.out).mono hs3_;have hsz:w.heap.size+4≤w4.heap.size:=by have:=hr2.lt;have:=hr1.lt;have:=HB4.out.size;omega
  obtain ⟨W5,hW5,bl,hB5,hs5⟩:=start1 w4 26 #[.bool (decide (z0<0)),.slice C0 e0.length cc0,.bool (decide (z1<0)),.slice C1 e1.length cc1,.bool (decide (z2<0)),.slice C2 e2.length cc2,.bool (decide (z3<0)),.slice C3 e3.length cc3];have HI:=hide (Ints.four bl (q0.below hB5) (q1.below hB5) (q2.below hB5) (q3.below hB5));have r1:=hr1.below hB5 hr1.lt;have r2:=hr2.below hB5 hr2.lt;have HB5:=hide (HB4.out.trans (hB5.mono HB4.out.size));have HM:=hide (jdh HI.out (by omega) (by omega) (by omega));clear a0 a1 a2 a3 a4 b0 b1 b2 b3 b4 q0 q1 q2 q3
  go_upto_region 2 with (fail)
  rw [←hW5];clear hW5
  go_wp2_with fail
  refine HM.out.mono ?_;rintro e w6 ⟨hb6,i,hi,rfl,hmin⟩;have HI6:=hide (HI.out.below hb6);have r16:=r1.below hb6 r1.lt;have r26:=r2.below hb6 r2.lt;have HB6:=hide (HB5.out.trans (hb6.mono HB5.out.size));have HX:=hide (jdi HI6.out (by omega) (by omega) (by omega));have HMIN:=hide (jji hi hmin);clear hmin HM
  go_wp2_with fail
  refine HX.out.mono ?_;rintro e w7 ⟨hb7,j,hj,rfl,hmax⟩;have HI7:=hide (HI6.out.below hb7);have r17:=r16.below hb7 r16.lt;have r27:=r26.below hb7 r26.lt;have HB7:=hide (HB6.out.trans (hb7.mono HB6.out.size));have HMAX:=hide (jjj hj hmax);have q6:=HI7.out.q i hi;have q7:=HI7.out.q j hj;rw [HMIN.out] at q6;rw [HMAX.out] at q7;clear hmax HX
  generalize pick (decide (z0<0)) (decide (z1<0)) (decide (z2<0)) (decide (z3<0)) i=N1 at *
  generalize pick (decide (z0<0)) (decide (z1<0)) (decide (z2<0)) (decide (z3<0)) j=N2 at *
  generalize pick C0 C1 C2 C3 i=D1 at *
  generalize pick C0 C1 C2 C3 j=D2 at *
  generalize pick e0.length e1.length e2.length e3.length i=L1 at *
  generalize pick e0.length e1.length e2.length e3.length j=L2 at *
  generalize pick cc0 cc1 cc2 cc3 i=K1 at *
  generalize pick cc0 cc1 cc2 cc3 j=K2 at *
  obtain ⟨j0,j1,j2,j3⟩:=r17.two;obtain ⟨i0,i1,i2,i3⟩:=r27.two;have hn1:¬ w.heap.size+2=w.heap.size+3:=by omega
  have hn2:¬ w.heap.size+3=w.heap.size+2:=by omega
  go_wp2_with fail
  have z1:=jao (r:=w.heap.size+3) (jai (x:=.bool N1) (y:=.slice D1 L1 K1) r17) (by omega) (.bool N2) (.slice D2 L2 K2);have z2:=jai (x:=.bool N2) (y:=.slice D2 L2 K2) (jao (r:=w.heap.size+2) r27 (by omega) (.bool N1) (.slice D1 L1 K1));refine bodyPost_ret (jcr rfl _ _ _ _ _ _ _ _ _ _ rfl z1 rfl z2) rfl ⟨below2 (below2 HB7.out (by omega) _ _) (by omega) _ _,?_⟩;exact ⟨N1,D1,L1,K1,N2,D2,L2,K2,rfl,((q6.low2 (by omega) _ _).low2 (by omega) _ _).mono (by omega),((q7.low2 (by omega) _ _).low2 (by omega) _ _).mono (by omega)⟩
set_option maxHeartbeats 4000000 in
set_option maxRecDepth 100000 in
theorem jh6 {w:World} {k:Nat} {n0 n1 m0 m1:Bool} {A0 A1 B0 B1:Option Addr} {l0 l1 j0 j1 c0 c1 d0 d1:Nat} {x0 x1 y0 y1:Int} (qa qb:Int) {q:Int} {p:Nat} {v0 v1 v2 v3:Value} (hx0:Q w k n0 A0 l0 c0 x0) (hx1:Q w k n1 A1 l1 c1 x1) (hy0:Q w k m0 B0 j0 d0 y0) (hy1:Q w k m1 B1 j1 d1 y1) (hk:k≤1000) (hp:Blk w p 28 #[v0,v1,v2,v3,.int .i64 q]) (hq0:0≤q) (hq1:q≤2048) (hny0:y0≠0) (hny1:y1≠0) :
    Calls Tryz.prog 273 #[.agg #[.bool n0,.slice A0 l0 c0,.bool n1,.slice A1 l1 c1,.int .i64 qa],.agg #[.bool m0,.slice B0 j0 d0,.bool m1,.slice B1 j1 d1,.int .i64 qb],.func (.func 284) #[] #[.pointer (some ⟨p,0,none⟩)]] w fun e w'=>
      Below w.heap.size w w'∧RetII w.heap.size (k+34) (min4 (vHi q x0 y0) (vHi q x0 y1) (vHi q x1 y0) (vHi q x1 y1)) (max4 (vHi q x0 y0) (vHi q x0 y1) (vHi q x1 y0) (vHi q x1 y1)) e w':=by
  obtain ⟨W0,hW,ha,hb,hr1,hr2,hB0,hs⟩:=start4 w 28 28 26 26 #[.bool n0,.slice A0 l0 c0,.bool n1,.slice A1 l1 c1,.int .i64 qa] #[.bool m0,.slice B0 j0 d0,.bool m1,.slice B1 j1 d1,.int .i64 qb] #[.bool false,.slice none 0 0] #[.bool false,.slice none 0 0];have HB0:=hide hB0.drew;have hs2:w.heap.size+4≤W0.heap.size:=by omega
  clear hs hB0;obtain ⟨a0,a1,a2,a3,a4,-⟩:=ha.five;obtain ⟨b0,b1,b2,b3,b4,-⟩:=hb.five;obtain ⟨z0,HZ0⟩:∃z,Hid (vHi q x0 y0=z):=⟨_,hide rfl⟩;have HL0:Hid (z0.natAbs<W^(k+34)):=hide (by rw [←HZ0.out];exact jnu hny0 hx0.lt hq1);obtain ⟨z1,HZ1⟩:∃z,Hid (vHi q x0 y1=z):=⟨_,hide rfl⟩;have HL1:Hid (z1.natAbs<W^(k+34)):=hide (by rw [←HZ1.out];exact jnu hny1 hx0.lt hq1);obtain ⟨z2,HZ2⟩:∃z,Hid (vHi q x1 y0=z):=⟨_,hide rfl⟩;have HL2:Hid (z2.natAbs<W^(k+34)):=hide (by rw [←HZ2.out];exact jnu hny0 hx1.lt hq1);obtain ⟨z3,HZ3⟩:∃z,Hid (vHi q x1 y1=z):=⟨_,hide rfl⟩;have HL3:Hid (z3.natAbs<W^(k+34)):=hide (by rw [←HZ3.out];exact jnu hny1 hx1.lt hq1);rw [HZ0.out,HZ1.out,HZ2.out,HZ3.out];have tok0:True:=trivial;have hs0_:w.heap.size+4≤W0.drew.heap.size:=hs2;have HC0:=hide (jdl (hx0.at_ HB0) (hy0.at_ HB0) (hp.below HB0.out hp.lt) (by omega) (by omega) hq0 hq1 hny0);rw [HZ0.out] at HC0
  go_enter Tryz.func273,Tryz.ntmps273
  go_upto_region 1 with (fail)
  rw [←hW];clear hW;have ha:=ha.drew;have hb:=hb.drew;have hr1:=hr1.drew;have hr2:=hr2.drew
  go_region_held3 (fun w'=>w'.cell? ⟨w.heap.size,0,none⟩=some (.bool n0)∧w'.cell? ⟨w.heap.size,1,none⟩=some (.slice A0 l0 c0)∧w'.cell? ⟨w.heap.size,2,none⟩=some (.bool n1)∧w'.cell? ⟨w.heap.size,3,none⟩=some (.slice A1 l1 c1)∧
      w'.cell? ⟨w.heap.size+1,0,none⟩=some (.bool m0)∧w'.cell? ⟨w.heap.size+1,1,none⟩=some (.slice B0 j0 d0)∧w'.cell? ⟨w.heap.size+1,2,none⟩=some (.bool m1)∧w'.cell? ⟨w.heap.size+1,3,none⟩=some (.slice B1 j1 d1)) (go_keep)
    (first
      | (go_at_call 284;have _t:=tok0;(with_reducible refine HC0.out.mono ?_);rintro e w1 ⟨hb0,u0,e0,rfl,hu0,hd0⟩
         obtain ⟨C0,cc0,rfl⟩:=hu0.form;have ha:=ha.below hb0 ha.lt;have hb:=hb.below hb0 hb.lt;have hr1:=hr1.below hb0 hr1.lt;have hr2:=hr2.below hb0 hr2.lt;have HB1:=hide (HB0.out.trans (hb0.mono HB0.out.size));have hs1_:w.heap.size+4≤w1.heap.size:=Nat.le_trans hs0_ hb0.size;have HC1:=hide (jdl (hx0.at_ HB1) (hy1.at_ HB1) (hp.below HB1.out hp.lt) (by omega) (by omega) hq0 hq1 hny1);rw [HZ1.out] at HC1;obtain ⟨a0,a1,a2,a3,a4,-⟩:=ha.five;obtain ⟨b0,b1,b2,b3,b4,-⟩:=hb.five;clear _t tok0;have tok1:True:=trivial)
      | (go_at_call 284;have _t:=tok1;(with_reducible refine HC1.out.mono ?_);rintro e w2 ⟨hb1,u1,e1,rfl,hu1,hd1⟩
         obtain ⟨C1,cc1,rfl⟩:=hu1.form;have ha:=ha.below hb1 ha.lt;have hb:=hb.below hb1 hb.lt;have hr1:=hr1.below hb1 hr1.lt;have hr2:=hr2.below hb1 hr2.lt;have hu0:=hu0.below hb1;have HB2:=hide (HB1.out.trans (hb1.mono HB1.out.size));have hs2_:w.heap.size+4≤w2.heap.size:=Nat.le_trans hs1_ hb1.size;have HC2:=hide (jdl (hx1.at_ HB2) (hy0.at_ HB2) (hp.below HB2.out hp.lt) (by omega) (by omega) hq0 hq1 hny0);rw [HZ2.out] at HC2;obtain ⟨a0,a1,a2,a3,a4,-⟩:=ha.five;obtain ⟨b0,b1,b2,b3,b4,-⟩:=hb.five;clear _t tok1;have tok2:True:=trivial)
      | (go_at_call 284;have _t:=tok2;(with_reducible refine HC2.out.mono ?_);rintro e w3 ⟨hb2,u2,e2,rfl,hu2,hd2⟩
         obtain ⟨C2,cc2,rfl⟩:=hu2.form;have ha:=ha.below hb2 ha.lt;have hb:=hb.below hb2 hb.lt;have hr1:=hr1.below hb2 hr1.lt;have hr2:=hr2.below hb2 hr2.lt;have hu0:=hu0.below hb2;have hu1:=hu1.below hb2;have HB3:=hide (HB2.out.trans (hb2.mono HB2.out.size));have hs3_:w.heap.size+4≤w3.heap.size:=Nat.le_trans hs2_ hb2.size;have HC3:=hide (jdl (hx1.at_ HB3) (hy1.at_ HB3) (hp.below HB3.out hp.lt) (by omega) (by omega) hq0 hq1 hny1);rw [HZ3.out] at HC3;obtain ⟨a0,a1,a2,a3,a4,-⟩:=ha.five;obtain ⟨b0,b1,b2,b3,b4,-⟩:=hb.five;clear _t tok2;have tok3:True:=trivial)
      | (go_at_call 284;have _t:=tok3;(with_reducible refine HC3.out.mono ?_);rintro e w4 ⟨hb3,u3,e3,rfl,hu3,hd3⟩
         obtain ⟨C3,cc3,rfl⟩:=hu3.form;have ha:=ha.below hb3 ha.lt;have hb:=hb.below hb3 hb.lt;have hr1:=hr1.below hb3 hr1.lt;have hr2:=hr2.below hb3 hr2.lt;have hu0:=hu0.below hb3;have hu1:=hu1.below hb3;have hu2:=hu2.below hb3;have HB4:=hide (HB3.out.trans (hb3.mono HB3.out.size));have hs4_:w.heap.size+4≤w4.heap.size:=Nat.le_trans hs3_ hb3.size;obtain ⟨a0,a1,a2,a3,a4,-⟩:=ha.five;obtain ⟨b0,b1,b2,b3,b4,-⟩:=hb.five;clear _t tok3;have tok4:True:=trivial)
    )
  have q0:=(RetZ.qb hu0 hd0 HL0.out).mono hs0_;have q1:=(RetZ.qb hu1 hd1 HL1.out).mono hs1_;have q2:=(RetZ.qb hu2 hd2 HL2.out).mono hs2_;have q3:=(RetZ.qb hu3 hd3 HL3.out).mono hs3_;have hsz:w.heap.size+4≤w4.heap.size:=by have:=hr2.lt;have:=hr1.lt;have:=HB4.out.size;omega
  obtain ⟨W5,hW5,bl,hB5,hs5⟩:=start1 w4 26 #[.bool (decide (z0<0)),.slice C0 e0.length cc0,.bool (decide (z1<0)),.slice C1 e1.length cc1,.bool (decide (z2<0)),.slice C2 e2.length cc2,.bool (decide (z3<0)),.slice C3 e3.length cc3];have HI:=hide (Ints.four bl (q0.below hB5) (q1.below hB5) (q2.below hB5) (q3.below hB5));have r1:=hr1.below hB5 hr1.lt;have r2:=hr2.below hB5 hr2.lt;have HB5:=hide (HB4.out.trans (hB5.mono HB4.out.size));have HM:=hide (jdh HI.out (by omega) (by omega) (by omega));clear a0 a1 a2 a3 a4 b0 b1 b2 b3 b4 q0 q1 q2 q3
  go_upto_region 2 with (fail)
  rw [←hW5];clear hW5
  go_wp2_with fail
  refine HM.out.mono ?_;rintro e w6 ⟨hb6,i,hi,rfl,hmin⟩;have HI6:=hide (HI.out.below hb6);have r16:=r1.below hb6 r1.lt;have r26:=r2.below hb6 r2.lt;have HB6:=hide (HB5.out.trans (hb6.mono HB5.out.size));have HX:=hide (jdi HI6.out (by omega) (by omega) (by omega));have HMIN:=hide (jji hi hmin);clear hmin HM
  go_wp2_with fail
  refine HX.out.mono ?_;rintro e w7 ⟨hb7,j,hj,rfl,hmax⟩;have HI7:=hide (HI6.out.below hb7);have r17:=r16.below hb7 r16.lt;have r27:=r26.below hb7 r26.lt;have HB7:=hide (HB6.out.trans (hb7.mono HB6.out.size));have HMAX:=hide (jjj hj hmax);have q6:=HI7.out.q i hi;have q7:=HI7.out.q j hj;rw [HMIN.out] at q6;rw [HMAX.out] at q7;clear hmax HX
  generalize pick (decide (z0<0)) (decide (z1<0)) (decide (z2<0)) (decide (z3<0)) i=N1 at *
  generalize pick (decide (z0<0)) (decide (z1<0)) (decide (z2<0)) (decide (z3<0)) j=N2 at *
  generalize pick C0 C1 C2 C3 i=D1 at *
  generalize pick C0 C1 C2 C3 j=D2 at *
  generalize pick e0.length e1.length e2.length e3.length i=L1 at *
  generalize pick e0.length e1.length e2.length e3.length j=L2 at *
  generalize pick cc0 cc1 cc2 cc3 i=K1 at *
  generalize pick cc0 cc1 cc2 cc3 j=K2 at *
  obtain ⟨j0,j1,j2,j3⟩:=r17.two;obtain ⟨i0,i1,i2,i3⟩:=r27.two;have hn1:¬ w.heap.size+2=w.heap.size+3:=by omega
  have hn2:¬ w.heap.size+3=w.heap.size+2:=by omega
  go_wp2_with fail
  have z1:=jao (r:=w.heap.size+3) (jai (x:=.bool N1) (y:=.slice D1 L1 K1) r17) (by omega) (.bool N2) (.slice D2 L2 K2);have z2:=jai (x:=.bool N2) (y:=.slice D2 L2 K2) (jao (r:=w.heap.size+2) r27 (by omega) (.bool N1) (.slice D1 L1 K1));refine bodyPost_ret (jcr rfl _ _ _ _ _ _ _ _ _ _ rfl z1 rfl z2) rfl ⟨below2 (below2 HB7.out (by omega) _ _) (by omega) _ _,?_⟩;exact ⟨N1,D1,L1,K1,N2,D2,L2,K2,rfl,((q6.low2 (by omega) _ _).low2 (by omega) _ _).mono (by omega),((q7.low2 (by omega) _ _).low2 (by omega) _ _).mono (by omega)⟩
end Go.Proofs.YtllgjggkchgpbaaGreat
