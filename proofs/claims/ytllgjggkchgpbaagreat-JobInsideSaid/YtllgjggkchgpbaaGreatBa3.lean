/- ball.corners: what comes of the ends of two balls. -/
import Derived.Test.YtllgjggkchgpbaaGreatBa2
set_option linter.unusedVariables false
set_option linter.unusedSimpArgs false
namespace Go.Proofs.YtllgjggkchgpbaaGreat
open Go.RowKit
open L (val dig nth)
def pick {α:Type} (a b c d:α) (i:Nat):α:=if i=0 then a else if i=1 then b else if i=2 then c else d
theorem Ints.four {w:World} {k B g:Nat} {t:TypeId} {n0 n1 n2 n3:Bool} {A0 A1 A2 A3:Option Addr} {l0 l1 l2 l3 c0 c1 c2 c3:Nat} {z0 z1 z2 z3:Int}
    (h:Blk w g t #[.bool n0,.slice A0 l0 c0,.bool n1,.slice A1 l1 c1,.bool n2,.slice A2 l2 c2,.bool n3,.slice A3 l3 c3]) (h0:QB w B k n0 A0 l0 c0 z0) (h1:QB w B k n1 A1 l1 c1 z1) (h2:QB w B k n2 A2 l2 c2 z2) (h3:QB w B k n3 A3 l3 c3 z3) :
    Ints w k B g 4 (pick n0 n1 n2 n3) (pick A0 A1 A2 A3) (pick l0 l1 l2 l3) (pick c0 c1 c2 c3) (pick z0 z1 z2 z3):=by
  refine ⟨h.lt,fun i hi=>?_,fun i hi=>?_,fun i hi=>?_⟩
  all_goals obtain rfl | rfl | rfl | rfl:i=0∨i=1∨i=2∨i=3:=by omega
  · exact h.cell 0
  · exact h.cell 2
  · exact h.cell 4
  · exact h.cell 6
  · exact h.cell 1
  · exact h.cell 3
  · exact h.cell 5
  · exact h.cell 7
  · exact h0
  · exact h1
  · exact h2
  · exact h3
def min4 (a b c d:Int):Int:=min (min a b) (min c d)
def max4 (a b c d:Int):Int:=max (max a b) (max c d)
theorem jji {a b c d:Int} {j:Nat} (hj:j<4) (h:∀i,i<4→pick a b c d j≤pick a b c d i):pick a b c d j=min4 a b c d:=by
  have h0:pick a b c d j≤a:=h 0 (by omega);have h1:pick a b c d j≤b:=h 1 (by omega);have h2:pick a b c d j≤c:=h 2 (by omega);have h3:pick a b c d j≤d:=h 3 (by omega)
  have hp:pick a b c d j=a∨pick a b c d j=b∨pick a b c d j=c∨pick a b c d j=d:=by
    unfold pick;split
    · exact .inl rfl
    · split
      · exact .inr (.inl rfl)
      · split
        · exact .inr (.inr (.inl rfl))
        · exact .inr (.inr (.inr rfl))
  unfold min4
  omega
theorem jjj {a b c d:Int} {j:Nat} (hj:j<4) (h:∀i,i<4→pick a b c d i≤pick a b c d j):pick a b c d j=max4 a b c d:=by
  have h0:a≤pick a b c d j:=h 0 (by omega);have h1:b≤pick a b c d j:=h 1 (by omega);have h2:c≤pick a b c d j:=h 2 (by omega);have h3:d≤pick a b c d j:=h 3 (by omega)
  have hp:pick a b c d j=a∨pick a b c d j=b∨pick a b c d j=c∨pick a b c d j=d:=by
    unfold pick;split
    · exact .inl rfl
    · split
      · exact .inr (.inl rfl)
      · split
        · exact .inr (.inr (.inl rfl))
        · exact .inr (.inr (.inr rfl))
  unfold max4
  omega
theorem jcr {fn:Func} {p q:Tmp} (h:fn.results=#[.cell p 26,.cell q 26]) (tmps:Array Value) (w:World) (r r':Nat) (t t':TypeId) (a b c d:Value)
    (hp:tmps.getD p undef=.pointer (some ⟨r,0,none⟩)) (hb:Blk w r t #[a,b]) (hq:tmps.getD q undef=.pointer (some ⟨r',0,none⟩)) (hb':Blk w r' t' #[c,d]) :
    (results fn tmps).run Tryz.prog w=.ok (.tuple #[.agg #[a,b],.agg #[c,d]]) w:=by
  simp only [results,h];simp only [Array.getD_eq_getD_getElem?] at hp hq;simp [Sem.run_bind,Result.andThen,asAddr,hp,jeu hb,hq,jeu hb']
def RetII (B k:Nat) (x y:Int) (e:Ending) (w:World):Prop:=∃n A l c n' A' l' c',e=.returned (.tuple #[.agg #[.bool n,.slice A l c],.agg #[.bool n',.slice A' l' c']])∧QB w B k n A l c x∧QB w B k n' A' l' c' y
set_option maxHeartbeats 4000000 in
set_option maxRecDepth 100000 in
theorem jh4 {w:World} {k:Nat} {n0 n1 m0 m1:Bool} {A0 A1 B0 B1:Option Addr} {l0 l1 j0 j1 c0 c1 d0 d1:Nat} {x0 x1 y0 y1:Int} (qa qb:Int) (hx0:Q w k n0 A0 l0 c0 x0) (hx1:Q w k n1 A1 l1 c1 x1) (hy0:Q w k m0 B0 j0 d0 y0) (hy1:Q w k m1 B1 j1 d1 y1) (hk:k≤1000) :
    Calls Tryz.prog 273 #[.agg #[.bool n0,.slice A0 l0 c0,.bool n1,.slice A1 l1 c1,.int .i64 qa],.agg #[.bool m0,.slice B0 j0 d0,.bool m1,.slice B1 j1 d1,.int .i64 qb],.func (.func 34) #[] #[]] w fun e w'=>
      Below w.heap.size w w'∧RetII w.heap.size (k+k) (min4 (x0*y0) (x0*y1) (x1*y0) (x1*y1)) (max4 (x0*y0) (x0*y1) (x1*y0) (x1*y1)) e w':=by
  obtain ⟨W0,hW,ha,hb,hr1,hr2,hB0,hs⟩:=start4 w 28 28 26 26 #[.bool n0,.slice A0 l0 c0,.bool n1,.slice A1 l1 c1,.int .i64 qa] #[.bool m0,.slice B0 j0 d0,.bool m1,.slice B1 j1 d1,.int .i64 qb] #[.bool false,.slice none 0 0] #[.bool false,.slice none 0 0];have HB0:=hide hB0.drew;have hs2:w.heap.size+4≤W0.heap.size:=by omega
  clear hs hB0;obtain ⟨a0,a1,a2,a3,a4,-⟩:=ha.five;obtain ⟨b0,b1,b2,b3,b4,-⟩:=hb.five;obtain ⟨z0,HZ0⟩:∃z,Hid (x0*y0=z):=⟨_,hide rfl⟩;have HL0:Hid (z0.natAbs<W^(k+k)):=hide (by rw [←HZ0.out];exact jn1 hx0.lt hy0.lt);obtain ⟨z1,HZ1⟩:∃z,Hid (x0*y1=z):=⟨_,hide rfl⟩;have HL1:Hid (z1.natAbs<W^(k+k)):=hide (by rw [←HZ1.out];exact jn1 hx0.lt hy1.lt);obtain ⟨z2,HZ2⟩:∃z,Hid (x1*y0=z):=⟨_,hide rfl⟩;have HL2:Hid (z2.natAbs<W^(k+k)):=hide (by rw [←HZ2.out];exact jn1 hx1.lt hy0.lt);obtain ⟨z3,HZ3⟩:∃z,Hid (x1*y1=z):=⟨_,hide rfl⟩;have HL3:Hid (z3.natAbs<W^(k+k)):=hide (by rw [←HZ3.out];exact jn1 hx1.lt hy1.lt);rw [HZ0.out,HZ1.out,HZ2.out,HZ3.out];have tok0:True:=trivial;have hs0_:w.heap.size+4≤W0.drew.heap.size:=hs2;have HC0:=hide (jl3 (hx0.at_ HB0) (hy0.at_ HB0) (by omega) (by omega));rw [HZ0.out] at HC0
  go_enter Tryz.func273,Tryz.ntmps273
  go_upto_region 1 with (fail)
  rw [←hW];clear hW;have ha:=ha.drew;have hb:=hb.drew;have hr1:=hr1.drew;have hr2:=hr2.drew
  go_region_held3 (fun w'=>w'.cell? ⟨w.heap.size,0,none⟩=some (.bool n0)∧w'.cell? ⟨w.heap.size,1,none⟩=some (.slice A0 l0 c0)∧w'.cell? ⟨w.heap.size,2,none⟩=some (.bool n1)∧w'.cell? ⟨w.heap.size,3,none⟩=some (.slice A1 l1 c1)∧
      w'.cell? ⟨w.heap.size+1,0,none⟩=some (.bool m0)∧w'.cell? ⟨w.heap.size+1,1,none⟩=some (.slice B0 j0 d0)∧w'.cell? ⟨w.heap.size+1,2,none⟩=some (.bool m1)∧w'.cell? ⟨w.heap.size+1,3,none⟩=some (.slice B1 j1 d1)) (go_keep)
    (first
      | (go_at_call 34;have _t:=tok0;(with_reducible refine HC0.out.mono ?_);rintro e w1 ⟨hb0,u0,e0,rfl,hu0,hd0⟩
         obtain ⟨C0,cc0,rfl⟩:=hu0.form;have ha:=ha.below hb0 ha.lt;have hb:=hb.below hb0 hb.lt;have hr1:=hr1.below hb0 hr1.lt;have hr2:=hr2.below hb0 hr2.lt;have HB1:=hide (HB0.out.trans (hb0.mono HB0.out.size));have hs1_:w.heap.size+4≤w1.heap.size:=Nat.le_trans hs0_ hb0.size;have HC1:=hide (jl3 (hx0.at_ HB1) (hy1.at_ HB1) (by omega) (by omega));rw [HZ1.out] at HC1;obtain ⟨a0,a1,a2,a3,a4,-⟩:=ha.five;obtain ⟨b0,b1,b2,b3,b4,-⟩:=hb.five;clear _t tok0;have tok1:True:=trivial)
      | (go_at_call 34;have _t:=tok1;(with_reducible refine HC1.out.mono ?_);rintro e w2 ⟨hb1,u1,e1,rfl,hu1,hd1⟩
         obtain ⟨C1,cc1,rfl⟩:=hu1.form;have ha:=ha.below hb1 ha.lt;have hb:=hb.below hb1 hb.lt;have hr1:=hr1.below hb1 hr1.lt;have hr2:=hr2.below hb1 hr2.lt;have hu0:=hu0.below hb1;have HB2:=hide (HB1.out.trans (hb1.mono HB1.out.size));have hs2_:w.heap.size+4≤w2.heap.size:=Nat.le_trans hs1_ hb1.size;have HC2:=hide (jl3 (hx1.at_ HB2) (hy0.at_ HB2) (by omega) (by omega));rw [HZ2.out] at HC2;obtain ⟨a0,a1,a2,a3,a4,-⟩:=ha.five;obtain ⟨b0,b1,b2,b3,b4,-⟩:=hb.five;clear _t tok1;have tok2:True:=trivial)
      | (go_at_call 34;have _t:=tok2;(with_reducible refine HC2.out.mono ?_);rintro e w3 ⟨hb2,u2,e2,rfl,hu2,hd2⟩
         obtain ⟨C2,cc2,rfl⟩:=hu2.form;have ha:=ha.below hb2 ha.lt;have hb:=hb.below hb2 hb.lt;have hr1:=hr1.below hb2 hr1.lt;have hr2:=hr2.below hb2 hr2.lt;have hu0:=hu0.below hb2;have hu1:=hu1.below hb2;have HB3:=hide (HB2.out.trans (hb2.mono HB2.out.size));have hs3_:w.heap.size+4≤w3.heap.size:=Nat.le_trans hs2_ hb2.size;have HC3:=hide (jl3 (hx1.at_ HB3) (hy1.at_ HB3) (by omega) (by omega));rw [HZ3.out] at HC3;obtain ⟨a0,a1,a2,a3,a4,-⟩:=ha.five;obtain ⟨b0,b1,b2,b3,b4,-⟩:=hb.five;clear _t tok2;have tok3:True:=trivial)
      | (go_at_call 34;have _t:=tok3;(with_reducible refine HC3.out.mono ?_);rintro e w4 ⟨hb3,u3,e3,rfl,hu3,hd3⟩
         obtain ⟨C3,cc3,rfl⟩:=hu3.form;have ha:=ha.below hb3 ha.lt;have hb:=hb.below hb3 hb.lt;have hr1:=hr1.below hb3 hr1.lt;have hr2:=hr2.below hb3 hr2.lt;have hu0:=hu0.below hb3;have hu1:=hu1.below hb3;have hu2:=hu2.below hb3;have HB4:=hide (HB3.out.trans (hb3.mono HB3.out.size));have hs4_:w.heap.size+4≤w4.heap.size:=Nat.le_trans hs3_ hb3.size;obtain ⟨a0,a1,a2,a3,a4,-⟩:=ha.five;obtain ⟨b0,b1,b2,b3,b4,-⟩:=hb.five;clear _t tok3;have tok4:True:=trivial)
    )
  have q0:=(RetZ.qb hu0 hd0 HL0.out).mono hs0_;have q1:=(RetZ.qb hu1 hd1 HL1.out).mono hs1_;have q2:=(RetZ.qb hu2 hd2 HL2.out).mono hs2_;have q3:=(RetZ.qb hu3 hd3 HL3.out).mono hs3_;have hsz:w.heap.size+4≤w4.heap.size:=by have:=hr2.lt;have:=hr1.lt;have:=HB4.out.size;omega
  obtain ⟨W5,hW5,bl,hB5,hs5⟩:=start1 w4 26 #[.bool (decide (z0<0)),.slice C0 e0.length cc0,.bool (decide (z1<0)),.slice C1 e1.length cc1,.bool (decide (z2<0)),.slice C2 e2.length cc2,.bool (decide (z3<0)),.slice C3 e3.length cc3];have HI:=hide (Ints.four bl (q0.below hB5) (q1.below hB5) (q2.below hB5) (q3.below hB5));have r1:=hr1.below hB5 hr1.lt;have r2:=hr2.below hB5 hr2.lt;have HB5:=hide (HB4.out.trans (hB5.mono HB4.out.size));have HM:=hide (jdh HI.out (by omega) (by omega) (by omega));clear a0 a1 a2 a3 a4 b0 b1 b2 b3 b4 q0 q1 q2 q3
  go_upto_region 2 with (fail)
  rw [←hW5];clear hW5
  go_wp2_with fail
  refine HM.out.mono ?_;rintro e w6 ⟨hb6,i,hi,rfl,hmin⟩;have HI6:=hide (HI.out.below hb6);have r16:=r1.below hb6 r1.lt;have r26:=r2.below hb6 r2.lt;have HB6:=hide (HB5.out.trans (hb6.mono HB5.out.size));have HX:=hide (jdi HI6.out (by omega) (by omega) (by omega));have HMIN:=hide (jji hi hmin);clear hmin HM
  go_wp2_with fail
  refine HX.out.mono ?_;rintro e w7 ⟨hb7,j,hj,rfl,hmax⟩;have HI7:=hide (HI6.out.below hb7);have r17:=r16.below hb7 r16.lt;have r27:=r26.below hb7 r26.lt;have HB7:=hide (HB6.out.trans (hb7.mono HB6.out.size));have HMAX:=hide (jjj hj hmax);have q6:=HI7.out.q i hi;have q7:=HI7.out.q j hj;rw [HMIN.out] at q6;rw [HMAX.out] at q7;clear hmax HX
  generalize pick (decide (z0<0)) (decide (z1<0)) (decide (z2<0)) (decide (z3<0)) i=N1 at *
  generalize pick (decide (z0<0)) (decide (z1<0)) (decide (z2<0)) (decide (z3<0)) j=N2 at *
  generalize pick C0 C1 C2 C3 i=D1 at *
  generalize pick C0 C1 C2 C3 j=D2 at *
  generalize pick e0.length e1.length e2.length e3.length i=L1 at *
  generalize pick e0.length e1.length e2.length e3.length j=L2 at *
  generalize pick cc0 cc1 cc2 cc3 i=K1 at *
  generalize pick cc0 cc1 cc2 cc3 j=K2 at *
  obtain ⟨j0,j1,j2,j3⟩:=r17.two;obtain ⟨i0,i1,i2,i3⟩:=r27.two;have hn1:¬ w.heap.size+2=w.heap.size+3:=by omega
  have hn2:¬ w.heap.size+3=w.heap.size+2:=by omega
  go_wp2_with fail
  have z1:=jao (r:=w.heap.size+3) (jai (x:=.bool N1) (y:=.slice D1 L1 K1) r17) (by omega) (.bool N2) (.slice D2 L2 K2);have z2:=jai (x:=.bool N2) (y:=.slice D2 L2 K2) (jao (r:=w.heap.size+2) r27 (by omega) (.bool N1) (.slice D1 L1 K1));refine bodyPost_ret (jcr rfl _ _ _ _ _ _ _ _ _ _ rfl z1 rfl z2) rfl ⟨below2 (below2 HB7.out (by omega) _ _) (by omega) _ _,?_⟩;exact ⟨N1,D1,L1,K1,N2,D2,L2,K2,rfl,((q6.low2 (by omega) _ _).low2 (by omega) _ _).mono (by omega),((q7.low2 (by omega) _ _).low2 (by omega) _ _).mono (by omega)⟩
end Go.Proofs.YtllgjggkchgpbaaGreat
