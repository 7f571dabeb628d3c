/- ball: Mul, Div. ball: Recast, Shift. The document's dyads: Add Sub. The document's dyads: Sub. The document's dyads: Cmp. The document's balls: Down, Over, Cmp, Right. The document's balls: Point, Recast, Shift. hairlineref01.DivMod: division digit by digit, each looked for by halving. -/
import Derived.Test.YtllgjggkchgpbaaGreatBa6
import Derived.Test.YtllgjggkchgpbaaGreatRefs
import Derived.Test.YtllgjggkchgpbaaGreatKn2
set_option linter.unusedVariables false
set_option linter.unusedSimpArgs false
namespace Go.Proofs.YtllgjggkchgpbaaGreat
section
section
open Go.RowKit
open L (val dig nth)
theorem jrz {x y q x' y' q':Int} (h:pairB x y q x' y' q'=true):0≤q∧q≤2048∧q'=q∧x≤y∧x'≤y':=by
  unfold pairB rightB mayQ at h;simp at h
  omega
set_option maxHeartbeats 2000000 in
set_option maxRecDepth 100000 in
theorem jp5 {w:World} {k:Nat} {n0 n1 m0 m1:Bool} {A0 A1 B0 B1:Option Addr} {l0 l1 j0 j1 c0 c1 d0 d1:Nat} {x0 x1 y0 y1:Int} (qa qb:Int) (hx0:Q w k n0 A0 l0 c0 x0) (hx1:Q w k n1 A1 l1 c1 x1) (hy0:Q w k m0 B0 j0 d0 y0) (hy1:Q w k m1 B1 j1 d1 y1) (hk:k≤1000) :
    Calls Tryz.prog 272 #[.agg #[.bool n0,.slice A0 l0 c0,.bool n1,.slice A1 l1 c1,.int .i64 qa],.agg #[.bool m0,.slice B0 j0 d0,.bool m1,.slice B1 j1 d1,.int .i64 qb]] w fun e w'=>
      Below w.heap.size w w'∧RetE w.heap.size (k+k+125) (pairB x0 x1 qa y0 y1 qb) (vDn (min4 (x0*y0) (x0*y1) (x1*y0) (x1*y1)) qa) (vOv (max4 (x0*y0) (x0*y1) (x1*y0) (x1*y1)) qa) qa 1 e w':=by
  obtain ⟨W0,hW,ha,hb,hrs,hB0,hs⟩:=start3 w 28 28 28 #[.bool n0,.slice A0 l0 c0,.bool n1,.slice A1 l1 c1,.int .i64 qa] #[.bool m0,.slice B0 j0 d0,.bool m1,.slice B1 j1 d1,.int .i64 qb] #[.bool false,.slice none 0 0,.bool false,.slice none 0 0,.int .i64 0];have HB0:=hide hB0;have hs2:w.heap.size+3≤W0.heap.size:=by omega
  clear hs hB0;obtain ⟨a0,a1,a2,a3,a4,-⟩:=ha.five;obtain ⟨b0,b1,b2,b3,b4,-⟩:=hb.five;obtain ⟨r0,r1,r2,r3,r4,r5,r6,r7,r8,r9⟩:=hrs.five;have HP:=hide (jih qa qb (hx0.at_ HB0) (hx1.at_ HB0) (hy0.at_ HB0) (hy1.at_ HB0) hk);obtain ⟨mn,HMN⟩:∃z,Hid (min4 (x0*y0) (x0*y1) (x1*y0) (x1*y1)=z):=⟨_,hide rfl⟩;obtain ⟨mx,HMX⟩:∃z,Hid (max4 (x0*y0) (x0*y1) (x1*y0) (x1*y1)=z):=⟨_,hide rfl⟩;obtain ⟨f,HF⟩:∃z,Hid (vDn mn qa=z):=⟨_,hide rfl⟩;obtain ⟨c,HC⟩:∃z,Hid (vOv mx qa=z):=⟨_,hide rfl⟩;have HQ:=fun h=>jrz (x:=x0) (y:=x1) (q:=qa) (x':=y0) (y':=y1) (q':=qb) h
  obtain ⟨mq,HQQ⟩:∃b,Hid (pairB x0 x1 qa y0 y1 qb=b):=⟨_,hide rfl⟩;rw [HQQ.out] at HP HQ;rw [HQQ.out,HMN.out,HMX.out,HF.out,HC.out]
  cases mq with
  | false=>
    clear HQ
    go_enter Tryz.func272,Tryz.ntmps272
    go_upto_region 1 with (fail)
    rw [←hW];clear hW
    go_wp2_with fail
    refine HP.out.mono ?_;rintro e w1 ⟨hb1,rfl⟩;have hrs:=hrs.below hb1 hrs.lt;have HB1:=hide (HB0.out.trans (hb1.mono HB0.out.size));obtain ⟨r0,r1,r2,r3,r4,r5,r6,r7,r8,r9⟩:=hrs.five
    go_wp2_with fail
    obtain ⟨W2,hW2,bl,-,kb,-⟩:=jdm hrs (.bool false) (.slice none 0 0) (.bool false) (.slice none 0 0) (.int .i64 0);rw [←hW2];refine bodyPost_ret (ja1 rfl _ _ _ _ _ _ _ _ _ rfl bl) rfl ⟨kb _ _ HB1.out (by omega),RetE.no⟩
  | true=>
    obtain ⟨g0,g1,-,-,-⟩:=HQ rfl;clear HQ
    go_enter Tryz.func272,Tryz.ntmps272
    go_upto_region 1 with (fail)
    rw [←hW];clear hW
    go_wp2_with fail
    refine HP.out.mono ?_;rintro e w1 ⟨hb1,rfl⟩;have ha:=ha.below hb1 ha.lt;have hb:=hb.below hb1 hb.lt;have hrs:=hrs.below hb1 hrs.lt;have HB1:=hide (HB0.out.trans (hb1.mono HB0.out.size));have hs3:W0.heap.size≤w1.heap.size:=hb1.size;have HCO:=hide (jh4 qa qb (hx0.at_ HB1) (hx1.at_ HB1) (hy0.at_ HB1) (hy1.at_ HB1) hk);rw [HMN.out,HMX.out] at HCO;obtain ⟨a0,a1,a2,a3,a4,-⟩:=ha.five;obtain ⟨b0,b1,b2,b3,b4,-⟩:=hb.five
    go_wp2_with fail
    refine HCO.out.mono ?_;rintro e w2 ⟨hb2,N1,D1,L1,K1,N2,D2,L2,K2,rfl,hq1,hq2⟩;have ha:=ha.below hb2 ha.lt;have hrs:=hrs.below hb2 hrs.lt;have HB2:=hide (HB1.out.trans (hb2.mono HB1.out.size));have hs4:=hb2.size;obtain ⟨W3,hW3,b6,b7,hb3,hs5⟩:=start2 w2 26 26 #[.bool N1,.slice D1 L1 K1] #[.bool N2,.slice D2 L2 K2];have ha:=ha.below hb3 ha.lt;have hrs:=hrs.below hb3 hrs.lt;have hq1:=hq1.below hb3;have hq2:=hq2.below hb3;have HB3:=hide (HB2.out.trans (hb3.mono HB2.out.size));have HL1:=hide (jrh (n:=qa) hq1.q.lt (by omega));have HL2:=hide (j1t (n:=qa) hq2.q.lt (by omega));rw [HF.out] at HL1;rw [HC.out] at HL2;have HD1:=hide (jg6 qa hq1.q.drew (by omega) (by omega) (by omega));rw [HF.out] at HD1;clear a0 a1 a2 a3 a4 b0 b1 b2 b3 b4
    go_upto_region 4 with (fail)
    rw [←hW3];clear hW3;obtain ⟨a0,a1,a2,a3,a4,-⟩:=ha.five;obtain ⟨p0,p1,-,-⟩:=b6.two;obtain ⟨p2,p3,-,-⟩:=b7.two;have hs6:w.heap.size+3≤w2.heap.size:=by omega
    have hs7:W3.heap.size=w2.heap.size+2:=by omega
    go_region_held3 (fun w'=>w'.cell? ⟨w.heap.size,4,none⟩=some (.int .i64 qa)∧w'.cell? ⟨w2.heap.size,0,none⟩=some (.bool N1)∧w'.cell? ⟨w2.heap.size,1,none⟩=some (.slice D1 L1 K1)∧w'.cell? ⟨w2.heap.size+1,0,none⟩=some (.bool N2)∧w'.cell? ⟨w2.heap.size+1,1,none⟩=some (.slice D2 L2 K2)) (go_keep)
      (first
        | (go_at_call 159;(with_reducible refine HD1.out.mono ?_);rintro e v1 ⟨vb1,u1,d1,rfl,hu1,hd1⟩
           obtain ⟨C1,cc1,rfl⟩:=hu1.form;have ha:=ha.drew.below vb1 ha.lt;have hrs:=hrs.drew.below vb1 hrs.lt;have b6:=b6.drew.below vb1 b6.lt;have b7:=b7.drew.below vb1 b7.lt;have hq2:=hq2.drew.below vb1;have HV1:=hide (HB3.out.drew.trans (vb1.mono HB3.out.size));have vs1:W3.heap.size≤v1.heap.size:=vb1.size;obtain ⟨a0,a1,a2,a3,a4,-⟩:=ha.five;obtain ⟨p0,p1,-,-⟩:=b6.two;obtain ⟨p2,p3,-,-⟩:=b7.two;have HD2:=hide (jri qa hq2.q (by omega) (by omega) (by omega));rw [HC.out] at HD2)
        | (go_at_call 160;(with_reducible refine HD2.out.mono ?_);rintro e v2 ⟨vb2,u2,d2,rfl,hu2,hd2⟩
           obtain ⟨C2,cc2,rfl⟩:=hu2.form;have ha:=ha.below vb2 ha.lt;have hrs:=hrs.below vb2 hrs.lt;have b6:=b6.below vb2 b6.lt;have b7:=b7.below vb2 b7.lt;have hu1:=hu1.below vb2;have HV2:=hide (HV1.out.trans (vb2.mono HV1.out.size));obtain ⟨a0,a1,a2,a3,a4,-⟩:=ha.five;obtain ⟨p0,p1,-,-⟩:=b6.two;obtain ⟨p2,p3,-,-⟩:=b7.two;obtain ⟨r0,r1,r2,r3,r4,r5,r6,r7,r8,r9⟩:=hrs.five;have hn1:¬ w.heap.size+2=w.heap.size:=by omega
           have hn2:¬ w.heap.size=w.heap.size+2:=by omega
           have hn3:¬ w2.heap.size=w.heap.size+2:=by omega
           have hn4:¬ w2.heap.size+1=w.heap.size+2:=by omega
           have hn5:¬ w.heap.size+2=w2.heap.size:=by omega
           have hn6:¬ w.heap.size+2=w2.heap.size+1:=by omega
           have hn7:¬ w2.heap.size=w.heap.size+1:=by omega
           have hn8:¬ w.heap.size+1=w2.heap.size:=by omega))
    go_wp2_with fail
    have q1:=(RetZ.qb hu1 hd1 HL1.out).mono (show w.heap.size+3≤_ by (first | omega | (have:=hs7;simp;omega)));have q2:=(RetZ.qb hu2 hd2 HL2.out).mono (show w.heap.size+3≤_ by omega);obtain ⟨W2,hW2,bl,kq,kb,-⟩:=jdm hrs (.bool (decide (f<0))) (.slice C1 d1.length cc1) (.bool (decide (c<0))) (.slice C2 d2.length cc2) (.int .i64 qa);rw [←hW2];refine bodyPost_ret (ja1 rfl _ _ _ _ _ _ _ _ _ rfl bl) rfl ⟨kb _ _ HV2.out (by omega),RetE.yes ⟨_,_,_,_,_,_,_,_,rfl,(kq _ _ _ _ _ _ _ (by omega) q1).mono (by omega),(kq _ _ _ _ _ _ _ (by omega) q2).mono (by omega)⟩⟩
theorem hmf (fn:Fn) (first cap:Array Value) (w:World):(Instr.makeFunc fn first cap).run Tryz.prog w=.ok (.func fn first cap) w:=rfl
theorem jn0 {y:Int} (h:y.sign≠0):y≠0:=fun h0=>h (by rw [h0];rfl)
set_option maxHeartbeats 4000000 in
set_option maxRecDepth 100000 in
theorem jp6 {w:World} {k:Nat} {n0 n1 m0 m1:Bool} {A0 A1 B0 B1:Option Addr} {l0 l1 j0 j1 c0 c1 d0 d1:Nat} {x0 x1 y0 y1:Int} (qa qb:Int) (hx0:Q w k n0 A0 l0 c0 x0) (hx1:Q w k n1 A1 l1 c1 x1) (hy0:Q w k m0 B0 j0 d0 y0) (hy1:Q w k m1 B1 j1 d1 y1) (hk:k≤1000) :
    Calls Tryz.prog 282 #[.agg #[.bool n0,.slice A0 l0 c0,.bool n1,.slice A1 l1 c1,.int .i64 qa],.agg #[.bool m0,.slice B0 j0 d0,.bool m1,.slice B1 j1 d1,.int .i64 qb]] w fun e w'=>
      Below w.heap.size w w'∧RetE w.heap.size (k+34) (pairB x0 x1 qa y0 y1 qb && decide (0<y0.sign*y1.sign)) (min4 (vLo qa x0 y0) (vLo qa x0 y1) (vLo qa x1 y0) (vLo qa x1 y1)) (max4 (vHi qa x0 y0) (vHi qa x0 y1) (vHi qa x1 y0) (vHi qa x1 y1)) qa (if pairB x0 x1 qa y0 y1 qb then 2 else 1) e w':=by
  obtain ⟨W0,hW,ha,hb,hrs,hB0,hs⟩:=start3 w 28 28 28 #[.bool n0,.slice A0 l0 c0,.bool n1,.slice A1 l1 c1,.int .i64 qa] #[.bool m0,.slice B0 j0 d0,.bool m1,.slice B1 j1 d1,.int .i64 qb] #[.bool false,.slice none 0 0,.bool false,.slice none 0 0,.int .i64 0];have HB0:=hide hB0;have hs2:w.heap.size+3≤W0.heap.size:=by omega
  clear hs hB0;obtain ⟨a0,a1,a2,a3,a4,-⟩:=ha.five;obtain ⟨b0,b1,b2,b3,b4,-⟩:=hb.five;obtain ⟨r0,r1,r2,r3,r4,r5,r6,r7,r8,r9⟩:=hrs.five;have HP:=hide (jih qa qb (hx0.at_ HB0) (hx1.at_ HB0) (hy0.at_ HB0) (hy1.at_ HB0) hk);obtain ⟨mn,HMN⟩:∃z,Hid (min4 (vLo qa x0 y0) (vLo qa x0 y1) (vLo qa x1 y0) (vLo qa x1 y1)=z):=⟨_,hide rfl⟩;obtain ⟨mx,HMX⟩:∃z,Hid (max4 (vHi qa x0 y0) (vHi qa x0 y1) (vHi qa x1 y0) (vHi qa x1 y1)=z):=⟨_,hide rfl⟩;have HQ:=fun h=>jrz (x:=x0) (y:=x1) (q:=qa) (x':=y0) (y':=y1) (q':=qb) h
  obtain ⟨mq,HQQ⟩:∃b,Hid (pairB x0 x1 qa y0 y1 qb=b):=⟨_,hide rfl⟩;rw [HQQ.out] at HP HQ;rw [HQQ.out,HMN.out,HMX.out];obtain ⟨s0,HS0⟩:∃z,Hid (y0.sign=z):=⟨_,hide rfl⟩;obtain ⟨s1,HS1⟩:∃z,Hid (y1.sign=z):=⟨_,hide rfl⟩;rw [HS0.out,HS1.out]
  have hsb0 : -1≤s0∧s0≤1:=by
    rw [←HS0.out];rcases Int.lt_trichotomy y0 0 with h | h | h;· rw [Int.sign_eq_neg_one_of_neg h];omega
    · rw [h];decide
    · rw [Int.sign_eq_one_of_pos h];omega
  have hsb1 : -1≤s1∧s1≤1:=by
    rw [←HS1.out];rcases Int.lt_trichotomy y1 0 with h | h | h;· rw [Int.sign_eq_neg_one_of_neg h];omega
    · rw [h];decide
    · rw [Int.sign_eq_one_of_pos h];omega
  have hpb : -1≤s0*s1∧s0*s1≤1:=by
    obtain rfl | rfl | rfl:s0 = -1∨s0=0∨s0=1:=by omega
    all_goals omega
  have HNZ:Hid (0<s0*s1→y0≠0∧y1≠0):=hide (fun h=>⟨jn0 (by rw [HS0.out];intro h0;rw [h0] at h;omega),jn0 (by rw [HS1.out];intro h0;rw [h0] at h;omega)⟩);have hwr:IntKind.i64.wrap (s0*s1)=s0*s1:=IntWalk.i64_in _ (by omega);obtain ⟨sp,HSP⟩:∃z,Hid (s0*s1=z):=⟨_,hide rfl⟩;have HWR:=hide hwr;clear hwr;rw [HSP.out] at HNZ hpb ⊢;obtain ⟨ok,HOK⟩:∃b,Hid (decide (0<sp)=b):=⟨_,hide rfl⟩;rw [HOK.out]
  cases mq with
  | false=>
    clear HQ;rw [Bool.false_and,if_neg (by decide)]
    go_enter Tryz.func282,Tryz.ntmps282
    go_upto_region 1 with (fail)
    rw [←hW];clear hW
    go_wp2_with fail
    refine HP.out.mono ?_;rintro e w1 ⟨hb1,rfl⟩;have hrs:=hrs.below hb1 hrs.lt;have HB1:=hide (HB0.out.trans (hb1.mono HB0.out.size));obtain ⟨r0,r1,r2,r3,r4,r5,r6,r7,r8,r9⟩:=hrs.five
    go_wp2_with fail
    obtain ⟨W2,hW2,bl,-,kb,-⟩:=jdm hrs (.bool false) (.slice none 0 0) (.bool false) (.slice none 0 0) (.int .i64 0);rw [←hW2];refine bodyPost_ret (ja1 rfl _ _ _ _ _ _ _ _ _ rfl bl) rfl ⟨kb _ _ HB1.out (by omega),RetE.no⟩
  | true=>
    obtain ⟨g0,g1,-,-,-⟩:=HQ rfl;clear HQ;rw [Bool.true_and,if_pos rfl]
    go_enter Tryz.func282,Tryz.ntmps282
    go_upto_region 1 with (fail)
    rw [←hW];clear hW
    go_wp2_with fail
    refine HP.out.mono ?_;rintro e w1 ⟨hb1,rfl⟩;have ha:=ha.below hb1 ha.lt;have hb:=hb.below hb1 hb.lt;have hrs:=hrs.below hb1 hrs.lt;have HB1:=hide (HB0.out.trans (hb1.mono HB0.out.size));have hs3:W0.heap.size≤w1.heap.size:=hb1.size;have HB1d:=hide HB1.out.drew;have HG1:=hide (jmo (hy0.at_ HB1d) (by omega));rw [HS0.out] at HG1;clear a0 a1 a2 a3 a4 b0 b1 b2 b3 b4 r0 r1 r2 r3 r4 r5 r6 r7 r8 r9;obtain ⟨b0,b1,b2,b3,b4,-⟩:=hb.five
    go_upto_region 3 with (fail)
    go_region_held3 (fun w'=>w'.cell? ⟨w.heap.size+1,0,none⟩=some (.bool m0)∧w'.cell? ⟨w.heap.size+1,1,none⟩=some (.slice B0 j0 d0)∧w'.cell? ⟨w.heap.size+1,2,none⟩=some (.bool m1)∧w'.cell? ⟨w.heap.size+1,3,none⟩=some (.slice B1 j1 d1)) (go_keep)
      (first
        | (go_at_call 30;(with_reducible refine HG1.out.mono ?_);rintro e v1 ⟨vb1,rfl⟩
           have ha:=ha.drew.below vb1 ha.lt;have hb:=hb.drew.below vb1 hb.lt;have hrs:=hrs.drew.below vb1 hrs.lt;have HV1:=hide (HB1d.out.trans (vb1.mono HB1d.out.size));have vs1:w1.heap.size≤v1.heap.size:=vb1.size;obtain ⟨b0,b1,b2,b3,b4,-⟩:=hb.five;have HG2:=hide (jmo (hy1.at_ HV1) (by omega));rw [HS1.out] at HG2)
        | (go_at_call 30;(with_reducible refine HG2.out.mono ?_);rintro e v2 ⟨vb2,rfl⟩
           have ha:=ha.below vb2 ha.lt;have hb:=hb.below vb2 hb.lt;have hrs:=hrs.below vb2 hrs.lt;have HV2:=hide (HV1.out.trans (vb2.mono HV1.out.size));have vs2:=vb2.size;obtain ⟨b0,b1,b2,b3,b4,-⟩:=hb.five;obtain ⟨r0,r1,r2,r3,r4,r5,r6,r7,r8,r9⟩:=hrs.five;obtain ⟨a0,a1,a2,a3,a4,-⟩:=ha.five))
    cases ok with
    | true=>
      have hpos:0<sp:=of_decide_eq_true HOK.out;have hle:decide (IntKind.i64.wrap (s0*s1)≤0)=false:=by rw [HWR.out,HSP.out];exact decide_eq_false (by omega)
      rw [hle];clear hle;obtain ⟨hny0,hny1⟩:=HNZ.out hpos;have hmk:=hmf;have HCO:=hide (jh5 qa qb (hx0.at_ HV2) (hx1.at_ HV2) (hy0.at_ HV2) (hy1.at_ HV2) hk ha g0 g1 hny0 hny1);rw [HMN.out] at HCO;clear r0 r1 r2 r3 r4 r5 r6 r7 r8 r9
      go_upto_region 5 with (fail)
      go_wp2_with fail
      refine HCO.out.mono ?_;rintro e w5 ⟨hb5,N1,D1,L1,K1,N2,D2,L2,K2,rfl,hq1,hq2⟩;have ha:=ha.below hb5 ha.lt;have hb:=hb.below hb5 hb.lt;have hrs:=hrs.below hb5 hrs.lt;have HV5:=hide (HV2.out.trans (hb5.mono HV2.out.size));have hs5:=hb5.size;obtain ⟨W6,hW6,b6,b7,hb6,hs6⟩:=start2 w5 26 26 #[.bool N1,.slice D1 L1 K1] #[.bool N2,.slice D2 L2 K2];have ha:=ha.below hb6 ha.lt;have hb:=hb.below hb6 hb.lt;have hrs:=hrs.below hb6 hrs.lt;have hq1:=hq1.below hb6;have HV6:=hide (HV5.out.trans (hb6.mono HV5.out.size));have HCO2:=hide (jh6 qa qb (hx0.at_ HV6) (hx1.at_ HV6) (hy0.at_ HV6) (hy1.at_ HV6) hk ha g0 g1 hny0 hny1);rw [HMX.out] at HCO2;clear a0 a1 a2 a3 a4 b0 b1 b2 b3 b4
      go_upto_region 6 with (fail)
      rw [←hW6];clear hW6;obtain ⟨a0,a1,a2,a3,a4,-⟩:=ha.five;obtain ⟨b0,b1,b2,b3,b4,-⟩:=hb.five
      go_wp2_with fail
      refine HCO2.out.mono ?_;rintro e w7 ⟨hb7,N3,D3,L3,K3,N4,D4,L4,K4,rfl,hq3,hq4⟩;have ha:=ha.below hb7 ha.lt;have hrs:=hrs.below hb7 hrs.lt;have b6:=b6.below hb7 b6.lt;have hq1:=hq1.below hb7;have HV7:=hide (HV6.out.trans (hb7.mono HV6.out.size));have hs7:=hb7.size;obtain ⟨W8,hW8,b8,b9,hb8,hs8⟩:=start2 w7 26 26 #[.bool N3,.slice D3 L3 K3] #[.bool N4,.slice D4 L4 K4];have ha:=ha.below hb8 ha.lt;have hrs:=hrs.below hb8 hrs.lt;have b6:=b6.below hb8 b6.lt;have hq1:=hq1.below hb8;have hq4:=hq4.below hb8;have HV8:=hide (HV7.out.trans (hb8.mono HV7.out.size));clear a0 a1 a2 a3 a4 b0 b1 b2 b3 b4
      go_upto_region 7 with (fail)
      rw [←hW8];clear hW8;obtain ⟨a0,a1,a2,a3,a4,-⟩:=ha.five;obtain ⟨p0,p1,-,-⟩:=b6.two;obtain ⟨p2,p3,-,-⟩:=b9.two;obtain ⟨r0,r1,r2,r3,r4,r5,r6,r7,r8,r9⟩:=hrs.five;have hm1:w.heap.size+3≤v2.heap.size:=by omega
      have hm2:w.heap.size+3≤W6.heap.size:=by omega
      go_wp2_with fail
      obtain ⟨W2,hW2,bl,kq,kb,-⟩:=jdm hrs (.bool N1) (.slice D1 L1 K1) (.bool N4) (.slice D4 L4 K4) (.int .i64 qa);rw [←hW2];refine bodyPost_ret (ja1 rfl _ _ _ _ _ _ _ _ _ rfl bl) rfl ⟨kb _ _ HV8.out (by omega),RetE.yes ⟨_,_,_,_,_,_,_,_,rfl,(kq _ _ _ _ _ _ _ (by omega) hq1).mono (by omega),(kq _ _ _ _ _ _ _ (by omega) hq4).mono (by omega)⟩⟩
    | false=>
      have hpos:¬ 0<sp:=of_decide_eq_false HOK.out;have hle:decide (IntKind.i64.wrap (s0*s1)≤0)=true:=by rw [HWR.out,HSP.out];exact decide_eq_true (by omega)
      rw [hle];clear hle
      go_wp2_with fail
      obtain ⟨W2,hW2,bl,-,kb,-⟩:=jdm hrs (.bool false) (.slice none 0 0) (.bool false) (.slice none 0 0) (.int .i64 0);rw [←hW2];refine bodyPost_ret (ja1 rfl _ _ _ _ _ _ _ _ _ rfl bl) rfl ⟨kb _ _ HV2.out (by omega),RetE.no⟩
end
end
section
section
open Go.RowKit
open L (val dig nth)
end
end
section
section
section
open Go.RowKit
open L (val dig nth)
end
end
section
section
open Go.RowKit
open L (val dig nth)
end
end
section
section
open Go.RowKit
open L (val dig nth)
end
end
end
section
section
open Go.RowKit
open L (val dig nth)
section
variable {w:World} {k k':Nat} {n m:Bool} {A A':Option Addr} {len cap len' cap':Nat} {z y:Int}
end
end
end
section
section
open Go.RowKit
open L (val dig nth)
end
end
section
section
open Go.RowKit
open L (val dig nth)
end
end
end Go.Proofs.YtllgjggkchgpbaaGreat