/- zed: the quotients rounded down and up, and contracts for integers that stand for numbers. -/
import Derived.Test.YtllgjggkchgpbaaGreatRefs
import Derived.Test.YtllgjggkchgpbaaGreatEvs
set_option linter.unusedVariables false
set_option linter.unusedSimpArgs false
namespace Go.Proofs.YtllgjggkchgpbaaGreat
open Go.RowKit
open L (val dig nth)
section
variable {w:World} {k k':Nat} {n m:Bool} {A A':Option Addr} {len cap len' cap':Nat} {z y:Int}
theorem jdd (h:Q w k n A len cap z) (hk:k≤30000) :
    Calls Tryz.prog 31 #[.agg #[.bool n,.slice A len cap]] w fun e w'=>Below w.heap.size w w'∧RetZ w.heap.size (-z) e w':=by
  obtain ⟨d,h1,h2,rfl⟩:=h;exact jev w n 0 _ d h1 (by omega)
theorem jl3 (h:Q w k n A len cap z) (h':Q w k' m A' len' cap' y) (hk:k≤30000) (hk':k'≤30000) :
    Calls Tryz.prog 34 #[.agg #[.bool n,.slice A len cap],.agg #[.bool m,.slice A' len' cap']] w fun e w'=>Below w.heap.size w w'∧RetZ w.heap.size (z*y) e w':=by
  obtain ⟨d,h1,h2,rfl⟩:=h;obtain ⟨d',h1',h2',rfl⟩:=h';exact jqh w n m 0 0 _ _ d d' h1 h1' (by omega) (by omega)
theorem j3z (h:Q w k n A len cap z) (h':Q w k' m A' len' cap' y) (hk:k≤30000) (hk':k'≤30000) :
    Calls Tryz.prog 33 #[.agg #[.bool n,.slice A len cap],.agg #[.bool m,.slice A' len' cap']] w fun e w'=>Below w.heap.size w w'∧RetZ w.heap.size (z+y) e w':=by
  obtain ⟨d,h1,h2,rfl⟩:=h;obtain ⟨d',h1',h2',rfl⟩:=h';exact jiy w n m 0 0 _ _ d d' h1 h1' (by omega) (by omega)
theorem jyf (h:Q w k n A len cap z) (hk:k≤30000) (c:Nat) (hc:c≤8000) :
    Calls Tryz.prog 99 #[.agg #[.bool n,.slice A len cap],.int .i64 (c:Nat)] w fun e w'=>Below w.heap.size w w'∧RetZ w.heap.size (z / 2^c) e w':=by
  obtain ⟨d,h1,h2,rfl⟩:=h;have:=ji0 w n 0 _ d (c:Int) h1 (by omega) (by omega) (by omega)
  rwa [show clampN (c:Int)=c from by unfold clampN;omega] at this
theorem jh2 (h:Q w k n A len cap z) (h':Q w k' m A' len' cap' y) (hk:k≤30000) (hk':k'≤30000) (hy:y≠0) :
    Calls Tryz.prog 72 #[.agg #[.bool n,.slice A len cap],.agg #[.bool m,.slice A' len' cap']] w fun e w'=>Below w.heap.size w w'∧RetZZ w.heap.size (z / y) (z%y) e w':=by
  obtain ⟨d,h1,h2,rfl⟩:=h;obtain ⟨d',h1',h2',rfl⟩:=h';exact jjz w n m 0 0 _ _ d d' h1 h1' (by omega) (by omega) (fun h0=>hy (by rw [h0,jej]))
end
theorem j08 (w:World) (o:Obj):(w.alloc o).drew.heap.size=w.heap.size+1:=by
  show (w.alloc o).heap.size=_
  simp
def vDown (z y:Int):Int:=if y<0 then (-z) / (-y) else z / y
def vUp (z y:Int):Int := -vDown (-z) y
def RetZT (B:Nat) (x:Int) (e:Ending) (w:World):Prop:=∃u d,e=.returned (.tuple #[.agg #[.bool (decide (x<0)),u],.bool true])∧Nums w B u d∧Canon d x.natAbs
theorem Q.sign_t {w:World} {k:Nat} {A:Option Addr} {len cap:Nat} {z:Int} (h:Q w k true A len cap z):z≤0:=by
  obtain ⟨d,-,-,rfl⟩:=h;simp only [ival,if_true];omega
theorem Q.sign_f {w:World} {k:Nat} {A:Option Addr} {len cap:Nat} {z:Int} (h:Q w k false A len cap z):0≤z:=by
  obtain ⟨d,-,-,rfl⟩:=h
  show (0:Int)≤(val W d:Int);omega
theorem Q.at_ {w w':World} {k:Nat} {n:Bool} {A:Option Addr} {len cap:Nat} {z:Int} (h:Q w k n A len cap z) (hb:Hid (Below w.heap.size w w')):Q w' k n A len cap z:=h.below hb.out
set_option maxHeartbeats 2000000 in
set_option maxRecDepth 100000 in
theorem je7 {w:World} {k k':Nat} {n m:Bool} {A A':Option Addr} {len cap len' cap':Nat} {z y:Int} (h:Q w k n A len cap z) (h':Q w k' m A' len' cap' y) (hk:k≤30000) (hk':k'≤30000) (hy:y≠0) :
    Calls Tryz.prog 234 #[.agg #[.bool n,.slice A len cap],.agg #[.bool m,.slice A' len' cap']] w fun e w'=>Below w.heap.size w w'∧RetZT w.heap.size (vDown z y) e w':=by
  obtain ⟨W0,hW,hbx,hby,hrs,hB0,hs⟩:=start3 w 26 26 26 #[.bool n,.slice A len cap] #[.bool m,.slice A' len' cap'] #[.bool false,.slice none 0 0];have HB0:=hide hB0;have hs2:w.heap.size+2<W0.heap.size:=by omega
  obtain ⟨c0,c1,-,-⟩:=hbx.two;obtain ⟨c2,c3,-,-⟩:=hby.two;have hsx:w.heap.size+3≤W0.heap.size:=by omega
  clear hs hB0;have hz:=h.lt;have hyl:=h'.lt
  cases m with
  | false=>
    have hy0:=h'.sign_f;have HEQ:Hid (z / y=vDown z y):=hide (by unfold vDown;rw [if_neg (by omega)]);rw [←HEQ.out];replace HEQ:Hid (z / y=z / y):=hide rfl
    go_enter Tryz.func234,Tryz.ntmps234
    go_upto_region 1 with (fail)
    rw [←hW];clear hW;have q1:=h.at_ HB0;have q2:=h'.at_ HB0;have HD:=hide (jh2 q1 q2 (by omega) (by omega) hy)
    go_wp2_with fail
    refine HD.out.mono ?_;rintro e v1 ⟨vb1,u,d,u',d',rfl,hu,hd,hu',hd'⟩;clear HD;obtain ⟨A1,cap1,rfl⟩:=hu.form;obtain ⟨A2,cap2,rfl⟩:=hu'.form;have rs1:=hrs.below vb1 hrs.lt;have HV1:=hide (HB0.out.trans (vb1.mono HB0.out.size));have HQX:=hide hd;have vs1:=HB0.out.size;have vs2:=vb1.size;have hrl:=hrs.lt;clear hd hd';obtain ⟨V2,hV2,ba,bb,vB2,vs⟩:=start2 v1 26 26 #[.bool (decide (z / y<0)),.slice A1 d.length cap1] #[.bool (decide (z%y<0)),.slice A2 d'.length cap2];have rs2:=rs1.below vB2 rs1.lt;have HV2:=hide (HV1.out.trans (vB2.mono HV1.out.size));have hu2:=hu.below vB2
    go_upto_region 4 with (fail)
    rw [←hV2];clear hV2;obtain ⟨t0,t1,-,-⟩:=ba.two;obtain ⟨r0,r1,r2,r3⟩:=rs2.two;have hn1:¬ v1.heap.size=w.heap.size+2:=by omega
    have hn2:¬ w.heap.size+2=v1.heap.size:=by omega
    go_wp2_with fail
    refine bodyPost_ret (ja6 rfl _ _ _ _ _ _ rfl (jai rs2)) rfl ⟨below2 HV2.out (by omega) _ _,?_⟩;exact ⟨_,d,rfl,(jaf (r:=w.heap.size+2) (hu2.mono (show w.heap.size+3≤_ by omega)) (by omega) _ _).mono (by omega),HQX.out⟩
  | true=>
    have hy0:=h'.sign_t;have HEQ:Hid (-z / -y=vDown z y):=hide (by unfold vDown;rw [if_pos (by omega)]);rw [←HEQ.out];clear HEQ;have hyn : -y≠0:=by omega
    obtain ⟨x1,HX1⟩:∃x,Hid (-z=x):=⟨_,hide rfl⟩;obtain ⟨y1,HY1⟩:∃x,Hid (-y=x):=⟨_,hide rfl⟩;have hxl:x1.natAbs<W^k:=by rw [←HX1.out,Int.natAbs_neg];exact hz
    have hyl1:y1.natAbs<W^k':=by rw [←HY1.out,Int.natAbs_neg];exact hyl
    rw [HY1.out] at hyn;rw [HX1.out,HY1.out];have HXL:=hide hxl;have HYL:=hide hyl1;clear hz hyl hxl hyl1
    go_enter Tryz.func234,Tryz.ntmps234
    go_upto_region 1 with (fail)
    rw [←hW];clear hW
    go_upto_region 2 with (fail)
    go_cut [] (fun wx=>∃A1 l1 c1 A2 l2 c2,Blk wx w.heap.size 26 #[.bool (decide (x1<0)),.slice A1 l1 c1]∧Blk wx (w.heap.size+1) 26 #[.bool (decide (y1<0)),.slice A2 l2 c2]∧
      Blk wx (w.heap.size+2) 26 #[.bool false,.slice none 0 0]∧Below w.heap.size w wx∧Q wx k (decide (x1<0)) A1 l1 c1 x1∧Q wx k' (decide (y1<0)) A2 l2 c2 y1∧w.heap.size+3≤wx.heap.size)
    case first=>
      have HBd:=hide HB0.out.drew;have HN1:=hide (jdd (h.at_ HBd) hk);rw [HX1.out] at HN1
      go_region_with
        (first
          | (go_at_call 31;(with_reducible refine HN1.out.mono ?_);rintro e w1 ⟨hb1,u1,d1,rfl,hu1,hd1⟩
             obtain ⟨A1,cap1,rfl⟩:=hu1.form;have bx1:=hbx.drew.below hb1 hbx.lt;have by1:=hby.drew.below hb1 hby.lt;have rs1:=hrs.drew.below hb1 hrs.lt;have HB1:=hide (HBd.out.trans (hb1.mono HBd.out.size));have hs3:W0.heap.size≤w1.heap.size:=hb1.size;obtain ⟨e0,e1,e4,e5⟩:=bx1.two;obtain ⟨e2,e3,e6,e7⟩:=by1.two;have HN2:=hide (jdd (h'.at_ HB1) hk');rw [HY1.out] at HN2)
          | (go_at_call 31;(with_reducible refine HN2.out.mono ?_);rintro e w2 ⟨hb2,u2,d2,rfl,hu2,hd2⟩
             obtain ⟨A2,cap2,rfl⟩:=hu2.form;have bx2:=bx1.below hb2 bx1.lt;have by2:=by1.below hb2 by1.lt;have rs2:=rs1.below hb2 rs1.lt;have hu12:=hu1.below hb2;have HB2:=hide (HB1.out.trans (hb2.mono HB1.out.size));have hs4:=hb2.size;obtain ⟨f0,f1,f4,f5⟩:=bx2.two;obtain ⟨f2,f3,f6,f7⟩:=by2.two))
      all_goals go_wp2_with fail
      all_goals go_meet
      all_goals have hne:¬ w.heap.size=w.heap.size+1:=by omega
      all_goals have hne2:¬ w.heap.size+1=w.heap.size:=by omega
      all_goals have hs5:w.heap.size+2<w1.heap.size:=by omega
      all_goals have b1:=(hu12.mono (show w.heap.size+3≤_ by (first | exact hs3 | (simp;omega))))
      all_goals have b2:=(hu2.mono (show w.heap.size+3≤_ by omega))
      all_goals refine ⟨A1,d1.length,cap1,A2,d2.length,cap2,jao (jai bx2) hne _ _,jai (jao by2 hne2 _ _),jao (jao rs2 (by omega) _ _) (by omega) _ _,below2 (below2 HB2.out (by omega) _ _) (by omega) _ _,
        ⟨d1,(jaf (jaf b1 (by omega) _ _) (by omega) _ _).mono (Nat.zero_le _),by rw [hd1.len];exact HXL.out,by rw [hd1.val,jaz]⟩,⟨d2,(jaf (jaf b2 (by omega) _ _) (by omega) _ _).mono (Nat.zero_le _),by rw [hd2.len];exact HYL.out,by rw [hd2.val,jaz]⟩,by simp;omega⟩
    case rest=>
      obtain ⟨A1,l1,c1,A2,l2,c2,ba4,bb4,rs4,HB4,q1,q2,hs5⟩:=hcut;have HB4:=hide HB4;obtain ⟨g0,g1,-,-⟩:=ba4.two;obtain ⟨g2,g3,-,-⟩:=bb4.two
      go_upto_region 3 with (fail)
      have HD:=hide (jh2 q1 q2 (by omega) (by omega) hyn)
      go_wp2_with fail
      refine HD.out.mono ?_;rintro e v1 ⟨vb1,u,d,u',d',rfl,hu,hd,hu',hd'⟩;clear HD;obtain ⟨A8,cap8,rfl⟩:=hu.form;obtain ⟨A9,cap9,rfl⟩:=hu'.form;have rs8:=rs4.below vb1 rs4.lt;have HV1:=hide (HB4.out.trans (vb1.mono HB4.out.size));have HQX:=hide hd;have vs1:=HB4.out.size;have vs2:=vb1.size;have hrl:=rs4.lt;clear hd hd';obtain ⟨V2,hV2,ba,bb,vB2,vs⟩:=start2 v1 26 26 #[.bool (decide (x1 / y1<0)),.slice A8 d.length cap8] #[.bool (decide (x1%y1<0)),.slice A9 d'.length cap9];have rs9:=rs8.below vB2 rs8.lt;have HV2:=hide (HV1.out.trans (vB2.mono HV1.out.size));have hu2:=hu.below vB2
      go_upto_region 4 with (fail)
      rw [←hV2];clear hV2;obtain ⟨t0,t1,-,-⟩:=ba.two;obtain ⟨r0,r1,r2,r3⟩:=rs9.two;have hn1:¬ v1.heap.size=w.heap.size+2:=by omega
      have hn2:¬ w.heap.size+2=v1.heap.size:=by omega
      go_wp2_with fail
      refine bodyPost_ret (ja6 rfl _ _ _ _ _ _ rfl (jai rs9)) rfl ⟨below2 HV2.out (by omega) _ _,?_⟩;exact ⟨_,d,rfl,(jaf (r:=w.heap.size+2) (hu2.mono (show w.heap.size+3≤_ by omega)) (by omega) _ _).mono (by omega),HQX.out⟩
set_option maxHeartbeats 2000000 in
set_option maxRecDepth 100000 in
theorem jcb {w:World} {k k':Nat} {n m:Bool} {A A':Option Addr} {len cap len' cap':Nat} {z y:Int} (h:Q w k n A len cap z) (h':Q w k' m A' len' cap' y) (hk:k≤29000) (hk':k'≤30000) (hy:y≠0) (hvl:(vDown (-z) y).natAbs<W^(k+1)) :
    Calls Tryz.prog 233 #[.agg #[.bool n,.slice A len cap],.agg #[.bool m,.slice A' len' cap']] w fun e w'=>Below w.heap.size w w'∧RetZT w.heap.size (vUp z y) e w':=by
  obtain ⟨W0,hW,hbx,hby,hrs,hB0,hs⟩:=start3 w 26 26 26 #[.bool n,.slice A len cap] #[.bool m,.slice A' len' cap'] #[.bool false,.slice none 0 0];have HB0:=hide hB0;have hs2:w.heap.size+2<W0.heap.size:=by omega
  obtain ⟨c0,c1,-,-⟩:=hbx.two;obtain ⟨c2,c3,-,-⟩:=hby.two;clear hs hB0;have hz:=h.lt;obtain ⟨x1,HX1⟩:∃x,Hid (-z=x):=⟨_,hide rfl⟩;have hxl:x1.natAbs<W^k:=by rw [←HX1.out,Int.natAbs_neg];exact hz
  have HXL:=hide hxl;obtain ⟨x2,HX2⟩:∃x,Hid (vDown (-z) y=x):=⟨_,hide rfl⟩;have HX2':Hid (vDown x1 y=x2):=hide (by rw [←HX1.out];exact HX2.out);rw [HX2.out] at hvl;have HVL:=hide hvl;have HVU:Hid (vUp z y = -x2):=hide (by unfold vUp;rw [HX2.out]);rw [HVU.out];clear hz hxl hvl;obtain ⟨x3,HX3⟩:∃x,Hid (-x2=x):=⟨_,hide rfl⟩;rw [HX3.out]
  go_enter Tryz.func233,Tryz.ntmps233
  go_upto_region 1 with (fail)
  rw [←hW];clear hW
  go_cut [6,7] (fun v b wx=>b=.bool true∧∃g A l c,v=.pointer (some ⟨g,0,none⟩)∧Blk wx g 26 #[.bool (decide (x2<0)),.slice A l c]∧Blk wx (w.heap.size+2) 26 #[.bool false,.slice none 0 0]∧Below w.heap.size w wx∧Q wx (k+1) (decide (x2<0)) A l c x2∧w.heap.size+3≤wx.heap.size)
  case first=>
    have HBd:=hide HB0.out.drew;have HBe:=hide ((HB0.out.alloc (by omega) (.cells #[.bool false,.slice none 0 0] 26)).drew);have bxe:=(hbx.alloc (.cells #[.bool false,.slice none 0 0] 26)).drew;have bye:=(hby.alloc (.cells #[.bool false,.slice none 0 0] 26)).drew;have rse:=(hrs.alloc (.cells #[.bool false,.slice none 0 0] 26)).drew;have bte:=(Blk.new W0 26 #[.bool false,.slice none 0 0]).drew;have HN1:=hide (jdd (h.at_ HBd) (by omega));have HN1e:=hide (jdd (h.at_ HBe) (by omega));rw [HX1.out] at HN1 HN1e
    go_region_held3 (fun w'=>w'.cell? ⟨w.heap.size,0,none⟩=some (.bool n)∧w'.cell? ⟨w.heap.size,1,none⟩=some (.slice A len cap)∧w'.cell? ⟨w.heap.size+1,0,none⟩=some (.bool m)∧w'.cell? ⟨w.heap.size+1,1,none⟩=some (.slice A' len' cap')) (go_keep)
      (first
        | (go_at_call 31;(with_reducible refine HN1.out.mono ?_);rintro e w1 ⟨hb1,u1,d1,rfl,hu1,hd1⟩
           obtain ⟨A1,cap1,rfl⟩:=hu1.form;have bx1:=hbx.drew.below hb1 hbx.lt;have by1:=hby.drew.below hb1 hby.lt;have rs1:=hrs.drew.below hb1 hrs.lt;have HB1:=hide (HBd.out.trans (hb1.mono HBd.out.size));have hs3:W0.heap.size≤w1.heap.size:=hb1.size;have q1:Q w1 k (decide (x1<0)) A1 d1.length cap1 x1:=⟨d1,hu1.mono (Nat.zero_le _),by rw [hd1.len];exact HXL.out,by rw [hd1.val,jaz]⟩;obtain ⟨e0,e1,-,-⟩:=bx1.two;obtain ⟨e2,e3,-,-⟩:=by1.two;have hba:Below w1.heap.size w1 (w1.alloc (.cells #[.bool false,.slice none 0 0] 26)):=(Below.refl _ _).alloc (Nat.le_refl _) _;have HB1a:=hide (HB1.out.trans (hba.mono HB1.out.size));have bt1a:=Blk.new w1 26 #[.bool false,.slice none 0 0];have HN2:=hide (je7 q1 (h'.at_ HB1) (by omega) hk' hy);have HN2a:=hide (je7 (q1.below hba) (h'.at_ HB1a) (by omega) hk' hy);rw [HX2'.out] at HN2 HN2a)
        | (go_at_call 31;(with_reducible refine HN1e.out.mono ?_);rintro e w1 ⟨hb1,u1,d1,rfl,hu1,hd1⟩
           obtain ⟨A1,cap1,rfl⟩:=hu1.form;have bx1:=bxe.below hb1 bxe.lt;have by1:=bye.below hb1 bye.lt;have rs1:=rse.below hb1 rse.lt;have btE:=bte.below hb1 bte.lt;have HB1:=hide (HBe.out.trans (hb1.mono HBe.out.size));have hs3:W0.heap.size+1≤w1.heap.size:=by have h5:=hb1.size;rw [j08] at h5;exact h5
           have q1:Q w1 k (decide (x1<0)) A1 d1.length cap1 x1:=⟨d1,hu1.mono (Nat.zero_le _),by rw [hd1.len];exact HXL.out,by rw [hd1.val,jaz]⟩;obtain ⟨e0,e1,-,-⟩:=bx1.two;obtain ⟨e2,e3,-,-⟩:=by1.two;have HN2e:=hide (je7 q1 (h'.at_ HB1) (by omega) hk' hy);rw [HX2'.out] at HN2e)
        | (go_at_call 234;(with_reducible refine HN2.out.mono ?_);rintro e w2 ⟨hb2,u2,d2,rfl,hu2,hd2⟩
           obtain ⟨A2,cap2,rfl⟩:=hu2.form;have tagc:True:=trivial;have bx2:=bx1.below hb2 bx1.lt;have by2:=by1.below hb2 by1.lt;have rs2:=rs1.below hb2 rs1.lt;have HB2:=hide (HB1.out.trans (hb2.mono HB1.out.size));have hs4:=hb2.size;obtain ⟨f0,f1,-,-⟩:=bx2.two;obtain ⟨f2,f3,-,-⟩:=by2.two)
        | (go_at_call 234;(with_reducible refine HN2a.out.mono ?_);rintro e w2 ⟨hb2,u2,d2,rfl,hu2,hd2⟩
           obtain ⟨A2,cap2,rfl⟩:=hu2.form;have bx2:=(bx1.below (hba.mono (Nat.le_refl _)) bx1.lt).below hb2 (by simp;have:=bx1.lt;omega);have by2:=(by1.below hba by1.lt).below hb2 (by simp;have:=by1.lt;omega);have rs2:=(rs1.below hba rs1.lt).below hb2 (by simp;have:=rs1.lt;omega);have btA:=bt1a.below hb2 (by simp);have HB2:=hide (HB1a.out.trans (hb2.mono HB1a.out.size));have hs4:w1.heap.size+1≤w2.heap.size:=by have:=hb2.size;simpa using this
           obtain ⟨t0,t1,t2,t3⟩:=btA.two;have hne1:¬ w1.heap.size=w.heap.size:=by omega
           have hne2:¬ w1.heap.size=w.heap.size+1:=by omega
           have hne3:¬ w.heap.size=w1.heap.size:=by omega
           have hne4:¬ w.heap.size+1=w1.heap.size:=by omega
           obtain ⟨f0,f1,-,-⟩:=bx2.two;obtain ⟨f2,f3,-,-⟩:=by2.two)
        | (go_at_call 234;(with_reducible refine HN2e.out.mono ?_);rintro e w2 ⟨hb2,u2,d2,rfl,hu2,hd2⟩
           obtain ⟨A2,cap2,rfl⟩:=hu2.form;have bx2:=bx1.below hb2 bx1.lt;have by2:=by1.below hb2 by1.lt;have rs2:=rs1.below hb2 rs1.lt;have btF:=btE.below hb2 btE.lt;have HB2:=hide (HB1.out.trans (hb2.mono HB1.out.size));have hs4:=hb2.size;obtain ⟨t0,t1,t2,t3⟩:=btF.two;have hne1:¬ W0.heap.size=w.heap.size:=by omega
           have hne2:¬ W0.heap.size=w.heap.size+1:=by omega
           have hne3:¬ w.heap.size=W0.heap.size:=by omega
           have hne4:¬ w.heap.size+1=W0.heap.size:=by omega
           obtain ⟨f0,f1,-,-⟩:=bx2.two;obtain ⟨f2,f3,-,-⟩:=by2.two))
    all_goals go_wp2_with fail
    all_goals go_meet
    all_goals first
      | (have hx:=btA
         have hu7:=jaf (r:=w1.heap.size) (hu2.mono (show w1.heap.size+1≤_ by simp)) (by omega) (.bool (decide (x2<0))) (.slice A2 d2.length cap2);exact ⟨rfl,w1.heap.size,A2,d2.length,cap2,rfl,jai btA,jao rs2 (by omega) _ _,below2 HB2.out (by omega) _ _,⟨d2,hu7.mono (Nat.zero_le _),by rw [hd2.len];exact HVL.out,by rw [hd2.val,jaz]⟩,by simp;omega⟩)
      | (have hx:=btF
         have hu7:=jaf (r:=W0.heap.size) (hu2.mono (show W0.heap.size+1≤_ by omega)) (by omega) (.bool (decide (x2<0))) (.slice A2 d2.length cap2);exact ⟨rfl,W0.heap.size,A2,d2.length,cap2,rfl,jai btF,jao rs2 (by omega) _ _,below2 HB2.out (by omega) _ _,⟨d2,hu7.mono (Nat.zero_le _),by rw [hd2.len];exact HVL.out,by rw [hd2.val,jaz]⟩,by simp;omega⟩)
      | (have hx:=tagc
         exact ⟨rfl,w2.heap.size,A2,d2.length,cap2,rfl,Blk.new _ _ _,rs2.alloc _,HB2.out.alloc HB2.out.size _,⟨d2,(hu2.alloc _).mono (Nat.zero_le _),by rw [hd2.len];exact HVL.out,by rw [hd2.val,jaz]⟩,by simp;omega⟩)
  case rest=>
    obtain ⟨rfl,g,A2,l2,c2,rfl,ba,rs3,HV2,q2,hs6⟩:=hcut;have HV2:=hide HV2;have HN3:=hide (jdd q2 (by omega));rw [HX3.out] at HN3;obtain ⟨t0,t1,-,-⟩:=ba.two
    go_upto_region 2 with (fail)
    go_wp2_with fail
    refine HN3.out.mono ?_;rintro e w3 ⟨hb3,u3,d3,rfl,hu3,hd3⟩;obtain ⟨A3,cap3,rfl⟩:=hu3.form;have rs4:=rs3.below hb3 rs3.lt;have HB3:=hide (HV2.out.trans (hb3.mono HV2.out.size));obtain ⟨r0,r1,r2,r3⟩:=rs4.two
    go_wp2_with fail
    refine bodyPost_ret (ja6 rfl _ _ _ _ _ _ rfl (jai rs4)) rfl ⟨below2 HB3.out (by omega) _ _,?_⟩;exact ⟨_,d3,rfl,(jaf (r:=w.heap.size+2) (hu3.mono hs6) (by omega) _ _).mono (by omega),hd3⟩
end Go.Proofs.YtllgjggkchgpbaaGreat
