/- ball.Div's two functions. -/
import Derived.Test.YtllgjggkchgpbaaGreatBa2
set_option linter.unusedVariables false
set_option linter.unusedSimpArgs false
namespace Go.Proofs.YtllgjggkchgpbaaGreat
open Go.RowKit
open L (val dig nth)
def QK (w:World) (B k:Nat) (A:Option Addr) (len cap:Nat) (z:Int):Prop:=∃d,Nums w B (.slice A len cap) d∧len=d.length∧Canon d z.natAbs∧z.natAbs<W^k
theorem QK.q {w:World} {B k:Nat} {A:Option Addr} {len cap:Nat} {z:Int} (h:QK w B k A len cap z):Q w k (decide (z<0)) A len cap z:=by
  obtain ⟨d,h1,rfl,h3,h4⟩:=h;exact RetZ.q h1 h3 h4
theorem jnt {z y:Int} (hy:0<y):(z / y).natAbs≤z.natAbs:=by
  rcases Int.lt_or_le z 0 with h | h
  · have h1:z≤z / y:=by
      rw [Int.le_ediv_iff_mul_le hy];have h3:z*y≤z*1:=Int.mul_le_mul_of_nonpos_left (by omega) hy
      omega
    have h2:=Int.ediv_neg_of_neg_of_pos h hy
    omega
  · have h1:z / y≤z:=Int.ediv_le_self _ h
    have h2:0≤z / y:=Int.ediv_nonneg h (by omega)
    omega
theorem jdj {z y:Int} {k:Nat} (hy:y≠0) (hz:z.natAbs<W^k):(vDown z y).natAbs<W^k:=by
  unfold vDown
  split
  · exact Nat.lt_of_le_of_lt (Nat.le_trans (jnt (by omega)) (by rw [Int.natAbs_neg];exact Nat.le_refl _)) hz
  · exact Nat.lt_of_le_of_lt (jnt (by omega)) hz
set_option maxHeartbeats 4000000 in
set_option maxRecDepth 100000 in
theorem jp2 {w:World} {k k':Nat} {n m:Bool} {A A':Option Addr} {len cap len' cap':Nat} {x y:Int} {q:Int} {p:Nat} {b0 b1 b2 b3:Value} (h:Q w k n A len cap x) (h':Q w k' m A' len' cap' y) (hp:Blk w p 28 #[b0,b1,b2,b3,.int .i64 q]) (hk:k≤1000) (hk':k'≤1000) (hq0:0≤q) (hq1:q≤2048) (hy:y≠0) :
    Calls Tryz.prog 283 #[.agg #[.bool n,.slice A len cap],.agg #[.bool m,.slice A' len' cap'],.pointer (some ⟨p,0,none⟩)] w fun e w'=>Below w.heap.size w w'∧RetZ w.heap.size (-vUp (-(x*2^q.toNat)) y) e w':=by
  obtain ⟨W0,hW,bx,bY,rs,hB0,hs⟩:=start3 w 26 26 26 #[.bool n,.slice A len cap] #[.bool m,.slice A' len' cap'] #[.bool false,.slice none 0 0];have hpl:=hp.lt;have bp:=hp.below hB0 hp.lt;have HB0:=hide hB0;have hs2:w.heap.size+3≤W0.heap.size:=by omega
  clear hs hB0;obtain ⟨e0,e1,-,-⟩:=bx.two;obtain ⟨e2,e3,-,-⟩:=bY.two;obtain ⟨-,-,-,-,e4,-⟩:=bp.five;obtain ⟨c,rfl⟩:∃c:Nat,q=(c:Int):=⟨q.toNat,by omega⟩;have hc:c≤2048:=by omega
  have hxl:=h.lt;obtain ⟨x1,HX1⟩:∃z,Hid (x*2^c=z):=⟨_,hide rfl⟩;have HL1:Hid (x1.natAbs<W^(k+32)):=hide (by rw [←HX1.out];exact jel hxl (by omega));obtain ⟨x2,HX2⟩:∃z,Hid (-x1=z):=⟨_,hide rfl⟩;have HL2:Hid (x2.natAbs<W^(k+32)):=hide (by rw [←HX2.out,Int.natAbs_neg];exact HL1.out);obtain ⟨x3,HX3⟩:∃z,Hid (vUp x2 y=z):=⟨_,hide rfl⟩;have HUL:Hid ((vDown (-x2) y).natAbs<W^(k+32+1)):=hide (Nat.lt_of_lt_of_le (jdj hy (by rw [Int.natAbs_neg];exact HL2.out)) (Nat.pow_le_pow_right ja5 (by omega)));have HL3:Hid (x3.natAbs<W^(k+34)):=hide (by rw [←HX3.out];unfold vUp;rw [Int.natAbs_neg];exact Nat.lt_of_lt_of_le HUL.out (Nat.pow_le_pow_right ja5 (by omega)));obtain ⟨x9,HX9⟩:∃z,Hid (-x3=z):=⟨_,hide rfl⟩;rw [show -vUp (-(x*2^((c:Int)).toNat)) y=x9 from by rw [Int.toNat_natCast,HX1.out,HX2.out,HX3.out,HX9.out]];clear hxl
  go_enter Tryz.func283,Tryz.ntmps283
  go_upto_region 1 with (fail)
  rw [←hW];clear hW
  go_cut [6,7] (fun v b wx=>b=.bool true∧∃g C l c,v=.pointer (some ⟨g,0,none⟩)∧Blk wx g 26 #[.bool (decide (x3<0)),.slice C l c]∧Blk wx (w.heap.size+2) 26 #[.bool false,.slice none 0 0]∧Below w.heap.size w wx∧QK wx (w.heap.size+3) (k+34) C l c x3∧w.heap.size+3≤wx.heap.size)
  case first=>
    have HBd:=hide HB0.out.drew;have HBe:=hide ((HB0.out.alloc (by omega) (.cells #[.bool false,.slice none 0 0] 26)).drew);have bx_e:=(bx.alloc (.cells #[.bool false,.slice none 0 0] 26)).drew;have bY_e:=(bY.alloc (.cells #[.bool false,.slice none 0 0] 26)).drew;have bp_e:=(bp.alloc (.cells #[.bool false,.slice none 0 0] 26)).drew;have rs_e:=(rs.alloc (.cells #[.bool false,.slice none 0 0] 26)).drew;have bt1_e:=(Blk.new W0 26 #[.bool false,.slice none 0 0]).drew;have tok0:True:=trivial;have HC1:=hide (jig (h.at_ HBd) (by omega) c (by omega));have HC1a:=hide (jig (h.at_ HBe) (by omega) c (by omega));rw [HX1.out] at HC1 HC1a
    go_region_held3 (fun w'=>w'.cell? ⟨w.heap.size,0,none⟩=some (.bool n)∧w'.cell? ⟨w.heap.size,1,none⟩=some (.slice A len cap)∧w'.cell? ⟨w.heap.size+1,0,none⟩=some (.bool m)∧w'.cell? ⟨w.heap.size+1,1,none⟩=some (.slice A' len' cap')∧w'.cell? ⟨p,4,none⟩=some (.int .i64 (c:Int))) (go_keep)
      (first
        | (go_at_call 69;have _t:=tok0;(with_reducible refine HC1.out.mono ?_);rintro e v1 ⟨hb1,u1,d1,rfl,hu1,hd1⟩
           have bx:=bx.drew.below hb1 bx.lt;have bY:=bY.drew.below hb1 bY.lt;have bp:=bp.drew.below hb1 bp.lt;have rs:=rs.drew.below hb1 rs.lt;have HV1:=hide (HBd.out.trans (hb1.mono HBd.out.size));have hz1:W0.heap.size≤v1.heap.size:=hb1.size;have tagA1n:True:=trivial;obtain ⟨C1,cc1,rfl⟩:=hu1.form;have qv1:=RetZ.q hu1 hd1 HL1.out;have HV1a:=hide (HV1.out.alloc (Nat.le_trans (Nat.le_trans (by omega) hs2) hz1) (.cells #[.bool false,.slice none 0 0] 26));have HC2:=hide (jdd qv1 (by omega));have HC2a:=hide (jdd (qv1.below ((Below.refl _ _).alloc (Nat.le_refl _) (.cells #[.bool false,.slice none 0 0] 26))) (by omega));rw [HX2.out] at HC2 HC2a;obtain ⟨e0,e1,-,-⟩:=bx.two;obtain ⟨e2,e3,-,-⟩:=bY.two;obtain ⟨-,-,-,-,e4,-⟩:=bp.five;clear _t tok0;have tok1:True:=trivial)
        | (go_at_call 69;have _t:=tok0;(with_reducible refine HC1a.out.mono ?_);rintro e v1 ⟨hb1,u1,d1,rfl,hu1,hd1⟩
           have bx:=bx_e.below hb1 bx_e.lt;have bY:=bY_e.below hb1 bY_e.lt;have bp:=bp_e.below hb1 bp_e.lt;have rs:=rs_e.below hb1 rs_e.lt;have bt1:=bt1_e.below hb1 bt1_e.lt;have HV1:=hide (HBe.out.trans (hb1.mono HBe.out.size));have hz1:W0.heap.size≤v1.heap.size:=Nat.le_trans (Nat.le_of_lt bt1_e.lt) hb1.size;have hg1:W0.heap.size<v1.heap.size:=bt1.lt;have tagA1a:True:=trivial;obtain ⟨C1,cc1,rfl⟩:=hu1.form;have qv1:=RetZ.q hu1 hd1 HL1.out;have HV1a:=hide (HV1.out.alloc (Nat.le_trans (Nat.le_trans (by omega) hs2) hz1) (.cells #[.bool false,.slice none 0 0] 26));have HC2:=hide (jdd qv1 (by omega));have HC2a:=hide (jdd (qv1.below ((Below.refl _ _).alloc (Nat.le_refl _) (.cells #[.bool false,.slice none 0 0] 26))) (by omega));rw [HX2.out] at HC2 HC2a;obtain ⟨e0,e1,-,-⟩:=bx.two;obtain ⟨e2,e3,-,-⟩:=bY.two;obtain ⟨-,-,-,-,e4,-⟩:=bp.five;clear _t tok0;have tok1:True:=trivial)
        | (go_at_call 31;have _t:=tok1;(with_reducible refine HC2.out.mono ?_);rintro e v2 ⟨hb2,u2,d2,rfl,hu2,hd2⟩
           have bx:=bx.below hb2 bx.lt;have bY:=bY.below hb2 bY.lt;have bp:=bp.below hb2 bp.lt;have rs:=rs.below hb2 rs.lt
           (try have bt1:=bt1.below hb2 bt1.lt)
           have HV2:=hide (HV1.out.trans (hb2.mono HV1.out.size));have hv2:v1.heap.size≤v2.heap.size:=hb2.size;have hz2:W0.heap.size≤v2.heap.size:=Nat.le_trans hz1 (hb2.size);have tagA2n:True:=trivial;obtain ⟨C2,cc2,rfl⟩:=hu2.form;have qv2:=RetZ.q hu2 hd2 HL2.out;have HV2a:=hide (HV2.out.alloc (Nat.le_trans (Nat.le_trans (by omega) hs2) hz2) (.cells #[.bool false,.slice none 0 0] 26));have HC3:=hide (jcb qv2 (h'.at_ HV2) (by omega) (by omega) hy HUL.out);have HC3a:=hide (jcb (qv2.below ((Below.refl _ _).alloc (Nat.le_refl _) (.cells #[.bool false,.slice none 0 0] 26))) (h'.at_ HV2a) (by omega) (by omega) hy HUL.out);rw [HX3.out] at HC3 HC3a;obtain ⟨e0,e1,-,-⟩:=bx.two;obtain ⟨e2,e3,-,-⟩:=bY.two;obtain ⟨-,-,-,-,e4,-⟩:=bp.five;clear _t tok1;have tok2:True:=trivial)
        | (go_at_call 31;have _t:=tok1;(with_reducible refine HC2a.out.mono ?_);rintro e v2 ⟨hb2,u2,d2,rfl,hu2,hd2⟩
           have hba:Below v1.heap.size v1 (v1.alloc (.cells #[.bool false,.slice none 0 0] 26)):=(Below.refl _ _).alloc (Nat.le_refl _) _;have bx:=(bx.below hba bx.lt).below hb2 (Nat.lt_of_lt_of_le bx.lt hba.size);have bY:=(bY.below hba bY.lt).below hb2 (Nat.lt_of_lt_of_le bY.lt hba.size);have bp:=(bp.below hba bp.lt).below hb2 (Nat.lt_of_lt_of_le bp.lt hba.size);have rs:=(rs.below hba rs.lt).below hb2 (Nat.lt_of_lt_of_le rs.lt hba.size);have bt2:=(Blk.new v1 26 #[.bool false,.slice none 0 0]).below hb2 (by simp);have hg2:v1.heap.size<v2.heap.size:=bt2.lt;have HV2:=hide (HV1a.out.trans (hb2.mono HV1a.out.size));have hv2:v1.heap.size≤v2.heap.size:=Nat.le_trans hba.size hb2.size;have hz2:W0.heap.size≤v2.heap.size:=Nat.le_trans hz1 (Nat.le_trans hba.size hb2.size);have tagA2a:True:=trivial;obtain ⟨C2,cc2,rfl⟩:=hu2.form;have qv2:=RetZ.q hu2 hd2 HL2.out;have HV2a:=hide (HV2.out.alloc (Nat.le_trans (Nat.le_trans (by omega) hs2) hz2) (.cells #[.bool false,.slice none 0 0] 26));have HC3:=hide (jcb qv2 (h'.at_ HV2) (by omega) (by omega) hy HUL.out);have HC3a:=hide (jcb (qv2.below ((Below.refl _ _).alloc (Nat.le_refl _) (.cells #[.bool false,.slice none 0 0] 26))) (h'.at_ HV2a) (by omega) (by omega) hy HUL.out);rw [HX3.out] at HC3 HC3a;obtain ⟨e0,e1,-,-⟩:=bx.two;obtain ⟨e2,e3,-,-⟩:=bY.two;obtain ⟨-,-,-,-,e4,-⟩:=bp.five;clear _t tok1;have tok2:True:=trivial)
        | (go_at_call 233;have _t:=tok2;(with_reducible refine HC3.out.mono ?_);rintro e v3 ⟨hb3,u3,d3,rfl,hu3,hd3⟩
           have bx:=bx.below hb3 bx.lt;have bY:=bY.below hb3 bY.lt;have bp:=bp.below hb3 bp.lt;have rs:=rs.below hb3 rs.lt
           (try have bt1:=bt1.below hb3 bt1.lt)
           (try have bt2:=bt2.below hb3 bt2.lt)
           have HV3:=hide (HV2.out.trans (hb3.mono HV2.out.size));have hv3:v2.heap.size≤v3.heap.size:=hb3.size;have hz3:W0.heap.size≤v3.heap.size:=Nat.le_trans hz2 (hb3.size);have tagA3n:True:=trivial;obtain ⟨C3,cc3,rfl⟩:=hu3.form;have qv3:=RetZ.q hu3 hd3 HL3.out
           (try obtain ⟨t0,t1,t2,t3⟩:=bt1.two)
           have hn1_0:¬ W0.heap.size=w.heap.size:=by omega
           have hm1_0:¬ w.heap.size=W0.heap.size:=by omega
           have hn1_1:¬ W0.heap.size=w.heap.size+1:=by omega
           have hm1_1:¬ w.heap.size+1=W0.heap.size:=by omega
           have hn1_2:¬ W0.heap.size=p:=by omega
           have hm1_2:¬ p=W0.heap.size:=by omega
           have hn1_3:¬ W0.heap.size=w.heap.size+2:=by omega
           have hm1_3:¬ w.heap.size+2=W0.heap.size:=by omega
           (try obtain ⟨t0,t1,t2,t3⟩:=bt2.two)
           have hn2_0:¬ v1.heap.size=w.heap.size:=by omega
           have hm2_0:¬ w.heap.size=v1.heap.size:=by omega
           have hn2_1:¬ v1.heap.size=w.heap.size+1:=by omega
           have hm2_1:¬ w.heap.size+1=v1.heap.size:=by omega
           have hn2_2:¬ v1.heap.size=p:=by omega
           have hm2_2:¬ p=v1.heap.size:=by omega
           have hn2_3:¬ v1.heap.size=w.heap.size+2:=by omega
           have hm2_3:¬ w.heap.size+2=v1.heap.size:=by omega
           (try obtain ⟨t0,t1,t2,t3⟩:=bt3.two)
           have hn3_0:¬ v2.heap.size=w.heap.size:=by omega
           have hm3_0:¬ w.heap.size=v2.heap.size:=by omega
           have hn3_1:¬ v2.heap.size=w.heap.size+1:=by omega
           have hm3_1:¬ w.heap.size+1=v2.heap.size:=by omega
           have hn3_2:¬ v2.heap.size=p:=by omega
           have hm3_2:¬ p=v2.heap.size:=by omega
           have hn3_3:¬ v2.heap.size=w.heap.size+2:=by omega
           have hm3_3:¬ w.heap.size+2=v2.heap.size:=by omega
           obtain ⟨e0,e1,-,-⟩:=bx.two;obtain ⟨e2,e3,-,-⟩:=bY.two;obtain ⟨-,-,-,-,e4,-⟩:=bp.five;clear _t tok2;have tok3:True:=trivial)
        | (go_at_call 233;have _t:=tok2;(with_reducible refine HC3a.out.mono ?_);rintro e v3 ⟨hb3,u3,d3,rfl,hu3,hd3⟩
           have hba:Below v2.heap.size v2 (v2.alloc (.cells #[.bool false,.slice none 0 0] 26)):=(Below.refl _ _).alloc (Nat.le_refl _) _;have bx:=(bx.below hba bx.lt).below hb3 (Nat.lt_of_lt_of_le bx.lt hba.size);have bY:=(bY.below hba bY.lt).below hb3 (Nat.lt_of_lt_of_le bY.lt hba.size);have bp:=(bp.below hba bp.lt).below hb3 (Nat.lt_of_lt_of_le bp.lt hba.size);have rs:=(rs.below hba rs.lt).below hb3 (Nat.lt_of_lt_of_le rs.lt hba.size);have bt3:=(Blk.new v2 26 #[.bool false,.slice none 0 0]).below hb3 (by simp);have hg3:v2.heap.size<v3.heap.size:=bt3.lt;have HV3:=hide (HV2a.out.trans (hb3.mono HV2a.out.size));have hv3:v2.heap.size≤v3.heap.size:=Nat.le_trans hba.size hb3.size;have hz3:W0.heap.size≤v3.heap.size:=Nat.le_trans hz2 (Nat.le_trans hba.size hb3.size);have tagA3a:True:=trivial;obtain ⟨C3,cc3,rfl⟩:=hu3.form;have qv3:=RetZ.q hu3 hd3 HL3.out
           (try obtain ⟨t0,t1,t2,t3⟩:=bt1.two)
           have hn1_0:¬ W0.heap.size=w.heap.size:=by omega
           have hm1_0:¬ w.heap.size=W0.heap.size:=by omega
           have hn1_1:¬ W0.heap.size=w.heap.size+1:=by omega
           have hm1_1:¬ w.heap.size+1=W0.heap.size:=by omega
           have hn1_2:¬ W0.heap.size=p:=by omega
           have hm1_2:¬ p=W0.heap.size:=by omega
           have hn1_3:¬ W0.heap.size=w.heap.size+2:=by omega
           have hm1_3:¬ w.heap.size+2=W0.heap.size:=by omega
           (try obtain ⟨t0,t1,t2,t3⟩:=bt2.two)
           have hn2_0:¬ v1.heap.size=w.heap.size:=by omega
           have hm2_0:¬ w.heap.size=v1.heap.size:=by omega
           have hn2_1:¬ v1.heap.size=w.heap.size+1:=by omega
           have hm2_1:¬ w.heap.size+1=v1.heap.size:=by omega
           have hn2_2:¬ v1.heap.size=p:=by omega
           have hm2_2:¬ p=v1.heap.size:=by omega
           have hn2_3:¬ v1.heap.size=w.heap.size+2:=by omega
           have hm2_3:¬ w.heap.size+2=v1.heap.size:=by omega
           (try obtain ⟨t0,t1,t2,t3⟩:=bt3.two)
           have hn3_0:¬ v2.heap.size=w.heap.size:=by omega
           have hm3_0:¬ w.heap.size=v2.heap.size:=by omega
           have hn3_1:¬ v2.heap.size=w.heap.size+1:=by omega
           have hm3_1:¬ w.heap.size+1=v2.heap.size:=by omega
           have hn3_2:¬ v2.heap.size=p:=by omega
           have hm3_2:¬ p=v2.heap.size:=by omega
           have hn3_3:¬ v2.heap.size=w.heap.size+2:=by omega
           have hm3_3:¬ w.heap.size+2=v2.heap.size:=by omega
           obtain ⟨e0,e1,-,-⟩:=bx.two;obtain ⟨e2,e3,-,-⟩:=bY.two;obtain ⟨-,-,-,-,e4,-⟩:=bp.five;clear _t tok2;have tok3:True:=trivial)
        )
    all_goals go_wp2_with fail
    all_goals go_meet
    all_goals first
      | (have hx:=bt1
         have hu7:=jaf (r:=W0.heap.size) (hu3.mono (show W0.heap.size+1≤_ by (first | (simp;done) | omega))) (by omega) (.bool (decide (x3<0))) (.slice C3 d3.length cc3);exact ⟨rfl,W0.heap.size,C3,d3.length,cc3,rfl,jai bt1,jao rs (by omega) _ _,below2 HV3.out (by omega) _ _,⟨d3,hu7.mono (by omega),rfl,hd3,HL3.out⟩,by simp;omega⟩)
      | (have hx:=bt2
         have hu7:=jaf (r:=v1.heap.size) (hu3.mono (show v1.heap.size+1≤_ by (first | (simp;done) | omega))) (by omega) (.bool (decide (x3<0))) (.slice C3 d3.length cc3);exact ⟨rfl,v1.heap.size,C3,d3.length,cc3,rfl,jai bt2,jao rs (by omega) _ _,below2 HV3.out (by omega) _ _,⟨d3,hu7.mono (by omega),rfl,hd3,HL3.out⟩,by simp;omega⟩)
      | (have hx:=bt3
         have hu7:=jaf (r:=v2.heap.size) (hu3.mono (show v2.heap.size+1≤_ by (first | (simp;done) | omega))) (by omega) (.bool (decide (x3<0))) (.slice C3 d3.length cc3);exact ⟨rfl,v2.heap.size,C3,d3.length,cc3,rfl,jai bt3,jao rs (by omega) _ _,below2 HV3.out (by omega) _ _,⟨d3,hu7.mono (by omega),rfl,hd3,HL3.out⟩,by simp;omega⟩)
      | exact ⟨rfl,v3.heap.size,C3,d3.length,cc3,rfl,Blk.new _ _ _,rs.alloc _,HV3.out.alloc HV3.out.size _,⟨d3,(hu3.alloc _).mono (by omega),rfl,hd3,HL3.out⟩,by simp;omega⟩
  case rest=>
    obtain ⟨rfl,g,C9,l9,c9,rfl,ba,rs3,HV,q9,hs6⟩:=hcut;have HV:=hide HV;obtain ⟨t0,t1,-,-⟩:=ba.two;have HN3:=hide (jdd q9.q (by omega));rw [HX9.out] at HN3
    go_upto_region 2 with (fail)
    go_wp2_with fail
    refine HN3.out.mono ?_;rintro e w3 ⟨hb3,u3,d3,rfl,hu3,hd3⟩;obtain ⟨A3,cap3,rfl⟩:=hu3.form;have rs4:=rs3.below hb3 rs3.lt;have HB3:=hide (HV.out.trans (hb3.mono HV.out.size));obtain ⟨r0,r1,r2,r3⟩:=rs4.two
    go_wp2_with fail
    refine bodyPost_ret (jah rfl _ _ _ _ _ _ rfl (jai rs4)) rfl ⟨below2 HB3.out (by omega) _ _,?_⟩;exact ⟨_,d3,rfl,(jaf (r:=w.heap.size+2) (hu3.mono hs6) (by omega) _ _).mono (by omega),hd3⟩
set_option maxHeartbeats 4000000 in
set_option maxRecDepth 100000 in
theorem jp3 {w:World} {k k':Nat} {n m:Bool} {A A':Option Addr} {len cap len' cap':Nat} {x y:Int} {q:Int} {p:Nat} {b0 b1 b2 b3:Value} (h:Q w k n A len cap x) (h':Q w k' m A' len' cap' y) (hp:Blk w p 28 #[b0,b1,b2,b3,.int .i64 q]) (hk:k≤1000) (hk':k'≤1000) (hq0:0≤q) (hq1:q≤2048) (hy:y≠0) :
    Calls Tryz.prog 284 #[.agg #[.bool n,.slice A len cap],.agg #[.bool m,.slice A' len' cap'],.pointer (some ⟨p,0,none⟩)] w fun e w'=>Below w.heap.size w w'∧RetZ w.heap.size (vUp (x*2^q.toNat) y) e w':=by
  obtain ⟨W0,hW,bx,bY,rs,hB0,hs⟩:=start3 w 26 26 26 #[.bool n,.slice A len cap] #[.bool m,.slice A' len' cap'] #[.bool false,.slice none 0 0];have hpl:=hp.lt;have bp:=hp.below hB0 hp.lt;have HB0:=hide hB0;have hs2:w.heap.size+3≤W0.heap.size:=by omega
  clear hs hB0;obtain ⟨e0,e1,-,-⟩:=bx.two;obtain ⟨e2,e3,-,-⟩:=bY.two;obtain ⟨-,-,-,-,e4,-⟩:=bp.five;obtain ⟨c,rfl⟩:∃c:Nat,q=(c:Int):=⟨q.toNat,by omega⟩;have hc:c≤2048:=by omega
  have hxl:=h.lt;obtain ⟨x1,HX1⟩:∃z,Hid (x*2^c=z):=⟨_,hide rfl⟩;have HL1:Hid (x1.natAbs<W^(k+32)):=hide (by rw [←HX1.out];exact jel hxl (by omega));obtain ⟨x2,HX2⟩:∃z,Hid (vUp x1 y=z):=⟨_,hide rfl⟩;have HUL:Hid ((vDown (-x1) y).natAbs<W^(k+32+1)):=hide (Nat.lt_of_lt_of_le (jdj hy (by rw [Int.natAbs_neg];exact HL1.out)) (Nat.pow_le_pow_right ja5 (by omega)));have HL2:Hid (x2.natAbs<W^(k+34)):=hide (by rw [←HX2.out];unfold vUp;rw [Int.natAbs_neg];exact Nat.lt_of_lt_of_le HUL.out (Nat.pow_le_pow_right ja5 (by omega)));rw [show vUp (x*2^((c:Int)).toNat) y=x2 from by rw [Int.toNat_natCast,HX1.out,HX2.out]];clear hxl
  go_enter Tryz.func284,Tryz.ntmps284
  go_upto_region 1 with (fail)
  rw [←hW];clear hW
  go_cut [6,7] (fun v b wx=>b=.bool true∧∃g C l c,v=.pointer (some ⟨g,0,none⟩)∧Blk wx g 26 #[.bool (decide (x2<0)),.slice C l c]∧Blk wx (w.heap.size+2) 26 #[.bool false,.slice none 0 0]∧Below w.heap.size w wx∧QK wx (w.heap.size+3) (k+34) C l c x2∧w.heap.size+3≤wx.heap.size)
  case first=>
    have HBd:=hide HB0.out.drew;have HBe:=hide ((HB0.out.alloc (by omega) (.cells #[.bool false,.slice none 0 0] 26)).drew);have bx_e:=(bx.alloc (.cells #[.bool false,.slice none 0 0] 26)).drew;have bY_e:=(bY.alloc (.cells #[.bool false,.slice none 0 0] 26)).drew;have bp_e:=(bp.alloc (.cells #[.bool false,.slice none 0 0] 26)).drew;have rs_e:=(rs.alloc (.cells #[.bool false,.slice none 0 0] 26)).drew;have bt1_e:=(Blk.new W0 26 #[.bool false,.slice none 0 0]).drew;have tok0:True:=trivial;have HC1:=hide (jig (h.at_ HBd) (by omega) c (by omega));have HC1a:=hide (jig (h.at_ HBe) (by omega) c (by omega));rw [HX1.out] at HC1 HC1a
    go_region_held3 (fun w'=>w'.cell? ⟨w.heap.size,0,none⟩=some (.bool n)∧w'.cell? ⟨w.heap.size,1,none⟩=some (.slice A len cap)∧w'.cell? ⟨w.heap.size+1,0,none⟩=some (.bool m)∧w'.cell? ⟨w.heap.size+1,1,none⟩=some (.slice A' len' cap')∧w'.cell? ⟨p,4,none⟩=some (.int .i64 (c:Int))) (go_keep)
      (first
        | (go_at_call 69;have _t:=tok0;(with_reducible refine HC1.out.mono ?_);rintro e v1 ⟨hb1,u1,d1,rfl,hu1,hd1⟩
           have bx:=bx.drew.below hb1 bx.lt;have bY:=bY.drew.below hb1 bY.lt;have bp:=bp.drew.below hb1 bp.lt;have rs:=rs.drew.below hb1 rs.lt;have HV1:=hide (HBd.out.trans (hb1.mono HBd.out.size));have hz1:W0.heap.size≤v1.heap.size:=hb1.size;have tagA1n:True:=trivial;obtain ⟨C1,cc1,rfl⟩:=hu1.form;have qv1:=RetZ.q hu1 hd1 HL1.out;have HV1a:=hide (HV1.out.alloc (Nat.le_trans (Nat.le_trans (by omega) hs2) hz1) (.cells #[.bool false,.slice none 0 0] 26));have HC2:=hide (jcb qv1 (h'.at_ HV1) (by omega) (by omega) hy HUL.out);have HC2a:=hide (jcb (qv1.below ((Below.refl _ _).alloc (Nat.le_refl _) (.cells #[.bool false,.slice none 0 0] 26))) (h'.at_ HV1a) (by omega) (by omega) hy HUL.out);rw [HX2.out] at HC2 HC2a;obtain ⟨e0,e1,-,-⟩:=bx.two;obtain ⟨e2,e3,-,-⟩:=bY.two;obtain ⟨-,-,-,-,e4,-⟩:=bp.five;clear _t tok0;have tok1:True:=trivial)
        | (go_at_call 69;have _t:=tok0;(with_reducible refine HC1a.out.mono ?_);rintro e v1 ⟨hb1,u1,d1,rfl,hu1,hd1⟩
           have bx:=bx_e.below hb1 bx_e.lt;have bY:=bY_e.below hb1 bY_e.lt;have bp:=bp_e.below hb1 bp_e.lt;have rs:=rs_e.below hb1 rs_e.lt;have bt1:=bt1_e.below hb1 bt1_e.lt;have HV1:=hide (HBe.out.trans (hb1.mono HBe.out.size));have hz1:W0.heap.size≤v1.heap.size:=Nat.le_trans (Nat.le_of_lt bt1_e.lt) hb1.size;have hg1:W0.heap.size<v1.heap.size:=bt1.lt;have tagA1a:True:=trivial;obtain ⟨C1,cc1,rfl⟩:=hu1.form;have qv1:=RetZ.q hu1 hd1 HL1.out;have HV1a:=hide (HV1.out.alloc (Nat.le_trans (Nat.le_trans (by omega) hs2) hz1) (.cells #[.bool false,.slice none 0 0] 26));have HC2:=hide (jcb qv1 (h'.at_ HV1) (by omega) (by omega) hy HUL.out);have HC2a:=hide (jcb (qv1.below ((Below.refl _ _).alloc (Nat.le_refl _) (.cells #[.bool false,.slice none 0 0] 26))) (h'.at_ HV1a) (by omega) (by omega) hy HUL.out);rw [HX2.out] at HC2 HC2a;obtain ⟨e0,e1,-,-⟩:=bx.two;obtain ⟨e2,e3,-,-⟩:=bY.two;obtain ⟨-,-,-,-,e4,-⟩:=bp.five;clear _t tok0;have tok1:True:=trivial)
        | (go_at_call 233;have _t:=tok1;(with_reducible refine HC2.out.mono ?_);rintro e v2 ⟨hb2,u2,d2,rfl,hu2,hd2⟩
           have bx:=bx.below hb2 bx.lt;have bY:=bY.below hb2 bY.lt;have bp:=bp.below hb2 bp.lt;have rs:=rs.below hb2 rs.lt
           (try have bt1:=bt1.below hb2 bt1.lt)
           have HV2:=hide (HV1.out.trans (hb2.mono HV1.out.size));have hv2:v1.heap.size≤v2.heap.size:=hb2.size;have hz2:W0.heap.size≤v2.heap.size:=Nat.le_trans hz1 (hb2.size);have tagA2n:True:=trivial;obtain ⟨C2,cc2,rfl⟩:=hu2.form;have qv2:=RetZ.q hu2 hd2 HL2.out
           (try obtain ⟨t0,t1,t2,t3⟩:=bt1.two)
           have hn1_0:¬ W0.heap.size=w.heap.size:=by omega
           have hm1_0:¬ w.heap.size=W0.heap.size:=by omega
           have hn1_1:¬ W0.heap.size=w.heap.size+1:=by omega
           have hm1_1:¬ w.heap.size+1=W0.heap.size:=by omega
           have hn1_2:¬ W0.heap.size=p:=by omega
           have hm1_2:¬ p=W0.heap.size:=by omega
           have hn1_3:¬ W0.heap.size=w.heap.size+2:=by omega
           have hm1_3:¬ w.heap.size+2=W0.heap.size:=by omega
           (try obtain ⟨t0,t1,t2,t3⟩:=bt2.two)
           have hn2_0:¬ v1.heap.size=w.heap.size:=by omega
           have hm2_0:¬ w.heap.size=v1.heap.size:=by omega
           have hn2_1:¬ v1.heap.size=w.heap.size+1:=by omega
           have hm2_1:¬ w.heap.size+1=v1.heap.size:=by omega
           have hn2_2:¬ v1.heap.size=p:=by omega
           have hm2_2:¬ p=v1.heap.size:=by omega
           have hn2_3:¬ v1.heap.size=w.heap.size+2:=by omega
           have hm2_3:¬ w.heap.size+2=v1.heap.size:=by omega
           obtain ⟨e0,e1,-,-⟩:=bx.two;obtain ⟨e2,e3,-,-⟩:=bY.two;obtain ⟨-,-,-,-,e4,-⟩:=bp.five;clear _t tok1;have tok2:True:=trivial)
        | (go_at_call 233;have _t:=tok1;(with_reducible refine HC2a.out.mono ?_);rintro e v2 ⟨hb2,u2,d2,rfl,hu2,hd2⟩
           have hba:Below v1.heap.size v1 (v1.alloc (.cells #[.bool false,.slice none 0 0] 26)):=(Below.refl _ _).alloc (Nat.le_refl _) _;have bx:=(bx.below hba bx.lt).below hb2 (Nat.lt_of_lt_of_le bx.lt hba.size);have bY:=(bY.below hba bY.lt).below hb2 (Nat.lt_of_lt_of_le bY.lt hba.size);have bp:=(bp.below hba bp.lt).below hb2 (Nat.lt_of_lt_of_le bp.lt hba.size);have rs:=(rs.below hba rs.lt).below hb2 (Nat.lt_of_lt_of_le rs.lt hba.size);have bt2:=(Blk.new v1 26 #[.bool false,.slice none 0 0]).below hb2 (by simp);have hg2:v1.heap.size<v2.heap.size:=bt2.lt;have HV2:=hide (HV1a.out.trans (hb2.mono HV1a.out.size));have hv2:v1.heap.size≤v2.heap.size:=Nat.le_trans hba.size hb2.size;have hz2:W0.heap.size≤v2.heap.size:=Nat.le_trans hz1 (Nat.le_trans hba.size hb2.size);have tagA2a:True:=trivial;obtain ⟨C2,cc2,rfl⟩:=hu2.form;have qv2:=RetZ.q hu2 hd2 HL2.out
           (try obtain ⟨t0,t1,t2,t3⟩:=bt1.two)
           have hn1_0:¬ W0.heap.size=w.heap.size:=by omega
           have hm1_0:¬ w.heap.size=W0.heap.size:=by omega
           have hn1_1:¬ W0.heap.size=w.heap.size+1:=by omega
           have hm1_1:¬ w.heap.size+1=W0.heap.size:=by omega
           have hn1_2:¬ W0.heap.size=p:=by omega
           have hm1_2:¬ p=W0.heap.size:=by omega
           have hn1_3:¬ W0.heap.size=w.heap.size+2:=by omega
           have hm1_3:¬ w.heap.size+2=W0.heap.size:=by omega
           (try obtain ⟨t0,t1,t2,t3⟩:=bt2.two)
           have hn2_0:¬ v1.heap.size=w.heap.size:=by omega
           have hm2_0:¬ w.heap.size=v1.heap.size:=by omega
           have hn2_1:¬ v1.heap.size=w.heap.size+1:=by omega
           have hm2_1:¬ w.heap.size+1=v1.heap.size:=by omega
           have hn2_2:¬ v1.heap.size=p:=by omega
           have hm2_2:¬ p=v1.heap.size:=by omega
           have hn2_3:¬ v1.heap.size=w.heap.size+2:=by omega
           have hm2_3:¬ w.heap.size+2=v1.heap.size:=by omega
           obtain ⟨e0,e1,-,-⟩:=bx.two;obtain ⟨e2,e3,-,-⟩:=bY.two;obtain ⟨-,-,-,-,e4,-⟩:=bp.five;clear _t tok1;have tok2:True:=trivial)
        )
    all_goals go_wp2_with fail
    all_goals go_meet
    all_goals first
      | (have hx:=bt1
         have hu7:=jaf (r:=W0.heap.size) (hu2.mono (show W0.heap.size+1≤_ by (first | (simp;done) | omega))) (by omega) (.bool (decide (x2<0))) (.slice C2 d2.length cc2);exact ⟨rfl,W0.heap.size,C2,d2.length,cc2,rfl,jai bt1,jao rs (by omega) _ _,below2 HV2.out (by omega) _ _,⟨d2,hu7.mono (by omega),rfl,hd2,HL2.out⟩,by simp;omega⟩)
      | (have hx:=bt2
         have hu7:=jaf (r:=v1.heap.size) (hu2.mono (show v1.heap.size+1≤_ by (first | (simp;done) | omega))) (by omega) (.bool (decide (x2<0))) (.slice C2 d2.length cc2);exact ⟨rfl,v1.heap.size,C2,d2.length,cc2,rfl,jai bt2,jao rs (by omega) _ _,below2 HV2.out (by omega) _ _,⟨d2,hu7.mono (by omega),rfl,hd2,HL2.out⟩,by simp;omega⟩)
      | exact ⟨rfl,v2.heap.size,C2,d2.length,cc2,rfl,Blk.new _ _ _,rs.alloc _,HV2.out.alloc HV2.out.size _,⟨d2,(hu2.alloc _).mono (by omega),rfl,hd2,HL2.out⟩,by simp;omega⟩
  case rest=>
    obtain ⟨rfl,g,C9,l9,c9,rfl,ba,rs3,HV,q9,hs6⟩:=hcut;have HV:=hide HV;obtain ⟨t0,t1,-,-⟩:=ba.two;obtain ⟨r0,r1,r2,r3⟩:=rs3.two;have hgl:=ba.lt;have hq9:=q9
    go_upto_region 2 with (fail)
    go_wp2_with fail
    refine bodyPost_ret (jah rfl _ _ _ _ _ _ rfl (jai rs3)) rfl ⟨below2 HV.out (by omega) _ _,?_⟩;obtain ⟨d9,g1,rfl,g3,-⟩:=q9;exact ⟨_,d9,rfl,(jaf (r:=w.heap.size+2) g1 (by omega) _ _).mono (by omega),g3⟩
end Go.Proofs.YtllgjggkchgpbaaGreat
