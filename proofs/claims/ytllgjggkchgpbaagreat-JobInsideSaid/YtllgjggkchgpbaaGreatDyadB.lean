/- dyad: Neg, Shift, Floor, Ceil. dyad: level, Cmp, Add, Sub, Mul. dyad: Cmp, Add, Sub, Mul. -/
import Derived.Test.YtllgjggkchgpbaaGreatDyadA
set_option linter.unusedVariables false
namespace Go.Proofs.YtllgjggkchgpbaaGreat
section
section
open Go.RowKit
open L (val dig nth)
def scF (m e:Int):Int:=if 0≤e then m*2^e.toNat else m / 2^(-e).toNat
def scC (m e:Int):Int:=if 0≤e then m*2^e.toNat else -((-m) / 2^(-e).toNat)
theorem jh7 (w:World) (n:Bool) (B:Nat) (v:Value) (l:List Nat) (x:Int) (h:Nums w B v l) (hl:l.length≤30000) (hx0 : -9223372036854775808≤x) (hx1:x≤9223372036854775807) :
    Calls Tryz.prog 287 #[.agg #[.bool n,v,.int .i64 x]] w fun e w'=>Below w.heap.size w w'∧RetQ w.heap.size (pM (-cM (ival n (val W l)) x)) (pE (-cM (ival n (val W l)) x) (cE (ival n (val W l)) x)) e w':=by
  have h0:=h;obtain ⟨A,cap,rfl,-,-,-,hc⟩:=h;obtain ⟨W0,hW,hbx,hrs,hB0,hs⟩:=start2 w 52 52 #[.bool n,.slice A l.length cap,.int .i64 x] #[.bool false,.slice none 0 0,.int .i64 0];have h1:=h0.up hB0;have hs2:w.heap.size+1<W0.heap.size:=by omega
  clear hs hc;obtain ⟨c0,c1,c2,-,-,-⟩:=hbx.three
  go_enter Tryz.func287,Tryz.ntmps287
  go_upto_region 1 with (fail)
  rw [←hW];clear hW
  go_wp2_with fail
  refine (ja9 _ n B _ l x h1 (by omega) hx0 hx1).mono ?_;rintro e w1 ⟨hb1,m,u,d,rfl,hu,hdl,hdv⟩;obtain ⟨q,HQ⟩:∃q,Hid (cE (ival n (val W l)) x=q):=⟨_,hide rfl⟩;have hq:=jaw (ival n (val W l)) x;obtain ⟨z,HZ⟩:∃z,Hid (cM (ival n (val W l)) x=z):=⟨_,hide rfl⟩;rw [HQ.out] at hq ⊢;rw [HZ.out] at hdv;have HDV:=hide hdv;obtain ⟨A1,cap1,rfl⟩:=hu.form;obtain ⟨w2,hW2,hbn,hB2,hs2'⟩:=start1 w1 26 #[.bool m,.slice A1 d.length cap1];clear hdv
  go_upto_region 2 with (fail)
  rw [←hW2];clear hW2;obtain ⟨e0,e1,-,-⟩:=hbn.two;have hu2:=hu.below hB2;have s1:=hb1.size;have hrs2:=(hrs.below hb1 (by omega)).below hB2 (by omega)
  go_wp2_with fail
  refine (jev _ m 0 _ d hu2 (by omega)).mono ?_;obtain ⟨y,HY⟩:∃y,Hid (-z=y):=⟨_,hide rfl⟩;rw [HDV.out,HY.out];rintro e w3 ⟨hb3,u3,d3,rfl,hu3,hd3⟩;have hrs3:=hrs2.below hb3 (by omega);obtain ⟨A3,cap3,rfl⟩:=hu3.form
  have hl3:d3.length≤l.length:=Nat.le_trans (by
    rw [hd3.len,←HY.out,Int.natAbs_neg,←HDV.out];exact jbl hu.lt) hdl
  have hv3:ival (decide (y<0)) (val W d3)=y:=by rw [hd3.val,jaz]
  have HV3:=hide hv3;clear hv3;have s3:=hb3.size
  go_wp2_with fail
  refine (jdo _ (decide (y<0)) _ _ d3 q hu3 (by omega) (by omega) (by omega)).mono ?_;rw [HV3.out];obtain ⟨zM,HM⟩:∃zM,Hid (pM y=zM):=⟨_,hide rfl⟩;obtain ⟨zE,HE⟩:∃zE,Hid (pE y q=zE):=⟨_,hide rfl⟩;rw [HM.out,HE.out];rintro e w4 ⟨hb4,u4,d4,rfl,hu4,hd4⟩;have hrs4:=hrs3.below hb4 (by omega);obtain ⟨A4,cap4,rfl⟩:=hu4.form;obtain ⟨j0,j1,j2,j3,j4,j5⟩:=hrs4.three
  go_wp2_with fail
  have s4:=hb4.size;rw [HZ.out,HQ.out,HY.out,HM.out,HE.out];refine bodyPost_ret (jbk rfl _ _ _ _ _ _ _ rfl (((hrs4.set_ 0 _).set_ 1 _).set_ 2 _)) rfl ⟨below3 ((((hB0.trans (hb1.mono (by omega))).trans (hB2.mono (by omega))).trans (hb3.mono (by omega))).trans (hb4.mono (by omega))) (by omega) _ _ _,?_⟩;exact ⟨_,d4,rfl,(jbw hu4 (by omega) _ _ _).mono (by omega),hd4⟩
theorem jga (w:World) (n:Bool) (B:Nat) (v:Value) (l:List Nat) (x k:Int) (h:Nums w B v l) (hl:l.length≤30000) (hx0 : -9223372036854775808≤x) (hx1:x≤9223372036854775807) :
    Calls Tryz.prog 279 #[.agg #[.bool n,v,.int .i64 x],.int .i64 k] w fun e w'=>Below w.heap.size w w'∧RetQ w.heap.size (pM (cM (ival n (val W l)) x)) (pE (cM (ival n (val W l)) x) (cE (ival n (val W l)) x+nearZ k)) e w':=by
  have h0:=h;obtain ⟨A,cap,rfl,-,-,-,hc⟩:=h;obtain ⟨W0,hW,hbx,hrs,hB0,hs⟩:=start2 w 52 52 #[.bool n,.slice A l.length cap,.int .i64 x] #[.bool false,.slice none 0 0,.int .i64 0];have h1:=h0.up hB0;have hs2:w.heap.size+1<W0.heap.size:=by omega
  clear hs hc;obtain ⟨c0,c1,c2,-,-,-⟩:=hbx.three
  go_enter Tryz.func279,Tryz.ntmps279
  go_upto_region 1 with (fail)
  rw [←hW];clear hW
  go_wp2_with fail
  refine (ja9 _ n B _ l x h1 (by omega) hx0 hx1).mono ?_;rintro e w1 ⟨hb1,m,u,d,rfl,hu,hdl,hdv⟩;obtain ⟨q,HQ⟩:∃q,Hid (cE (ival n (val W l)) x=q):=⟨_,hide rfl⟩;have hq:=jaw (ival n (val W l)) x;obtain ⟨z,HZ⟩:∃z,Hid (cM (ival n (val W l)) x=z):=⟨_,hide rfl⟩;rw [HQ.out] at hq ⊢;rw [HZ.out] at hdv;have HDV:=hide hdv;obtain ⟨A1,cap1,rfl⟩:=hu.form;obtain ⟨w2,hW2,hbn,hB2,hs2'⟩:=start1 w1 26 #[.bool m,.slice A1 d.length cap1];clear hdv
  go_upto_region 2 with (fail)
  rw [←hW2];clear hW2;obtain ⟨e0,e1,-,-⟩:=hbn.two;have hu2:=hu.below hB2;have s1:=hb1.size;have hrs2:=(hrs.below hb1 (by omega)).below hB2 (by omega);obtain ⟨k',HK⟩:∃k',Hid (nearZ k=k'):=⟨_,hide rfl⟩;have hkb:=ja8 k;rw [HK.out] at hkb;have hwk:IntKind.i64.wrap (q+k')=q+k':=IntWalk.i64_in _ (by omega);obtain ⟨zM,HM⟩:∃zM,Hid (pM z=zM):=⟨_,hide rfl⟩;obtain ⟨zE,HE⟩:∃zE,Hid (pE z (q+k')=zE):=⟨_,hide rfl⟩;have hn1:¬ w1.heap.size=w.heap.size+1:=by omega
  have hn2:¬ w.heap.size+1=w1.heap.size:=by omega
  have HP:Hid (Calls Tryz.prog 154 #[.agg #[.bool m,.slice A1 d.length cap1],.int .i64 (q+k')] w2.drew fun e w'=>Below w2.heap.size w2.drew w'∧RetQ w2.heap.size zM zE e w'):=hide (by
    have:=jdo w2.drew m 0 _ d (q+k') hu2.drew (by omega) (by omega) (by omega);rw [HDV.out,HM.out,HE.out] at this;exact this)
  go_region_held3 (fun w'=>w'.cell? ⟨w1.heap.size,0,none⟩=some (.bool m)∧w'.cell? ⟨w1.heap.size,1,none⟩=some (.slice A1 d.length cap1)) (go_keep)
    (first
      | (go_at_call 267;refine (jfv _ k).mono ?_;rintro e w3 ⟨rfl,rfl⟩;rw [HK.out])
      | (go_at_call 154;refine HP.out.mono ?_;rintro e w4 ⟨hb4,u4,d4,rfl,hu4,hd4⟩
         obtain ⟨A4,cap4,rfl⟩:=hu4.form;have hbn4:=hbn.drew.below hb4 hbn.lt;have hrs4:=hrs2.drew.below hb4 hrs2.lt;obtain ⟨f0,f1,-,-⟩:=hbn4.two;obtain ⟨j0,j1,j2,j3,j4,j5⟩:=hrs4.three))
  go_wp2_with fail
  have s4:=hb4.size;rw [HZ.out,HQ.out,HK.out,HM.out,HE.out];refine bodyPost_ret (jbk rfl _ _ _ _ _ _ _ rfl (((hrs4.set_ 0 _).set_ 1 _).set_ 2 _)) rfl ⟨below3 ((((hB0.trans (hb1.mono (by omega))).trans (hB2.mono (by omega))).drew).trans (hb4.mono (by omega))) (by omega) _ _ _,?_⟩;exact ⟨_,d4,rfl,(jbw hu4 (by omega) _ _ _).mono (by omega),hd4⟩
set_option maxRecDepth 100000 in
theorem jdz (w:World) (n:Bool) (B:Nat) (v:Value) (l:List Nat) (x k:Int) (h:Nums w B v l) (hl:l.length≤9000) (hx0 : -9223372036854775808≤x) (hx1:x≤9223372036854775807) :
    Calls Tryz.prog 264 #[.agg #[.bool n,v,.int .i64 x],.int .i64 k] w fun e w'=>Below w.heap.size w w'∧RetZ w.heap.size (scF (cM (ival n (val W l)) x) (cE (ival n (val W l)) x+nearZ k)) e w':=by
  have h0:=h;obtain ⟨A,cap,rfl,-,-,-,hc⟩:=h;obtain ⟨W0,hW,hbx,hrs,hB0,hs⟩:=start2 w 52 26 #[.bool n,.slice A l.length cap,.int .i64 x] #[.bool false,.slice none 0 0];have h1:=h0.up hB0;have hs2:w.heap.size+1<W0.heap.size:=by omega
  clear hs hc;obtain ⟨c0,c1,c2,-,-,-⟩:=hbx.three
  go_enter Tryz.func264,Tryz.ntmps264
  go_upto_region 1 with (fail)
  rw [←hW];clear hW
  go_wp2_with fail
  refine (ja9 _ n B _ l x h1 (by omega) hx0 hx1).mono ?_;rintro e w1 ⟨hb1,m,u,d,rfl,hu,hdl,hdv⟩;obtain ⟨q,HQ⟩:∃q,Hid (cE (ival n (val W l)) x=q):=⟨_,hide rfl⟩;have hq:=jaw (ival n (val W l)) x;obtain ⟨z,HZ⟩:∃z,Hid (cM (ival n (val W l)) x=z):=⟨_,hide rfl⟩;rw [HQ.out] at hq ⊢;rw [HZ.out] at hdv;have HDV:=hide hdv;obtain ⟨A1,cap1,rfl⟩:=hu.form;obtain ⟨w2,hW2,hbn,hB2,hs2'⟩:=start1 w1 26 #[.bool m,.slice A1 d.length cap1];clear hdv
  go_upto_region 2 with (fail)
  rw [←hW2];clear hW2;obtain ⟨e0,e1,-,-⟩:=hbn.two;have hu2:=hu.below hB2;have s1:=hb1.size;have hrs2:=(hrs.below hb1 (by omega)).below hB2 (by omega);have HB2:=hide ((hB0.trans (hb1.mono (by omega))).trans (hB2.mono (by omega)));obtain ⟨k',HK⟩:∃k',Hid (nearZ k=k'):=⟨_,hide rfl⟩;have hkb:=ja8 k;rw [HK.out] at hkb;have hwk:IntKind.i64.wrap (q+k')=q+k':=IntWalk.i64_in _ (by omega)
  go_wp2_with fail
  refine (jfv _ k).mono ?_;rintro e w3 ⟨rfl,rfl⟩;rw [HK.out];obtain ⟨e',HE'⟩:∃e',Hid (q+k'=e'):=⟨_,hide rfl⟩;have heb : -8000≤e'∧e'≤8000:=by have:=HE'.out;omega
  clear hwk
  go_upto_region 3 with (fail)
  rw [HE'.out]
  by_cases hpos:0≤e'
  · obtain ⟨c,rfl⟩:=Int.eq_ofNat_of_zero_le hpos
    go_wp2_with fail
    obtain ⟨y,HY⟩:∃y,Hid (z*2^c=y):=⟨_,hide rfl⟩;have HP:=jge w2 m 0 _ d c hu2 (by omega) (by omega);rw [HDV.out,HY.out] at HP;refine HP.mono ?_;rintro e w4 ⟨hb4,u4,d4,rfl,hu4,hd4⟩;have hrs4:=hrs2.below hb4 (by omega);obtain ⟨A4,cap4,rfl⟩:=hu4.form;obtain ⟨j0,j1,j2,j3⟩:=hrs4.two;clear HP
    go_wp2_with fail
    have s4:=hb4.size;rw [HZ.out,HQ.out,HK.out,HE'.out,show scF z (c:Int)=y from by unfold scF;rw [if_pos hpos,Int.toNat_natCast,HY.out]];refine bodyPost_ret (jah rfl _ _ _ _ _ _ rfl ((hrs4.set_ 0 _).set_ 1 _)) rfl ⟨below2 (HB2.out.trans (hb4.mono (by omega))) (by omega) _ _,?_⟩;exact ⟨_,d4,rfl,(jaf hu4 (by omega) _ _).mono (by omega),hd4⟩
  · obtain ⟨c,hc⟩:∃c:Nat,-e'=c:=⟨(-e').toNat,by omega⟩
    have hwn:IntKind.i64.wrap (-e')=(c:Int):=by rw [IntWalk.i64_in _ (by omega)];exact hc
    have HC:=hide hc;have hcb:c≤8000:=by omega
    clear hc
    go_wp2_with fail
    obtain ⟨y,HY⟩:∃y,Hid (z / 2^c=y):=⟨_,hide rfl⟩;have HP:=jfw w2 m 0 _ d c hu2 (by omega) (by omega);rw [HDV.out,HY.out] at HP;refine HP.mono ?_;rintro e w4 ⟨hb4,u4,d4,rfl,hu4,hd4⟩;have hrs4:=hrs2.below hb4 (by omega);obtain ⟨A4,cap4,rfl⟩:=hu4.form;obtain ⟨j0,j1,j2,j3⟩:=hrs4.two;clear HP
    go_wp2_with fail
    have s4:=hb4.size;rw [HZ.out,HQ.out,HK.out,HE'.out,show scF z e'=y from by unfold scF;rw [if_neg (by omega),HC.out,Int.toNat_natCast,HY.out]];refine bodyPost_ret (jah rfl _ _ _ _ _ _ rfl ((hrs4.set_ 0 _).set_ 1 _)) rfl ⟨below2 (HB2.out.trans (hb4.mono (by omega))) (by omega) _ _,?_⟩;exact ⟨_,d4,rfl,(jaf hu4 (by omega) _ _).mono (by omega),hd4⟩
set_option maxRecDepth 100000 in
theorem jd3 (w:World) (n:Bool) (B:Nat) (v:Value) (l:List Nat) (x k:Int) (h:Nums w B v l) (hl:l.length≤9000) (hx0 : -9223372036854775808≤x) (hx1:x≤9223372036854775807) :
    Calls Tryz.prog 265 #[.agg #[.bool n,v,.int .i64 x],.int .i64 k] w fun e w'=>Below w.heap.size w w'∧RetZ w.heap.size (scC (cM (ival n (val W l)) x) (cE (ival n (val W l)) x+nearZ k)) e w':=by
  have h0:=h;obtain ⟨A,cap,rfl,-,-,-,hc⟩:=h;obtain ⟨W0,hW,hbx,hrs,hB0,hs⟩:=start2 w 52 26 #[.bool n,.slice A l.length cap,.int .i64 x] #[.bool false,.slice none 0 0];have h1:=h0.up hB0;have hs2:w.heap.size+1<W0.heap.size:=by omega
  clear hs hc;obtain ⟨c0,c1,c2,-,-,-⟩:=hbx.three
  go_enter Tryz.func265,Tryz.ntmps265
  go_upto_region 1 with (fail)
  rw [←hW];clear hW
  go_wp2_with fail
  refine (ja9 _ n B _ l x h1 (by omega) hx0 hx1).mono ?_;rintro e w1 ⟨hb1,m,u,d,rfl,hu,hdl,hdv⟩;obtain ⟨q,HQ⟩:∃q,Hid (cE (ival n (val W l)) x=q):=⟨_,hide rfl⟩;have hq:=jaw (ival n (val W l)) x;obtain ⟨z,HZ⟩:∃z,Hid (cM (ival n (val W l)) x=z):=⟨_,hide rfl⟩;rw [HQ.out] at hq ⊢;rw [HZ.out] at hdv;have HDV:=hide hdv;obtain ⟨A1,cap1,rfl⟩:=hu.form;obtain ⟨w2,hW2,hbn,hB2,hs2'⟩:=start1 w1 26 #[.bool m,.slice A1 d.length cap1];clear hdv
  go_upto_region 2 with (fail)
  rw [←hW2];clear hW2;obtain ⟨e0,e1,-,-⟩:=hbn.two;have hu2:=hu.below hB2;have s1:=hb1.size;have hrs2:=(hrs.below hb1 (by omega)).below hB2 (by omega);have HB2:=hide ((hB0.trans (hb1.mono (by omega))).trans (hB2.mono (by omega)));obtain ⟨k',HK⟩:∃k',Hid (nearZ k=k'):=⟨_,hide rfl⟩;have hkb:=ja8 k;rw [HK.out] at hkb;have hwk:IntKind.i64.wrap (q+k')=q+k':=IntWalk.i64_in _ (by omega)
  go_wp2_with fail
  refine (jfv _ k).mono ?_;rintro e w3 ⟨rfl,rfl⟩;rw [HK.out];obtain ⟨e',HE'⟩:∃e',Hid (q+k'=e'):=⟨_,hide rfl⟩;have heb : -8000≤e'∧e'≤8000:=by have:=HE'.out;omega
  clear hwk
  go_upto_region 3 with (fail)
  rw [HE'.out]
  by_cases hpos:0≤e'
  · obtain ⟨c,rfl⟩:=Int.eq_ofNat_of_zero_le hpos
    go_wp2_with fail
    obtain ⟨y,HY⟩:∃y,Hid (z*2^c=y):=⟨_,hide rfl⟩;have HP:=jge w2 m 0 _ d c hu2 (by omega) (by omega);rw [HDV.out,HY.out] at HP;refine HP.mono ?_;rintro e w4 ⟨hb4,u4,d4,rfl,hu4,hd4⟩;have hrs4:=hrs2.below hb4 (by omega);obtain ⟨A4,cap4,rfl⟩:=hu4.form;obtain ⟨j0,j1,j2,j3⟩:=hrs4.two;clear HP
    go_wp2_with fail
    have s4:=hb4.size;rw [HZ.out,HQ.out,HK.out,HE'.out,show scC z (c:Int)=y from by unfold scC;rw [if_pos hpos,Int.toNat_natCast,HY.out]];refine bodyPost_ret (jah rfl _ _ _ _ _ _ rfl ((hrs4.set_ 0 _).set_ 1 _)) rfl ⟨below2 (HB2.out.trans (hb4.mono (by omega))) (by omega) _ _,?_⟩;exact ⟨_,d4,rfl,(jaf hu4 (by omega) _ _).mono (by omega),hd4⟩
  · obtain ⟨c,hc⟩:∃c:Nat,-e'=c:=⟨(-e').toNat,by omega⟩
    have hwn:IntKind.i64.wrap (-e')=(c:Int):=by rw [IntWalk.i64_in _ (by omega)];exact hc
    have HC:=hide hc;have hcb:c≤8000:=by omega
    clear hc
    go_wp2_with fail
    refine (jev _ m 0 _ d hu2 (by omega)).mono ?_;obtain ⟨y,HY⟩:∃y,Hid (-z=y):=⟨_,hide rfl⟩;rw [HDV.out,HY.out];rintro e w3 ⟨hb3,u3,d3,rfl,hu3,hd3⟩;have hrs3:=hrs2.below hb3 (by omega);obtain ⟨A3,cap3,rfl⟩:=hu3.form
    have hl3:d3.length≤l.length:=Nat.le_trans (by
      rw [hd3.len,←HY.out,Int.natAbs_neg,←HDV.out];exact jbl hu.lt) hdl
    have hv3:ival (decide (y<0)) (val W d3)=y:=by rw [hd3.val,jaz]
    have HV3:=hide hv3;clear hv3;have s3:=hb3.size
    go_wp2_with fail
    obtain ⟨y2,HY2⟩:∃y2,Hid (y / 2^c=y2):=⟨_,hide rfl⟩;have HP:=jfw w3 (decide (y<0)) _ _ d3 c hu3 (by omega) (by omega);rw [HV3.out,HY2.out] at HP;refine HP.mono ?_;rintro e w4 ⟨hb4,u4,d4,rfl,hu4,hd4⟩;have hrs4:=hrs3.below hb4 (by omega);obtain ⟨A4,cap4,rfl⟩:=hu4.form
    have hl4:d4.length≤d3.length:=by
      have:=jbl (n:=decide (y<0)) hu3.lt;rw [HV3.out] at this;exact jjn (HY2.out ▸ hd4) this
    have hv4:ival (decide (y2<0)) (val W d4)=y2:=by rw [hd4.val,jaz]
    have HV4:=hide hv4;clear hv4 HP;have s4:=hb4.size
    go_wp2_with fail
    have HP:=jev w4 (decide (y2<0)) _ _ d4 hu4 (by omega);obtain ⟨y3,HY3⟩:∃y3,Hid (-y2=y3):=⟨_,hide rfl⟩;rw [HV4.out,HY3.out] at HP;refine HP.mono ?_;rintro e w5 ⟨hb5,u5,d5,rfl,hu5,hd5⟩;have hrs5:=hrs4.below hb5 (by omega);obtain ⟨A5,cap5,rfl⟩:=hu5.form;obtain ⟨j0,j1,j2,j3⟩:=hrs5.two;clear HP
    go_wp2_with fail
    have s5:=hb5.size;rw [HZ.out,HQ.out,HK.out,HE'.out,show scC z e'=y3 from by unfold scC;rw [if_neg (by omega),HC.out,Int.toNat_natCast,HY.out,HY2.out,HY3.out]];refine bodyPost_ret (jah rfl _ _ _ _ _ _ rfl ((hrs5.set_ 0 _).set_ 1 _)) rfl ⟨below2 (((HB2.out.trans (hb3.mono (by omega))).trans (hb4.mono (by omega))).trans (hb5.mono (by omega))) (by omega) _ _,?_⟩;exact ⟨_,d5,rfl,(jaf hu5 (by omega) _ _).mono (by omega),hd5⟩
end
end
section
section
open Go.RowKit
open L (val dig nth)
theorem start4 (w:World) (t t' t'' t3:TypeId) (a b c d:Array Value):∃W0,W0=(((w.alloc (.cells a t)).alloc (.cells b t')).alloc (.cells c t'')).alloc (.cells d t3)∧Blk W0 w.heap.size t a∧Blk W0 (w.heap.size+1) t' b∧
    Blk W0 (w.heap.size+2) t'' c∧Blk W0 (w.heap.size+3) t3 d∧Below w.heap.size w W0∧W0.heap.size=w.heap.size+4:=by
  obtain ⟨W1,h1,b1,b2,b3,hb,hs⟩:=start3 w t t' t'' a b c;obtain ⟨W2,h2,b4,hb2,hs2⟩:=start1 W1 t3 d;refine ⟨W2,by rw [h2,h1],b1.below hb2 (by omega),b2.below hb2 (by omega),b3.below hb2 (by omega),by rw [←hs];exact b4,hb.trans (hb2.mono (by omega)),by omega⟩
def RetL (B:Nat) (X Y low:Int) (e:Ending) (w:World):Prop:=
  ∃u1 d1 u2 d2,e=.returned (.tuple #[.agg #[.bool (decide (X<0)),u1],.agg #[.bool (decide (Y<0)),u2],.int .i64 low])∧Nums w B u1 d1∧Canon d1 X.natAbs∧Nums w B u2 d2∧Canon d2 Y.natAbs
def lift (z x low:Int):Int:=cM z x*2^(cE z x - low).toNat
def lowE (z x z' x':Int):Int:=min (cE z x) (cE z' x')
set_option maxRecDepth 100000 in
theorem jmn (w:World) (n m:Bool) (B C:Nat) (v u:Value) (l p:List Nat) (x y:Int) (h:Nums w B v l) (hu:Nums w C u p) (hl:l.length≤9000) (hp:p.length≤9000)
    (hx0 : -9223372036854775808≤x) (hx1:x≤9223372036854775807) (hy0 : -9223372036854775808≤y) (hy1:y≤9223372036854775807) :
    Calls Tryz.prog 108 #[.agg #[.bool n,v,.int .i64 x],.agg #[.bool m,u,.int .i64 y]] w fun e w'=>Below w.heap.size w w'∧
      RetL w.heap.size (lift (ival n (val W l)) x (lowE (ival n (val W l)) x (ival m (val W p)) y)) (lift (ival m (val W p)) y (lowE (ival n (val W l)) x (ival m (val W p)) y)) (lowE (ival n (val W l)) x (ival m (val W p)) y) e w':=by
  have h0:=h;have hu0:=hu;obtain ⟨A,cap,rfl,-,-,-,hc⟩:=h;obtain ⟨A',cap',rfl,-,-,-,hc'⟩:=hu;obtain ⟨W0,hW,hbx,hby,hrs,hrt,hB0,hs⟩:=start4 w 52 52 26 26 #[.bool n,.slice A l.length cap,.int .i64 x] #[.bool m,.slice A' p.length cap',.int .i64 y] #[.bool false,.slice none 0 0] #[.bool false,.slice none 0 0];have h1:=h0.up hB0;have hu1:=hu0.up hB0;have hs2:w.heap.size+3<W0.heap.size:=by omega
  clear hs hc hc';obtain ⟨c0,c1,c2,-,-,-⟩:=hbx.three;obtain ⟨zx,HZX⟩:∃z,Hid (ival n (val W l)=z):=⟨_,hide rfl⟩;obtain ⟨zy,HZY⟩:∃z,Hid (ival m (val W p)=z):=⟨_,hide rfl⟩
  go_enter Tryz.func108,Tryz.ntmps108
  go_upto_region 1 with (fail)
  rw [←hW];clear hW;have HP:=ja9 W0 n B _ l x h1 (by omega) hx0 hx1;obtain ⟨q,HQ⟩:∃q,Hid (cE zx x=q):=⟨_,hide rfl⟩;have hq:=jaw zx x;obtain ⟨zX,HX⟩:∃z,Hid (cM zx x=z):=⟨_,hide rfl⟩;rw [HZX.out,HQ.out,HX.out] at HP;rw [HQ.out] at hq
  go_wp2_with fail
  refine HP.mono ?_;rintro e w1 ⟨hb1,m1,u1,d1,rfl,hu1',hdl1,hdv1⟩;have HDV1:=hide hdv1;obtain ⟨A1,cap1,rfl⟩:=hu1'.form;obtain ⟨w2,hW2,hbn,hB2,hs3⟩:=start1 w1 26 #[.bool m1,.slice A1 d1.length cap1];have s1:=hb1.size;have hby2:=(hby.below hb1 (by omega)).below hB2 (by omega);obtain ⟨e0,e1,e2,-,-,-⟩:=hby2.three;have hu2:=(hu1.below hb1).below hB2;clear hdv1 HP;have HP:=ja9 w2 m C _ p y hu2 (by omega) hy0 hy1;obtain ⟨r,HR⟩:∃q,Hid (cE zy y=q):=⟨_,hide rfl⟩;have hr:=jaw zy y;obtain ⟨zY,HY⟩:∃z,Hid (cM zy y=z):=⟨_,hide rfl⟩;rw [HZY.out,HR.out,HY.out] at HP;rw [HR.out] at hr
  go_upto_region 2 with (fail)
  rw [←hW2];clear hW2
  go_wp2_with fail
  refine HP.mono ?_;rintro e w3 ⟨hb3,m3,u3,d3,rfl,hu3,hdl3,hdv3⟩;have HDV3:=hide hdv3;obtain ⟨A3,cap3,rfl⟩:=hu3.form;obtain ⟨w4,hW4,hbm,hB4,hs4⟩:=start1 w3 26 #[.bool m3,.slice A3 d3.length cap3];clear hdv3 HP;have s3:=hb3.size;obtain ⟨low,HL⟩:∃low,Hid (min q r=low):=⟨_,hide rfl⟩
  go_upto_region 3 with (fail)
  rw [←hW4];clear hW4
  go_upto_region 4 with (fail)
  rw [HL.out];have HB4:=hide ((((hB0.trans (hb1.mono (by omega))).trans (hB2.mono (by omega))).trans (hb3.mono (by omega))).trans (hB4.mono (by omega)));have hbn4:=(hbn.below hb3 (by omega)).below hB4 (by omega);have hrs4:=(((hrs.below hb1 (by omega)).below hB2 (by omega)).below hb3 (by omega)).below hB4 (by omega);have hrt4:=(((hrt.below hb1 (by omega)).below hB2 (by omega)).below hb3 (by omega)).below hB4 (by omega);have hx4:=((hu1'.below hB2).below hb3).below hB4;have hy4:=hu3.below hB4;obtain ⟨k1,hk1⟩:∃k:Nat,q - low=k:=⟨(q - low).toNat,by have:=HL.out;omega⟩;obtain ⟨k2,hk2⟩:∃k:Nat,r - low=k:=⟨(r - low).toNat,by have:=HL.out;omega⟩;have HK1:=hide hk1;have HK2:=hide hk2;have hw1:IntKind.i64.wrap (q - low)=(k1:Int):=by rw [IntWalk.i64_in _ (by have:=HL.out;omega)];exact hk1
  have hw2:IntKind.i64.wrap (r - low)=(k2:Int):=by rw [IntWalk.i64_in _ (by have:=HL.out;omega)];exact hk2
  have hkb1:k1≤8000:=by have:=HL.out;omega
  have hkb2:k2≤8000:=by have:=HL.out;omega
  obtain ⟨X,HXX⟩:∃X,Hid (zX*2^k1=X):=⟨_,hide rfl⟩;obtain ⟨Y,HYY⟩:∃Y,Hid (zY*2^k2=Y):=⟨_,hide rfl⟩
  have HP1:Hid (Calls Tryz.prog 168 #[.agg #[.bool m1,.slice A1 d1.length cap1],.int .i64 k1] w4.drew fun e w'=>Below w4.heap.size w4.drew w'∧RetZ w4.heap.size X e w'):=hide (by
    have:=jge w4.drew m1 0 _ d1 k1 hx4.drew (by omega) hkb1;rw [HDV1.out,HXX.out] at this;exact this)
  have hn1:¬ w1.heap.size=w.heap.size+2:=by omega
  have hn2:¬ w.heap.size+2=w1.heap.size:=by omega
  have hn3:¬ w1.heap.size=w.heap.size+3:=by omega
  have hn4:¬ w.heap.size+3=w1.heap.size:=by omega
  have hn5:¬ w3.heap.size=w.heap.size+2:=by omega
  have hn6:¬ w.heap.size+2=w3.heap.size:=by omega
  have hn7:¬ w3.heap.size=w.heap.size+3:=by omega
  have hn8:¬ w.heap.size+3=w3.heap.size:=by omega
  obtain ⟨p0,p1,-,-⟩:=hbn4.two;obtain ⟨p2,p3,-,-⟩:=hbm.two;clear hk1 hk2
  go_region_held3 (fun w'=>w'.cell? ⟨w1.heap.size,0,none⟩=some (.bool m1)∧w'.cell? ⟨w1.heap.size,1,none⟩=some (.slice A1 d1.length cap1)∧w'.cell? ⟨w3.heap.size,0,none⟩=some (.bool m3)∧w'.cell? ⟨w3.heap.size,1,none⟩=some (.slice A3 d3.length cap3)) (go_keep)
    (first
      | (go_at_call 168;(with_reducible refine HP1.out.mono ?_);rintro e w5 ⟨hb5,u5,d5,rfl,hu5,hd5⟩
         obtain ⟨A5,cap5,rfl⟩:=hu5.form;have hbn5:=hbn4.drew.below hb5 hbn4.lt;have hbm5:=hbm.drew.below hb5 hbm.lt;have hrs5:=hrs4.drew.below hb5 hrs4.lt;have hrt5:=hrt4.drew.below hb5 hrt4.lt;have hy5:=hy4.drew.below hb5;obtain ⟨f0,f1,-,-⟩:=hbn5.two;obtain ⟨f2,f3,-,-⟩:=hbm5.two
         have HP2:Hid (Calls Tryz.prog 168 #[.agg #[.bool m3,.slice A3 d3.length cap3],.int .i64 k2] w5 fun e w'=>Below w5.heap.size w5 w'∧RetZ w5.heap.size Y e w'):=hide (by
           have:=jge w5 m3 0 _ d3 k2 hy5 (by omega) hkb2;rw [HDV3.out,HYY.out] at this;exact this))
      | (go_at_call 168;(with_reducible refine HP2.out.mono ?_);rintro e w6 ⟨hb6,u6,d6,rfl,hu6,hd6⟩
         obtain ⟨A6,cap6,rfl⟩:=hu6.form;have hbn6:=hbn5.below hb6 hbn5.lt;have hbm6:=hbm5.below hb6 hbm5.lt;have hrs6:=hrs5.below hb6 hrs5.lt;have hrt6:=hrt5.below hb6 hrt5.lt;have hu5':=hu5.below hb6;obtain ⟨g0,g1,-,-⟩:=hbn6.two;obtain ⟨g2,g3,-,-⟩:=hbm6.two;obtain ⟨j0,j1,j2,j3⟩:=hrs6.two;obtain ⟨i0,i1,i2,i3⟩:=hrt6.two))
  go_wp2_with fail
  have s5:w4.heap.size≤w5.heap.size:=hb5.size;have s6:=hb6.size;have HBB:=hide ((HB4.out.drew.trans (hb5.mono (by omega))).trans (hb6.mono (by omega)));have hr1:=jao (r:=w.heap.size+3) (jai (x:=.bool (decide (X<0))) (y:=.slice A5 d5.length cap5) hrs6) (by omega) (.bool (decide (Y<0))) (.slice A6 d6.length cap6);have hr2:=jai (x:=.bool (decide (Y<0))) (y:=.slice A6 d6.length cap6) (jao (r:=w.heap.size+2) hrt6 (by omega) (.bool (decide (X<0))) (.slice A5 d5.length cap5));have hu7:=jaf (r:=w.heap.size+3) (jaf (r:=w.heap.size+2) hu5' (by omega) (.bool (decide (X<0))) (.slice A5 d5.length cap5)) (by omega) (.bool (decide (Y<0))) (.slice A6 d6.length cap6);have hv7:=jaf (r:=w.heap.size+3) (jaf (r:=w.heap.size+2) hu6 (by omega) (.bool (decide (X<0))) (.slice A5 d5.length cap5)) (by omega) (.bool (decide (Y<0))) (.slice A6 d6.length cap6);have hlow:lowE zx x zy y=low:=by unfold lowE;rw [HQ.out,HR.out,HL.out]
  have hX:lift zx x low=X:=by unfold lift;rw [HX.out,HQ.out,HK1.out,Int.toNat_natCast,HXX.out]
  have hY:lift zy y low=Y:=by unfold lift;rw [HY.out,HR.out,HK2.out,Int.toNat_natCast,HYY.out]
  rw [HZX.out,HZY.out,hlow,hX,hY];refine bodyPost_ret (jat rfl _ _ _ _ _ _ _ _ _ _ rfl hr1 rfl hr2) rfl ⟨below2 (below2 HBB.out (by omega) _ _) (by omega) _ _,?_⟩;exact ⟨_,d5,_,d6,rfl,hu7.mono (by omega),hd5,hv7.mono (by omega),hd6⟩
end
end
section
section
open Go.RowKit
open L (val dig nth)
theorem jjo (z x:Int):(cM z x).natAbs≤z.natAbs:=by unfold cM;split <;> simp
theorem jjp {d:List Nat} {z x low:Int} {k:Nat} (hd:Canon d (lift z x low).natAbs) (hz:z.natAbs<W^k) (hlow : -4000≤low):d.length≤k+125:=by
  have hb:=jaw z x;exact jgd (t:=125) hd (Nat.lt_of_le_of_lt (jjo z x) hz) (by omega)
theorem jdq (z x z' x':Int) : -4000≤lowE z x z' x'∧lowE z x z' x'≤4000:=by
  have:=jaw z x;have:=jaw z' x';unfold lowE;omega
theorem jxa {a b c k j:Nat} (h:a≤b+c) (hb:b<W^k) (hc:c<W^k) (hk:k<j):a<W^j:=by
  have h1:W^(k+1)≤W^j:=Nat.pow_le_pow_right ja5 hk;have h2:2*W^k≤W^(k+1):=by rw [Nat.pow_succ,Nat.mul_comm];exact Nat.mul_le_mul_left _ W_gt
  omega
set_option maxRecDepth 100000 in
theorem jh8 (w:World) (n m:Bool) (B C:Nat) (v u:Value) (l p:List Nat) (x y:Int) (h:Nums w B v l) (hu:Nums w C u p) (hl:l.length≤9000) (hp:p.length≤9000)
    (hx0 : -9223372036854775808≤x) (hx1:x≤9223372036854775807) (hy0 : -9223372036854775808≤y) (hy1:y≤9223372036854775807) :
    Calls Tryz.prog 270 #[.agg #[.bool n,v,.int .i64 x],.agg #[.bool m,u,.int .i64 y]] w fun e w'=>Below w.heap.size w w'∧
      RetQ w.heap.size (pM (lift (ival n (val W l)) x (lowE (ival n (val W l)) x (ival m (val W p)) y) - lift (ival m (val W p)) y (lowE (ival n (val W l)) x (ival m (val W p)) y))) (pE (lift (ival n (val W l)) x (lowE (ival n (val W l)) x (ival m (val W p)) y) - lift (ival m (val W p)) y (lowE (ival n (val W l)) x (ival m (val W p)) y)) (lowE (ival n (val W l)) x (ival m (val W p)) y)) e w':=by
  have h0:=h;have hu0:=hu;have HLT:=hide h.lt;have HLT':=hide hu.lt;obtain ⟨A,cap,rfl,-,-,-,hc⟩:=h;obtain ⟨A',cap',rfl,-,-,-,hc'⟩:=hu;obtain ⟨W0,hW,hbx,hby,hrs,hB0,hs⟩:=start3 w 52 52 52 #[.bool n,.slice A l.length cap,.int .i64 x] #[.bool m,.slice A' p.length cap',.int .i64 y] #[.bool false,.slice none 0 0,.int .i64 0];have h1:=h0.up hB0;have hu1:=hu0.up hB0;have hs2:w.heap.size+2<W0.heap.size:=by omega
  clear hs hc hc';obtain ⟨c0,c1,c2,-,-,-⟩:=hbx.three;obtain ⟨c3,c4,c5,-,-,-⟩:=hby.three;obtain ⟨zx,HZX⟩:∃z,Hid (ival n (val W l)=z):=⟨_,hide rfl⟩;obtain ⟨zy,HZY⟩:∃z,Hid (ival m (val W p)=z):=⟨_,hide rfl⟩
  go_enter Tryz.func270,Tryz.ntmps270
  go_upto_region 1 with (fail)
  rw [←hW];clear hW;have HP:=jmn W0 n m B C _ _ l p x y h1 hu1 hl hp hx0 hx1 hy0 hy1;obtain ⟨low,HL⟩:∃q,Hid (lowE zx x zy y=q):=⟨_,hide rfl⟩;have hlb:=jdq zx x zy y;obtain ⟨X,HX⟩:∃z,Hid (lift zx x low=z):=⟨_,hide rfl⟩;obtain ⟨Y,HY⟩:∃z,Hid (lift zy y low=z):=⟨_,hide rfl⟩;rw [HZX.out,HZY.out,HL.out,HX.out,HY.out] at HP;rw [HL.out] at hlb
  go_wp2_with fail
  refine HP.mono ?_;rintro e w1 ⟨hb1,u1,d1,u2,d2,rfl,hu1',hd1,hu2',hd2⟩;have hl1:d1.length≤l.length+125:=jjp (HX.out ▸ hd1) (HZX.out ▸ jbl HLT.out) hlb.1;have hl2:d2.length≤p.length+125:=jjp (HY.out ▸ hd2) (HZY.out ▸ jbl HLT'.out) hlb.1;have HV1:Hid (ival (decide (X<0)) (val W d1)=X):=hide (by rw [hd1.val,jaz]);have HV2:Hid (ival (decide (Y<0)) (val W d2)=Y):=hide (by rw [hd2.val,jaz]);obtain ⟨A1,cap1,rfl⟩:=hu1'.form;obtain ⟨A2,cap2,rfl⟩:=hu2'.form;obtain ⟨w2,hW2,hbn,hbm,hB2,hs3⟩:=start2 w1 26 26 #[.bool (decide (X<0)),.slice A1 d1.length cap1] #[.bool (decide (Y<0)),.slice A2 d2.length cap2];clear HP
  go_upto_region 2 with (fail)
  rw [←hW2];clear hW2;have s1:=hb1.size;have hu3:=hu1'.below hB2;have hu4:=hu2'.below hB2;obtain ⟨e0,e1,-,-⟩:=hbn.two;obtain ⟨e2,e3,-,-⟩:=hbm.two;have HB2:=hide ((hB0.trans (hb1.mono (by omega))).trans (hB2.mono (by omega)));have hrs2:=(hrs.below hb1 (by omega)).below hB2 (by omega);have HP:=jiz w2 (decide (X<0)) (decide (Y<0)) _ _ _ _ d1 d2 hu3 hu4 (by omega) (by omega);obtain ⟨S,HS⟩:∃c,Hid (X - Y=c):=⟨_,hide rfl⟩;rw [HV1.out,HV2.out,HS.out] at HP
  go_wp2_with fail
  refine HP.mono ?_;rintro e w3 ⟨hb3,u5,d5,rfl,hu5,hd5⟩;obtain ⟨A5,cap5,rfl⟩:=hu5.form;have hrs3:=hrs2.below hb3 (by omega);have HV5:Hid (ival (decide (S<0)) (val W d5)=S):=hide (by rw [hd5.val,jaz])
  have hl5:d5.length≤20000:=by
    obtain ⟨K,hK⟩:∃K:Nat,K=9125:=⟨_,rfl⟩;obtain ⟨J,hJ⟩:∃J:Nat,J=20000:=⟨_,rfl⟩;rw [←hJ,hd5.len];have b1:=Int.natAbs_sub_le X Y;rw [HS.out] at b1;have a1:X.natAbs<W^K:=Nat.lt_of_lt_of_le (by rw [←HV1.out];exact jbl hu3.lt) (Nat.pow_le_pow_right ja5 (by omega));have a2:Y.natAbs<W^K:=Nat.lt_of_lt_of_le (by rw [←HV2.out];exact jbl hu4.lt) (Nat.pow_le_pow_right ja5 (by omega));exact jxa b1 a1 a2 (by omega)
  clear HP;have s3:=hb3.size;have HP:=jdo w3 (decide (S<0)) _ _ d5 low hu5 (by omega) (by omega) (by omega);obtain ⟨zM,HM⟩:∃zM,Hid (pM S=zM):=⟨_,hide rfl⟩;obtain ⟨zE,HE⟩:∃zE,Hid (pE S low=zE):=⟨_,hide rfl⟩;rw [HV5.out,HM.out,HE.out] at HP
  go_wp2_with fail
  refine HP.mono ?_;rintro e w4 ⟨hb4,u6,d6,rfl,hu6,hd6⟩;obtain ⟨A6,cap6,rfl⟩:=hu6.form;have hrs4:=hrs3.below hb4 (by omega);obtain ⟨j0,j1,j2,j3,j4,j5⟩:=hrs4.three;clear HP
  go_wp2_with fail
  have s4:=hb4.size;rw [HZX.out,HZY.out,HL.out,HX.out,HY.out,HS.out,HM.out,HE.out];refine bodyPost_ret (jbk rfl _ _ _ _ _ _ _ rfl (((hrs4.set_ 0 _).set_ 1 _).set_ 2 _)) rfl ⟨below3 ((HB2.out.trans (hb3.mono (by omega))).trans (hb4.mono (by omega))) (by omega) _ _ _,?_⟩;exact ⟨_,d6,rfl,(jbw hu6 (by omega) _ _ _).mono (by omega),hd6⟩
end
end
end Go.Proofs.YtllgjggkchgpbaaGreat