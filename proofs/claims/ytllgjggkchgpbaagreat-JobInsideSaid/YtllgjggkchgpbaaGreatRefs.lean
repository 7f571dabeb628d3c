/- zed.DivMod. The document's numbers: digits of thirty-two bits: Trim, Digits, Limbs, Norm. The document's numbers: sums, differences of digits. The document's numbers: differences of digits, comparing, a digit's multiple. The document's numbers: products of digits. The document's numbers: Add, Sub, Mul, Shl, Shr, BitLen, Same. The document's numbers: Shl, Shr, BitLen. -/
import Derived.Test.YtllgjggkchgpbaaGreatKn5
import Derived.Test.YtllgjggkchgpbaaGreatDyadB
import Derived.Test.YtllgjggkchgpbaaGreatNats
set_option linter.unusedVariables false
set_option linter.unusedSimpArgs false
namespace Go.Proofs.YtllgjggkchgpbaaGreat
section
section
open Go.RowKit
open L (val dig nth)
def RetZZ (B:Nat) (x y:Int) (e:Ending) (w:World):Prop:=∃u d u' d',e=.returned (.tuple #[.agg #[.bool (decide (x<0)),u],.agg #[.bool (decide (y<0)),u'],.bool true])∧
  Nums w B u d∧Canon d x.natAbs∧Nums w B u' d'∧Canon d' y.natAbs
theorem jqd (n m:Bool) (a b:Nat) (hb:b≠0) (h:¬ (n=true∧0<a%b)):ival n a / ival m b=ival (n != m) (a / b)∧ival n a%ival m b=((a%b:Nat):Int):=by
  have e:=Nat.div_add_mod a b;have hl:=Nat.mod_lt a (Nat.pos_of_ne_zero hb);have hbi:(0:Int)<(b:Int):=by omega
  have key:ival n a / (b:Int)=ival n (a / b)∧ival n a%(b:Int)=((a%b:Nat):Int):=by
    refine (Int.ediv_emod_unique hbi).2 ⟨?_,by omega,by omega⟩
    cases n with
    | false=>
      simp only [ival];have:((a%b:Nat):Int)+(b:Int)*((a / b:Nat):Int)=(a:Int):=by rw [←Int.natCast_mul,←Int.natCast_add,Nat.add_comm,e]
      simpa using this
    | true=>
      have h0:a%b=0:=by
        rcases Nat.eq_zero_or_pos (a%b) with h1 | h1
        · exact h1
        · exact absurd ⟨rfl,h1⟩ h
      rw [h0] at e ⊢;simp only [ival,if_true];have:(b:Int)*((a / b:Nat):Int)=(a:Int):=by rw [←Int.natCast_mul];congr 1
      rw [Int.mul_neg,this];simp
  cases m with
  | false=>
    have:ival false b=(b:Int):=rfl;rw [this,Bool.bne_false];exact key
  | true=>
    have:ival true b = -(b:Int):=rfl;rw [this,Int.ediv_neg,Int.emod_neg,key.1];refine ⟨?_,key.2⟩
    cases n <;> simp [ival]
theorem js0 (m:Bool) (a b:Nat) (hb:b≠0) (h:0<a%b):ival true a / ival m b=ival (true != m) (a / b+1)∧ival true a%ival m b=((b - a%b:Nat):Int):=by
  have e:=Nat.div_add_mod a b;have hl:=Nat.mod_lt a (Nat.pos_of_ne_zero hb);have hbi:(0:Int)<(b:Int):=by omega
  have key:ival true a / (b:Int)=ival true (a / b+1)∧ival true a%(b:Int)=((b - a%b:Nat):Int):=by
    refine (Int.ediv_emod_unique hbi).2 ⟨?_,by omega,by omega⟩;simp only [ival,if_true];have:(b:Int)*((a / b:Nat):Int)+((a%b:Nat):Int)=(a:Int):=by rw [←Int.natCast_mul,←Int.natCast_add,e]
    rw [Int.natCast_add,Int.mul_neg,Int.mul_add]
    omega
  cases m with
  | false=>
    have:ival false b=(b:Int):=rfl;rw [this];exact key
  | true=>
    have:ival true b = -(b:Int):=rfl;rw [this,Int.ediv_neg,Int.emod_neg,key.1];refine ⟨?_,key.2⟩;simp [ival]
theorem retZZ {w w2:World} {r r' B Q R:Nat} {n:Bool} {v v':Value} {d d':List Nat} (hB:w.heap.size≤B) (hrB:r<B) (hrB':r'<B) (hu:Nums w2 B v d) (hd:Canon d Q) (hu':Nums w2 B v' d') (hd':Canon d' R) (a b a' b':Value) :
    RetZZ w.heap.size (ival n Q) (R:Int) (.returned (.tuple #[.agg #[.bool (n && decide (0<d.length)),v],.agg #[.bool (false && decide (0<d'.length)),v'],.bool true]))
      ((((w2.setCell ⟨r,0,none⟩ a).setCell ⟨r,1,none⟩ b).setCell ⟨r',0,none⟩ a').setCell ⟨r',1,none⟩ b'):=by
  have h1:=jaf (r:=r') (jaf (r:=r) hu hrB a b) hrB' a' b';have h2:=jaf (r:=r') (jaf (r:=r) hu' hrB a b) hrB' a' b';refine ⟨v,d,v',d',?_,h1.mono hB,by rw [jbe];exact hd,h2.mono hB,by rw [Int.natAbs_natCast];exact hd'⟩;rw [jpn n hd];simp
set_option maxHeartbeats 2000000 in
set_option maxRecDepth 100000 in
theorem jjz (w:World) (n m:Bool) (B C:Nat) (v u:Value) (l k:List Nat) (h:Nums w B v l) (hk:Nums w C u k) (hl:l.length≤30000) (hkl:k.length≤30000) (h0:val W k≠0) :
    Calls Tryz.prog 72 #[.agg #[.bool n,v],.agg #[.bool m,u]] w fun e w'=>Below w.heap.size w w'∧RetZZ w.heap.size (ival n (val W l) / ival m (val W k)) (ival n (val W l)%ival m (val W k)) e w':=by
  have h0':=h;have hk0:=hk;obtain ⟨A,cap,rfl,-,-,-,-⟩:=h;obtain ⟨A',cap',rfl,-,-,-,-⟩:=hk;obtain ⟨W0,hW,hbx,hby,hr1,hr2,hB0,hs⟩:=start4 w 26 26 26 26 #[.bool n,.slice A l.length cap] #[.bool m,.slice A' k.length cap'] #[.bool false,.slice none 0 0] #[.bool false,.slice none 0 0];have h1:=h0'.up hB0;have k1:=hk0.up hB0;have hs2:w.heap.size+3<W0.heap.size:=by omega
  clear hs;obtain ⟨c0,c1,-,-⟩:=hbx.two;obtain ⟨c2,c3,-,-⟩:=hby.two;have HD:=jk1 W0 B C _ _ l k h1 k1 h0 hl;have HP:=fun h=>jqd n m (val W l) (val W k) h0 h
  have HL:=fun h=>js0 m (val W l) (val W k) h0 h
  have HML:=hide (Nat.mod_lt (val W l) (Nat.pos_of_ne_zero h0));obtain ⟨Q,HQ⟩:∃z,Hid (val W l / val W k=z):=⟨_,hide rfl⟩;obtain ⟨R,HR⟩:∃z,Hid (val W l%val W k=z):=⟨_,hide rfl⟩;rw [HQ.out,HR.out] at HD HP;rw [HQ.out,HR.out] at HL;rw [HR.out] at HML;have HDD:=hide HD;have HPP:=hide HP;have HLL:=hide HL;clear HD HP HL h0;obtain ⟨Z,HZ⟩:∃z,Hid (ival n (val W l) / ival m (val W k)=z):=⟨_,hide rfl⟩;obtain ⟨Y,HY⟩:∃z,Hid (ival n (val W l)%ival m (val W k)=z):=⟨_,hide rfl⟩;rw [HZ.out,HY.out];rw [HZ.out,HY.out] at HPP
  go_enter Tryz.func72,Tryz.ntmps72
  go_upto_region 1 with (fail)
  rw [←hW];clear hW
  go_wp2_with fail
  refine HDD.out.mono ?_;rintro e w1 ⟨hb1,q1,dq,r1,dr,rfl,hq,hdq,hr,hdr⟩;obtain ⟨A1,cap1,rfl⟩:=hq.form;obtain ⟨A2,cap2,rfl⟩:=hr.form;have hbx1:=hbx.below hb1 hbx.lt;have hby1:=hby.below hb1 hby.lt;have hr11:=hr1.below hb1 hr1.lt;have hr21:=hr2.below hb1 hr2.lt;have k2:=k1.below hb1;have HB1:=hide (hB0.trans (hb1.mono hB0.size));have hsz:=hb1.size;have hs0:w.heap.size≤W0.heap.size:=hB0.size;have HDQ:=hide hdq;have HDR:=hide hdr;have hrl:dr.length=0↔R=0:=by rw [←hdr.nil_iff];exact List.length_eq_zero_iff
  have HRL:=hide hrl;clear hdq hdr hrl HDD c0 c1 c2 c3 h1 k1;obtain ⟨e0,e1,-,-⟩:=hbx1.two;obtain ⟨e2,e3,-,-⟩:=hby1.two
  by_cases hcase:n=true∧0<R
  · obtain ⟨rfl,hR⟩:=hcase
    have hrp:(0:Int)<(dr.length:Int):=by
      have h2:=HRL.out
      omega
    have hl1:=HLL.out hR;rw [HZ.out,HY.out] at hl1;have HE:=hide hl1;have hN1:=Nums.one w1 1 1 rfl W_gt;have hqa:=hq.alloc (.cells #[.int .u64 1] 22);have hra:=hr.alloc (.cells #[.int .u64 1] 22);have hka:=k2.alloc (.cells #[.int .u64 1] 22);have bxa:=hbx1.alloc (.cells #[.int .u64 1] 22);have bya:=hby1.alloc (.cells #[.int .u64 1] 22);have r1a:=hr11.alloc (.cells #[.int .u64 1] 22);have r2a:=hr21.alloc (.cells #[.int .u64 1] 22);have HBA:=hide (HB1.out.alloc (by omega) (.cells #[.int .u64 1] 22))
    have hdql:dq.length≤l.length:=by
      rw [HDQ.out.len];refine Nat.lt_of_le_of_lt ?_ (L.val_lt l h0'.lt);rw [←HQ.out];exact Nat.div_le_self _ _
    have hsa:w1.heap.size≤(w1.alloc (.cells #[.int .u64 1] 22)).heap.size:=by simp
    have HA:=hide (jhm _ _ _ _ _ dq [1] hqa hN1 (by omega) (by simp));clear hl1 HLL HPP hN1
    go_wp2_with fail
    refine HA.out.mono ?_;rintro e w2 ⟨hb2,u2,d2,rfl,hu2,hd2⟩;obtain ⟨A3,cap3,rfl⟩:=hu2.form;have hk3:=hka.below hb2;have hr3:=hra.below hb2;have bx3:=bxa.below hb2 bxa.lt;have by3:=bya.below hb2 bya.lt;have r13:=r1a.below hb2 r1a.lt;have r23:=r2a.below hb2 r2a.lt;have hs3:=hb2.size;have HB3:=hide (HBA.out.trans (hb2.mono (by omega)));have HSB:=hide (jhn w2 _ _ _ _ k dr hk3 hr3 (by omega) (by rw [HDR.out.val];exact Nat.le_of_lt HML.out));have HD2:=hide hd2;obtain ⟨f0,f1,-,-⟩:=bx3.two;obtain ⟨f2,f3,-,-⟩:=by3.two;clear e0 e1 e2 e3 hd2 HA
    go_wp2_with fail
    refine HSB.out.mono ?_;rintro e w3 ⟨hb3,u3,d3,rfl,hu3,hd3⟩;obtain ⟨A4,cap4,rfl⟩:=hu3.form;have bx4:=bx3.below hb3 bx3.lt;have by4:=by3.below hb3 by3.lt;have r14:=r13.below hb3 r13.lt;have r24:=r23.below hb3 r23.lt;have hu24:=hu2.below hb3;have hs4:=hb3.size;have HB4:=hide (HB3.out.trans (hb3.mono HB3.out.size));obtain ⟨g0,g1,-,-⟩:=bx4.two;obtain ⟨g2,g3,-,-⟩:=by4.two;have HD3:=hide hd3;clear f0 f1 f2 f3 hd3 HSB;have hbase:w.heap.size+3<w1.heap.size:=by omega
    have hbase2:w.heap.size+3<w2.heap.size:=by omega
    go_wp2_with fail
    refine (jav _ (!m) _ _ d2 hu24).mono ?_;rintro e w4 ⟨hb4,rfl⟩;have tu1:=hu24.below hb4;have tv1:=hu3.below hb4;have t11:=r14.below hb4 r14.lt;have t21:=r24.below hb4 r24.lt;have HT1:=hide (HB4.out.trans (hb4.mono HB4.out.size));clear g0 g1 g2 g3
    go_wp2_with fail
    refine (jav _ false _ _ d3 tv1).mono ?_;rintro e w5 ⟨hb5,rfl⟩;have tu2:=tu1.below hb5;have tv2:=tv1.below hb5;have t12:=t11.below hb5 t11.lt;have t22:=t21.below hb5 t21.lt;have HT2:=hide (HT1.out.trans (hb5.mono HT1.out.size));obtain ⟨j0,j1,j2,j3⟩:=t12.two;obtain ⟨i0,i1,i2,i3⟩:=t22.two;have hn1:¬ w.heap.size+2=w.heap.size+3:=by omega
    have hn2:¬ w.heap.size+3=w.heap.size+2:=by omega
    go_wp2_with fail
    have z1:=jao (r:=w.heap.size+3) (jai (x:=.bool ((!m) && decide (0<d2.length))) (y:=.slice A3 d2.length cap3) t12) (by omega) (.bool (false && decide (0<d3.length))) (.slice A4 d3.length cap4);have z2:=jai (x:=.bool (false && decide (0<d3.length))) (y:=.slice A4 d3.length cap4) (jao (r:=w.heap.size+2) t22 (by omega) (.bool ((!m) && decide (0<d2.length))) (.slice A3 d2.length cap3));refine bodyPost_ret (jat rfl _ _ _ _ _ _ _ _ _ _ rfl z1 rfl z2) rfl ⟨below2 (below2 HT2.out (by omega) _ _) (by omega) _ _,?_⟩;have hz:=retZZ (w:=w) (B:=w.heap.size+4) (r:=w.heap.size+2) (r':=w.heap.size+3) (n:=(!m)) (by omega) (by omega) (by omega) (tu2.mono (by omega)) HD2.out (tv2.mono (by omega)) HD3.out (.bool ((!m) && decide (0<d2.length))) (.slice A3 d2.length cap3) (.bool (false && decide (0<d3.length))) (.slice A4 d3.length cap4);rw [show (val W dq+val W [1])=Q+1 from by rw [HDQ.out.val];simp [L.val],show (!m)=(true != m) from by cases m <;> rfl,←HE.out.1,show ((val W k - val W dr:Nat):Int)=Y from by rw [HDR.out.val];exact HE.out.2.symm] at hz;rw [show (true != m)=(!m) from by cases m <;> rfl] at hz;exact hz
  · obtain ⟨p1,p2⟩:=HPP.out hcase
    have HE1:=hide p1;have HE2:=hide p2
    have hzn:n=true→¬ ((0:Int)<(dr.length:Int)):=fun hn=>by
      have h2:=HRL.out;have h3:¬ 0<R:=fun h=>hcase ⟨hn,h⟩
      omega
    have hbase:w.heap.size+3<w1.heap.size:=by omega
    have hqB:Nums w1 (w.heap.size+4) (.slice A1 dq.length cap1) dq:=hq.mono (by omega);have hrB:Nums w1 (w.heap.size+4) (.slice A2 dr.length cap2) dr:=hr.mono (by omega);clear p1 p2 HPP HLL hcase
    cases n with
    | false=>
      clear hzn
      go_wp2_with fail
      refine (jav _ m _ _ dq hqB).mono ?_;rintro e w4 ⟨hb4,rfl⟩;have tu1:=hqB.below hb4;have tv1:=hrB.below hb4;have t11:=hr11.below hb4 hr11.lt;have t21:=hr21.below hb4 hr21.lt;have HT1:=hide (HB1.out.trans (hb4.mono HB1.out.size));clear e0 e1 e2 e3
      go_wp2_with fail
      refine (jav _ false _ _ dr tv1).mono ?_;rintro e w5 ⟨hb5,rfl⟩;have tu2:=tu1.below hb5;have tv2:=tv1.below hb5;have t12:=t11.below hb5 t11.lt;have t22:=t21.below hb5 t21.lt;have HT2:=hide (HT1.out.trans (hb5.mono HT1.out.size));obtain ⟨j0,j1,j2,j3⟩:=t12.two;obtain ⟨i0,i1,i2,i3⟩:=t22.two;have hn1:¬ w.heap.size+2=w.heap.size+3:=by omega
      have hn2:¬ w.heap.size+3=w.heap.size+2:=by omega
      go_wp2_with fail
      have z1:=jao (r:=w.heap.size+3) (jai (x:=.bool (m && decide (0<dq.length))) (y:=.slice A1 dq.length cap1) t12) (by omega) (.bool (false && decide (0<dr.length))) (.slice A2 dr.length cap2);have z2:=jai (x:=.bool (false && decide (0<dr.length))) (y:=.slice A2 dr.length cap2) (jao (r:=w.heap.size+2) t22 (by omega) (.bool (m && decide (0<dq.length))) (.slice A1 dq.length cap1));refine bodyPost_ret (jat rfl _ _ _ _ _ _ _ _ _ _ rfl z1 rfl z2) rfl ⟨below2 (below2 HT2.out (by omega) _ _) (by omega) _ _,?_⟩;have hz:=retZZ (w:=w) (B:=w.heap.size+4) (r:=w.heap.size+2) (r':=w.heap.size+3) (n:=m) (by omega) (by omega) (by omega) (tu2.mono (by omega)) HDQ.out (tv2.mono (by omega)) HDR.out (.bool (m && decide (0<dq.length))) (.slice A1 dq.length cap1) (.bool (false && decide (0<dr.length))) (.slice A2 dr.length cap2);rw [show m=(false != m) from by cases m <;> rfl,←HE1.out,←HE2.out] at hz;rw [show (false != m)=m from by cases m <;> rfl] at hz;exact hz
    | true=>
      have hzn':=hzn rfl;clear hzn
      go_wp2_with fail
      refine (jav _ (!m) _ _ dq hqB).mono ?_;rintro e w4 ⟨hb4,rfl⟩;have tu1:=hqB.below hb4;have tv1:=hrB.below hb4;have t11:=hr11.below hb4 hr11.lt;have t21:=hr21.below hb4 hr21.lt;have HT1:=hide (HB1.out.trans (hb4.mono HB1.out.size));clear e0 e1 e2 e3
      go_wp2_with fail
      refine (jav _ false _ _ dr tv1).mono ?_;rintro e w5 ⟨hb5,rfl⟩;have tu2:=tu1.below hb5;have tv2:=tv1.below hb5;have t12:=t11.below hb5 t11.lt;have t22:=t21.below hb5 t21.lt;have HT2:=hide (HT1.out.trans (hb5.mono HT1.out.size));obtain ⟨j0,j1,j2,j3⟩:=t12.two;obtain ⟨i0,i1,i2,i3⟩:=t22.two;have hn1:¬ w.heap.size+2=w.heap.size+3:=by omega
      have hn2:¬ w.heap.size+3=w.heap.size+2:=by omega
      go_wp2_with fail
      have z1:=jao (r:=w.heap.size+3) (jai (x:=.bool ((!m) && decide (0<dq.length))) (y:=.slice A1 dq.length cap1) t12) (by omega) (.bool (false && decide (0<dr.length))) (.slice A2 dr.length cap2);have z2:=jai (x:=.bool (false && decide (0<dr.length))) (y:=.slice A2 dr.length cap2) (jao (r:=w.heap.size+2) t22 (by omega) (.bool ((!m) && decide (0<dq.length))) (.slice A1 dq.length cap1));refine bodyPost_ret (jat rfl _ _ _ _ _ _ _ _ _ _ rfl z1 rfl z2) rfl ⟨below2 (below2 HT2.out (by omega) _ _) (by omega) _ _,?_⟩;have hz:=retZZ (w:=w) (B:=w.heap.size+4) (r:=w.heap.size+2) (r':=w.heap.size+3) (n:=(!m)) (by omega) (by omega) (by omega) (tu2.mono (by omega)) HDQ.out (tv2.mono (by omega)) HDR.out (.bool ((!m) && decide (0<dq.length))) (.slice A1 dq.length cap1) (.bool (false && decide (0<dr.length))) (.slice A2 dr.length cap2);rw [show (!m)=(true != m) from by cases m <;> rfl,←HE1.out,←HE2.out] at hz;rw [show (true != m)=(!m) from by cases m <;> rfl] at hz;exact hz
end
end
section
section
section
open Go.RowKit
open L (val dig nth)
def B32:Nat:=4294967296
theorem js1:1<B32:=by unfold B32;omega
def CanonD (d:List Nat) (N:Nat):Prop:=d=dig B32 N
theorem CanonD.val {d:List Nat} {N:Nat} (h:CanonD d N):L.val B32 d=N:=by rw [show d=dig B32 N from h,L.val_dig js1]
theorem CanonD.lt {d:List Nat} {N:Nat} (h:CanonD d N):∀x∈d,x<B32:=by rw [show d=dig B32 N from h];exact L.dig_lt js1 N
theorem CanonD.len {d:List Nat} {N m:Nat} (h:CanonD d N):d.length≤m↔N<B32^m:=by rw [show d=dig B32 N from h];exact L.dig_len js1 N m
end
end
section
section
open Go.RowKit
open L (val dig nth)
end
end
section
section
open Go.RowKit
open L (val dig nth)
end
end
section
section
open Go.RowKit
open L (val dig nth)
end
end
section
section
open Go.RowKit
open L (val dig nth)
end
end
section
section
open Go.RowKit
open L (val dig nth)
end
end
end
end Go.Proofs.YtllgjggkchgpbaaGreat