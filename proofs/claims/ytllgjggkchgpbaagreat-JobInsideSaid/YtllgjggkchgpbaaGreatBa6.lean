/- The document's integers: Make Norm Neg BitLen Sign Mul Shl. The document's integers: Sign Add Sub. The document's integers: Sub Shr. The document's dyads: plain. The document's dyads: near counts Norm Of Sign Log. The document's dyads: raised lower. The document's dyads: Floor Ceil. The document's dyads: Neg Shift. The document's dyads: Mul. The document's dyads in the values' words. ball: results that are balls; pair, Point. -/
import Derived.Test.YtllgjggkchgpbaaGreatZeds
import Derived.Test.YtllgjggkchgpbaaGreatRefs
import Derived.Test.YtllgjggkchgpbaaGreatDyadA
import Derived.Test.YtllgjggkchgpbaaGreatDyadB
import Derived.Test.YtllgjggkchgpbaaGreatCons
import Derived.Test.YtllgjggkchgpbaaGreatPats
import Derived.Test.YtllgjggkchgpbaaGreatLaws
import Derived.Test.YtllgjggkchgpbaaGreatEvs
import Derived.Test.YtllgjggkchgpbaaGreatBa5
set_option linter.unusedVariables false
set_option linter.unusedSimpArgs false
namespace Go.Proofs.YtllgjggkchgpbaaGreat
section
section
section
open Go.RowKit
open L (val dig nth)
end
end
section
section
open Go.RowKit
open L (val dig nth)
end
end
section
section
open Go.RowKit
open L (val dig nth)
end
end
end
section
section
section
open Go.RowKit
open L (val dig nth)
def Left (z:Int) (t:Nat) (z':Int):Prop:=z'*2^t=z
theorem Left.step {z z':Int} {t s:Nat} (h:Left z t z') (hd:z'.natAbs%2^s=0):Left z (t+s) (z' / 2^s):=by
  unfold Left at *;rw [Nat.add_comm,Int.pow_add,←Int.mul_assoc,Int.ediv_mul_cancel,h];rw [←Int.natAbs_dvd_natAbs,natAbs_pow];exact Nat.dvd_of_mod_eq_zero hd
theorem Left.le {z z':Int} {t k:Nat} (h:Left z t z') (hz:z≠0) (hk:z.natAbs<W^k):t<64*k∧z'≠0∧z'.natAbs≤z.natAbs:=by
  unfold Left at h;have h0:z'≠0:=by rintro rfl;rw [Int.zero_mul] at h;exact hz h.symm
  have e:=congrArg Int.natAbs h;rw [Int.natAbs_mul,natAbs_pow] at e;have h1:2^t≤z.natAbs:=by rw [←e];exact Nat.le_mul_of_pos_left _ (by omega)
  rw [je4] at hk;refine ⟨(Nat.pow_lt_pow_iff_right (a:=2) (by omega)).1 (Nat.lt_of_le_of_lt h1 hk),h0,?_⟩;rw [←e];exact Nat.le_mul_of_pos_right _ (Nat.two_pow_pos _)
end
end
section
section
open Go.RowKit
open L (val dig nth)
end
end
section
section
open Go.RowKit
open L (val dig nth)
def UpTo (P z':Int) (m:Nat):Prop:=z'*2^m=P
theorem UpTo.step {P z':Int} {m c:Nat} (h:UpTo P z' m) (hc:c≤m):UpTo P (z'*2^c) (m - c):=by
  unfold UpTo at *;rw [Int.mul_assoc,←Int.pow_add,show c+(m - c)=m from by omega];exact h
theorem UpTo.lt {P z':Int} {m k:Nat} (h:UpTo P z' m) (hk:P.natAbs<W^k):z'.natAbs<W^k:=by
  unfold UpTo at h;have e:=congrArg Int.natAbs h;rw [Int.natAbs_mul,natAbs_pow] at e;exact Nat.lt_of_le_of_lt (by rw [←e];exact Nat.le_mul_of_pos_right _ (Nat.two_pow_pos _)) hk
end
end
end
section
section
section
open Go.RowKit
open L (val dig nth)
end
end
section
section
open Go.RowKit
open L (val dig nth)
end
end
section
section
open Go.RowKit
open L (val dig nth)
end
end
end
section
section
open Go.RowKit
open L (val dig nth)
section
variable {w:World} {k k':Nat} {n m:Bool} {A A':Option Addr} {len cap len' cap':Nat} {z z' x y:Int}
theorem jrj {K:Nat} (hz:z.natAbs<W^k) (hK:4000≤K) (q:Int):(vFloor K (av K z x) (nearZ q)).natAbs<W^(k+125):=by
  have hcb:=jaw z x;have hnb:=ja8 q;have hlt:=jnz (e:=cE z x+nearZ q) (Nat.lt_of_le_of_lt (jjo _ x) hz) (by omega)
  rwa [jny K _ _ _ (by omega)] at hlt
theorem ju5 {K:Nat} (hz:z.natAbs<W^k) (hK:4000≤K) (q:Int):(vCeil K (av K z x) (nearZ q)).natAbs<W^(k+125):=by
  have hcb:=jaw z x;have hnb:=ja8 q;have hlt:=jnz (a := -cM z x) (e:=cE z x+nearZ q) (k:=k) (by rw [Int.natAbs_neg];exact Nat.lt_of_le_of_lt (jjo _ x) hz) (by omega);rw [←Int.natAbs_neg,←jmk] at hlt
  rwa [jry K _ _ _ (by omega)] at hlt
end
end
end
section
section
open Go.RowKit
open L (val dig nth)
theorem jrk {w:World} {r:Nat} {t:TypeId} {a b c d e:Value} (h:Blk w r t #[a,b,c,d,e]):(loadVar 28 ⟨r,0,none⟩).run Tryz.prog w=.ok (.agg #[a,b,c,d,e]) w:=by
  obtain ⟨c0,c1,c2,c3,c4,-⟩:=h.five;simp [go_sem,c0,c1,c2,c3,c4]
theorem ja1 {fn:Func} {p q:Tmp} (h:fn.results=#[.cell p 28,.tmp q]) (tmps:Array Value) (w:World) (r:Nat) (t:TypeId) (a b c d e:Value) (hp:tmps.getD p undef=.pointer (some ⟨r,0,none⟩)) (hb:Blk w r t #[a,b,c,d,e]) :
    (results fn tmps).run Tryz.prog w=.ok (.tuple #[.agg #[a,b,c,d,e],tmps.getD q undef]) w:=by
  simp only [results,h];simp only [Array.getD_eq_getD_getElem?] at hp;simp [Sem.run_bind,Result.andThen,asAddr,hp,jrk hb]
theorem jdm {w:World} {r:Nat} {t:TypeId} {a b c d e:Value} (h:Blk w r t #[a,b,c,d,e]) (x y z u v:Value) :
    ∃W2,W2=((((w.setCell ⟨r,0,none⟩ x).setCell ⟨r,1,none⟩ y).setCell ⟨r,2,none⟩ z).setCell ⟨r,3,none⟩ u).setCell ⟨r,4,none⟩ v∧Blk W2 r t #[x,y,z,u,v]∧
    (∀B k n A l c z,r<B→QB w B k n A l c z→QB W2 B k n A l c z)∧(∀B w0,Below B w0 w→B≤r→Below B w0 W2)∧W2.heap.size=w.heap.size∧(∀g t' cs,g≠r→Blk w g t' cs→Blk W2 g t' cs)∧(∀B v l,r<B→Nums w B v l→Nums W2 B v l):=by
  refine ⟨_,rfl,?_,fun B k n A l c z hr hq=>((((hq.low (p:=⟨r,0,none⟩) hr x).low (p:=⟨r,1,none⟩) hr y).low (p:=⟨r,2,none⟩) hr _).low (p:=⟨r,3,none⟩) hr u).low (p:=⟨r,4,none⟩) hr v,
    fun B w0 hb hr=>((((hb.setCell (p:=⟨r,0,none⟩) hr x).setCell (p:=⟨r,1,none⟩) hr y).setCell (p:=⟨r,2,none⟩) hr z).setCell (p:=⟨r,3,none⟩) hr u).setCell (p:=⟨r,4,none⟩) hr v,by simp,
    fun g t' cs hne hg=>((((hg.far (p:=⟨r,0,none⟩) hne x).far (p:=⟨r,1,none⟩) hne y).far (p:=⟨r,2,none⟩) hne z).far (p:=⟨r,3,none⟩) hne u).far (p:=⟨r,4,none⟩) hne v,
    fun B vv l hr hn=>((((hn.set_low (p:=⟨r,0,none⟩) hr x).set_low (p:=⟨r,1,none⟩) hr y).set_low (p:=⟨r,2,none⟩) hr z).set_low (p:=⟨r,3,none⟩) hr u).set_low (p:=⟨r,4,none⟩) hr v⟩
  have:=((((h.set_ 0 x).set_ 1 y).set_ 2 z).set_ 3 u).set_ 4 v
  simpa using this
def RetB (B k:Nat) (x y q err:Int) (e:Ending) (w:World):Prop:=∃n A l c n' A' l' c',e=.returned (.tuple #[.agg #[.bool n,.slice A l c,.bool n',.slice A' l' c',.int .i64 q],.int .i64 err])∧QB w B k n A l c x∧QB w B k n' A' l' c' y
def RetE (B k:Nat) (ok:Bool) (x y q err:Int) (e:Ending) (w:World):Prop:=RetB B k (if ok then x else 0) (if ok then y else 0) (if ok then q else 0) (if ok then 0 else err) e w
theorem RetE.yes {B k:Nat} {x y q err:Int} {e:Ending} {w:World} (h:RetB B k x y q 0 e w):RetE B k true x y q err e w:=h
theorem RetE.no {B k:Nat} {x y q err:Int} {w:World}:RetE B k false x y q err (.returned (.tuple #[.agg #[.bool false,.slice none 0 0,.bool false,.slice none 0 0,.int .i64 0],.int .i64 err])) w:=
  ⟨_,_,_,_,_,_,_,_,rfl,QB.zero _ _ _,QB.zero _ _ _⟩
def pairB (x y q x' y' q':Int):Bool:=rightB x y q && rightB x' y' q' && (q == q')
set_option maxRecDepth 100000 in
theorem jih {w:World} {k:Nat} {n0 n1 m0 m1:Bool} {A0 A1 B0 B1:Option Addr} {l0 l1 j0 j1 c0 c1 d0 d1:Nat} {x0 x1 y0 y1:Int} (qa qb:Int) (hx0:Q w k n0 A0 l0 c0 x0) (hx1:Q w k n1 A1 l1 c1 x1) (hy0:Q w k m0 B0 j0 d0 y0) (hy1:Q w k m1 B1 j1 d1 y1) (hk:k≤1000) :
    Calls Tryz.prog 268 #[.agg #[.bool n0,.slice A0 l0 c0,.bool n1,.slice A1 l1 c1,.int .i64 qa],.agg #[.bool m0,.slice B0 j0 d0,.bool m1,.slice B1 j1 d1,.int .i64 qb]] w fun e w'=>
      Below w.heap.size w w'∧e=.returned (.bool (pairB x0 x1 qa y0 y1 qb)):=by
  obtain ⟨W0,hW,ha,hb,hB0,hs⟩:=start2 w 28 28 #[.bool n0,.slice A0 l0 c0,.bool n1,.slice A1 l1 c1,.int .i64 qa] #[.bool m0,.slice B0 j0 d0,.bool m1,.slice B1 j1 d1,.int .i64 qb];have HB0:=hide hB0;clear hs hB0;obtain ⟨a0,a1,a2,a3,a4,-⟩:=ha.five;obtain ⟨b0,b1,b2,b3,b4,-⟩:=hb.five;have HR1:=hide (jg5 qa (hx0.at_ HB0) (hx1.at_ HB0) (by omega) (by omega));obtain ⟨r1,H1⟩:∃r,Hid (rightB x0 x1 qa=r):=⟨_,hide rfl⟩;obtain ⟨r2,H2⟩:∃r,Hid (rightB y0 y1 qb=r):=⟨_,hide rfl⟩;obtain ⟨r3,H3⟩:∃r,Hid ((qa == qb)=r):=⟨_,hide rfl⟩;have HP:Hid (pairB x0 x1 qa y0 y1 qb=(r1 && r2 && r3)):=hide (by unfold pairB;rw [H1.out,H2.out,H3.out]);rw [HP.out];clear HP;rw [H1.out] at HR1;have h3:=H3.out
  go_enter Tryz.func268,Tryz.ntmps268
  go_upto_region 1 with (fail)
  rw [←hW];clear hW
  go_wp2_with fail
  refine HR1.out.mono ?_;rintro e w1 ⟨hb1,rfl⟩;have ha:=ha.below hb1 ha.lt;have hb:=hb.below hb1 hb.lt;have HB1:=hide (HB0.out.trans (hb1.mono HB0.out.size));obtain ⟨a0,a1,a2,a3,a4,-⟩:=ha.five;obtain ⟨b0,b1,b2,b3,b4,-⟩:=hb.five;have HR2:=hide (jg5 qb (hy0.at_ HB1) (hy1.at_ HB1) (by omega) (by omega));rw [H2.out] at HR2
  cases r1 with
  | false=>
    go_wp2_with fail
    go_ret
    exact ⟨HB1.out,rfl⟩
  | true=>
    go_wp2_with fail
    refine HR2.out.mono ?_;rintro e w2 ⟨hb2,rfl⟩;have ha:=ha.below hb2 ha.lt;have hb:=hb.below hb2 hb.lt;have HB2:=hide (HB1.out.trans (hb2.mono HB1.out.size));obtain ⟨a0,a1,a2,a3,a4,-⟩:=ha.five;obtain ⟨b0,b1,b2,b3,b4,-⟩:=hb.five
    cases r2 with
    | false=>
      go_wp2_with fail
      go_ret
      exact ⟨HB2.out,rfl⟩
    | true=>
      go_wp2_with fail
      go_ret
      exact ⟨HB2.out,by simp⟩
theorem jrl {w:World} {k:Nat} {n:Bool} {A:Option Addr} {len cap:Nat} {z x:Int} (q:Int) (h:Q w k n A len cap z) (hk:k≤1000) (hx0 : -9223372036854775808≤x) (hx1:x≤9223372036854775807) :
    Calls Tryz.prog 264 #[.agg #[.bool n,.slice A len cap,.int .i64 x],.int .i64 q] w fun e w'=>Below w.heap.size w w'∧RetZ w.heap.size (vFloor 4000 (av 4000 z x) (nearZ q)) e w':=by
  obtain ⟨d,h1,h2,rfl⟩:=h;have hcb:=jaw (ival n (val W d)) x;have hnb:=ja8 q;have:=jdz w n 0 _ d x q h1 (by omega) hx0 hx1
  rwa [jny 4000 _ _ _ (by omega)] at this
theorem ju6 {w:World} {k:Nat} {n:Bool} {A:Option Addr} {len cap:Nat} {z x:Int} (q:Int) (h:Q w k n A len cap z) (hk:k≤1000) (hx0 : -9223372036854775808≤x) (hx1:x≤9223372036854775807) :
    Calls Tryz.prog 265 #[.agg #[.bool n,.slice A len cap,.int .i64 x],.int .i64 q] w fun e w'=>Below w.heap.size w w'∧RetZ w.heap.size (vCeil 4000 (av 4000 z x) (nearZ q)) e w':=by
  obtain ⟨d,h1,h2,rfl⟩:=h;have hcb:=jaw (ival n (val W d)) x;have hnb:=ja8 q;have:=jd3 w n 0 _ d x q h1 (by omega) hx0 hx1
  rwa [jry 4000 _ _ _ (by omega)] at this
set_option maxHeartbeats 1000000 in
set_option maxRecDepth 100000 in
theorem jmh {w:World} {k:Nat} {n:Bool} {A:Option Addr} {len cap:Nat} {z x:Int} (q:Int) (h:Q w k n A len cap z) (hk:k≤1000) (hx0 : -9223372036854775808≤x) (hx1:x≤9223372036854775807) :
    Calls Tryz.prog 259 #[.agg #[.bool n,.slice A len cap,.int .i64 x],.int .i64 q] w fun e w'=>Below w.heap.size w w'∧
      RetE w.heap.size (k+125) (mayQ q) (vFloor 4000 (av 4000 z x) (nearZ q)) (vCeil 4000 (av 4000 z x) (nearZ q)) q 1 e w':=by
  obtain ⟨W0,hW,hd,hrs,hB0,hs⟩:=start2 w 52 28 #[.bool n,.slice A len cap,.int .i64 x] #[.bool false,.slice none 0 0,.bool false,.slice none 0 0,.int .i64 0];have HB0:=hide hB0;have hs2:w.heap.size+2≤W0.heap.size:=by omega
  clear hs hB0;obtain ⟨a0,a1,a2,-⟩:=hd.three;obtain ⟨r0,r1,r2,r3,r4,r5,r6,r7,r8,r9⟩:=hrs.five;have HM:=hide (jg4 W0 q);obtain ⟨f,HF⟩:∃z',Hid (vFloor 4000 (av 4000 z x) (nearZ q)=z'):=⟨_,hide rfl⟩;obtain ⟨c,HC⟩:∃z',Hid (vCeil 4000 (av 4000 z x) (nearZ q)=z'):=⟨_,hide rfl⟩;rw [HF.out,HC.out];obtain ⟨mq,HQ⟩:∃b,Hid (mayQ q=b):=⟨_,hide rfl⟩;rw [HQ.out] at HM ⊢;have hz:=h.lt;have HFL:=hide (jrj (x:=x) hz (Nat.le_refl 4000) q);have HCL:=hide (ju5 (x:=x) hz (Nat.le_refl 4000) q);rw [HF.out] at HFL;rw [HC.out] at HCL;clear hz
  cases mq with
  | false=>
    go_enter Tryz.func259,Tryz.ntmps259
    go_upto_region 1 with (fail)
    rw [←hW];clear hW
    go_wp2_with fail
    refine HM.out.mono ?_;rintro e w1 ⟨rfl,rfl⟩
    go_wp2_with fail
    obtain ⟨W2,hW2,bl,-,kb,-⟩:=jdm hrs (.bool false) (.slice none 0 0) (.bool false) (.slice none 0 0) (.int .i64 0);rw [←hW2];refine bodyPost_ret (ja1 rfl _ _ _ _ _ _ _ _ _ rfl bl) rfl ⟨kb _ _ HB0.out (by omega),RetE.no⟩
  | true=>
    have hBd:=HB0.out.drew;have HBd:=hide hBd;have HC1:=hide (jrl q (h.at_ HBd) hk hx0 hx1);rw [HF.out] at HC1
    go_enter Tryz.func259,Tryz.ntmps259
    go_upto_region 1 with (fail)
    rw [←hW];clear hW
    go_wp2_with fail
    refine HM.out.mono ?_;rintro e w1 ⟨rfl,rfl⟩
    go_upto_region 3 with (fail)
    go_region_held3 (fun w'=>w'.cell? ⟨w.heap.size,0,none⟩=some (.bool n)∧w'.cell? ⟨w.heap.size,1,none⟩=some (.slice A len cap)∧w'.cell? ⟨w.heap.size,2,none⟩=some (.int .i64 x)) (go_keep)
      (first
        | (go_at_call 264;(with_reducible refine HC1.out.mono ?_);rintro e v1 ⟨hb1,u1,d1,rfl,hu1,hd1⟩
           obtain ⟨C1,cc1,rfl⟩:=hu1.form;have hd:=hd.drew.below hb1 hd.lt;have hrs:=hrs.drew.below hb1 hrs.lt;have HV1:=hide (HBd.out.trans (hb1.mono HBd.out.size));have hs3:W0.heap.size≤v1.heap.size:=hb1.size;obtain ⟨a0,a1,a2,-⟩:=hd.three;have HC2:=hide (ju6 q (h.at_ HV1) hk hx0 hx1);rw [HC.out] at HC2)
        | (go_at_call 265;(with_reducible refine HC2.out.mono ?_);rintro e v2 ⟨hb2,u2,d2,rfl,hu2,hd2⟩
           obtain ⟨C2,cc2,rfl⟩:=hu2.form;have hd:=hd.below hb2 hd.lt;have hrs:=hrs.below hb2 hrs.lt;have hu1:=hu1.below hb2;have HV2:=hide (HV1.out.trans (hb2.mono HV1.out.size));obtain ⟨a0,a1,a2,-⟩:=hd.three;obtain ⟨r0,r1,r2,r3,r4,r5,r6,r7,r8,r9⟩:=hrs.five;have hne:¬ w.heap.size+1=w.heap.size:=by omega
           have hne2:¬ w.heap.size=w.heap.size+1:=by omega))
    go_wp2_with fail
    have q1:=(RetZ.qb hu1 hd1 HFL.out).mono (show w.heap.size+2≤_ from hs2);have q2:=(RetZ.qb hu2 hd2 HCL.out).mono (show w.heap.size+2≤_ by omega);obtain ⟨W2,hW2,bl,kq,kb,-⟩:=jdm hrs (.bool (decide (f<0))) (.slice C1 d1.length cc1) (.bool (decide (c<0))) (.slice C2 d2.length cc2) (.int .i64 q);rw [←hW2];refine bodyPost_ret (ja1 rfl _ _ _ _ _ _ _ _ _ rfl bl) rfl ⟨kb _ _ HV2.out (by omega),RetE.yes ⟨_,_,_,_,_,_,_,_,rfl,(kq _ _ _ _ _ _ _ (by omega) q1).mono (by omega),(kq _ _ _ _ _ _ _ (by omega) q2).mono (by omega)⟩⟩
end
end
end Go.Proofs.YtllgjggkchgpbaaGreat