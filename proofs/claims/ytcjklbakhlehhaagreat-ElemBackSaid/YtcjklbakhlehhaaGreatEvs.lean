/- What law04's 'shown' comes to. Plain facts. law04's 'shown' is true. A pattern's number has that pattern. Plain facts. A binade's first pattern and its number. Plain facts. Patterns stand in order. Plain facts. cut: a dyad whose integer has so many limbs at most, its own. law03's 'of' and 'small'. law03's 'shown' is true. dyad.Mul; zed.Shl, Sub, Sign, Cmp in the values' words. Contracts of dyad and zed whose results are canonical. The references' Equal: are two integers, two dyads the very same? How far values reach: sums and products of small dyads count. Plain facts. Contracts of dyad with what they come to named by equations: for the laws' walks. Floor and Ceil stand below and above a value. Plain facts. The place of a value's top bit. Plain facts. What is near is not above, and the next one is. Plain facts. Integer and dyad arguments opened to their cells. -/
import Derived.Test.YtcjklbakhlehhaaGreatCons
import Derived.Deep.DeepCutAuto
import Derived.Test.YtcjklbakhlehhaaGreatRefs
import Derived.ProofKit
import Derived.OpenShut
import Derived.Lib.SmallJoins
set_option linter.unusedVariables false
set_option linter.unusedSimpArgs false
namespace Go.Proofs.YtcjklbakhlehhaaGreat
section
section
section
open Go.RowKit
open L (val dig nth)
theorem jj0 {z x:Int} (h1 : -4000≤x) (h2:x≤4000):cM z x=z:=by
  unfold cM
  by_cases hz:z=0
  · subst hz;split <;> rfl
  · rw [if_neg (by omega)]
theorem jva {z x:Int} (h1 : -4000≤x) (h2:x≤4000) (hz:z≠0):cE z x=x:=by
  unfold cE;rw [if_neg (by omega)]
theorem jxa {z x:Int} (h1 : -4000≤x) (h2:x≤4000) (ho:z.natAbs%2=1):nM z x=z:=by
  unfold nM;rw [jj0 h1 h2];exact j1o (x:=x) (.inr ho)
theorem jxb {z x:Int} (h1 : -4000≤x) (h2:x≤4000) (ho:z.natAbs%2=1):nE z x=x:=by
  have hz:z≠0:=by intro h;subst h;simp at ho
  unfold nE;rw [jj0 h1 h2,jva h1 h2 hz];exact j1p (.inr ho)
def one:Nat:=4607182418800017408
theorem j18 {z x m:Int} (h1 : -4000≤x) (h2:x≤4000) (hz:z≠0) (hm:x+nbits z.natAbs - 1=m) (hb:¬ ofBad z x m):oB1 z x=ofPat z x m∧oX1 z x=0:=by
  have hok:lgOk z x=true:=by unfold lgOk;rw [jj0 h1 h2];simpa using hz
  have hlg:lgN z x=m:=by unfold lgN;rw [jj0 h1 h2,jva h1 h2 hz,if_neg hz];exact hm
  unfold oB1 oX1;rw [hok,hlg,if_neg (by simp),if_neg hb,if_neg (by simp),if_neg hb];exact ⟨rfl,rfl⟩
theorem jzc {N:Nat} (h:N<W):(dig W N).length≤1:=by rw [L.dig_len W_gt,Nat.pow_one];exact h
end
end
section
section
open Go.RowKit
open L (val dig nth)
end
end
end
section
section
section
open Go.RowKit
open L (val dig nth)
theorem jzd {z x:Int} (h:nf z x) (h1 : -4000≤x) (h2:x≤4000):nM z x=z∧nE z x=x:=by
  constructor
  · unfold nM;rw [jj0 h1 h2];exact j1o h
  · unfold nE;rw [jj0 h1 h2]
    by_cases hz:z=0
    · rcases h with ⟨_,rfl⟩ | h
      · subst hz;exact jce _
      · subst hz;simp at h
    · rw [jva h1 h2 hz];exact j1p h
theorem jk7 (b:Nat) (hb:b<W):b=pFrc b+pFld b*4503599627370496+(if pNeg b then T63 else 0):=by
  unfold pFrc pFld pNeg;unfold W at hb;rw [j2n]
  by_cases h:9223372036854775808≤b
  · rw [decide_eq_true h,if_pos rfl];omega
  · rw [decide_eq_false h,if_neg (by simp)];omega
theorem jsh (b:Nat):pFrc b<4503599627370496:=Nat.mod_lt _ (by omega)
def rF (b:Nat):Nat:=if pFld b=0 then pFrc b else pFrc b+4503599627370496
theorem j19 (b:Nat):rM b=ival (pNeg b) (rF b):=rfl
theorem j37 (b:Nat):rF b<2^53:=by
  have:=jsh b;rw [show (2:Nat)^53=9007199254740992 from rfl];unfold rF;split <;> omega
theorem jze (b:Nat) (h:pFld b≠2047) : -1074≤rE b∧rE b≤971:=by
  have:=jsu b;unfold rE;split <;> omega
theorem jzf (b:Nat):tz (rF b)≤53:=jp6 _ _ (j37 b)
theorem jsi (b:Nat) (h:pFld b≠2047):vM b=pM (rM b):=by
  have:=jze b h;unfold vM;rw [if_neg h];unfold nM;rw [jj0 (by omega) (by omega)]
theorem jvb (b:Nat) (h:pFld b≠2047):vE b=pE (rM b) (rE b):=by
  have:=jze b h;unfold vE;rw [if_neg h];unfold nE;rw [jj0 (by omega) (by omega)]
  by_cases hz:rM b=0
  · rw [hz,jce,jce]
  · rw [jva (by omega) (by omega) hz]
theorem jk8 (b:Nat):(rM b).natAbs=rF b:=by rw [j19,jbh]
theorem j2a (b:Nat) (h:pFld b≠2047) : -1074≤vE b∧vE b≤1024:=by
  have h1:=jze b h;have h2:=jzf b;rw [jvb b h];unfold pE;rw [jk8];split <;> omega
theorem v_nf (b:Nat) (h:pFld b≠2047):nf (vM b) (vE b):=by rw [jsi b h,jvb b h];exact ju3 _ _
theorem jod {f:Nat} (h1:4503599627370496≤f) (h2:f<9007199254740992):nbits f=53:=
  jcp (by rw [show (2:Nat)^53=9007199254740992 from rfl];exact h2) (.inr (by rw [show (2:Nat)^(53 - 1)=4503599627370496 from rfl];exact h1))
theorem joe {f:Nat} (h2:f<4503599627370496):nbits f≤52:=by
  rw [jbd,show (2:Nat)^52=4503599627370496 from rfl];exact h2
theorem jsj (b:Nat) (h:pFld b≠2047) (h0:rF b=0):oB1 (vM b) (vE b)=0∧oX1 (vM b) (vE b)=0:=by
  have hz:rM b=0:=by have:=jk8 b;omega
  have h1:lgOk (vM b) (vE b)=false:=by
    rw [jsi b h,jvb b h,hz,je6,jce];unfold lgOk;rw [jj0 (by omega) (by omega)];rfl
  unfold oB1 oX1;rw [if_pos h1,if_pos h1];exact ⟨rfl,rfl⟩
theorem jsk (b:Nat) (hb:b<W) (h:pFld b≠2047) (h0:rF b≠0):oB1 (vM b) (vE b)=b∧oX1 (vM b) (vE b)=0:=by
  have hz:rM b≠0:=by have:=jk8 b;omega
  have hvb:=j2a b h;have hvz:vM b≠0:=by rw [jsi b h];exact j32 hz
  have hx:vE b=rE b+tz (rF b):=by rw [jvb b h,jkw hz,jk8]
  have hg:(vM b).natAbs*2^tz (rF b)=rF b:=by
    have:=congrArg Int.natAbs (je3 (rM b));rw [Int.natAbs_mul,natAbs_pow,jk8] at this;rw [jsi b h];exact this
  have hn:nbits (vM b).natAbs+tz (rF b)=nbits (rF b):=by rw [←jrz _ _ (by omega),hg]
  have hneg:(vM b<0)↔pNeg b=true:=by
    have e1:pM (rM b)*2^tz (rM b).natAbs=rM b:=je3 _
    have e2:vM b<0↔rM b<0:=by
      rw [jsi b h,←Int.sign_eq_neg_one_iff_neg,←Int.sign_eq_neg_one_iff_neg]
      conv=>rhs;rw [←e1,Int.sign_mul,Int.sign_eq_one_of_pos (jb3 _),Int.mul_one]
    rw [e2,j19];have:=jpn (pNeg b) (rF b)
    cases hp:pNeg b <;> simp [ival] <;> omega
  have hfr:=jsh b;have hfl:=jsu b;obtain ⟨m,hm⟩:∃m,vE b+nbits (vM b).natAbs - 1=m:=⟨_,rfl⟩;have hm2:m=rE b+nbits (rF b) - 1:=by omega
  have hlow:ofLow m=rE b∧m≤1023:=by
    unfold ofLow
    by_cases hf:pFld b=0
    · have:rF b<4503599627370496:=by unfold rF;rw [if_pos hf];omega
      have:=joe this;have:rE b = -1074:=by unfold rE;rw [if_pos hf]
      omega
    · have:nbits (rF b)=53:=by unfold rF;rw [if_neg hf];exact jod (by omega) (by omega)
      have:rE b=(pFld b:Int) - 1075:=by unfold rE;rw [if_neg hf]
      omega
  have hdl:(dig W (vM b).natAbs).length≤1:=jzc (by have:=j36 b;rwa [Nat.pow_one] at this);have hbad:¬ ofBad (vM b) (vE b) m:=by unfold ofBad;rw [hlow.1];omega
  have ho:=j18 (by omega) (by omega) hvz hm hbad;refine ⟨ho.1.trans ?_,ho.2⟩;unfold ofPat;rw [hlow.1,hx,show (rE b+(tz (rF b):Int) - rE b).toNat=tz (rF b) from by omega,hg];simp only [hneg]
  conv=>rhs;rw [jk7 b hb]
  congr 1
  by_cases hf:pFld b=0
  · have h1:rF b=pFrc b:=by unfold rF;rw [if_pos hf]
    have h2:=joe (f:=rF b) (by omega);have h3:rE b = -1074:=by unfold rE;rw [if_pos hf]
    rw [if_neg (by omega),h1,hf]
  · have h1:rF b=pFrc b+4503599627370496:=by unfold rF;rw [if_neg hf]
    have h2:=jod (f:=rF b) (by omega) (by omega);have h3:rE b=(pFld b:Int) - 1075:=by unfold rE;rw [if_neg hf]
    rw [if_pos (by omega),h1];omega
theorem back (b:Nat) (hb:b<W) (h:pFld b≠2047):oX1 (nM (vM b) (vE b)) (nE (vM b) (vE b))=0∧
    (oB1 (nM (vM b) (vE b)) (nE (vM b) (vE b))=b∨b=T63∧oB1 (nM (vM b) (vE b)) (nE (vM b) (vE b))=0):=by
  have hvb:=j2a b h;have hn:=jzd (v_nf b h) (by omega) (by omega);rw [hn.1,hn.2]
  by_cases h0:rF b=0
  · have h1:=jsj b h h0
    refine ⟨h1.2,?_⟩;rw [h1.1];have hp:=jk7 b hb;have hf:pFld b=0∧pFrc b=0:=by unfold rF at h0;split at h0 <;> omega
    rw [hf.1,hf.2] at hp
    by_cases hs:pNeg b=true
    · rw [if_pos hs] at hp;right;exact ⟨by omega,rfl⟩
    · rw [if_neg hs] at hp;left;omega
  · have h1:=jsk b hb h h0
    exact ⟨h1.2,.inl h1.1⟩
end
end
section
section
open Go.RowKit
open L (val dig nth)
section
variable {e:Int} (h1 : -1022≤e) (h2:e≤1023)
include h1 h2
end
end
end
section
section
open Go.RowKit
open L (val dig nth)
section
variable {a b:Nat}
def nn (a:Nat):Int:=if pNorm a then bnE a else -1022
end
end
end
end
section
section
section
open Go.RowKit
open L (val dig nth)
theorem jk9 {ops:Array Oper} {o:Oper} {a:Act} {K:Act→World→Prop} {Q:Exit→Act→World→Prop} {E:Prop} (w:World) (hgd:o.guard=none) (s x:Operand)
    (ho:o.op=.call { callee:=.builtin .append,args:=#[s,x],argTypes:=#[22,22] })
    (base:Nat) (v:Value) (lx:List Nat) (hs:a.eval s=v) (hown:OwnU w base v lx) (B:Nat) (vs:Value) (ls:List Nat) (hx:a.eval x=vs) (h:Nums w B vs ls)
    (hn:lx.length+ls.length≤1000000) (hbase:base≤w.heap.size)
    (hk:∀v' w',OwnU w' base v' (lx ++ ls)→w.grownBy w' v.ownBlock→K (a.put o.dst v') w') :
    if Region.wanted o (yielded ops a.tmps)=true then Oper.wp Tryz.prog o a w K Q else E:=by
  have hw:Region.wanted o (yielded ops a.tmps)=true:=by simp [Region.wanted,hgd]
  rw [if_pos hw];obtain ⟨v',w',hrun,h2,h3⟩:=jhp w base v lx hown B vs ls h hn hbase o.type;unfold Oper.wp execOp;simp only [ho,resolve,invoke,builtin,Sem.run_bind,Sem.run_pure,Result.andThen_ok,List.map_toArray,List.map_cons,List.map_nil,hs,hx,hrun];exact hk v' w' h2 h3
end
end
section
section
open Go.RowKit
open L (val dig nth)
end
end
section
section
open Go.RowKit
open L (val dig nth)
end
end
end
section
section
section
open Go.RowKit
open L (val dig nth)
theorem jiu {a b:Int} {k j:Nat} (ha:a.natAbs<W^k) (hb:b.natAbs<W^j):(a*b).natAbs<W^(k+j):=by
  rw [Int.natAbs_mul,Nat.pow_add];exact Nat.mul_lt_mul'' ha hb
set_option maxRecDepth 100000 in
theorem jil (w:World) (n m:Bool) (B C:Nat) (v u:Value) (l p:List Nat) (x y:Int) (h:Nums w B v l) (hu:Nums w C u p) (hl:l.length≤9000) (hp:p.length≤9000)
    (hx0 : -9223372036854775808≤x) (hx1:x≤9223372036854775807) (hy0 : -9223372036854775808≤y) (hy1:y≤9223372036854775807) :
    Calls Tryz.prog 28 #[.agg #[.bool n,v,.int .i64 x],.agg #[.bool m,u,.int .i64 y]] w fun e w'=>Below w.heap.size w w'∧
      RetQ w.heap.size (pM (cM (ival n (val W l)) x*cM (ival m (val W p)) y)) (pE (cM (ival n (val W l)) x*cM (ival m (val W p)) y) (cE (ival n (val W l)) x+cE (ival m (val W p)) y)) e w':=by
  have h0:=h;have hu0:=hu;obtain ⟨A,cap,rfl,-,-,-,hc⟩:=h;obtain ⟨A',cap',rfl,-,-,-,hc'⟩:=hu;obtain ⟨W0,hW,hbx,hby,hrs,hB0,hs⟩:=start3 w 26 26 26 #[.bool n,.slice A l.length cap,.int .i64 x] #[.bool m,.slice A' p.length cap',.int .i64 y] #[.bool false,.slice none 0 0,.int .i64 0];have h1:=h0.up hB0;have hu1:=hu0.up hB0;have hs2:w.heap.size+2<W0.heap.size:=by omega
  clear hs hc hc';obtain ⟨c0,c1,c2,-,-,-⟩:=hbx.three;obtain ⟨zx,HZX⟩:∃z,Hid (ival n (val W l)=z):=⟨_,hide rfl⟩;obtain ⟨zy,HZY⟩:∃z,Hid (ival m (val W p)=z):=⟨_,hide rfl⟩;rw [HZX.out,HZY.out];obtain ⟨X,HX⟩:∃z,Hid (cM zx x=z):=⟨_,hide rfl⟩;obtain ⟨Y,HY⟩:∃z,Hid (cM zy y=z):=⟨_,hide rfl⟩;obtain ⟨ex,HEX⟩:∃z,Hid (cE zx x=z):=⟨_,hide rfl⟩;obtain ⟨ey,HEY⟩:∃z,Hid (cE zy y=z):=⟨_,hide rfl⟩;have hex:=jan zx x;have hey:=jan zy y;rw [HEX.out] at hex;rw [HEY.out] at hey;rw [HX.out,HY.out,HEX.out,HEY.out];obtain ⟨zM,HM⟩:∃zM,Hid (pM (X*Y)=zM):=⟨_,hide rfl⟩;obtain ⟨zE,HE⟩:∃zE,Hid (pE (X*Y) (ex+ey)=zE):=⟨_,hide rfl⟩;rw [HM.out,HE.out]
  go_enter Tryz.func28,Tryz.ntmps28
  go_upto_region 1 with (fail)
  rw [←hW];clear hW;have HP:=ja1 W0 n B _ l x h1 (by omega) hx0 hx1;rw [HZX.out,HX.out,HEX.out] at HP
  go_wp2_with fail
  refine HP.mono ?_;rintro e w1 ⟨hb1,m1,u1,d1,rfl,hn1,hl1,hv1⟩;clear HP c0 c1 c2;have hn1':=hn1;obtain ⟨A1,cap1,rfl⟩:=hn1.form;have s1:=hb1.size;obtain ⟨w2,hW2,hbn2,hB2,hs3⟩:=start1 w1 24 #[.bool m1,.slice A1 d1.length cap1];have hn2:=hn1'.below hB2;have hu2:=(hu1.below hb1).below hB2;have hby2:=(hby.below hb1 (by omega)).below hB2 (by omega);have hrs2:=(hrs.below hb1 (by omega)).below hB2 (by omega);have hs3':w1.heap.size<w2.heap.size:=by omega
  have HB2:=hide ((hB0.trans (hb1.mono (by omega))).trans (hB2.mono (by omega)));clear hs3
  go_upto_region 2 with (fail)
  rw [←hW2];clear hW2;obtain ⟨c3,c4,c5,-,-,-⟩:=hby2.three;have HP:=ja1 w2 m C _ p y hu2 (by omega) hy0 hy1;rw [HZY.out,HY.out,HEY.out] at HP
  go_wp2_with fail
  refine HP.mono ?_;rintro e w3 ⟨hb3,m3,u3,d3,rfl,hn3,hl3,hv3⟩;clear HP c3 c4 c5;have hn3':=hn3;obtain ⟨A3,cap3,rfl⟩:=hn3.form;have s3:=hb3.size;obtain ⟨w4,hW4,hbm4,hB4,hs5⟩:=start1 w3 24 #[.bool m3,.slice A3 d3.length cap3];have hn4:=(hn2.below hb3).below hB4;have hn5:=hn3'.below hB4;have hbn4:=(hbn2.below hb3 hs3').below hB4 (by omega);have hrs4:=(hrs2.below hb3 (by omega)).below hB4 (by omega);have hs5':w3.heap.size<w4.heap.size:=by omega
  have HB4:=hide ((HB2.out.trans (hb3.mono (by omega))).trans (hB4.mono (by omega)));clear hs5
  go_upto_region 3 with (fail)
  rw [←hW4];clear hW4;obtain ⟨e0,e1,-,-⟩:=hbn4.two;obtain ⟨e2,e3,-,-⟩:=hbm4.two;have HP:=jjb w4 m1 m3 _ _ _ _ d1 d3 hn4 hn5 (by omega) (by omega);rw [hv1,hv3] at HP;have hXl:Hid (X.natAbs<W^d1.length):=hide (by rw [←hv1];exact ja2 hn4.lt);have hYl:Hid (Y.natAbs<W^d3.length):=hide (by rw [←hv3];exact ja2 hn5.lt);obtain ⟨S,HS⟩:∃c,Hid (X*Y=c):=⟨_,hide rfl⟩;rw [HS.out] at HP;have HM':Hid (pM S=zM):=hide (by rw [←HS.out];exact HM.out);have HE':Hid (pE S (ex+ey)=zE):=hide (by rw [←HS.out];exact HE.out);have hww:IntKind.i64.wrap (ex+ey)=ex+ey:=IntWalk.i64_in _ (by omega);clear hv1 hv3
  go_wp2_with fail
  refine HP.mono ?_;rintro e w5 ⟨hb5,u5,d5,rfl,hu5,hd5⟩;clear HP;obtain ⟨A5,cap5,rfl⟩:=hu5.form;have s5:=hb5.size;have hrs5:=hrs4.below hb5 (by omega);have hd5l:d5.length≤d1.length+d3.length:=by rw [hd5.len,←HS.out];exact jiu hXl.out hYl.out
  have HV5:Hid (ival (decide (S<0)) (val W d5)=S):=hide (by rw [hd5.val,jas]);have HP:=jcf w5 (decide (S<0)) _ _ d5 (ex+ey) hu5 (by omega) (by omega) (by omega);rw [HV5.out,HM'.out,HE'.out] at HP
  go_wp2_with fail
  refine HP.mono ?_;rintro e w6 ⟨hb6,u6,d6,rfl,hu6,hd6⟩;clear HP;obtain ⟨A6,cap6,rfl⟩:=hu6.form;have s6:=hb6.size;have hrs6:=hrs5.below hb6 (by omega);obtain ⟨f0,f1,f2,f3,f4,f5⟩:=hrs6.three
  go_wp2_with fail
  refine bodyPost_ret (ja3 rfl _ _ _ _ _ _ _ rfl (((hrs6.set_ 0 _).set_ 1 _).set_ 2 _)) rfl ⟨below3 ((HB4.out.trans (hb5.mono (by omega))).trans (hb6.mono (by omega))) (by omega) _ _ _,?_⟩;exact ⟨_,d6,rfl,(jbx hu6 (by omega) _ _ _).mono (by omega),hd6⟩
section
variable {w:World} {k k':Nat} {n m:Bool} {A A':Option Addr} {len cap len' cap':Nat} {z z' x y:Int}
theorem jmw (h:Q w k n A len cap z) (hk:k≤50000) :
    Calls Tryz.prog 34 #[.agg #[.bool n,.slice A len cap]] w fun e w'=>Below w.heap.size w w'∧e=.returned (.int .i64 z.sign):=by
  obtain ⟨d,h1,h2,h3⟩:=h;exact jf1 w n 0 _ d z.sign (by rw [h3]) h1 (by omega)
theorem jof (h:Q w k n A len cap z) (h':Q w k' m A' len' cap' z') (hk:k≤50000) (hk':k'≤50000) :
    Calls Tryz.prog 23 #[.agg #[.bool n,.slice A len cap],.agg #[.bool m,.slice A' len' cap']] w fun e w'=>Below w.heap.size w w'∧e=.returned (.int .i64 (cmpZ z z')):=by
  obtain ⟨d,h1,h2,rfl⟩:=h;obtain ⟨d',h1',h2',rfl⟩:=h';exact jqm w n m 0 0 _ _ d d' h1 h1' (by omega) (by omega)
end
end
end
section
section
open Go.RowKit
open L (val dig nth)
def QC (w:World) (k:Nat) (n:Bool) (A:Option Addr) (len cap:Nat) (z:Int):Prop:=∃d,Nums w 0 (.slice A len cap) d∧d.length≤k∧Canon d z.natAbs∧n=decide (z<0)
section
variable {w w':World} {k:Nat} {n:Bool} {A:Option Addr} {len cap:Nat} {z:Int}
theorem QC.q (h:QC w k n A len cap z):Q w k n A len cap z:=by
  obtain ⟨d,h1,h2,h3,rfl⟩:=h;exact ⟨d,h1,h2,by rw [h3.val,jas]⟩
theorem QC.below (h:QC w k n A len cap z) (hb:Below w.heap.size w w'):QC w' k n A len cap z:=by
  obtain ⟨d,h1,h2⟩:=h;exact ⟨d,h1.below hb,h2⟩
theorem QC.drew (h:QC w k n A len cap z):QC w.drew k n A len cap z:=h
theorem QC.drewN (h:QC w k n A len cap z) (m:Nat):QC (w.drewN m) k n A len cap z:=h
theorem QC.of_canon {B:Nat} {u:Value} {d:List Nat} (hu:Nums w B u d) (hd:Canon d z.natAbs) (hz:z.natAbs<W^k) :
    ∃A len cap,u=.slice A len cap∧QC w k (decide (z<0)) A len cap z:=by
  obtain ⟨A,cap,rfl⟩:=hu.form;exact ⟨A,d.length,cap,rfl,d,hu.mono (Nat.zero_le _),by rw [hd.len];exact hz,hd,rfl⟩
end
def RetDC (k:Nat) (z x:Int) (e:Ending) (w:World):Prop:=∃n A len cap,e=.returned (.agg #[.bool n,.slice A len cap,.int .i64 x])∧QC w k n A len cap z
def RetIC (k:Nat) (z:Int) (e:Ending) (w:World):Prop:=∃n A len cap,e=.returned (.agg #[.bool n,.slice A len cap])∧QC w k n A len cap z
theorem RetQ.toDC {B k:Nat} {z x:Int} {e:Ending} {w:World} (h:RetQ B z x e w) (hz:z.natAbs<W^k):RetDC k z x e w:=by
  obtain ⟨u,d,rfl,hu,hd⟩:=h;obtain ⟨A,len,cap,rfl,hq⟩:=QC.of_canon hu hd hz;exact ⟨_,A,len,cap,rfl,hq⟩
theorem RetZ.toIC {B k:Nat} {z:Int} {e:Ending} {w:World} (h:RetZ B z e w) (hz:z.natAbs<W^k):RetIC k z e w:=by
  obtain ⟨u,d,rfl,hu,hd⟩:=h;obtain ⟨A,len,cap,rfl,hq⟩:=QC.of_canon hu hd hz;exact ⟨_,A,len,cap,rfl,hq⟩
section
variable {w:World} {k k':Nat} {n m:Bool} {A A':Option Addr} {len cap len' cap':Nat} {z z' x y:Int}
theorem j38 (h:Q w k n A len cap z) (hk:k≤40000) (hx0 : -9223372036854775808≤x) (hx1:x≤9223372036854775807) :
    Calls Tryz.prog 13 #[.agg #[.bool n,.slice A len cap],.int .i64 x] w fun e w'=>Below w.heap.size w w'∧RetDC k (nM z x) (nE z x) e w':=by
  have hz:=h.lt;obtain ⟨d,h1,h2,rfl⟩:=h;refine (jjx w n 0 _ d x h1 (by omega) hx0 hx1).mono ?_;rintro e w' ⟨hb,h⟩;exact ⟨hb,h.toDC (jzu hz)⟩
theorem jzg (h:Q w k n A len cap z) (hk:k≤40000) (hx0 : -9223372036854775808≤x) (hx1:x≤9223372036854775807) :
    Calls Tryz.prog 37 #[.agg #[.bool n,.slice A len cap,.int .i64 x]] w fun e w'=>Below w.heap.size w w'∧RetDC k (nM z x) (nE z x) e w':=by
  have hz:=h.lt;obtain ⟨d,h1,h2,rfl⟩:=h;refine (jd5 w n 0 _ d x h1 (by omega) hx0 hx1).mono ?_;rintro e w' ⟨hb,h⟩;exact ⟨hb,h.toDC (jzu hz)⟩
theorem j2b (h:Q w k n A len cap z) (h':Q w k' m A' len' cap' z') (hk:k≤9000) (hk':k'≤9000)
    (hx0 : -9223372036854775808≤x) (hx1:x≤9223372036854775807) (hy0 : -9223372036854775808≤y) (hy1:y≤9223372036854775807) (K:Nat) (hK:4000≤K) :
    Calls Tryz.prog 27 #[.agg #[.bool n,.slice A len cap,.int .i64 x],.agg #[.bool m,.slice A' len' cap',.int .i64 y]] w fun e w'=>Below w.heap.size w w'∧
      RetDC (k+k'+126) (pM (av K z x+av K z' y)) (pE (av K z x+av K z' y) (-K)) e w':=by
  have hz:=h.lt;have hz':=h'.lt;obtain ⟨d,h1,h2,rfl⟩:=h;obtain ⟨d',h1',h2',rfl⟩:=h';refine (jij w n m 0 0 _ _ d d' x y h1 h1' (by omega) (by omega) hx0 hx1 hy0 hy1).mono ?_;rintro e w' ⟨hb,hr⟩;rw [jr1 K hK,jy2 K hK] at hr;have hlb:=jbs (ival n (val W d)) x (ival m (val W d')) y;refine ⟨hb,hr.toDC (k:=k+k'+126) ?_⟩;rw [←jr1 K hK];refine jqe (jn7 (k:=k+k'+125) (Int.natAbs_add_le _ _) ?_ ?_ (by omega))
  · exact jjv (Nat.lt_of_lt_of_le hz (Nat.pow_le_pow_right ja5 (by omega))) hlb.1
  · exact jjv (Nat.lt_of_lt_of_le hz' (Nat.pow_le_pow_right ja5 (by omega))) hlb.1
theorem j2c (h:Q w k n A len cap z) (h':Q w k' m A' len' cap' z') (hk:k≤9000) (hk':k'≤9000)
    (hx0 : -9223372036854775808≤x) (hx1:x≤9223372036854775807) (hy0 : -9223372036854775808≤y) (hy1:y≤9223372036854775807) (K:Nat) (hK:4000≤K) :
    Calls Tryz.prog 130 #[.agg #[.bool n,.slice A len cap,.int .i64 x],.agg #[.bool m,.slice A' len' cap',.int .i64 y]] w fun e w'=>Below w.heap.size w w'∧
      RetDC (k+k'+126) (pM (av K z x - av K z' y)) (pE (av K z x - av K z' y) (-K)) e w':=by
  have hz:=h.lt;have hz':=h'.lt;obtain ⟨d,h1,h2,rfl⟩:=h;obtain ⟨d',h1',h2',rfl⟩:=h';refine (jik w n m 0 0 _ _ d d' x y h1 h1' (by omega) (by omega) hx0 hx1 hy0 hy1).mono ?_;rintro e w' ⟨hb,hr⟩;rw [jr2 K hK,jy3 K hK] at hr;have hlb:=jbs (ival n (val W d)) x (ival m (val W d')) y;refine ⟨hb,hr.toDC (k:=k+k'+126) ?_⟩;rw [←jr2 K hK];refine jqe (jn7 (k:=k+k'+125) (Int.natAbs_sub_le _ _) ?_ ?_ (by omega))
  · exact jjv (Nat.lt_of_lt_of_le hz (Nat.pow_le_pow_right ja5 (by omega))) hlb.1
  · exact jjv (Nat.lt_of_lt_of_le hz' (Nat.pow_le_pow_right ja5 (by omega))) hlb.1
theorem j2d (h:Q w k n A len cap z) (hk:k≤30000) (hx0 : -9223372036854775808≤x) (hx1:x≤9223372036854775807) (K:Nat) (hK:4000≤K) :
    Calls Tryz.prog 11 #[.agg #[.bool n,.slice A len cap,.int .i64 x]] w fun e w'=>Below w.heap.size w w'∧RetDC k (pM (-av K z x)) (pE (-av K z x) (-K)) e w':=by
  have hz:=h.lt;obtain ⟨d,h1,h2,rfl⟩:=h;refine (jih w n 0 _ d x h1 (by omega) hx0 hx1).mono ?_;rintro e w' ⟨hb,h⟩;rw [jr3 K,jy4 K hK] at h;refine ⟨hb,h.toDC ?_⟩;rw [←jr3 K];exact jqe (by rw [Int.natAbs_neg];exact Nat.lt_of_le_of_lt (jii _ x) hz)
theorem jvc (h:Q w k n A len cap z) (hk:k≤30000) (hx0 : -9223372036854775808≤x) (hx1:x≤9223372036854775807) (K:Nat) (hK:4000≤K) (p:Int) :
    Calls Tryz.prog 136 #[.agg #[.bool n,.slice A len cap,.int .i64 x],.int .i64 p] w fun e w'=>Below w.heap.size w w'∧
      RetDC k (pM (av K z x)) (pE (av K z x) (nearZ p - K)) e w':=by
  have hz:=h.lt;obtain ⟨d,h1,h2,rfl⟩:=h;refine (jgl w n 0 _ d x p h1 (by omega) hx0 hx1).mono ?_;rintro e w' ⟨hb,h⟩;have hcb:=jan (ival n (val W d)) x
  rw [jky K,show pE (cM (ival n (val W d)) x) (cE (ival n (val W d)) x+nearZ p)=pE (av K (ival n (val W d)) x) (nearZ p - K) from by
    rw [jwy,show nearZ p - (K:Int) = -K+nearZ p from by omega,jwy];unfold av;rw [jmp K _ _ (by omega)]
    by_cases h0:cM (ival n (val W d)) x=0
    · rw [h0,if_pos rfl,if_pos (jf3 _ _)]
    · rw [if_neg h0,if_neg (fun hh=>h0 (jf4.1 hh))]] at h
  refine ⟨hb,h.toDC ?_⟩;rw [←jky K];exact jqe (Nat.lt_of_le_of_lt (jii _ x) hz)
theorem jvd (h:Q w k n A len cap z) (hk:k≤9000) (hx0 : -9223372036854775808≤x) (hx1:x≤9223372036854775807) (K:Nat) (hK:4000≤K) (p:Int) :
    Calls Tryz.prog 40 #[.agg #[.bool n,.slice A len cap,.int .i64 x],.int .i64 p] w fun e w'=>Below w.heap.size w w'∧RetIC (k+125) (vFloor K (av K z x) (nearZ p)) e w':=by
  have hz:=h.lt;obtain ⟨d,h1,h2,rfl⟩:=h;refine (jdw w n 0 _ d x p h1 (by omega) hx0 hx1).mono ?_;rintro e w' ⟨hb,h⟩;have hcb:=jan (ival n (val W d)) x;have hnb:=jbc p;have hlt:=jn6 (e:=cE (ival n (val W d)) x+nearZ p) (Nat.lt_of_le_of_lt (jii _ x) hz) (by omega);rw [jn5 K _ _ _ (by omega)] at h hlt;exact ⟨hb,h.toIC hlt⟩
theorem jzh (h:Q w k n A len cap z) (hk:k≤9000) (hx0 : -9223372036854775808≤x) (hx1:x≤9223372036854775807) (K:Nat) (hK:4000≤K) (p:Int) :
    Calls Tryz.prog 39 #[.agg #[.bool n,.slice A len cap,.int .i64 x],.int .i64 p] w fun e w'=>Below w.heap.size w w'∧RetIC (k+125) (vCeil K (av K z x) (nearZ p)) e w':=by
  have hz:=h.lt;obtain ⟨d,h1,h2,rfl⟩:=h;refine (jd6 w n 0 _ d x p h1 (by omega) hx0 hx1).mono ?_;rintro e w' ⟨hb,h⟩;have hcb:=jan (ival n (val W d)) x;have hnb:=jbc p;have hlt:=jn6 (a := -cM (ival n (val W d)) x) (e:=cE (ival n (val W d)) x+nearZ p) (k:=k) (by rw [Int.natAbs_neg];exact Nat.lt_of_le_of_lt (jii _ x) hz) (by omega);rw [←Int.natAbs_neg,←jmr] at hlt;rw [jr5 K _ _ _ (by omega)] at h hlt;exact ⟨hb,h.toIC hlt⟩
theorem j2e (h:Q w k n A len cap z) (h':Q w k' m A' len' cap' z') (hk:k≤9000) (hk':k'≤9000)
    (hx0 : -9223372036854775808≤x) (hx1:x≤9223372036854775807) (hy0 : -9223372036854775808≤y) (hy1:y≤9223372036854775807) (K J:Nat) (hK:4000≤K) (hJ:4000≤J) :
    Calls Tryz.prog 28 #[.agg #[.bool n,.slice A len cap,.int .i64 x],.agg #[.bool m,.slice A' len' cap',.int .i64 y]] w fun e w'=>Below w.heap.size w w'∧
      RetDC (k+k') (pM (av K z x*av J z' y)) (pE (av K z x*av J z' y) (-((K+J:Nat):Int))) e w':=by
  have hz:=h.lt;have hz':=h'.lt;obtain ⟨d,h1,h2,rfl⟩:=h;obtain ⟨d',h1',h2',rfl⟩:=h';refine (jil w n m 0 0 _ _ d d' x y h1 h1' (by omega) (by omega) hx0 hx1 hy0 hy1).mono ?_;rintro e w' ⟨hb,hr⟩;rw [jr4 K J _ _ _ _ hK hJ,jy5 K J _ _ _ _ hK hJ] at hr;refine ⟨hb,hr.toDC (k:=k+k') ?_⟩;rw [←jr4 K J _ _ _ _ hK hJ];exact jqe (jiu (Nat.lt_of_le_of_lt (jii _ _) hz) (Nat.lt_of_le_of_lt (jii _ _) hz'))
end
end
end
section
section
open Go.RowKit
open L (val dig nth)
end
end
section
section
open Go.RowKit
open L (val dig nth)
def InV (K:Nat) (lo hi V:Int):Prop:=0≤lo+K∧0≤hi+K∧(∃u:Int,V=sv K u lo)∧V.natAbs<2^(hi+K).toNat
section
variable {K J:Nat} {lo hi lo' hi' V V':Int}
theorem InV.mono (h:InV K lo hi V) (h1:lo'≤lo) (h2:0≤lo'+K) (h3:hi≤hi'):InV K lo' hi' V:=by
  obtain ⟨a,b,⟨u,hu⟩,c⟩:=h;refine ⟨h2,by omega,⟨u*2^(lo - lo').toNat,?_⟩,Nat.lt_of_lt_of_le c (Nat.pow_le_pow_right (by omega) (by omega))⟩;rw [jr0 K u lo lo' h1 h2];exact hu
theorem jla {a b:Nat} {e:Int} (he:0≤e) (ha:a<2^e.toNat) (hb:b<2^e.toNat):a+b<2^(e+1).toNat:=by
  rw [show (e+1).toNat=e.toNat+1 from by omega,Nat.pow_succ];omega
theorem InV.add (h:InV K lo hi V) (h':InV K lo hi V'):InV K lo (hi+1) (V+V'):=by
  obtain ⟨a,b,⟨u,hu⟩,c⟩:=h;obtain ⟨a',b',⟨u',hu'⟩,c'⟩:=h';refine ⟨a,by omega,⟨u+u',by rw [jru,←hu,←hu']⟩,Nat.lt_of_le_of_lt (Int.natAbs_add_le _ _) ?_⟩;rw [show hi+1+(K:Int)=hi+K+1 from by omega];exact jla b c c'
theorem InV.neg (h:InV K lo hi V):InV K lo hi (-V):=by
  obtain ⟨a,b,⟨u,hu⟩,c⟩:=h;exact ⟨a,b,⟨-u,by rw [jrv,←hu]⟩,by rw [Int.natAbs_neg];exact c⟩
theorem InV.sub (h:InV K lo hi V) (h':InV K lo hi V'):InV K lo (hi+1) (V - V'):=by
  rw [Int.sub_eq_add_neg];exact h.add h'.neg
theorem InV.mul (h:InV K lo hi V) (h':InV J lo' hi' V'):InV (K+J) (lo+lo') (hi+hi') (V*V'):=by
  obtain ⟨a,b,⟨u,hu⟩,c⟩:=h;obtain ⟨a',b',⟨u',hu'⟩,c'⟩:=h';refine ⟨by omega,by omega,⟨u*u',by rw [jrw K J _ _ _ _ a a',←hu,←hu']⟩,?_⟩;rw [Int.natAbs_mul,show (hi+hi'+((K+J:Nat):Int)).toNat=(hi+K).toNat+(hi'+J).toNat from by omega,Nat.pow_add];exact Nat.mul_lt_mul'' c c'
theorem InV.pE (h:InV K lo hi V):V=0∧pE V (-K)=0∨lo≤pE V (-K)∧pE V (-K)≤hi:=by
  by_cases h0:V=0
  · left;subst h0;exact ⟨rfl,jce _⟩
  · right
    obtain ⟨a,b,hu,c⟩:=h;exact pE_bounds' h0 hu a c b
theorem jzi (K:Nat) (V:Int):sv K V (-K)=V:=by
  unfold sv;rw [show (-(K:Int)+K).toNat=0 from by omega,Int.pow_zero,Int.mul_one]
theorem InV.av (h:InV K lo hi V) (h1 : -4000≤lo) (h2:hi≤4000):Proofs.YtcjklbakhlehhaaGreat.av K (pM V) (Proofs.YtcjklbakhlehhaaGreat.pE V (-K))=V:=by
  have hb:=h.pE;rw [ju5 (by omega) (by omega),ju4 K V _ (by omega),jzi]
theorem InV.bd (h:InV K lo hi V) (h1 : -4000≤lo) (h2:hi≤4000) : -4000≤Proofs.YtcjklbakhlehhaaGreat.pE V (-K)∧Proofs.YtcjklbakhlehhaaGreat.pE V (-K)≤4000:=by
  have hb:=h.pE
  omega
end
theorem InV.small {K:Nat} (hK:4000≤K) {z x:Int} {k:Nat} {m:Int} (hz:z.natAbs<W^k) (hx : -m≤x∧x≤m) (hm:m≤4000) (hm0:0≤m):InV K (-m) (64*k+m) (Proofs.YtcjklbakhlehhaaGreat.av K z x):=by
  rw [ju5 (by omega) (by omega)];refine ⟨by omega,by omega,⟨z*2^(x - -m).toNat,by rw [jr0 K z x (-m) (by omega) (by omega)]⟩,?_⟩;rw [jd3,show (64*(k:Int)+m+K).toNat=64*k+(m+K).toNat from by omega,Nat.pow_add];rw [jf8] at hz;exact Nat.lt_of_lt_of_le (Nat.mul_lt_mul_of_pos_right hz (Nat.two_pow_pos _)) (Nat.mul_le_mul_left _ (Nat.pow_le_pow_right (by omega) (by omega)))
theorem jzj (x:Int) (m:Nat) (hm:0<m) : -((m:Int) - 1)≤x.tmod m∧x.tmod m≤(m:Int) - 1:=by
  have h1:=Int.natAbs_tmod x m;rw [Int.natAbs_natCast] at h1;have h2:=Nat.mod_lt x.natAbs hm
  omega
theorem jgp (a b:Int):cmpZ a b=(a - b).sign:=by
  unfold cmpZ
  rcases jbw (a - b) with ⟨h,h'⟩ | ⟨h,h'⟩ | ⟨h,h'⟩ <;> rw [h]
  · rw [if_pos (by omega)]
  · rw [if_neg (by omega),if_neg (by omega)]
  · rw [if_neg (by omega),if_pos (by omega)]
end
end
section
section
open Go.RowKit
open L (val dig nth)
theorem jep {z:Int} {k c t:Nat} (hz:z.natAbs<W^k) (hc:c≤64*t):(z*2^c).natAbs<W^(k+t):=by
  have:=jgn (d:=dig W (z*2^c).natAbs) (k:=k) (n:=c) (t:=t) (z:=z) rfl hz hc
  rwa [L.dig_len W_gt] at this
theorem j39 {w:World} {k:Nat} {n:Bool} {A:Option Addr} {len cap:Nat} {z:Int} (h:Q w k n A len cap z) (hk:k≤50000) (c:Nat) (hc:c≤8000) :
    Calls Tryz.prog 22 #[.agg #[.bool n,.slice A len cap],.int .i64 (c:Nat)] w fun e w'=>Below w.heap.size w w'∧RetZ w.heap.size (z*2^c) e w':=by
  obtain ⟨d,h1,h2,rfl⟩:=h;exact jms w n 0 _ d c c _ h1 (by omega) (by omega) (by omega) rfl rfl
section
variable {w:World} {k k':Nat} {n m:Bool} {A A':Option Addr} {len cap len' cap':Nat} {z z' x y V V' zz xx:Int}
theorem j4a (K:Nat) (h:Q w k n A len cap z) (h':Q w k' m A' len' cap' z') (hK:4000≤K) (hk:k≤9000) (hk':k'≤9000) (hx : -100000≤x∧x≤100000) (hy : -100000≤y∧y≤100000)
    (hV:av K z x=V) (hV':av K z' y=V') (hz:pM (V+V')=zz) (hxx:pE (V+V') (-K)=xx) :
    Calls Tryz.prog 27 #[.agg #[.bool n,.slice A len cap,.int .i64 x],.agg #[.bool m,.slice A' len' cap',.int .i64 y]] w fun e w'=>Below w.heap.size w w'∧RetDC (k+k'+126) zz xx e w':=by
  have:=j2b (x:=x) (y:=y) h h' hk hk' (by omega) (by omega) (by omega) (by omega) K hK
  rwa [hV,hV',hz,hxx] at this
theorem j4b (K:Nat) (h:Q w k n A len cap z) (h':Q w k' m A' len' cap' z') (hK:4000≤K) (hk:k≤9000) (hk':k'≤9000) (hx : -100000≤x∧x≤100000) (hy : -100000≤y∧y≤100000)
    (hV:av K z x=V) (hV':av K z' y=V') (hz:pM (V - V')=zz) (hxx:pE (V - V') (-K)=xx) :
    Calls Tryz.prog 130 #[.agg #[.bool n,.slice A len cap,.int .i64 x],.agg #[.bool m,.slice A' len' cap',.int .i64 y]] w fun e w'=>Below w.heap.size w w'∧RetDC (k+k'+126) zz xx e w':=by
  have:=j2c (x:=x) (y:=y) h h' hk hk' (by omega) (by omega) (by omega) (by omega) K hK
  rwa [hV,hV',hz,hxx] at this
theorem j4c (K J:Nat) (h:Q w k n A len cap z) (h':Q w k' m A' len' cap' z') (hK:4000≤K) (hJ:4000≤J) (hk:k≤9000) (hk':k'≤9000) (hx : -100000≤x∧x≤100000) (hy : -100000≤y∧y≤100000)
    (hV:av K z x=V) (hV':av J z' y=V') (hz:pM (V*V')=zz) (hxx:pE (V*V') (-((K+J:Nat):Int))=xx) :
    Calls Tryz.prog 28 #[.agg #[.bool n,.slice A len cap,.int .i64 x],.agg #[.bool m,.slice A' len' cap',.int .i64 y]] w fun e w'=>Below w.heap.size w w'∧RetDC (k+k') zz xx e w':=by
  have:=j2e (x:=x) (y:=y) h h' hk hk' (by omega) (by omega) (by omega) (by omega) K J hK hJ
  rwa [hV,hV',hz,hxx] at this
theorem j2f (K:Nat) (h:Q w k n A len cap z) (hK:4000≤K) (hk:k≤9000) (hx : -100000≤x∧x≤100000) (hV:av K z x=V) (hz:pM V=zz) (hxx:pE V (-K)=xx) :
    Calls Tryz.prog 37 #[.agg #[.bool n,.slice A len cap,.int .i64 x]] w fun e w'=>Below w.heap.size w w'∧RetDC k zz xx e w':=by
  have:=jzg (x:=x) h (by omega) (by omega) (by omega)
  rwa [jry K,jmq hK,hV,hz,hxx] at this
theorem j4d (K:Nat) (h:Q w k n A len cap z) (hK:4000≤K) (hk:k≤9000) (hx : -100000≤x∧x≤100000) (hV:av K z x=V) (hz:pM (-V)=zz) (hxx:pE (-V) (-K)=xx) :
    Calls Tryz.prog 11 #[.agg #[.bool n,.slice A len cap,.int .i64 x]] w fun e w'=>Below w.heap.size w w'∧RetDC k zz xx e w':=by
  have:=j2d (x:=x) h (by omega) (by omega) (by omega) K hK
  rwa [hV,hz,hxx] at this
theorem jzk (K:Nat) (p:Int) (h:Q w k n A len cap z) (hK:4000≤K) (hk:k≤9000) (hx : -100000≤x∧x≤100000) (hV:av K z x=V) (hz:pM V=zz) (hxx:pE V (nearZ p - K)=xx) :
    Calls Tryz.prog 136 #[.agg #[.bool n,.slice A len cap,.int .i64 x],.int .i64 p] w fun e w'=>Below w.heap.size w w'∧RetDC k zz xx e w':=by
  have:=jvc (x:=x) h (by omega) (by omega) (by omega) K hK p
  rwa [hV,hz,hxx] at this
theorem jzl (K:Nat) (p:Int) (h:Q w k n A len cap z) (hK:4000≤K) (hk:k≤9000) (hx : -100000≤x∧x≤100000) (hV:av K z x=V) (hz:vFloor K V (nearZ p)=zz) :
    Calls Tryz.prog 40 #[.agg #[.bool n,.slice A len cap,.int .i64 x],.int .i64 p] w fun e w'=>Below w.heap.size w w'∧RetIC (k+125) zz e w':=by
  have:=jvd (x:=x) h (by omega) (by omega) (by omega) K hK p
  rwa [hV,hz] at this
theorem j2g (K:Nat) (p:Int) (h:Q w k n A len cap z) (hK:4000≤K) (hk:k≤9000) (hx : -100000≤x∧x≤100000) (hV:av K z x=V) (hz:vCeil K V (nearZ p)=zz) :
    Calls Tryz.prog 39 #[.agg #[.bool n,.slice A len cap,.int .i64 x],.int .i64 p] w fun e w'=>Below w.heap.size w w'∧RetIC (k+125) zz e w':=by
  have:=jzh (x:=x) h (by omega) (by omega) (by omega) K hK p
  rwa [hV,hz] at this
theorem e_of (h:Q w k n A len cap z) (hk:k≤9000) (hx : -100000≤x∧x≤100000) (hz:nM z x=zz) (hxx:nE z x=xx) :
    Calls Tryz.prog 13 #[.agg #[.bool n,.slice A len cap],.int .i64 x] w fun e w'=>Below w.heap.size w w'∧RetDC k zz xx e w':=by
  have:=j38 (x:=x) h (by omega) (by omega) (by omega)
  rwa [hz,hxx] at this
end
end
end
end
section
section
section
open Go.RowKit
open L (val dig nth)
theorem jog {K J:Nat} {V p:Int} (hKJ:K≤J) (hp:0≤p - K+J):vFloor K V p=sv J V (p - K) / 2^J:=by
  have hq:∀(t:Int) (i j:Nat),t*2^i / 2^(i+j)=t / 2^j:=by
    intro t i j;rw [Int.pow_add,Int.mul_comm t];exact Int.mul_ediv_mul_of_pos _ _ (jb3 i)
  unfold vFloor sv
  by_cases h:0≤p
  · rw [if_pos h,show (p - K+J).toNat=p.toNat+(J - K) from by omega,Int.pow_add,←Int.mul_assoc]
    conv=>rhs;rw [show J=(J - K)+K from by omega]
    rw [show J - K+K - K=J - K from by omega,hq]
  · rw [if_neg h]
    conv=>rhs;rw [show J=(p - K+J).toNat+(K+(-p).toNat) from by omega]
    rw [show (p - K+((p - K+J).toNat+(K+(-p).toNat):Nat)).toNat=(p - K+J).toNat from by omega,hq]
theorem jzm {K J:Nat} {V p:Int} (hKJ:K≤J) (hp:0≤p - K+J):vCeil K V p = -(-sv J V (p - K) / 2^J):=by
  unfold vCeil;rw [jog hKJ hp,jrv]
section
variable {X D f c:Int} (hD:0<D) (hf:f=X / D) (hc:c = -(-X / D))
include hD hf hc
theorem j4e:f*D≤X∧X≤c*D∧0≤c - f∧c - f≤1∧(c - f=0↔f*D=X)∧X<f*D+D∧c*D<X+D:=by
  have h1:=Int.mul_ediv_add_emod X D;have h2:=Int.emod_nonneg X (show D≠0 by omega);have h3:=Int.emod_lt_of_pos X hD;have h4:=Int.mul_ediv_add_emod (-X) D;have h5:=Int.emod_nonneg (-X) (show D≠0 by omega);have h6:=Int.emod_lt_of_pos (-X) hD;rw [←hf,Int.mul_comm] at h1;rw [show -X / D = -c from by omega,Int.mul_neg,Int.mul_comm] at h4;have h7:(c - f)*D=X%D + -X%D:=by rw [Int.sub_mul];omega
  have h8:0≤c - f:=by
    rcases Int.lt_or_le (c - f) 0 with h | h
    · have:(c - f)*D<0:=Int.mul_neg_of_neg_of_pos h hD
      omega
    · exact h
  have h9:c - f≤1:=by
    rcases Int.lt_or_le 1 (c - f) with h | h
    · have:2*D≤(c - f)*D:=Int.mul_le_mul_of_nonneg_right (by omega) (by omega)
      omega
    · exact h
  refine ⟨by omega,by omega,h8,h9,?_,by omega,by omega⟩
  constructor
  · intro h;rw [h,Int.zero_mul] at h7;omega
  · intro h
    have h10:(c - f)*D<1*D:=by omega
    have:=Int.lt_of_mul_lt_mul_right h10 (by omega)
    omega
end
section
variable {K J:Nat} {lo hi V p:Int}
theorem InV.shift (h:InV K lo hi V) (hp:0≤p - K+J) (hl:0≤lo+p+J):InV J (lo+p) (hi+p) (sv J V (p - K)):=by
  obtain ⟨a,b,⟨u,hu⟩,c⟩:=h;have hpos:0≤hi+p+J:=by omega
  refine ⟨hl,hpos,⟨u,?_⟩,?_⟩
  · rw [hu];unfold sv
    rw [Int.mul_assoc,←Int.pow_add];congr 2;omega
  · rw [jd3,show (hi+p+J).toNat=(hi+K).toNat+(p - K+J).toNat from by omega,Nat.pow_add]
    exact Nat.mul_lt_mul_of_pos_right c (Nat.two_pow_pos _)
theorem InV.of_near {X L:Int} {h:Int} (hh:0≤h) (hX:X.natAbs<2^(h+J).toNat) (hL:(L - X).natAbs<2^J):L.natAbs<2^(h+1+J).toNat:=by
  have h1:2^J≤2^(h+J).toNat:=Nat.pow_le_pow_right (by omega) (by omega);rw [show (h+1+(J:Int)).toNat=(h+J).toNat+1 from by omega,Nat.pow_succ]
  omega
theorem InV.floor (h:InV K lo hi V) (hKJ:K≤J) (hp:0≤p - K+J) (hl:0≤lo+p+J) (hh:0≤hi+p):InV J 0 (hi+p+1) (sv J (vFloor K V p) 0)∧InV J 0 (hi+p+1) (sv J (vCeil K V p) 0):=by
  have hX:=h.shift hp hl;have hD:(0:Int)<2^J:=jb3 J;have hfl:=j4e (X:=sv J V (p - K)) hD (jog hKJ hp) (jzm hKJ hp);have hs:∀u,sv J u 0=u*2^J:=by intro u;unfold sv;rw [show (0+(J:Int)).toNat=J from by omega]
  have hDn:((2:Int)^J)=((2^J:Nat):Int):=natpow J;refine ⟨⟨by omega,by omega,⟨_,rfl⟩,?_⟩,⟨by omega,by omega,⟨_,rfl⟩,?_⟩⟩
  · exact InV.of_near hh hX.2.2.2 (by rw [hs];omega)
  · exact InV.of_near hh hX.2.2.2 (by rw [hs];omega)
end
end
end
section
section
open Go.RowKit
open L (val dig nth)
section
variable {K J:Nat} {V V' lo hi:Int}
theorem InV.lg (h:InV K lo hi V) (h0:V≠0):lo≤Proofs.YtcjklbakhlehhaaGreat.lg K V∧Proofs.YtcjklbakhlehhaaGreat.lg K V<hi:=by
  obtain ⟨a,b,⟨u,hu⟩,c⟩:=h;refine ⟨(j1q h0 a).2 ?_,(j33 h0 b).2 c⟩;rw [hu,jd3];have:u≠0:=by rintro rfl;exact h0 (by rw [hu,jf3])
  exact Nat.le_mul_of_pos_left _ (by omega)
end
end
end
section
section
open Go.RowKit
open L (val dig nth)
section
variable {z x V:Int} {n:Int}
end
end
end
section
section
open Go.RowKit Go.ChangeShapes Go.WideShapes
open L (val dig nth)
theorem jhl {n:Int} (h:(Lit.int .u64 n).wf=true):0≤n∧n<18446744073709551616:=by
  have:=bounds_u64 h
  omega
section
variable {H:Type} {enc:TypeId×Value→H} {w:World} {base:Nat} {spare:Nat→Bool} {held:Bool}
set_option maxRecDepth 100000 in
theorem jp8 {fuel:Nat} {c:Value} {x:DataW H×List MemPlace} (h:DataW.trod enc Tryz.prog w base spare held fuel 22 [c]=some x):∃A l k L,c=.slice A l k∧Nums w 0 (.slice A l k) L:=by
  rcases open_ints Tryz.underlying22 Tryz.underlying63 (by kernel_rfl) h with ⟨hcs,-⟩ | ⟨a,len,cap,zs,hcs,-,hl,hm,hz,-,hcell,hwz⟩
  · injection hcs with hcs
    subst hcs;exact ⟨none,0,0,[],rfl,Nums.nil _ _⟩
  · injection hcs with hcs
    subst hcs;have hzl:len≤zs.length:=by rw [hz];split <;> omega
    refine ⟨some a,len,cap,(zs.take len).map Int.toNat,rfl,?_⟩;have hlen:((zs.take len).map Int.toNat).length=len:=by simp;omega
    refine ⟨some a,cap,by rw [hlen],⟨by omega,fun h0=>absurd h0 (Nat.lt_irrefl 0)⟩,by simpa only [maxLen] using hm,?_,?_⟩
    · intro y hy
      obtain ⟨n,hn,rfl⟩:=List.mem_map.1 hy;have:=jhl (hwz n (List.mem_of_mem_take hn));unfold W;omega
    · intro h0
      rw [hlen] at h0;have h00:=hcell 0 (by omega);have hspot:(a.add 0).spot=none:=World.cell?_spot h00;obtain ⟨b,off,spot⟩:=a;have hs:spot=none:=by simpa [Addr.add] using hspot
      subst hs;refine ⟨b,off,rfl,Nat.zero_le _,?_,?_⟩
      · have:=World.block_lt_of_cell? _ _ h00
        simpa [Addr.add] using this
      · intro i hi
        rw [hlen] at hi;have hi':=hcell i (by omega);have hadd:(⟨b,off,none⟩:Addr).add i=⟨b,off+i,none⟩:=by unfold Addr.add;split <;> simp_all
        rw [hadd] at hi';rw [hi'];have hb:=jhl (hwz (zs.getD i 0) (by rw [List.getD_eq_getElem?_getD,List.getElem?_eq_getElem (by omega)];exact List.getElem_mem _))
        congr 2
        rw [L.nth_def,List.getD_eq_getElem?_getD (l:=List.map _ _),List.getElem?_map,List.getElem?_take_of_lt hi,List.getElem?_eq_getElem (by omega)];rw [List.getD_eq_getElem?_getD,List.getElem?_eq_getElem (by omega)] at hb ⊢;simp only [Option.map_some,Option.getD_some] at hb ⊢
        omega
set_option maxRecDepth 100000 in
theorem jct {r:Reach} {b0:Nat} {v:Value} {d:DataW H} {p:List MemPlace} (hv:Value.okWide Tryz.prog w r b0 26 v) (h:DataW.Trod enc Tryz.prog w base spare held 26 v d p) :
    ∃n A l k x,v=.agg #[.bool n,.slice A l k,.int .i64 x]∧(∃L,Nums w 0 (.slice A l k) L)∧(Lit.int .i64 x).wf=true:=by
  obtain ⟨cs,rfl,hsz⟩:=okWide_struct Tryz.underlying26 hv;obtain ⟨l⟩:=cs;have hl3:l.length=3:=hsz
  obtain ⟨c0,c1,c2,rfl⟩:∃a b c,l=[a,b,c]:=by
    match l,hl3 with
    | [a,b,c],_=>exact ⟨a,b,c,rfl⟩
  obtain ⟨fuel,hf⟩:=h;obtain ⟨xs,n,-,-,-,hlen,hg⟩:=DataW.trod_struct Tryz.underlying26 hf;have g0:=hg 0 _ rfl;have g1:=hg 1 _ rfl;clear hg;have hl2:xs.length=2:=hlen
  obtain ⟨y0,y1,rfl⟩:∃a b,xs=[a,b]:=by
    match xs,hl2 with
    | [a,b],_=>exact ⟨a,b,rfl⟩
  have g0':DataW.trod enc Tryz.prog w base spare held n 24 [c0,c1]=some y0:=g0;have g1':DataW.trod enc Tryz.prog w base spare held n 3 [c2]=some y1:=g1;clear g0 g1;obtain ⟨xs',n',-,-,-,hlen',hg'⟩:=DataW.trod_struct Tryz.underlying24 g0';have i0:=hg' 0 _ rfl;have i1:=hg' 1 _ rfl;clear hg';have hl2':xs'.length=2:=hlen'
  obtain ⟨u0,u1,rfl⟩:∃a b,xs'=[a,b]:=by
    match xs',hl2' with
    | [a,b],_=>exact ⟨a,b,rfl⟩
  have i0':DataW.trod enc Tryz.prog w base spare held n' 4 [c0]=some u0:=i0;have i1':DataW.trod enc Tryz.prog w base spare held n' 22 [c1]=some u1:=i1;clear i0 i1;obtain ⟨A,ll,k,L,rfl,hL⟩:=jp8 i1';obtain ⟨b,e0,-⟩:=DataW.trod_bool Tryz.underlying4 i0';obtain ⟨x,e1,-,wx⟩:=DataW.trod_int Tryz.underlying3 g1';simp at e0 e1;subst e0 e1;exact ⟨b,A,ll,k,x,rfl,⟨L,hL⟩,wx⟩
end
end
end
end
end Go.Proofs.YtcjklbakhlehhaaGreat