/- Plain: laws of e and of logarithms: steep, injective; a logarithm is inverted; the logarithm of a product. V: hairlinelaw08.ElemAdds. -/
import Derived.Test.YtcjklbakhlehhaaGreatAx
import Derived.Test.YtcjklbakhlehhaaGreatEn
set_option linter.unusedVariables false
set_option linter.unusedSimpArgs false
namespace Go.Proofs.YtcjklbakhlehhaaGreat
section
section
namespace An
theorem jx8 (B:Rat) (hB:0≤B):∃c:Rat,0<c∧Lim fun n _=>∀x,Bd B x→c≤En n x:=by
  obtain ⟨M,M0,hM⟩:=bounds B;have hp:(0:Rat)<2*M+2:=by grind
  have hi:=Rat.inv_pos.2 hp;have inv:=Rat.mul_inv_cancel (2*M+2) (by grind)
  generalize (2*M+2)⁻¹=c at hi inv
  refine ⟨c,hi,?_⟩
  obtain ⟨d,d0,d1,d2⟩:∃d:Rat,0<d∧d≤1/4∧d*M≤1/4:=by
    refine ⟨c*(1/2),by grind,?_,?_⟩
    · have:=Rat.mul_nonneg (Rat.le_of_lt hi) M0
      have e:(2*M+2)*c=2*(c*M)+2*c:=by grind
      grind
    · have e:(2*M+2)*c=2*(c*M)+2*c:=by grind
      have e2:c*(1/2)*M=c*M*(1/2):=by grind
      have:=Rat.mul_nonneg (Rat.le_of_lt hi) M0
      grind
  intro ε _;obtain ⟨N,hN⟩:=((jmg B).and (jip B)) d d0;refine ⟨N,fun n hn x hx=>?_⟩;obtain ⟨h1,h2⟩:=hN n hn;have k:=(h1 x hx).1;have u:=h2 x hx;have v:=h2 (-x) hx.neg;have mu:=(hM n x hx).1;have mv:=(hM n (-x) hx.neg).1
  generalize En n x=a at *
  generalize En n (-x)=b at *
  by_cases hc:c≤a
  · exact hc
  · exfalso
    have eM:c*M≤1/2:=by
      have e:(2*M+2)*c=2*(c*M)+2*c:=by grind
      grind
    by_cases ha:0≤a
    · by_cases hb:0≤b
      · have t1:=jb0 ha (show a≤c by grind) hb mv.2
        have e1:c*M≤1/2 - c:=by
          have e:(2*M+2)*c=2*(c*M)+2*c:=by grind
          grind
        grind
      · have t1:=Rat.mul_nonneg ha (show 0≤-b by grind)
        have e:a * -b = -(a*b):=by grind
        grind
    · by_cases hb:0≤b
      · have t1:=Rat.mul_nonneg (show 0≤-a by grind) hb
        have e : -a*b = -(a*b):=by grind
        grind
      · have t1:=jb0 (show 0≤-a by grind) (show -a≤d by grind) (show 0≤-b by grind) (show -b≤M by unfold Bd at mv;grind)
        have e : -a * -b=a*b:=by grind
        grind
theorem jqw (B:Rat) (hB:0≤B):∃c:Rat,0<c∧Lim fun n _=>∀x y,Bd B x→Bd B y→x≤y→c*(y - x)≤En n y - En n x:=by
  obtain ⟨c,c0,h⟩:=jx8 B hB;refine ⟨c,c0,h.prev.mono ?_⟩;rintro _ ε he ⟨n,rfl,hl⟩ x y hx hy hxy;exact (jki n).rise hxy fun z a b=>hl z (by unfold Bd at *;grind)
theorem jx9 {B:Rat} (hB:0≤B) {f g:Nat→Rat} (hf:∀m,Bd B (f m)) (hg:∀m,Bd B (g m)) (h:Lim fun m ε=>Bd ε (En m (f m) - En m (g m))):Lim fun m ε=>Bd ε (f m - g m):=by
  obtain ⟨c,c0,hs⟩:=jqw B hB;have ci:=Rat.inv_pos.2 c0;have inv:=Rat.mul_inv_cancel c (by grind)
  generalize c⁻¹=i at ci inv
  refine (h.and hs).trim (K:=i) (Rat.le_of_lt ci) ?_;rintro m δ hd ⟨k,s⟩ ε hε
  rcases Rat.le_total (a:=f m) (b:=g m) with hc | hc
  · have t:=s _ _ (hf m) (hg m) hc
    have t2:=Rat.mul_le_mul_of_nonneg_left (show c*(g m - f m)≤δ by unfold Bd at k;grind) (Rat.le_of_lt ci);have e:i*(c*(g m - f m))=g m - f m:=by grind
    unfold Bd;grind
  · have t:=s _ _ (hg m) (hf m) hc
    have t2:=Rat.mul_le_mul_of_nonneg_left (show c*(f m - g m)≤δ by unfold Bd at k;grind) (Rat.le_of_lt ci);have e:i*(c*(f m - g m))=f m - g m:=by grind
    unfold Bd;grind
theorem z_in {x z:Rat} (x1:1≤x) (x2:x≤2) (hz:z*(x+1)=x - 1):0≤z∧z≤1/3:=by
  refine ⟨?_,?_⟩
  · by_cases c:0≤z
    · exact c
    · have:=Rat.mul_pos (show 0 < -z by grind) (show 0<x+1 by grind);grind
  · refine Rat.le_of_mul_le_mul_right (c:=x+1) ?_ (by grind)
    grind
theorem jg2 {z:Rat} (h0:0≤z) (h1:z≤1/3) {e:Int} {K:Rat} (K0:0≤K) (hK:Bd K (e:Rat)) (m:Nat):Bd (K+1) (logF z e m):=by
  have h:=H_bd h0 (show z≤1/2 by grind) m;have l:=ln_bd m;have t:=hK.mul (show Bd 1 (lnn m) by unfold Bd;grind);unfold logF;unfold Bd at *
  grind
theorem jg3 {x z:Rat} (e:Int) (x1:1≤x) (x2:x≤2) (hz:z*(x+1)=x - 1):Lim fun m ε=>Bd ε (En m (logF z e m) - x*two e):=by
  obtain ⟨h0,h1⟩:=z_in x1 x2 hz;obtain ⟨M,M0,hM⟩:=bounds 2;obtain ⟨K,K0,hK⟩:=jdy (e:Rat);have tp:=two_pos e;have tw:Bd (two e) (two e):=by unfold Bd;grind
  refine ((exp_atanh.and (jmg 2)).and (je5 e (K+1))).trim (K:=1+4*(M+1)*two e) (by have:=Rat.mul_nonneg M0 (Rat.le_of_lt tp);grind) ?_;rintro m δ hd ⟨⟨a,b⟩,r⟩ ε hε;have a:=a z h0 h1;have hb:=H_bd h0 (show z≤1/2 by grind) m;have b2:Bd 2 (2*Hn m z):=by unfold Bd;grind
  have b:=b (2*Hn m z) b2;have r:=r _ (jg2 h0 h1 K0 hK m);have mu:=(hM m _ b2).1;have er:logF z e m - (e:Rat)*lnn m=2*Hn m z:=by unfold logF;grind
  rw [er] at r
  generalize En m (2*Hn m z)=u at *
  generalize En m (-(2*Hn m z))=v at *
  generalize En m (logF z e m)=w at *
  have f:=((b.mul (show Bd 2 (1+z) by unfold Bd;grind)).sub (mu.mul a));have e1:(u*v - 1)*(1+z) - u*(v*(1+z) - (1 - z))=u*(1 - z) - (1+z):=by grind
  rw [e1] at f;have f2:=f.mul (show Bd 3 (x+1) by unfold Bd;grind);have e2:(u*(1 - z) - (1+z))*(x+1)=2*(u - x):=by grind
  rw [e2] at f2;have f3:Bd ((δ*2+M*δ)*3*(1/2)) (u - x):=by unfold Bd at *;grind
  have f4:=(f3.mul tw).sub r;have e3:(u - x)*two e - (u*two e - w)=w - x*two e:=by grind
  rw [e3] at f4;have p1:=Rat.mul_nonneg (Rat.mul_nonneg M0 (Rat.le_of_lt tp)) (Rat.le_of_lt hd);have p2:=Rat.mul_nonneg (Rat.le_of_lt tp) (Rat.le_of_lt hd);exact f4.mono (by grind)
theorem jya {x1 z1 x2 z2 x3 z3:Rat} {e1 e2 e3:Int} (a1:1≤x1) (b1:x1≤2) (h1:z1*(x1+1)=x1 - 1) (a2:1≤x2) (b2:x2≤2) (h2:z2*(x2+1)=x2 - 1) (a3:1≤x3) (b3:x3≤2) (h3:z3*(x3+1)=x3 - 1)
    (hp:x3*two e3=x1*two e1*(x2*two e2)):Lim fun m ε=>Bd ε (logF z3 e3 m - (logF z1 e1 m+logF z2 e2 m)):=by
  obtain ⟨p1,q1⟩:=z_in a1 b1 h1;obtain ⟨p2,q2⟩:=z_in a2 b2 h2;obtain ⟨p3,q3⟩:=z_in a3 b3 h3;obtain ⟨K1,k1,hK1⟩:=jdy (e1:Rat);obtain ⟨K2,k2,hK2⟩:=jdy (e2:Rat);obtain ⟨K3,k3,hK3⟩:=jdy (e3:Rat);have l1:=jg2 p1 q1 k1 hK1;have l2:=jg2 p2 q2 k2 hK2;have l3:=jg2 p3 q3 k3 hK3;refine jx9 (B:=K1+K2+K3+2) (by grind) (fun m=>(l3 m).mono (by grind)) (fun m=>((l1 m).add (l2 m)).mono (by grind)) ?_;obtain ⟨M,M0,hM⟩:=bounds (K1+K2+K3+2);obtain ⟨X,X0,hX⟩:=jdy (x1*two e1);refine (((jg3 e1 a1 b1 h1).and (jg3 e2 a2 b2 h2)).and ((jg3 e3 a3 b3 h3).and (exp_add (K1+K2+K3+2)))).trim (K:=2+M+X) (by grind) ?_;rintro m δ hd ⟨⟨u1,u2⟩,⟨u3,ad⟩⟩ ε hε;have ad:=ad (logF z1 e1 m) (logF z2 e2 m) ((l1 m).mono (by grind)) ((l2 m).mono (by grind));have m2:=(hM m (logF z2 e2 m) ((l2 m).mono (by grind))).1;have t:=(u3.sub ad).sub ((u1.mul m2).add (hX.mul u2));rw [hp] at t;have e:En m (logF z3 e3 m) - x1*two e1*(x2*two e2) - (En m (logF z1 e1 m+logF z2 e2 m) - En m (logF z1 e1 m)*En m (logF z2 e2 m)) - ((En m (logF z1 e1 m) - x1*two e1)*En m (logF z2 e2 m)+x1*two e1*(En m (logF z2 e2 m) - x2*two e2))=En m (logF z3 e3 m) - En m (logF z1 e1 m+logF z2 e2 m):=by grind
  rw [e] at t;exact t.mono (by grind)
theorem jus {B M:Rat} (hM:∀n x,Bd B x→Bd M (En n x)) (M0:0≤M) (m:Nat) {x y:Rat} (hx:Bd B x) (hy:Bd B y) (h:x≤y):En m y - En m x≤M*(y - x):=by
  rcases m with _ | n
  · show (0:Rat) - 0≤_
    have:=Rat.mul_nonneg M0 (show 0≤y - x by grind)
    grind
  · exact (jki n).fall h fun z a b=>(hM n z (by unfold Bd at *;grind)).2
theorem jwk {B:Rat} (hB:0≤B) {f g:Nat→Rat} (hf:∀m,Bd B (f m)) (hg:∀m,Bd B (g m)) (h:Lim fun m ε=>f m≤g m+ε):Lim fun m ε=>En m (f m)≤En m (g m)+ε:=by
  obtain ⟨M,M0,hM⟩:=bounds (B+1);refine ((h.small (c:=1) (by grind)).and (jur (B+1))).trim (K:=M+1) (by grind) ?_;rintro m δ hd ⟨⟨δ',d0,d1,d2,k⟩,mo⟩ ε hε;have f1:=(hf m).mono (show B≤B+1 by grind);have g1:=(hg m).mono (show B≤B+1 by grind);have g2:Bd (B+1) (g m+δ'):=by have:=hg m;unfold Bd at *;grind
  have a:=mo _ _ f1 g2 k;have b:=jus (fun n x hx=>(hM n x hx).1) M0 m g1 g2 (by grind);have c:=Rat.mul_le_mul_of_nonneg_left d1 M0;have e:M*(g m+δ' - g m)=M*δ':=by grind
  rw [e] at b
  grind
theorem exp2_add {B x y:Rat} (hx:Bd B x) (hy:Bd B y):Lim fun m ε=>Bd ε (En m ((x+y)*lnn m) - En m (x*lnn m)*En m (y*lnn m)):=
  (exp_add B).mono fun m ε he h=>by
    have l:=ln_bd m;have bl:Bd 1 (lnn m):=by unfold Bd;grind
    have:=h (x*lnn m) (y*lnn m) ((hx.mul bl).mono (by grind)) ((hy.mul bl).mono (by grind));rw [show x*lnn m+y*lnn m=(x+y)*lnn m by grind] at this;exact this
end An
end
end
section
section
open Go.RowKit Go.Shelf
namespace An
theorem Tells.size {F:Nat→Rat} {lo hi k q:Int} (h:Tells F lo hi k q) (hF:∀m,Bd (two 50) (F m)) (k0 : -1600≤k) (k1:k≤1600) (q0:0≤q) (q1:q≤800) :
    Bd (two 3000) (((if k<0 then lo / 2^(-k).toNat else lo*2^k.toNat:Int)):Rat)∧Bd (two 3000) (((if k<0 then 0 - (0 - hi) / 2^(-k).toNat else hi*2^k.toNat:Int)):Rat):=by
  obtain ⟨N,hN⟩:=h 1 (by grind);obtain ⟨v,⟨n1,n2,n3,n4⟩,b⟩:=hN N (Nat.le_refl _);have bu:=b.add (hF N);rw [show v*two k - F N+F N=v*two k by grind] at bu;have t50:=two_le_two (show (0:Int)≤50 by decide);rw [two_zero] at t50
  have dq:Bd (two 800) (DD q):=by
    rw [←two_DD q0];have:=two_pos q;have:=two_le_two q1;unfold Bd;grind
  have e51:two 51=2*two 50:=by rw [show (51:Int)=1+50 from rfl,two_add,jmk]
  have ud:=bu.mul dq;have tk:two k≤two 1600:=two_le_two k1;have tp:=two_pos k;have p8:=two_pos 800
  have b1:Bd (two 851) (v*two k*DD q):=by
    have e:two 851=two 51*two 800:=by rw [←two_add];rfl
    refine ud.mono ?_;rw [e,e51];exact Rat.mul_le_mul_of_nonneg_right (by grind) (Rat.le_of_lt p8)
  -- the ends, times the power of two, are within so much
  have s1:Bd (two 851+2*two 1600) ((lo:Rat)*two k):=by
    have m1:=Rat.mul_le_mul_of_nonneg_right n1 (Rat.le_of_lt tp);have m2:=Rat.mul_le_mul_of_nonneg_right n4 (Rat.le_of_lt tp);unfold Bd at *;grind
  have s2:Bd (two 851+2*two 1600) ((hi:Rat)*two k):=by
    have m1:=Rat.mul_le_mul_of_nonneg_right n2 (Rat.le_of_lt tp);have m2:=Rat.mul_le_mul_of_nonneg_right n3 (Rat.le_of_lt tp);unfold Bd at *;grind
  have big:two 851+2*two 1600+1≤two 3000:=by
    have a1:=two_le_two (show (851:Int)≤1600 by decide);have a2:=two_le_two (show (0:Int)≤1600 by decide);have a3:=two_le_two (show (1602:Int)≤3000 by decide);have a4:two 1602=2*(2*two 1600):=by rw [show (1602:Int)=1+(1+1600) from rfl,two_add,two_add,jmk]
    rw [two_zero] at a2
    grind
  by_cases c:k<0
  · rw [if_pos c,if_pos c]
    have e:(((2:Int)^(-k).toNat:Int):Rat)=two (-k):=(two_DD (by omega)).symm;have i:=two_inv' k
    have near:∀a:Int,Bd 1 (((a / 2^(-k).toNat:Int):Rat) - (a:Rat)*two k):=fun a=>by
      have f:=fl (n:=a) (d:=2^(-k).toNat) (Int.pow_pos (by omega));rw [e] at f;have m1:=Rat.mul_le_mul_of_nonneg_right f.1 (Rat.le_of_lt tp);have m2:=Rat.mul_le_mul_of_nonneg_right f.2 (Rat.le_of_lt tp);have e1:((a / 2^(-k).toNat:Int):Rat)*two (-k)*two k=((a / 2^(-k).toNat:Int):Rat):=by grind
      have e2:(((a / 2^(-k).toNat:Int):Rat)*two (-k)+two (-k))*two k=((a / 2^(-k).toNat:Int):Rat)+1:=by grind
      rw [e1] at m1;rw [e2] at m2;unfold Bd;grind
    constructor
    · have t:=(near lo).add s1
      rw [show ((lo / 2^(-k).toNat:Int):Rat) - (lo:Rat)*two k+(lo:Rat)*two k=((lo / 2^(-k).toNat:Int):Rat) by grind] at t;exact t.mono (by grind)
    · have t:=(near (0 - hi)).sub s2
      have e1:((0 - (0 - hi) / 2^(-k).toNat:Int):Rat) = -(((0 - hi) / 2^(-k).toNat:Int):Rat):=by rw [Rat.intCast_sub];show (0:Rat) - _=_;grind
      have e2:((0 - hi:Int):Rat) = -(hi:Rat):=by rw [Rat.intCast_sub];show (0:Rat) - _=_;grind
      rw [e2] at t;rw [e1];unfold Bd at *;grind
  · rw [if_neg c,if_neg c,jcm (by omega),jcm (by omega)]
    exact ⟨s1.mono (by grind),s2.mono (by grind)⟩
theorem E16 (m:Nat) {r:Rat} (h:Bd 16 r):Bd (two 50) (En m r):=by
  have s:=jx6 (B:=16) (by grind) (m:=32) (fun n hn=>by
    have:((32:Nat):Rat)≤((n+1:Nat):Rat):=jbr (by omega);rw [show ((32:Nat):Rat)=32 from rfl] at this
    grind) m
  have e:En 32 (16:Rat)+2*tE 32 16≤two 50:=by
    show En 32 (16:Rat)+2*tE 32 16≤(2:Rat)^50
    decide +kernel
  exact (P_bd (a:=fE) (b:=fE) bE h m).mono (by have:P fE m 16=En m 16:=rfl;grind)
theorem j3q {v:Int} {n:Nat} (h:v≠0) {k:Int} (e:v=k*2^n):n≤tz v.natAbs:=by
  have k0:k≠0:=fun c=>h (by rw [e,c,Int.zero_mul])
  rw [e,Int.natAbs_mul,natAbs_pow,jkx _ _ (by omega)]
  omega
theorem abs_two {v:Int} {k:Int} (hk:0≤k+4000) (h:Bd (two k) (rv v)):v≤2^(k+4000).toNat∧-v≤2^(k+4000).toNat:=by
  have e:=je1 v;have p:=two_pos 4000;have t:two k*two 4000=two (k+4000):=(two_add _ _).symm;have m1:=Rat.mul_le_mul_of_nonneg_right h.1 (Rat.le_of_lt p);have m2:=Rat.mul_le_mul_of_nonneg_right h.2 (Rat.le_of_lt p);have dz:(((2:Int)^(k+4000).toNat:Int):Rat)=two (k+4000):=(two_DD hk).symm
  constructor
  · refine rat_le ?_
    rw [dz,←t,←e];exact m2
  · refine rat_le ?_
    rw [Rat.intCast_neg,dz,←t,←e];grind
theorem pE_low {v:Int} {n:Nat} {k:Int} (hn:2800≤n) (e:v=k*2^n) {j:Int} (hj:0≤j) (hj2:j≤3000) (h:Bd (two j) (rv v)) : -1200≤pE v (0 - 4000)∧pE v (0 - 4000)≤4000:=by
  unfold pE
  by_cases c:v=0
  · rw [if_pos c];omega
  · rw [if_neg c]
    have g:=j3q c e;have u:=abs_two (by omega) h
    have l:tz v.natAbs≤(j+4000).toNat+1:=by
      refine jp6 _ _ ?_
      have:((v.natAbs:Nat):Int)≤((2^(j+4000).toNat:Nat):Int):=by
        rw [Int.natCast_pow];have u1:=u.1;have u2:=u.2;clear u h e
        show _≤(2:Int)^(j+4000).toNat
        generalize (2:Int)^(j+4000).toNat=d at *
        omega
      have h2:=Int.ofNat_le.1 this;rw [Nat.pow_succ];have h3:=Nat.two_pow_pos (j+4000).toNat;clear u h e this
      generalize 2^(j+4000).toNat=d at *
      omega
    clear u h e
    omega
theorem sm_low (z:Int) : -125≤smE z:=by
  have hl:=jw4 z;have nb:nbits (sm2 z).natAbs≤128:=(jbd _ _).2 (by rw [show (2:Nat)^128=W^2 from by decide +kernel];exact hl);unfold smE nE pE cM cE;have xl : -125≤smX z∧smX z≤3:=by unfold smX;omega
  by_cases c:smX z < -4000∨4000<smX z∨sm2 z=0
  · rw [if_pos c,if_pos rfl];omega
  · simp only [if_neg c]
    rw [if_neg (by omega)]
    omega
theorem av_mult {a b:Int} {n:Nat} (h0 : -4000≤b) (h1:b≤4000) (h:(n:Int)≤b+4000):∃k,av 4000 a b=k*2^n:=by
  rw [ju5 h0 h1];refine ⟨a*2^((b+(4000:Nat)).toNat - n),?_⟩;unfold sv;rw [Int.mul_assoc,←Int.pow_add]
  congr 2
  omega
theorem sm_sum {z y:Int} {r s:Rat} (N:Nrm (smM z) (smE z) r) (M:Nrm (smM y) (smE y) s) (hr:Bd 8 r) (hs:Bd 8 s) :
    Nrm (pM (av 4000 (smM z) (smE z)+av 4000 (smM y) (smE y))) (pE (av 4000 (smM z) (smE z)+av 4000 (smM y) (smE y)) (0 - 4000)) (r+s)∧Bd (two 4) (rv (av 4000 (smM z) (smE z)+av 4000 (smM y) (smE y))):=by
  have a0:=sm_low z;have a1:=N.b1;have b0:=sm_low y;have b1:=M.b1;obtain ⟨k,ek⟩:=av_mult (a:=smM z) (b:=smE z) (n:=3800) (by omega) a1 (by omega);obtain ⟨j,ej⟩:=av_mult (a:=smM y) (b:=smE y) (n:=3800) (by omega) b1 (by omega);have t4:two 4=16:=by show (2:Rat)^4=16;decide +kernel
  have hb:Bd (two 4) (rv (av 4000 (smM z) (smE z)+av 4000 (smM y) (smE y))):=by
    have e:rv (av 4000 (smM z) (smE z)+av 4000 (smM y) (smE y))=r+s:=by
      rw [←N.rr,←M.rr];unfold rv;rw [Rat.intCast_add];grind
    rw [e,t4];exact (hr.add hs).mono (by grind)
  have p:=pE_low (v:=av 4000 (smM z) (smE z)+av 4000 (smM y) (smE y)) (n:=3800) (k:=k+j) (by omega) (by rw [ek,ej,Int.add_mul]) (j:=4) (by omega) (by omega) hb;exact ⟨N.add M p.1 p.2,hb⟩
end An
end
end
end Go.Proofs.YtcjklbakhlehhaaGreat