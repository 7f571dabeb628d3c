/- V: elem.At of sine and cosine, its answer by names: the facts, and all cases. -/
import Derived.Test.YtllgjggkchgpbaaGreatPx
import Derived.Test.YtllgjggkchgpbaaGreatAl
set_option linter.unusedVariables false
set_option linter.unusedSimpArgs false
namespace Go.Proofs.YtllgjggkchgpbaaGreat
open Go.RowKit Go.Shelf
namespace An
theorem pE_self {v:Int} {k:Int} (k0:0≤k) (k1:k≤4000) (h:rv v<two k) (hv:0<v) : -4000≤pE v (0 - 4000)∧pE v (0 - 4000)≤4000:=by
  unfold pE;rw [if_neg (by omega)];have up:=jz4 (v:=v) (k:=k) (by omega) h;have t:=jz3 (v:=v) (n:=(k+4000).toNat) (by omega) up;clear up
  omega
def yQ (z x:Int):Rat:=if xV z x<0 then - xQ z x else xQ z x
theorem w_rv {z x:Int} (hb:Bd 1024 (xQ z x)):rv (wV z x)=yQ z x∧0≤yQ z x∧yQ z x≤1024:=by
  unfold wV yQ
  by_cases c:xV z x<0
  · rw [if_pos c,if_pos c]
    have rp:=rv_pos (v := -(xV z x)) (by omega);rw [rv_neg] at rp;have xe:rv (xV z x)=xQ z x:=rfl;rw [xe] at rp;have t11:(1024:Rat)<two 11:=by show (1024:Rat)<(2:Rat)^11;decide +kernel
    have p:=pE_self (v := -(xV z x)) (k:=11) (by omega) (by omega) (by rw [rv_neg,xe];unfold Bd at hb;grind) (by omega);have m:=moved (V := -(xV z x)) (p:=0) p.1 p.2;rw [jcz,Rat.mul_one,rv_neg,xe] at m;unfold Bd at hb;refine ⟨m,by grind,by grind⟩
  · rw [if_neg c,if_neg c]
    have:=jg3 (v:=xV z x) (by omega);unfold Bd at hb;exact ⟨rfl,this,hb.2⟩
structure WOK (z x q:Int):Prop where
  y0:0≤yQ z x
  y1:yQ z x≤1024
  l0:0≤wL z x q
  lo:((wL z x q:Int):Rat)≤yQ z x*DD (q+40)
  hi:yQ z x*DD (q+40)≤((wH z x q:Int):Rat)
  le:wL z x q≤wH z x q
  l1:wH z x q≤wL z x q+1
theorem w_ok {z x q:Int} (q0:0≤q) (q1:q≤800) (hb:Bd 1024 (xQ z x)):WOK z x q:=by
  obtain ⟨e,y0,y1⟩:=w_rv hb;have f:=jem (V:=wV z x) (w:=q+40) (by omega) (by omega);have c:=jjq (V:=wV z x) (w:=q+40) (by omega) (by omega);rw [e] at f c;refine ⟨y0,y1,?_,f.1,c.1,c.2.1,c.2.2⟩
  by_cases k:0≤wL z x q
  · exact k
  · have:=(jkm (v:=wV z x) (w:=q+40) (by omega) (by omega)).1 (show wL z x q<0 by omega)
    have r:=rv_pos (v := -(wV z x)) (by omega);rw [rv_neg,e] at r
    grind
theorem w_ends {z x q:Int} (q0:0≤q) (q1:q≤800) (hb:Bd 1024 (xQ z x)) (b:Bool):(if b then cosLo (wT z x q) (q+40) (n8 q) else sinLo (wT z x q) (q+40) (n8 q)) - wG z x q≤(if b then cosHi (wT z x q) (q+40) (n8 q) else sinHi (wT z x q) (q+40) (n8 q))+wG z x q:=by
  have W:=w_ok q0 q1 hb;have wc:=jkl b q0 q1 W.y0 W.y1 W.l0 W.lo W.hi W.le W.l1 (k:=wK z x q) rfl (w:=q+40) rfl (tl:=wT z x q) (th:=wH z x q - hLoZ (q+40)*wK z x q) rfl rfl;obtain ⟨N,hN⟩:=wc 1 (by grind);obtain ⟨v,n,-⟩:=hN N (Nat.le_refl _);exact rat_le (Rat.le_trans n.1 n.2.1)
end An
namespace V
section
variable (h:Nat→List Int→Int)
theorem jwu {ρ:Nat→Int}:(wvlo (decide (An.xV (ρ 0) (ρ 1)<0))).den (FA h) ρ=An.wL (ρ 0) (ρ 1) (ρ 2)∧(wvhi (decide (An.xV (ρ 0) (ρ 1)<0))).den (FA h) ρ=An.wH (ρ 0) (ρ 1) (ρ 2)∧(An.xV (ρ 0) (ρ 1)<0→(wvE (decide (An.xV (ρ 0) (ρ 1)<0))).den (FA h) ρ=pE (-(An.xV (ρ 0) (ρ 1))) (-(4000:Nat)))∧(¬ An.xV (ρ 0) (ρ 1)<0→(wvE (decide (An.xV (ρ 0) (ρ 1)<0))).den (FA h) ρ=nE (ρ 0) (ρ 1)):=by
  unfold An.wL An.wH An.wV
  by_cases c:An.xV (ρ 0) (ρ 1)<0
  · rw [decide_eq_true c,if_pos c]
    exact ⟨rfl,rfl,fun _=>rfl,fun k=>absurd c k⟩
  · rw [decide_eq_false c,if_neg c]
    exact ⟨rfl,rfl,fun k=>absurd k c,fun _=>rfl⟩
theorem jwv {ρ:Nat→Int}:wvqL.den (FA h) ρ=An.hLoZ (ρ 2+40)∧wvqH.den (FA h) ρ=An.hHiZ (ρ 2+40):=⟨rfl,rfl⟩
theorem jra {ρ:Nat→Int} {ng:Bool} (hn:ng=decide (An.xV (ρ 0) (ρ 1)<0)):(wvk ng).den (FA h) ρ=An.wK (ρ 0) (ρ 1) (ρ 2)∧(wvt ng).den (FA h) ρ=An.wT (ρ 0) (ρ 1) (ρ 2)∧(wvg ng).den (FA h) ρ=An.wG (ρ 0) (ρ 1) (ρ 2):=by
  subst hn;obtain ⟨l1,l2,-,-⟩:=jwu h (ρ:=ρ);obtain ⟨q1,q2⟩:=jwv h (ρ:=ρ)
  generalize decide (An.xV (ρ 0) (ρ 1)<0)=ng at *
  have k:(wvk ng).den (FA h) ρ=(wvlo ng).den (FA h) ρ / wvqH.den (FA h) ρ:=rfl;rw [l1,q2] at k;have k':(wvk ng).den (FA h) ρ=An.wK (ρ 0) (ρ 1) (ρ 2):=k;have t:(wvt ng).den (FA h) ρ=(wvlo ng).den (FA h) ρ+(0 - wvqH.den (FA h) ρ*(wvk ng).den (FA h) ρ):=rfl;have u:(wvu ng).den (FA h) ρ=(wvhi ng).den (FA h) ρ+(0 - wvqL.den (FA h) ρ*(wvk ng).den (FA h) ρ):=rfl;have g:(wvg ng).den (FA h) ρ=(wvu ng).den (FA h) ρ - (wvt ng).den (FA h) ρ:=rfl;rw [l1,q2,k'] at t;rw [l2,q1,k'] at u;rw [u,t] at g;have t':(wvt ng).den (FA h) ρ=An.wT (ρ 0) (ρ 1) (ρ 2):=by rw [t];unfold An.wT;omega
  refine ⟨k',t',?_⟩;rw [g];unfold An.wG An.wT
  omega
theorem jrb {ρ:Nat→Int} {ng:Bool} (hn:ng=decide (An.xV (ρ 0) (ρ 1)<0)) (od:Bool):(wvLo ng od).den (FA h) ρ=(if od then cosLo (An.wT (ρ 0) (ρ 1) (ρ 2)) (ρ 2+40) (An.n8 (ρ 2)) else sinLo (An.wT (ρ 0) (ρ 1) (ρ 2)) (ρ 2+40) (An.n8 (ρ 2))) - An.wG (ρ 0) (ρ 1) (ρ 2)∧(wvHi ng od).den (FA h) ρ=(if od then cosHi (An.wT (ρ 0) (ρ 1) (ρ 2)) (ρ 2+40) (An.n8 (ρ 2)) else sinHi (An.wT (ρ 0) (ρ 1) (ρ 2)) (ρ 2+40) (An.n8 (ρ 2)))+An.wG (ρ 0) (ρ 1) (ρ 2):=by
  obtain ⟨-,t,g⟩:=jra h hn;have n:(2*((ρ 2+40) / 8+6)).toNat=2*An.n8 (ρ 2):=by unfold An.n8;omega
  cases od with
  | true=>
    have e1:(wvLo ng true).den (FA h) ρ=tu (rA (dCos (ρ 2+40)) ((wvt ng).den (FA h) ρ*(wvt ng).den (FA h) ρ) (1*2^(ρ 2+40).toNat)) (rB (dCos (ρ 2+40)) ((wvt ng).den (FA h) ρ*(wvt ng).den (FA h) ρ) (1*2^(ρ 2+40).toNat)) (2*((ρ 2+40) / 8+6)).toNat - (wvg ng).den (FA h) ρ:=rfl;have e2:(wvHi ng true).den (FA h) ρ=tu (rB (dCos (ρ 2+40)) ((wvt ng).den (FA h) ρ*(wvt ng).den (FA h) ρ) (1*2^(ρ 2+40).toNat)) (rA (dCos (ρ 2+40)) ((wvt ng).den (FA h) ρ*(wvt ng).den (FA h) ρ) (1*2^(ρ 2+40).toNat)) (2*((ρ 2+40) / 8+6)).toNat+rB (dCos (ρ 2+40)) ((wvt ng).den (FA h) ρ*(wvt ng).den (FA h) ρ) (1*2^(ρ 2+40).toNat) (2*((ρ 2+40) / 8+6)).toNat+(wvg ng).den (FA h) ρ:=rfl;rw [e1,e2,t,g,n];exact ⟨rfl,rfl⟩
  | false=>
    have e1:(wvLo ng false).den (FA h) ρ=tu (rA (dSin (ρ 2+40)) ((wvt ng).den (FA h) ρ*(wvt ng).den (FA h) ρ) ((wvt ng).den (FA h) ρ)) (rB (dSin (ρ 2+40)) ((wvt ng).den (FA h) ρ*(wvt ng).den (FA h) ρ) ((wvt ng).den (FA h) ρ)) (2*((ρ 2+40) / 8+6)).toNat - (wvg ng).den (FA h) ρ:=rfl;have e2:(wvHi ng false).den (FA h) ρ=tu (rB (dSin (ρ 2+40)) ((wvt ng).den (FA h) ρ*(wvt ng).den (FA h) ρ) ((wvt ng).den (FA h) ρ)) (rA (dSin (ρ 2+40)) ((wvt ng).den (FA h) ρ*(wvt ng).den (FA h) ρ) ((wvt ng).den (FA h) ρ)) (2*((ρ 2+40) / 8+6)).toNat+rB (dSin (ρ 2+40)) ((wvt ng).den (FA h) ρ*(wvt ng).den (FA h) ρ) ((wvt ng).den (FA h) ρ) (2*((ρ 2+40) / 8+6)).toNat+(wvg ng).den (FA h) ρ:=rfl;rw [e1,e2,t,g,n];exact ⟨rfl,rfl⟩
theorem j1q {ρ:Nat→Int} (q1:ρ 2≤800) {t:T} (h0:0≤t.den (FA h) ρ) (h1:t.den (FA h) ρ≤2*2^(ρ 2+40).toNat):allT (FA h) ρ (wvm t):=by
  have c:=An.pow_cap (w:=ρ 2+40) (by omega);have p:=An.twp (ρ 2+40);refine ⟨jad h0,jad (show _≤cap by omega),jad (show 0≤(t.den (FA h) ρ).sign from Int.sign_nonneg_iff.2 h0),jad (show cmpZ (t.den (FA h) ρ*2^(1:Int).toNat) (4*2^(ρ 2+40).toNat)≤0 from (jce _ _).2 ?_),trivial⟩;rw [show (2:Int)^(1:Int).toNat=2 from rfl]
  omega
def wOd (c z x q:Int):Bool:=decide ((An.wK z x q+c)%2=1)
def wBt (c z x q:Int):Bool:=decide (¬((An.wK z x q+c)%4 - (An.wK z x q+c)%2=0))
theorem j1r {c z x q:Int} (hc:c=0∨c=1) (hk:0≤An.wK z x q):An.wOdd c z x q=wOd c z x q∧An.wFl c z x q=wvS (decide (An.xV z x<0)) (wBt c z x q) c:=by
  obtain ⟨k,e⟩:∃k:Nat,An.wK z x q=k:=⟨(An.wK z x q).toNat,by omega⟩;unfold An.wOdd An.wFl wOd wBt wvS;rw [e,Int.toNat_natCast]
  have hct:decide (c.toNat=0)=decide (c=0):=by
    apply decide_eq_decide.2;omega
  rw [hct];refine ⟨decide_eq_decide.2 (by omega),?_⟩
  congr 1
  exact decide_eq_decide.2 (by omega)
theorem bd_eq' {F:Nat→List Int→Int} {ρ:Nat→Int} {a b:T} (k:a.den F ρ=b.den F ρ):(T.eq a b).bd F ρ=true:=by rw [jcy];exact beq_iff_eq.2 k
theorem jww {ρ:Nat→Int} {c:Int} (hc:c=0∨c=1) (hf:allT (FA h) ρ ([may9] ++ aF)):allT (FA h) ρ (wvX (decide (An.xV (ρ 0) (ρ 1)<0)) (wOd c (ρ 0) (ρ 1) (ρ 2)) (wBt c (ρ 0) (ρ 1) (ρ 2)) c):=by
  have hb:=jif h hf;have ha:=jab hf;obtain ⟨-,q0,q1,e0,e1⟩:=je2 h ha;have W:=An.w_ok q0 q1 hb;obtain ⟨k0,k8,t0,t1,-,-⟩:=An.wave_ok q0 q1 W.y1 W.l0 W.lo W.le W.l1 (An.wK (ρ 0) (ρ 1) (ρ 2)) rfl;obtain ⟨f1,f2,-,-,-⟩:=An.half_facts (w:=ρ 2+40) (by omega) (by omega);obtain ⟨g1,g2,-,-,-⟩:=An.ln_facts (w:=ρ 2+40) (by omega) (by omega);obtain ⟨l1,l2,l3,l4⟩:=jwu h (ρ:=ρ);obtain ⟨q1',q2'⟩:=jwv h (ρ:=ρ);obtain ⟨n,hn⟩:∃n,n=decide (An.xV (ρ 0) (ρ 1)<0):=⟨_,rfl⟩;have we:=An.w_ends q0 q1 hb (wOd c (ρ 0) (ρ 1) (ρ 2));obtain ⟨wk,wt,wg⟩:=jra h hn;obtain ⟨wl,wh⟩:=jrb h hn (wOd c (ρ 0) (ρ 1) (ρ 2))
  have sg:(sgF n).bd (FA h) ρ=true:=by
    have se:((T.ap 67 (.c aM (.c aE .e))).den (FA h) ρ)=(An.xV (ρ 0) (ρ 1)).sign:=jjl 4000 _ _
    by_cases s:An.xV (ρ 0) (ρ 1)<0
    · rw [hn,decide_eq_true s]
      exact jbj (show (ap2 67 aM aE).den (FA h) ρ<0 by show (T.ap 67 (.c aM (.c aE .e))).den (FA h) ρ<0;rw [se];exact jex.2.2 s)
    · rw [hn,decide_eq_false s]
      exact jad (show 0≤(ap2 67 aM aE).den (FA h) ρ by show 0≤(T.ap 67 (.c aM (.c aE .e))).den (FA h) ρ;rw [se];exact jex.1.2 s)
  have jd:(wvj n c).den (FA h) ρ=An.wK (ρ 0) (ρ 1) (ρ 2)+c:=by
    show (wvk n).den (FA h) ρ+c=_
    rw [wk]
  have od:(odF n (wOd c (ρ 0) (ρ 1) (ρ 2)) c).bd (FA h) ρ=true:=by
    refine bd_eq' ?_
    show (wvj n c).den (FA h) ρ%2=if wOd c (ρ 0) (ρ 1) (ρ 2) then 1 else 0
    rw [jd];unfold wOd
    by_cases s:(An.wK (ρ 0) (ρ 1) (ρ 2)+c)%2=1
    · rw [decide_eq_true s];exact s
    · rw [decide_eq_false s]
      show _=(0:Int)
      omega
  have fl:(flF n (wBt c (ρ 0) (ρ 1) (ρ 2)) c).bd (FA h) ρ=true:=by
    have bd:(bit2 n c).den (FA h) ρ=(An.wK (ρ 0) (ρ 1) (ρ 2)+c)%4 - (An.wK (ρ 0) (ρ 1) (ρ 2)+c)%2:=by
      show (wvj n c).den (FA h) ρ%4 - (wvj n c).den (FA h) ρ%2=_
      rw [jd]
    unfold wBt flF
    by_cases s:(An.wK (ρ 0) (ρ 1) (ρ 2)+c)%4 - (An.wK (ρ 0) (ρ 1) (ρ 2)+c)%2=0
    · rw [decide_eq_false (show ¬ ¬ _ from fun k=>k s)]
      exact bd_eq' (by rw [bd];exact s)
    · rw [decide_eq_true s,if_pos rfl,jax,jcy,bd]
      have:((An.wK (ρ 0) (ρ 1) (ρ 2)+c)%4 - (An.wK (ρ 0) (ρ 1) (ρ 2)+c)%2 == (0:Int))=false:=by rw [beq_eq_false_iff_ne];exact s
      show (!((An.wK (ρ 0) (ρ 1) (ρ 2)+c)%4 - (An.wK (ρ 0) (ρ 1) (ρ 2)+c)%2 == (0:Int)))=true
      rw [this];rfl
  have xe : -100000≤(wvE n).den (FA h) ρ∧(wvE n).den (FA h) ρ≤100000:=by
    by_cases s:An.xV (ρ 0) (ρ 1)<0
    · rw [hn,l3 s]
      have rp:=An.rv_pos (v := -(An.xV (ρ 0) (ρ 1))) (by omega);have t11:(1024:Rat)<An.two 11:=by show (1024:Rat)<(2:Rat)^11;decide +kernel
      have p:=An.pE_self (v := -(An.xV (ρ 0) (ρ 1))) (k:=11) (by omega) (by omega) (by
        rw [An.rv_neg];have xq:An.rv (An.xV (ρ 0) (ρ 1))=An.xQ (ρ 0) (ρ 1):=rfl;rw [xq];unfold An.Bd at hb;grind) (by omega)
      have p' : -4000≤pE (-(An.xV (ρ 0) (ρ 1))) (-(4000:Nat))∧pE (-(An.xV (ρ 0) (ρ 1))) (-(4000:Nat))≤4000:=p
      omega
    · rw [hn,l4 s];omega
  rw [←hn] at l1 l2;rw [←hn];have m1:=Int.mul_le_mul_of_nonneg_right f2 k0
  have A0:allT (FA h) ρ (wvF0 n):=by
    refine ⟨jbj ?_,jbj ?_,jae ?_,jae ?_,jbj ?_,jbj ?_,jad ?_,jad ?_,jrf h ?_,jad xe.1,jad xe.2,jae ?_,jae ?_,jae ?_,jbj g1,jae g2,trivial⟩
    · show 0<piLoZ (ρ 2+40)
      have:An.hLoZ (ρ 2+40)=piLoZ (ρ 2+40) / 2:=rfl
      omega
    · show 0<piHiZ (ρ 2+40)
      have:An.hHiZ (ρ 2+40)=0 - (0 - piHiZ (ρ 2+40)) / 2:=rfl
      omega
    · show piLoZ (ρ 2+40)≤piHiZ (ρ 2+40)
      have N:=An.near_pi (q:=ρ 2+40) (by omega) (by omega) (m:=2*((ρ 2+40+16) / 9+2).toNat) (Nat.le_refl _);exact An.rat_le (Rat.le_trans N.1 N.2.1)
    · rw [q1',q2'];exact f2
    · rw [q2'];show 0<An.hHiZ (ρ 2+40);omega
    · rw [q1'];exact f1
    · rw [wk];exact k0
    · rw [wk];exact k8
    · rw [wk];exact k0
    · rw [l1,l2];exact W.le
    · show wvqL.den (FA h) ρ*(wvk n).den (FA h) ρ≤wvqH.den (FA h) ρ*(wvk n).den (FA h) ρ
      rw [wk,q1',q2'];exact m1
    · show 0 - wvqH.den (FA h) ρ*(wvk n).den (FA h) ρ≤0 - wvqL.den (FA h) ρ*(wvk n).den (FA h) ρ
      rw [wk,q1',q2'];omega
  have B:allT (FA h) ρ (wvF n (wOd c (ρ 0) (ρ 1) (ρ 2)) c):=jac ⟨sg,od,trivial⟩ (jac A0 (jac (j1q h q1 (by rw [wt];exact t0) (by rw [wt];exact t1)) hf));have le1:(wvLo n (wOd c (ρ 0) (ρ 1) (ρ 2))).den (FA h) ρ≤(wvHi n (wOd c (ρ 0) (ρ 1) (ρ 2))).den (FA h) ρ:=by rw [wl,wh];exact we
  refine jac ⟨fl,jae le1,jae ?_,jbj (show ((-1:Int)).sign<0 by decide),trivial⟩ B;unfold wvRl wvRh
  split
  · show (wvHi n (wOd c (ρ 0) (ρ 1) (ρ 2))).den (FA h) ρ * -1≤(wvLo n (wOd c (ρ 0) (ρ 1) (ρ 2))).den (FA h) ρ * -1
    omega
  · exact le1
theorem jy1 {ρ:Nat→Int} {ng od fl:Bool} {c:Int} (hf:allT (FA h) ρ (wvX ng od fl c)):ng=decide (An.xV (ρ 0) (ρ 1)<0)∧od=wOd c (ρ 0) (ρ 1) (ρ 2)∧fl=wBt c (ρ 0) (ρ 1) (ρ 2)∧allT (FA h) ρ ([may9] ++ aF):=by
  have hB:allT (FA h) ρ (wvF ng od c):=jab (l:=[flF ng fl c,rightL (wvLo ng od) (wvHi ng od),rightL (wvRl ng od fl c) (wvRh ng od fl c),.lt (ap1 4 (.n (-1))) (.n 0)]) hf;have hb:=jab (jab (jab hB));have f1:(flF ng fl c).bd (FA h) ρ=true:=hf.1;have f2:(sgF ng).bd (FA h) ρ=true:=hB.1;have f3:(odF ng od c).bd (FA h) ρ=true:=hB.2.1;have se:((T.ap 67 (.c aM (.c aE .e))).den (FA h) ρ)=(An.xV (ρ 0) (ρ 1)).sign:=jjl 4000 _ _
  have hn:ng=decide (An.xV (ρ 0) (ρ 1)<0):=by
    cases ng with
    | true=>
      have:(T.ap 67 (.c aM (.c aE .e))).den (FA h) ρ<0:=jco f2;rw [se] at this;exact (decide_eq_true (jex.2.1 this)).symm
    | false=>
      have:0≤(T.ap 67 (.c aM (.c aE .e))).den (FA h) ρ:=jaa f2;rw [se] at this;exact (decide_eq_false (jex.1.1 this)).symm
  obtain ⟨wk,-,-⟩:=jra h hn
  have jd:(wvj ng c).den (FA h) ρ=An.wK (ρ 0) (ρ 1) (ρ 2)+c:=by
    show (wvk ng).den (FA h) ρ+c=_
    rw [wk]
  refine ⟨hn,?_,?_,hb⟩
  · have e:(wvj ng c).den (FA h) ρ%2=if od then 1 else 0:=by
      have:=jet f3
      cases od <;> exact this
    rw [jd] at e;unfold wOd
    cases od with
    | true=>exact (decide_eq_true e).symm
    | false=>
      refine (decide_eq_false ?_).symm;have e':(An.wK (ρ 0) (ρ 1) (ρ 2)+c)%2=0:=e
      omega
  · have bd:(bit2 ng c).den (FA h) ρ=(An.wK (ρ 0) (ρ 1) (ρ 2)+c)%4 - (An.wK (ρ 0) (ρ 1) (ρ 2)+c)%2:=by
      show (wvj ng c).den (FA h) ρ%4 - (wvj ng c).den (FA h) ρ%2=_
      rw [jd]
    unfold wBt
    cases fl with
    | true=>
      have g:(T.not (.eq (bit2 ng c) (.n 0))).bd (FA h) ρ=true:=f1;rw [jax,jcy,bd] at g;have g2:(!((An.wK (ρ 0) (ρ 1) (ρ 2)+c)%4 - (An.wK (ρ 0) (ρ 1) (ρ 2)+c)%2 == (0:Int)))=true:=g;refine (decide_eq_true ?_).symm
      simpa using g2
    | false=>
      have g:(T.eq (bit2 ng c) (.n 0)).bd (FA h) ρ=true:=f1;have g2:=jet g;rw [bd] at g2;have g3:(An.wK (ρ 0) (ρ 1) (ρ 2)+c)%4 - (An.wK (ρ 0) (ρ 1) (ρ 2)+c)%2=0:=g2;exact (decide_eq_false (fun k=>k g3)).symm
theorem atCaseT {tab:List (Ctr Tryz.prog (FA h))} {c:Int} {fs:List T} {k k':Nat} {lo hi kk:T} (hx:in12 (inlX tab 29 fs [] [i64 (.n c),d0,i64 (.v 2)])=some ([],atRes k k' lo hi kk)) (hk:k≤1000) (hk':k'≤1000)
    (hd:∀ρ,allT (FA h) ρ fs→An.cutL (ρ 2) (lo.den (FA h) ρ)=An.atLo c (ρ 0) (ρ 1) (ρ 2)∧An.cutH (ρ 2) (hi.den (FA h) ρ)=An.atHi c (ρ 0) (ρ 1) (ρ 2)∧kk.den (FA h) ρ=An.atK c (ρ 0) (ρ 1) (ρ 2)) :
    SpecOK Tryz.prog (FA h) (atS 29 c fs):=by
  have he:Enters Tryz.prog (atS 29 c fs).f:=jan (f:=29) (by kernel_rfl)
  have hr:∀ρ,allT (FA h) ρ (atS 29 c fs).fs→eqA (FA h) ρ (atRes k k' lo hi kk) (atS 29 c fs).res:=fun ρ hf=>by
    obtain ⟨d1,d2,d3⟩:=hd ρ hf;exact j1s hk hk' ((cutden h lo).trans (d1.trans (den80 h c).symm)) ((cutden' h hi).trans (d2.trans (den81 h c).symm)) (d3.trans (den82 h c).symm)
  exact fun {ρ β w vs} ha hb hf=>jaq (tab:=tab) (sp:=atS 29 c fs) (res:=atRes k k' lo hi kk) follows_any he hx rfl hr ha hb hf
theorem ju4 (ng fl:Bool) (c:Int):wvkk ng fl c≤1000:=by unfold wvkk;split <;> omega
theorem jrc {ρ:Nat→Int} {ng od fl:Bool} {c:Int} (hc:c=0∨c=1) (hf:allT (FA h) ρ (wvX ng od fl c)):An.cutL (ρ 2) ((wvRl ng od fl c).den (FA h) ρ)=An.atLo (4+c) (ρ 0) (ρ 1) (ρ 2)∧An.cutH (ρ 2) ((wvRh ng od fl c).den (FA h) ρ)=An.atHi (4+c) (ρ 0) (ρ 1) (ρ 2)∧(T.n 0).den (FA h) ρ=An.atK (4+c) (ρ 0) (ρ 1) (ρ 2):=by
  obtain ⟨hn,ho,hfl,hb⟩:=jy1 h hf;have hm:=jif h hb;obtain ⟨-,q0,q1,e0,e1⟩:=je2 h (jab hb);have W:=An.w_ok q0 q1 hm;obtain ⟨k0,-⟩:=An.wave_ok q0 q1 W.y1 W.l0 W.lo W.le W.l1 (An.wK (ρ 0) (ρ 1) (ρ 2)) rfl;obtain ⟨c1,c2⟩:=j1r hc k0;obtain ⟨wl,wh⟩:=jrb h hn od
  have a1:An.atLo (4+c) (ρ 0) (ρ 1) (ρ 2)=An.cutL (ρ 2) (An.wA c (ρ 0) (ρ 1) (ρ 2)):=by
    unfold An.atLo;rw [if_neg (by omega),if_neg (by omega),if_neg (by omega),if_neg (by omega),show 4+c - 4=c by omega]
  have a2:An.atHi (4+c) (ρ 0) (ρ 1) (ρ 2)=An.cutH (ρ 2) (An.wB c (ρ 0) (ρ 1) (ρ 2)):=by
    unfold An.atHi;rw [if_neg (by omega),if_neg (by omega),if_neg (by omega),if_neg (by omega),show 4+c - 4=c by omega]
  have a3:An.atK (4+c) (ρ 0) (ρ 1) (ρ 2)=0:=by
    unfold An.atK;rw [if_neg (by omega),if_neg (by omega)]
  rw [a1,a2,a3];unfold An.wA An.wB An.wLo An.wHi;rw [c1,c2,←ho,←hfl,←hn]
  have r1:(wvRl ng od fl c).den (FA h) ρ=if wvS ng fl c then (wvHi ng od).den (FA h) ρ * -1 else (wvLo ng od).den (FA h) ρ:=by
    unfold wvRl
    split <;> rfl
  have r2:(wvRh ng od fl c).den (FA h) ρ=if wvS ng fl c then (wvLo ng od).den (FA h) ρ * -1 else (wvHi ng od).den (FA h) ρ:=by
    unfold wvRh
    split <;> rfl
  rw [r1,r2,wl,wh];exact ⟨rfl,rfl,rfl⟩
theorem at4:SpecOK Tryz.prog (FA h) (atS 29 4 ([may9] ++ aF)):=by
  intro ρ β w vs ha hb hf;exact atCaseT h (xw0 h _ _ _) (ju4 _ _ _) (ju4 _ _ _) (fun ρ hf=>jrc h (.inl rfl) hf) ha hb (jww h (.inl rfl) hf)
theorem at5:SpecOK Tryz.prog (FA h) (atS 29 5 ([may9] ++ aF)):=by
  intro ρ β w vs ha hb hf;exact atCaseT h (xw1 h _ _ _) (ju4 _ _ _) (ju4 _ _ _) (fun ρ hf=>jrc h (.inr rfl) hf) ha hb (jww h (.inr rfl) hf)
end
end V
end Go.Proofs.YtllgjggkchgpbaaGreat
