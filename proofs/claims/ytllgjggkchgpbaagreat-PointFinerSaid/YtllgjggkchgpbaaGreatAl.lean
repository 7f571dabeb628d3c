/- V: elem.At of the logarithms, its answer by names. -/
import Derived.Test.YtllgjggkchgpbaaGreatPx
set_option linter.unusedVariables false
set_option linter.unusedSimpArgs false
namespace Go.Proofs.YtllgjggkchgpbaaGreat
open Go.RowKit Go.Shelf
namespace V
section
variable (h:Nat→List Int→Int)
def nlT:T:=ap2 58 aM aE
def sM:T:=ap2 64 aM aE
def sE:T:=ap3 63 aM aE (.sub (.n 0) nlT)
def mlo:T:=ap3 59 sM sE aW
def mhi:T:=ap3 60 sM sE aW
def oneM:T:=ap2 56 (.n 1) (.n 0)
def oneE:T:=ap2 57 (.n 1) (.n 0)
def olo:T:=ap3 59 oneM oneE aW
def ohi:T:=ap3 60 oneM oneE aW
def xa:T:=.add mlo (.sub (.n 0) ohi)
def xb:T:=.add mhi (.sub (.n 0) olo)
def xc:T:=.add mlo olo
def xd:T:=.add mhi ohi
def zlo:T:=ap5 76 xa xb xc xd aW
def zhi:T:=ap5 77 xa xb xc xd aW
def mAt (t:T):List T:=[.le (.n 0) t,.le t (.n cap),.le (.n 0) (ap1 4 t),.le (ap2 5 (.mul t (ap1 0 (.n 1))) (.mul (.n 1) (p2 aW))) (.n 0)]
def n3T:T:=.add (ap2 1 aW (.n 3)) (.n 2)
def slo:T:=.mul (ap3 34 aW zlo n3T) (.n 2)
def shi:T:=.mul (ap3 35 aW zhi n3T) (.n 2)
def lgF:List T:=[.lt (.n 0) (ap2 67 aM aE),.le (.n (-1100)) nlT,.le nlT (.n 1100)]
def lgB:List T:=lgF ++ aF
def lgP:List T:=[.le (.n 0) (ap1 4 (.n 2)),.le (.n (-100000)) sE,.le sE (.n 100000),.le (.n (-10)) oneE,.le oneE (.n 10),.le (.n (-10)) oneM,.le oneM (.n 10),rightL mlo mhi,rightL olo ohi,rightL (.sub (.n 0) ohi) (.sub (.n 0) olo),rightL xa xb,rightL xc xd,.lt (.n 0) (.mul (ap1 4 xc) (ap1 4 xd)),rightL (ap3 34 aW zlo n3T) (ap3 35 aW zhi n3T),rightL slo shi]
def lnF3:List T:=[.lt (.n 0) lL,.lt (.n 0) lH,rightL lL lH]
def lgX:List T:=lgP ++ (mAt zlo ++ (mAt zhi ++ (lnF3 ++ lgB)))
def gloP:T:=.add slo (.mul lL nlT)
def ghiP:T:=.add shi (.mul lH nlT)
def gloN:T:=.add slo (.mul lH nlT)
def ghiN:T:=.add shi (.mul lL nlT)
def lgFP:List T:=[.le (.n 0) (ap1 4 nlT),rightL (.mul lL nlT) (.mul lH nlT),rightL gloP ghiP] ++ lgX
def lgFN:List T:=[.lt (ap1 4 nlT) (.n 0),rightL (.mul lH nlT) (.mul lL nlT),rightL gloN ghiN] ++ lgX
theorem xLP:in12 (inlX (el4A h) 29 lgFP [] [i64 (.n 2),d0,i64 (.v 2)])=some ([],atRes 342 342 gloP ghiP (.n 0)):=by kernel_rfl
theorem xLN:in12 (inlX (el4A h) 29 lgFN [] [i64 (.n 2),d0,i64 (.v 2)])=some ([],atRes 342 342 gloN ghiN (.n 0)):=by kernel_rfl
def dlo:T:=ap5 76 slo shi lL lH aW
def dhi:T:=ap5 77 slo shi lL lH aW
def g2P:T:=.add dlo (.mul olo nlT)
def g2P':T:=.add dhi (.mul ohi nlT)
def g2N:T:=.add dlo (.mul ohi nlT)
def g2N':T:=.add dhi (.mul olo nlT)
def l2h:List T:=[rightL dlo dhi,.lt (.n 0) (.mul (ap1 4 lL) (ap1 4 lH))]
def l2FP:List T:=[.le (.n 0) (ap1 4 nlT),rightL (.mul olo nlT) (.mul ohi nlT),rightL g2P g2P'] ++ (l2h ++ lgX)
def l2FN:List T:=[.lt (ap1 4 nlT) (.n 0),rightL (.mul ohi nlT) (.mul olo nlT),rightL g2N g2N'] ++ (l2h ++ lgX)
theorem x2P:in12 (inlX (el4A h) 29 l2FP [] [i64 (.n 3),d0,i64 (.v 2)])=some ([],atRes 435 435 g2P g2P' (.n 0)):=by kernel_rfl
theorem x2N:in12 (inlX (el4A h) 29 l2FN [] [i64 (.n 3),d0,i64 (.v 2)])=some ([],atRes 435 435 g2N g2N' (.n 0)):=by kernel_rfl
end
end V
namespace An
theorem av_pos_iff {z x:Int}:0<(cM z x).sign↔0<av 4000 z x:=by
  rw [jjl 4000 z x]
  generalize av 4000 z x=v
  constructor
  · intro h
    by_cases c:0<v
    · exact c
    · by_cases d:v=0
      · subst d;simp at h
      · rw [Int.sign_eq_neg_one_of_neg (by omega)] at h;omega
  · intro h
    rw [Int.sign_eq_one_of_pos h];decide
theorem parts_ok {z x:Int} (h0 : -1200≤nE z x) (h1:nE z x≤4000) (hp:0<xV z x) (e0 : -1100≤gE z x) (e1:gE z x≤1100) :
    rv (gV z x)=xQ z x*two (-(gE z x))∧1≤rv (gV z x)∧rv (gV z x)<2∧-4000≤pE (xV z x) (nearZ (0 - gE z x) - (4000:Nat))∧pE (xV z x) (nearZ (0 - gE z x) - (4000:Nat))≤4000:=by
  have hM:0<nM z x:=by
    have hr:=jd5 (z:=nM z x) (x:=nE z x) (by omega) h1;have hq:0<rv (av 4000 (nM z x) (nE z x)):=rv_pos hp;rw [hr] at hq;have t:=two_pos (nE z x)
    by_cases c:0<nM z x
    · exact c
    · have:=Rat.mul_le_mul_of_nonneg_right (show (nM z x:Rat)≤0 from jag (show nM z x≤0 by omega)) (Rat.le_of_lt t)
      grind
  obtain ⟨l1,-,l2⟩:=jms (z:=nM z x) (x:=nE z x) (by omega) h1 hM;have en:nearZ (0 - gE z x) = -(gE z x):=by unfold nearZ;omega
  have lgq:lgN (nM z x) (nE z x)=gE z x:=rfl;have xq:rv (av 4000 (nM z x) (nE z x))=xQ z x:=rfl;rw [lgq,xq] at l1 l2
  -- the exponent stays within
  have pb : -4000≤pE (xV z x) (-(gE z x) - 4000)∧pE (xV z x) (-(gE z x) - 4000)≤4000:=by
    unfold pE;rw [if_neg (by omega)];have up:=jz4 (v:=xV z x) (k:=gE z x+1) (by omega) l2;have t:=jz3 (v:=xV z x) (n:=(gE z x+1+4000).toNat) (by omega) up
    -- trailing noughts: at least those of the power of two
    have lowz:2800≤tz (xV z x).natAbs:=by
      have e:xV z x=nM z x*2^(nE z x+(4000:Nat)).toNat:=by
        unfold xV;rw [jmj (by omega) h1];rfl
      rw [e,Int.natAbs_mul,natAbs_pow,jrq _ _ (by omega)]
      omega
    clear up
    omega
  have m:=moved (V:=xV z x) (p := -(gE z x)) pb.1 pb.2
  have e:rv (gV z x)=xQ z x*two (-(gE z x)):=by
    unfold gV;rw [en];exact m
  have tp:=two_pos (-(gE z x));have a1:=Rat.mul_le_mul_of_nonneg_right l1 (Rat.le_of_lt tp);have a2:=Rat.mul_lt_mul_of_pos_right l2 tp;rw [two_inv'] at a1;rw [←two_add,show gE z x+1 + -(gE z x)=1 by omega,two_one] at a2;refine ⟨e,by rw [e];exact a1,by rw [e];exact a2,?_,?_⟩
  · rw [en];exact pb.1
  · rw [en];exact pb.2
theorem juo {V w:Int} (h0:0≤w) (h1:w≤4000):¬ rv V*DD w=((vFloor 4000 V (nearZ w):Int):Rat)+1:=by
  intro h
  have hf:V*2^w.toNat<(vFloor 4000 V (nearZ w)+1)*2^4000:=by
    unfold vFloor;rw [jkz h0 h1,if_pos h0];have hd:(0:Int)<2^4000:=Int.pow_pos (by omega)
    generalize (2:Int)^4000=d at *
    have a1:=Int.emod_add_mul_ediv (V*2^w.toNat) d;have a3:=Int.emod_lt_of_pos (V*2^w.toNat) hd;rw [Int.add_mul,Int.mul_comm (_ / d)]
    omega
  have h3:=Rat.intCast_lt_intCast.2 hf;have c4:=jgi (z:=vFloor 4000 V (nearZ w)+1) (n:=4000) (by omega);rw [show ((4000:Int)).toNat=4000 from rfl] at c4;rw [c4,Rat.intCast_mul,c1r,←h,←jhg V] at h3;have e:(((2:Int)^w.toNat:Int):Rat)=DD w:=rfl;rw [e] at h3;have:rv V*two 4000*DD w=rv V*DD w*two 4000:=by grind
  rw [this] at h3;exact absurd h3 (by grind)
def zQ (z x:Int):Rat:=(rv (gV z x) - 1)*(rv (gV z x)+1)⁻¹
theorem zQ_ok {z x:Int} (h:1≤rv (gV z x)):zQ z x*(rv (gV z x)+1)=rv (gV z x) - 1:=by
  have inv:=Rat.inv_mul_cancel (rv (gV z x)+1) (by grind);unfold zQ
  grind
structure GOK (z x q:Int):Prop where
  x1:1≤rv (gV z x)
  x2:rv (gV z x)<2
  lo:((mmL z x q:Int):Rat)≤rv (gV z x)*DD (q+40)
  hi:rv (gV z x)*DD (q+40)≤((mmH z x q:Int):Rat)
  le:mmL z x q≤mmH z x q
  ok:LogOK (q+40) (mmL z x q) (mmH z x q)
theorem g_ok {z x q:Int} (q0:0≤q) (q1:q≤800) (h0 : -1200≤nE z x) (h1:nE z x≤4000) (hp:0<xV z x) (e0 : -1100≤gE z x) (e1:gE z x≤1100):GOK z x q:=by
  obtain ⟨-,x1,x2,-,-⟩:=parts_ok h0 h1 hp e0 e1;have f:=jem (V:=gV z x) (w:=q+40) (by omega) (by omega);have c:=jjq (V:=gV z x) (w:=q+40) (by omega) (by omega);have d:=DD_pos (q+40);have m1:=Rat.mul_le_mul_of_nonneg_right x1 (Rat.le_of_lt d);have m2:=Rat.mul_lt_mul_of_pos_right x2 d;have dz:(((2:Int)^(q+40).toNat:Int):Rat)=DD (q+40):=rfl
  -- the floor is at least D: D is an integer not above
  have l0:2^(q+40).toNat≤mmL z x q:=by
    have h2:DD (q+40)<((mmL z x q+1:Int):Rat)∨DD (q+40)≤((mmL z x q:Int):Rat):=by
      rw [c1r]
      by_cases k:DD (q+40)≤((mmL z x q:Int):Rat)
      · exact .inr k
      · left
        have hv:rv (gV z x)*DD (q+40)<((mmL z x q:Int):Rat)+1∨rv (gV z x)*DD (q+40)=((mmL z x q:Int):Rat)+1:=by
          have:rv (gV z x)*DD (q+40)≤((mmL z x q:Int):Rat)+1:=f.2
          grind
        rcases hv with hv | hv
        · grind
        · exfalso
          exact juo (V:=gV z x) (w:=q+40) (by omega) (by omega) hv
    rcases h2 with h2 | h2
    · have:=Rat.intCast_lt_intCast.1 (by rw [dz];exact h2:(((2:Int)^(q+40).toNat:Int):Rat)<((mmL z x q+1:Int):Rat))
      omega
    · exact rat_le h2
  have l3:mmH z x q≤2*2^(q+40).toNat:=by
    have h2:((mmL z x q:Int):Rat)<((2*2^(q+40).toNat:Int):Rat):=by
      rw [Rat.intCast_mul,dz];refine j2z f.1 ?_
      show _<(2:Rat)*_
      grind
    have:=Rat.intCast_lt_intCast.1 h2;have:=c.2.2
    show vCeil 4000 (gV z x) (nearZ (q+40))≤_
    have e:mmL z x q=vFloor 4000 (gV z x) (nearZ (q+40)):=rfl
    omega
  exact ⟨x1,x2,f.1,c.1,c.2.1,j1n (by omega) l0 c.2.1 c.2.2 l3⟩
theorem one_ends {w:Int} (h0:0≤w) (h1:w≤4000):vFloor 4000 (av 4000 (nM 1 0) (nE 1 0)) (nearZ w)=2^w.toNat∧vCeil 4000 (av 4000 (nM 1 0) (nE 1 0)) (nearZ w)=2^w.toNat:=by
  rw [jxk (z:=1) (x:=0) (by omega) (by omega) rfl,jxl (z:=1) (x:=0) (by omega) (by omega) rfl];exact Px.point_one h0 h1
theorem z_ends {z x q:Int} (G:GOK z x q):zL z x q≤zH z x q:=by
  have D0:=G.ok.d0;have D1:=G.ok.d1;have hz:=zQ_ok G.x1;have dz:(((2:Int)^(q+40).toNat:Int):Rat)=DD (q+40):=rfl;have dpos:(0:Int)<2^(q+40).toNat:=Int.pow_pos (by omega);have h1:=G.lo;have h2:=G.hi;obtain ⟨e1,e2⟩:=jjf (w:=q+40) (a:=mmL z x q - 2^(q+40).toNat) (b:=mmH z x q - 2^(q+40).toNat) (c:=mmL z x q+2^(q+40).toNat) (d:=mmH z x q+2^(q+40).toNat) (u:=zQ z x) (v:=rv (gV z x)+1) (by omega) (by omega) (by omega) (by omega) (by rw [hz,Rat.intCast_sub,dz];grind) (by rw [hz,Rat.intCast_sub,dz];grind) (by rw [Rat.intCast_add,dz];grind) (by rw [Rat.intCast_add,dz];grind);exact rat_le (Rat.le_trans e1 e2)
theorem s_ends {z x q:Int} (q0:0≤q) (q1:q≤800) (G:GOK z x q):0≤sL z x q∧sL z x q≤sH z x q:=by
  have N:=jft (w:=q+40) (by omega) (by omega) G.ok G.lo G.hi (zQ_ok G.x1) (m:=((q+40) / 3+2).toNat) (Nat.le_refl _);have:0≤atanhLo (zL z x q) (q+40) ((q+40) / 3+2).toNat:=jns G.ok.z0 _;refine ⟨?_,rat_le (Rat.le_trans N.1 N.2.1)⟩
  show 0≤atanhLo (zL z x q) (q+40) ((q+40) / 3+2).toNat*2
  omega
end An
namespace V
section
variable (h:Nat→List Int→Int)
theorem jql {ρ:Nat→Int} (hf:allT (FA h) ρ lgB):0<An.xV (ρ 0) (ρ 1)∧-1100≤An.gE (ρ 0) (ρ 1)∧An.gE (ρ 0) (ρ 1)≤1100:=by
  obtain ⟨h1,h2,h3,-⟩:=jbn hf;have a1:0<(cM (nM (ρ 0) (ρ 1)) (nE (ρ 0) (ρ 1))).sign:=jco h1;exact ⟨An.av_pos_iff.1 a1,jaa h2,jaa h3⟩
theorem jyg {ρ:Nat→Int} (hf:allT (FA h) ρ lgB):An.GOK (ρ 0) (ρ 1) (ρ 2):=by
  obtain ⟨b1,b2,b3⟩:=jql h hf;obtain ⟨-,q0,q1,e0,e1⟩:=je2 h (jab hf);exact An.g_ok q0 q1 e0 e1 b1 b2 b3
theorem jup {ρ:Nat→Int} (hf:allT (FA h) ρ aF):olo.den (FA h) ρ=2^(ρ 2+40).toNat∧ohi.den (FA h) ρ=2^(ρ 2+40).toNat:=by
  obtain ⟨-,q0,q1,-,-⟩:=je2 h hf;exact An.one_ends (w:=ρ 2+40) (by omega) (by omega)
theorem j1b {ρ:Nat→Int} (hf:allT (FA h) ρ aF):xa.den (FA h) ρ=An.mmL (ρ 0) (ρ 1) (ρ 2) - 2^(ρ 2+40).toNat∧xb.den (FA h) ρ=An.mmH (ρ 0) (ρ 1) (ρ 2) - 2^(ρ 2+40).toNat∧xc.den (FA h) ρ=An.mmL (ρ 0) (ρ 1) (ρ 2)+2^(ρ 2+40).toNat∧xd.den (FA h) ρ=An.mmH (ρ 0) (ρ 1) (ρ 2)+2^(ρ 2+40).toNat:=by
  obtain ⟨o1,o2⟩:=jup h hf;have a1:xa.den (FA h) ρ=An.mmL (ρ 0) (ρ 1) (ρ 2)+(0 - ohi.den (FA h) ρ):=rfl;have a2:xb.den (FA h) ρ=An.mmH (ρ 0) (ρ 1) (ρ 2)+(0 - olo.den (FA h) ρ):=rfl;have a3:xc.den (FA h) ρ=An.mmL (ρ 0) (ρ 1) (ρ 2)+olo.den (FA h) ρ:=rfl;have a4:xd.den (FA h) ρ=An.mmH (ρ 0) (ρ 1) (ρ 2)+ohi.den (FA h) ρ:=rfl;rw [a1,a2,a3,a4,o1,o2];refine ⟨by omega,by omega,rfl,rfl⟩
theorem j1c {ρ:Nat→Int} (hf:allT (FA h) ρ aF):zlo.den (FA h) ρ=An.zL (ρ 0) (ρ 1) (ρ 2)∧zhi.den (FA h) ρ=An.zH (ρ 0) (ρ 1) (ρ 2):=by
  obtain ⟨a1,a2,a3,a4⟩:=j1b h hf;have b1:zlo.den (FA h) ρ=An.divLo (xa.den (FA h) ρ) (xb.den (FA h) ρ) (xc.den (FA h) ρ) (xd.den (FA h) ρ) (ρ 2+40):=rfl;have b2:zhi.den (FA h) ρ=An.divHi (xa.den (FA h) ρ) (xb.den (FA h) ρ) (xc.den (FA h) ρ) (xd.den (FA h) ρ) (ρ 2+40):=rfl;rw [b1,b2,a1,a2,a3,a4];exact ⟨rfl,rfl⟩
theorem jpq {ρ:Nat→Int} (hf:allT (FA h) ρ aF):slo.den (FA h) ρ=An.sL (ρ 0) (ρ 1) (ρ 2)∧shi.den (FA h) ρ=An.sH (ρ 0) (ρ 1) (ρ 2):=by
  obtain ⟨a1,a2⟩:=j1c h hf;have b1:slo.den (FA h) ρ=atanhLo (zlo.den (FA h) ρ) (ρ 2+40) (An.n3 (ρ 2))*2:=rfl;have b2:shi.den (FA h) ρ=atanhHi (zhi.den (FA h) ρ) (ρ 2+40) (An.n3 (ρ 2))*2:=rfl;rw [b1,b2,a1,a2];exact ⟨rfl,rfl⟩
theorem jwq {ρ:Nat→Int} (q1:ρ 2≤800) {t:T} (h0:0≤t.den (FA h) ρ) (h1:2*t.den (FA h) ρ≤2^(ρ 2+40).toNat):allT (FA h) ρ (mAt t):=by
  have c:=An.pow_cap (w:=ρ 2+40) (by omega);have p:=An.twp (ρ 2+40);refine ⟨jad h0,jad (show _≤cap by omega),jad (show 0≤(t.den (FA h) ρ).sign from Int.sign_nonneg_iff.2 h0),jad (show cmpZ (t.den (FA h) ρ*2^(1:Int).toNat) (1*2^(ρ 2+40).toNat)≤0 from (jce _ _).2 ?_),trivial⟩;rw [show (2:Int)^(1:Int).toNat=2 from rfl]
  omega
theorem jni {ρ:Nat→Int} (hf:allT (FA h) ρ lgB):allT (FA h) ρ lgX:=by
  have G:=jyg h hf;obtain ⟨b1,b2,b3⟩:=jql h hf;have ha:=jab hf;obtain ⟨-,q0,q1,e0,e1⟩:=je2 h ha;obtain ⟨a1,a2,a3,a4⟩:=j1b h ha;obtain ⟨z1,z2⟩:=j1c h ha;obtain ⟨s1,s2⟩:=jpq h ha;obtain ⟨o1,o2⟩:=jup h ha;obtain ⟨f1,f2,-,-,-⟩:=An.ln_facts (w:=ρ 2+40) (by omega) (by omega);obtain ⟨-,-,-,p1,p2⟩:=An.parts_ok e0 e1 b1 b2 b3;have ze:=An.z_ends G;obtain ⟨se0,se⟩:=An.s_ends q0 q1 G;have D0:=G.ok.d0;have D1:=G.ok.d1;have Z0:0≤An.zL (ρ 0) (ρ 1) (ρ 2):=G.ok.z0;have Z1:20*An.zH (ρ 0) (ρ 1) (ρ 2)≤7*2^(ρ 2+40).toNat:=G.ok.z1;have dpos:(0:Int)<2^(ρ 2+40).toNat:=Int.pow_pos (by omega);have A:allT (FA h) ρ lgP→allT (FA h) ρ lgX:=fun a=>jac a (jac (jwq h q1 (by rw [z1];exact Z0) (by rw [z1];omega)) (jac (jwq h q1 (by rw [z2];omega) (by rw [z2];omega)) (jac ⟨jbj f1,jbj (show 0<lnHiZ (ρ 2+40) by omega),jae f2,trivial⟩ hf)))
  have hn1:nM 1 0=1:=jxk (z:=1) (x:=0) (by omega) (by omega) rfl;have hn2:nE 1 0=0:=jxl (z:=1) (x:=0) (by omega) (by omega) rfl;refine A ⟨jad (show (0:Int)≤(2:Int).sign by decide),jad ?_,jad ?_,jad ?_,jad ?_,jad ?_,jad ?_,jae G.le,jae ?_,jae ?_,jae ?_,jae ?_,jbj ?_,jae ?_,jae ?_,trivial⟩
  · show -100000≤pE (An.xV (ρ 0) (ρ 1)) (nearZ (0 - An.gE (ρ 0) (ρ 1)) - (4000:Nat));omega
  · show pE (An.xV (ρ 0) (ρ 1)) (nearZ (0 - An.gE (ρ 0) (ρ 1)) - (4000:Nat))≤100000;omega
  · show -10≤nE 1 0;omega
  · show nE 1 0≤10;omega
  · show -10≤nM 1 0;omega
  · show nM 1 0≤10;omega
  · rw [o1,o2];exact Int.le_refl _
  · show 0 - ohi.den (FA h) ρ≤0 - olo.den (FA h) ρ
    rw [o1,o2];exact Int.le_refl _
  · rw [a1,a2];omega
  · rw [a3,a4];omega
  · show 0<(xc.den (FA h) ρ).sign*(xd.den (FA h) ρ).sign
    rw [a3,a4,Int.sign_eq_one_of_pos (show 0<An.mmL (ρ 0) (ρ 1) (ρ 2)+2^(ρ 2+40).toNat by omega),Int.sign_eq_one_of_pos (show 0<An.mmH (ρ 0) (ρ 1) (ρ 2)+2^(ρ 2+40).toNat by omega)]
    decide
  · have c1:(ap3 34 aW zlo n3T).den (FA h) ρ*2=slo.den (FA h) ρ:=rfl
    have c2:(ap3 35 aW zhi n3T).den (FA h) ρ*2=shi.den (FA h) ρ:=rfl;rw [s1] at c1;rw [s2] at c2
    show (ap3 34 aW zlo n3T).den (FA h) ρ≤(ap3 35 aW zhi n3T).den (FA h) ρ
    omega
  · rw [s1,s2];exact se
theorem g_le {z x q:Int} (q0:0≤q) (q1:q≤800) (G:An.GOK z x q):An.gA z x q≤An.gB z x q∧(An.gE z x<0→lnHiZ (q+40)*An.gE z x≤lnLoZ (q+40)*An.gE z x)∧(¬ An.gE z x<0→lnLoZ (q+40)*An.gE z x≤lnHiZ (q+40)*An.gE z x):=by
  obtain ⟨f1,f2,-,-,-⟩:=An.ln_facts (w:=q+40) (by omega) (by omega);obtain ⟨-,se⟩:=An.s_ends q0 q1 G;unfold An.gA An.gB
  by_cases c:An.gE z x<0
  · have m:=Int.mul_le_mul_of_nonpos_right f2 (show An.gE z x≤0 by omega)
    rw [if_pos c,if_pos c];exact ⟨by omega,fun _=>m,fun k=>absurd c k⟩
  · have m:=Int.mul_le_mul_of_nonneg_right f2 (show 0≤An.gE z x by omega)
    rw [if_neg c,if_neg c];exact ⟨by omega,fun k=>absurd k c,fun _=>m⟩
theorem jex {e:Int}:(0≤e.sign↔¬ e<0)∧(e.sign<0↔e<0):=by
  have:=Int.sign_nonneg_iff (x:=e)
  constructor
  · rw [this];omega
  · constructor
    · intro hs
      by_cases c:e<0
      · exact c
      · have:=this.2 (by omega);omega
    · intro hs
      rw [Int.sign_eq_neg_one_of_neg hs];decide
theorem at2:SpecOK Tryz.prog (FA h) (atS 29 2 lgB):=by
  intro ρ β w vs ha hb hf;have G:=jyg h hf;obtain ⟨-,q0,q1,-,-⟩:=je2 h (jab hf);obtain ⟨s1,s2⟩:=jpq h (jab hf);obtain ⟨gl,gn,gp⟩:=g_le q0 q1 G;have dd:∀ρ:Nat→Int,allT (FA h) ρ lgX→allT (FA h) ρ aF:=fun ρ hf=>jab (jab (jab (jab (jab hf))))
  by_cases hs:An.gE (ρ 0) (ρ 1)<0
  · have e1:gloN.den (FA h) ρ=slo.den (FA h) ρ+lnHiZ (ρ 2+40)*An.gE (ρ 0) (ρ 1):=rfl
    have e2:ghiN.den (FA h) ρ=shi.den (FA h) ρ+lnLoZ (ρ 2+40)*An.gE (ρ 0) (ρ 1):=rfl;refine atCase h (xLN h) (by omega) (by omega) (fun ρ hf=>?_) ha hb (jac ⟨jbj (jex.2.2 hs),jae (gn hs),jae ?_,trivial⟩ (jni h hf))
    · obtain ⟨s1,s2⟩:=jpq h (dd ρ (jab (l:=[.lt (ap1 4 nlT) (.n 0),rightL (.mul lH nlT) (.mul lL nlT),rightL gloN ghiN]) hf))
      have hs:An.gE (ρ 0) (ρ 1)<0:=jex.2.1 (jco hf.1);have e1:gloN.den (FA h) ρ=slo.den (FA h) ρ+lnHiZ (ρ 2+40)*An.gE (ρ 0) (ρ 1):=rfl;have e2:ghiN.den (FA h) ρ=shi.den (FA h) ρ+lnLoZ (ρ 2+40)*An.gE (ρ 0) (ρ 1):=rfl;rw [e1,e2,s1,s2];have g1:An.gA (ρ 0) (ρ 1) (ρ 2)=An.sL (ρ 0) (ρ 1) (ρ 2)+lnHiZ (ρ 2+40)*An.gE (ρ 0) (ρ 1):=by unfold An.gA;rw [if_pos hs]
      have g2:An.gB (ρ 0) (ρ 1) (ρ 2)=An.sH (ρ 0) (ρ 1) (ρ 2)+lnLoZ (ρ 2+40)*An.gE (ρ 0) (ρ 1):=by unfold An.gB;rw [if_pos hs]
      rw [←g1,←g2];exact ⟨rfl,rfl,rfl⟩
    · rw [e1,e2,s1,s2]
      unfold An.gA An.gB at gl;rw [if_pos hs,if_pos hs] at gl;exact gl
  · have e1:gloP.den (FA h) ρ=slo.den (FA h) ρ+lnLoZ (ρ 2+40)*An.gE (ρ 0) (ρ 1):=rfl
    have e2:ghiP.den (FA h) ρ=shi.den (FA h) ρ+lnHiZ (ρ 2+40)*An.gE (ρ 0) (ρ 1):=rfl;refine atCase h (xLP h) (by omega) (by omega) (fun ρ hf=>?_) ha hb (jac ⟨jad (jex.1.2 hs),jae (gp hs),jae ?_,trivial⟩ (jni h hf))
    · obtain ⟨s1,s2⟩:=jpq h (dd ρ (jab (l:=[.le (.n 0) (ap1 4 nlT),rightL (.mul lL nlT) (.mul lH nlT),rightL gloP ghiP]) hf))
      have hs:¬ An.gE (ρ 0) (ρ 1)<0:=jex.1.1 (jaa hf.1);have e1:gloP.den (FA h) ρ=slo.den (FA h) ρ+lnLoZ (ρ 2+40)*An.gE (ρ 0) (ρ 1):=rfl;have e2:ghiP.den (FA h) ρ=shi.den (FA h) ρ+lnHiZ (ρ 2+40)*An.gE (ρ 0) (ρ 1):=rfl;rw [e1,e2,s1,s2];have g1:An.gA (ρ 0) (ρ 1) (ρ 2)=An.sL (ρ 0) (ρ 1) (ρ 2)+lnLoZ (ρ 2+40)*An.gE (ρ 0) (ρ 1):=by unfold An.gA;rw [if_neg hs]
      have g2:An.gB (ρ 0) (ρ 1) (ρ 2)=An.sH (ρ 0) (ρ 1) (ρ 2)+lnHiZ (ρ 2+40)*An.gE (ρ 0) (ρ 1):=by unfold An.gB;rw [if_neg hs]
      rw [←g1,←g2];exact ⟨rfl,rfl,rfl⟩
    · rw [e1,e2,s1,s2]
      unfold An.gA An.gB at gl;rw [if_neg hs,if_neg hs] at gl;exact gl
theorem j30 {z x q:Int} (q0:0≤q) (q1:q≤800) (G:An.GOK z x q):An.divLo (An.sL z x q) (An.sH z x q) (lnLoZ (q+40)) (lnHiZ (q+40)) (q+40)≤An.divHi (An.sL z x q) (An.sH z x q) (lnLoZ (q+40)) (lnHiZ (q+40)) (q+40):=by
  have x2:=G.x2;exact (An.log2_tells (e:=0) q0 q1 G.ok G.x1 (by grind) G.lo G.hi (An.zQ_ok G.x1) rfl (sl:=An.sL z x q) (sh:=An.sH z x q) rfl rfl).1.dd
theorem at3:SpecOK Tryz.prog (FA h) (atS 29 3 lgB):=by
  intro ρ β w vs ha hb hf;have G:=jyg h hf;obtain ⟨-,q0,q1,-,-⟩:=je2 h (jab hf);obtain ⟨s1,s2⟩:=jpq h (jab hf);obtain ⟨o1,o2⟩:=jup h (jab hf);have dl:=j30 q0 q1 G;obtain ⟨f1,f2,-,-,-⟩:=An.ln_facts (w:=ρ 2+40) (by omega) (by omega);have dd:∀ρ:Nat→Int,allT (FA h) ρ lgX→allT (FA h) ρ aF:=fun ρ hf=>jab (jab (jab (jab (jab hf))))
  have d1:dlo.den (FA h) ρ=An.divLo (slo.den (FA h) ρ) (shi.den (FA h) ρ) (lnLoZ (ρ 2+40)) (lnHiZ (ρ 2+40)) (ρ 2+40):=rfl;have d2:dhi.den (FA h) ρ=An.divHi (slo.den (FA h) ρ) (shi.den (FA h) ρ) (lnLoZ (ρ 2+40)) (lnHiZ (ρ 2+40)) (ρ 2+40):=rfl;rw [s1,s2] at d1 d2
  have hh:allT (FA h) ρ l2h:=⟨jae (by rw [d1,d2];exact dl),jbj (show 0<(lnLoZ (ρ 2+40)).sign*(lnHiZ (ρ 2+40)).sign by
    rw [Int.sign_eq_one_of_pos f1,Int.sign_eq_one_of_pos (show 0<lnHiZ (ρ 2+40) by omega)];decide),trivial⟩
  have key:∀ρ:Nat→Int,allT (FA h) ρ aF→g2P.den (FA h) ρ=An.lA (ρ 0) (ρ 1) (ρ 2)∧g2P'.den (FA h) ρ=An.lB (ρ 0) (ρ 1) (ρ 2)∧g2N.den (FA h) ρ=An.lA (ρ 0) (ρ 1) (ρ 2)∧g2N'.den (FA h) ρ=An.lB (ρ 0) (ρ 1) (ρ 2):=fun ρ hf=>by
    obtain ⟨s1,s2⟩:=jpq h hf;obtain ⟨o1,o2⟩:=jup h hf;have e1:g2P.den (FA h) ρ=An.divLo (slo.den (FA h) ρ) (shi.den (FA h) ρ) (lnLoZ (ρ 2+40)) (lnHiZ (ρ 2+40)) (ρ 2+40)+olo.den (FA h) ρ*An.gE (ρ 0) (ρ 1):=rfl;have e2:g2P'.den (FA h) ρ=An.divHi (slo.den (FA h) ρ) (shi.den (FA h) ρ) (lnLoZ (ρ 2+40)) (lnHiZ (ρ 2+40)) (ρ 2+40)+ohi.den (FA h) ρ*An.gE (ρ 0) (ρ 1):=rfl;have e3:g2N.den (FA h) ρ=An.divLo (slo.den (FA h) ρ) (shi.den (FA h) ρ) (lnLoZ (ρ 2+40)) (lnHiZ (ρ 2+40)) (ρ 2+40)+ohi.den (FA h) ρ*An.gE (ρ 0) (ρ 1):=rfl;have e4:g2N'.den (FA h) ρ=An.divHi (slo.den (FA h) ρ) (shi.den (FA h) ρ) (lnLoZ (ρ 2+40)) (lnHiZ (ρ 2+40)) (ρ 2+40)+olo.den (FA h) ρ*An.gE (ρ 0) (ρ 1):=rfl;rw [e1,e2,e3,e4,s1,s2,o1,o2];exact ⟨rfl,rfl,rfl,rfl⟩
  obtain ⟨k1,k2,k3,k4⟩:=key ρ (jab hf);have lab:An.lA (ρ 0) (ρ 1) (ρ 2)≤An.lB (ρ 0) (ρ 1) (ρ 2):=by unfold An.lA An.lB;omega
  have p1:(T.mul olo nlT).den (FA h) ρ=olo.den (FA h) ρ*An.gE (ρ 0) (ρ 1):=rfl;have p2:(T.mul ohi nlT).den (FA h) ρ=ohi.den (FA h) ρ*An.gE (ρ 0) (ρ 1):=rfl;rw [o1] at p1;rw [o2] at p2
  by_cases hs:An.gE (ρ 0) (ρ 1)<0
  · refine atCase h (x2N h) (by omega) (by omega) (fun ρ hf=>?_) ha hb (jac ⟨jbj (jex.2.2 hs),jae (by rw [p1,p2];exact Int.le_refl _),jae (by rw [k3,k4];exact lab),trivial⟩ (jac hh (jni h hf)))
    obtain ⟨-,-,k3,k4⟩:=key ρ (dd ρ (jab (jab (l:=[.lt (ap1 4 nlT) (.n 0),rightL (.mul ohi nlT) (.mul olo nlT),rightL g2N g2N']) hf)));rw [k3,k4];exact ⟨rfl,rfl,rfl⟩
  · refine atCase h (x2P h) (by omega) (by omega) (fun ρ hf=>?_) ha hb (jac ⟨jad (jex.1.2 hs),jae (by rw [p1,p2];exact Int.le_refl _),jae (by rw [k1,k2];exact lab),trivial⟩ (jac hh (jni h hf)))
    obtain ⟨k1,k2,-,-⟩:=key ρ (dd ρ (jab (jab (l:=[.le (.n 0) (ap1 4 nlT),rightL (.mul olo nlT) (.mul ohi nlT),rightL g2P g2P']) hf)));rw [k1,k2];exact ⟨rfl,rfl,rfl⟩
end
end V
end Go.Proofs.YtllgjggkchgpbaaGreat
