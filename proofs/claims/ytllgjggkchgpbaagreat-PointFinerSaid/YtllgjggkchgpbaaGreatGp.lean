/- hairlinelaw08: cut, small. V: hairlinelaw08: small, at: their answers by names. V: hairlinelaw08.at: its answer by names; what it encloses. zed.Text of 0, and of numbers of two and three digits. V: zed.Text of what has at most three digits. V: hairlinelaw08: what must be in any case: reckoned. hairlinelaw08: small and at, as contracts; numbers of at most 8 (plain). Plain: laws of e and of logarithms: steep, injective; a logarithm is inverted; the logarithm of a product. V: how far a ball is from whole numbers (point.Gap, point.Scale, and the document's): contracts. -/
import Derived.Test.YtllgjggkchgpbaaGreatLaws
import Derived.Test.YtllgjggkchgpbaaGreatLm
import Derived.Test.YtllgjggkchgpbaaGreatAo
import Derived.Deep.DeepCutAuto
import Derived.Test.YtllgjggkchgpbaaGreatPats
import Derived.Test.YtllgjggkchgpbaaGreatWk
import Derived.Test.YtllgjggkchgpbaaGreatVe
import Derived.Test.YtllgjggkchgpbaaGreatAn2
import Derived.Test.YtllgjggkchgpbaaGreatIn
set_option linter.unusedVariables false
set_option linter.unusedSimpArgs false
namespace Go.Proofs.YtllgjggkchgpbaaGreat
section
section
open Go.RowKit Go.Shelf
open L (val dig nth)
namespace V
section
variable (h:Nat→List Int→Int)
end
end V
end
end
section
section
open Go.RowKit Go.Shelf
namespace An
end An
namespace V
section
variable (h:Nat→List Int→Int)
end
end V
end
end
section
section
open Go.RowKit Go.Shelf
namespace An
def valF (c:Int) (z x:Int) (m:Nat):Rat:=if c=0 then En m (xQ z x) else if c=1 then En m (xQ z x*lnn m) else if c=2 then logF (zQ z x) (gE z x) m else if c=3 then log2F (zQ z x) (gE z x) m else if c=4 then Sn m (xQ z x) else Cn m (xQ z x)
structure Base (c z x q:Int):Prop where
  c0:0≤c
  c5:c≤5
  q0:0≤q
  q1:q≤800
  e0 : -1200≤nE z x
  e1:nE z x≤4000
  ex:¬(c=2∨c=3)→Bd 1024 (xQ z x)
  lp:(c=2∨c=3)→0<xV z x
  l0:(c=2∨c=3)→-1100≤gE z x
  l1:(c=2∨c=3)→gE z x≤1100
theorem cut40 (q a:Int):cutL q a=a / 2^40∧cutH q a=0 - (0 - a) / 2^40:=by
  unfold cutL cutH;rw [show (q+40 - q).toNat=40 by omega];exact ⟨rfl,rfl⟩
theorem xQ_y (z x:Int):xQ z x=if decide (xV z x<0) then -(yQ z x) else yQ z x:=by
  unfold yQ
  by_cases c:xV z x<0
  · rw [if_pos c,if_pos (decide_eq_true c)];grind
  · rw [if_neg c,if_neg (by simpa using c)]
theorem jvg {c z x q:Int} (B:Base c z x q):Tells (valF c z x) (atLo c z x q) (atHi c z x q) (atK c z x q) q:=by
  have q0:=B.q0;have q1:=B.q1;have c0:=B.c0;have c5:=B.c5;have hc:c=0∨c=1∨c=2∨c=3∨c=4∨c=5:=by omega
  unfold atLo atHi atK;rw [(cut40 q _).1,(cut40 q _).2]
  rcases hc with rfl | rfl | rfl | rfl | rfl | rfl
  · have hb:=B.ex (by omega)
    obtain ⟨h1,h2,h3,h4⟩:=xL_ok (z:=z) (x:=x) q0 q1;exact jq4 q0 q1 hb h1 h2 (e_red q0 q1 hb) rfl
  · have hb:=B.ex (by omega)
    obtain ⟨h1,h2,-,R⟩:=t_two q0 q1 hb;exact jq8 (n:=tK z x) q0 q1 hb h1 h2 R rfl
  · have G:=g_ok q0 q1 B.e0 B.e1 (B.lp (by omega)) (B.l0 (by omega)) (B.l1 (by omega))
    have l0:=B.l0 (by omega);have l1:=B.l1 (by omega);exact jq9 q0 q1 (by omega) (by omega) G.ok G.lo G.hi (zQ_ok G.x1) rfl
  · have G:=g_ok q0 q1 B.e0 B.e1 (B.lp (by omega)) (B.l0 (by omega)) (B.l1 (by omega))
    have x2:=G.x2;exact (log2_tells (e:=gE z x) q0 q1 G.ok G.x1 (by grind) G.lo G.hi (zQ_ok G.x1) rfl (sl:=sL z x q) (sh:=sH z x q) rfl rfl).2
  · have hb:=B.ex (by omega)
    have W:=w_ok q0 q1 hb;exact jie 0 (by omega) (decide (xV z x<0)) (xQ_y z x) q0 q1 W.y0 W.y1 W.l0 W.lo W.hi W.le W.l1 (k:=wK z x q) rfl rfl (tl:=wT z x q) (th:=wH z x q - hLoZ (q+40)*wK z x q) rfl rfl (wOdd 0 z x q) (wFl 0 z x q) rfl rfl (lo:=wLo 0 z x q) (hi:=wHi 0 z x q) rfl rfl
  · have hb:=B.ex (by omega)
    have W:=w_ok q0 q1 hb;exact jie 1 (by omega) (decide (xV z x<0)) (xQ_y z x) q0 q1 W.y0 W.y1 W.l0 W.lo W.hi W.le W.l1 (k:=wK z x q) rfl rfl (tl:=wT z x q) (th:=wH z x q - hLoZ (q+40)*wK z x q) rfl rfl (wOdd 1 z x q) (wFl 1 z x q) rfl rfl (lo:=wLo 1 z x q) (hi:=wHi 1 z x q) rfl rfl
theorem Tells.le {F:Nat→Rat} {lo hi k q:Int} (h:Tells F lo hi k q):lo≤hi:=by
  obtain ⟨N,hN⟩:=h 1 (by grind);obtain ⟨v,n,-⟩:=hN N (Nat.le_refl _);exact rat_le (Rat.le_trans n.1 n.2.1)
theorem k_in {c z x q:Int} (B:Base c z x q) : -1600≤atK c z x q∧atK c z x q≤1600∧(2≤c→atK c z x q=0):=by
  have q0:=B.q0;have q1:=B.q1;unfold atK
  by_cases h0:c=0
  · have R:=e_red q0 q1 (B.ex (by omega))
    have:=R.k0;have:=R.k1;rw [if_pos h0]
    omega
  · rw [if_neg h0]
    by_cases h1:c=1
    · obtain ⟨k0,k1,-,-⟩:=tK_ok (B.ex (by omega))
      rw [if_pos h1]
      omega
    · rw [if_neg h1]
      omega
def Encl (F:Nat→Rat) (lo hi q:Int):Prop:=Lim fun m ε=>∃u:Rat,(lo:Rat)≤u*DD q∧u*DD q≤(hi:Rat)∧Bd ε (u - F m)
theorem Encl.le {F:Nat→Rat} {lo hi q:Int} (h:Encl F lo hi q):lo≤hi:=by
  obtain ⟨N,hN⟩:=h 1 (by grind);obtain ⟨v,n1,n2,-⟩:=hN N (Nat.le_refl _);exact rat_le (Rat.le_trans n1 n2)
end An
namespace V
section
variable (h:Nat→List Int→Int)
end
end V
end
end
section
section
section
open Go.RowKit
open L (val dig nth)
end
end
section
section
open Go.RowKit
open L (val dig nth)
section
variable {w:World} {k:Nat} {n:Bool} {A:Option Addr} {len cap:Nat}
end
end
end
end
section
section
open Go.RowKit Go.Shelf
namespace V
end V
end
end
section
section
open Go.RowKit Go.Shelf
namespace An
end An
namespace V
section
variable (h:Nat→List Int→Int)
end
end V
end
end
section
section
open Go.RowKit Go.Shelf
namespace An
structure Nrm (a b:Int) (r:Rat):Prop where
  nm:nM a b=a
  ne:nE a b=b
  b0 : -1200≤b
  b1:b≤4000
  rr:rv (av 4000 a b)=r
theorem rv_inj' {u v:Int} (h:rv u=rv v):u=v:=by
  have e1:=jhg u;have e2:=jhg v;rw [h,e2] at e1;exact (Rat.intCast_inj.1 e1).symm
theorem j18 {V:Int} (h0 : -1200≤pE V (0 - 4000)) (h1:pE V (0 - 4000)≤4000):Nrm (pM V) (pE V (0 - 4000)) (rv V):=by
  have m:=moved (V:=V) (p:=0) (by omega) h1;rw [jcz,Rat.mul_one] at m;have ev:=rv_inj' m;refine ⟨?_,?_,h0,h1,m⟩
  · rw [ju9 4000,ev]
  · have e2:nE (pM V) (pE V (0 - 4000))=pE (av 4000 (pM V) (pE V (0 - 4000))) (0 - 4000):=jrs (Nat.le_refl 4000) _ _
    rw [e2,ev]
section
variable {a b:Int} {r:Rat}
theorem Nrm.xV (N:Nrm a b r):An.xV a b=av 4000 a b:=by unfold An.xV;rw [N.nm,N.ne]
theorem Nrm.xQ (N:Nrm a b r):An.xQ a b=r:=by unfold An.xQ;rw [N.xV,N.rr]
theorem Nrm.neg (N:Nrm a b r):Nrm (pM (-(av 4000 a b))) (pE (-(av 4000 a b)) (0 - 4000)) (-r):=by
  have e:pE (-(av 4000 a b)) (0 - 4000)=b:=by
    have e2:nE a b=pE (av 4000 a b) (0 - 4000):=jrs (Nat.le_refl 4000) a b;rw [N.ne] at e2;refine Eq.trans ?_ e2.symm
    generalize av 4000 a b=v
    unfold pE;rw [Int.natAbs_neg]
    by_cases c:v=0
    · rw [if_pos (by omega),if_pos c]
    · rw [if_neg (by omega),if_neg c]
  have M:=j18 (V := -(av 4000 a b)) (by rw [e];exact N.b0) (by rw [e];exact N.b1);rw [rv_neg,N.rr] at M;exact M
theorem jb5 {m n:Int} (h:two m<two n):m<n:=by
  by_cases c:m<n
  · exact c
  · have:=two_le_two (show n≤m by omega);grind
theorem Nrm.sign (N:Nrm a b r):(cM a b).sign=(av 4000 a b).sign∧(0<av 4000 a b↔0<r)∧(av 4000 a b<0↔r<0):=by
  refine ⟨jjl 4000 a b,?_,?_⟩
  · rw [←N.rr]
    constructor
    · exact rv_pos
    · intro h
      by_cases c:0<av 4000 a b
      · exact c
      · have:=jg3 (v := -(av 4000 a b)) (by omega)
        rw [rv_neg] at this
        grind
  · rw [←N.rr]
    constructor
    · intro h
      have:=rv_pos (v := -(av 4000 a b)) (by omega);rw [rv_neg] at this
      grind
    · intro h
      by_cases c:av 4000 a b<0
      · exact c
      · have:=jg3 (v:=av 4000 a b) (by omega)
        grind
theorem Nrm.gE (N:Nrm a b r) (hr:0<r) {m n:Int} (h0:two m≤r) (h1:r<two n):m≤An.gE a b∧An.gE a b<n:=by
  have b0:=N.b0;have b1:=N.b1
  have hp:0<a:=by
    have e:=jd5 (z:=a) (x:=b) (by omega) b1;rw [N.rr] at e;have t:=two_pos b
    by_cases c:0<a
    · exact c
    · have:=Rat.mul_le_mul_of_nonneg_right (show (a:Rat)≤0 from jag (show a≤0 by omega)) (Rat.le_of_lt t)
      grind
  obtain ⟨l1,-,l2⟩:=jms (z:=a) (x:=b) (by omega) b1 hp;rw [N.rr] at l1 l2;have e:An.gE a b=lgN a b:=by unfold An.gE;rw [N.nm,N.ne]
  rw [e];have k1:=jb5 (show two m<two (lgN a b+1) by grind);have k2:=jb5 (show two (lgN a b)<two n by grind)
  omega
end
end An
namespace V
section
variable (h:Nat→List Int→Int)
end
end V
end
end
section
section
namespace An
end An
end
end
section
section
open Go.RowKit Go.Shelf
def nearI (t x:Int):Int:=if t - x%t<x%t then t - x%t else x%t
def gLeast (lo hi t:Int):Int:=if vUp lo t*t≤hi then 0 else if nearI t hi<nearI t lo then nearI t hi else nearI t lo
def gMost (lo hi t h:Int):Int:=if vUp (lo - h) t*t+h≤hi then h else if nearI t hi<nearI t lo then nearI t lo else nearI t hi
theorem jr4 (t x q:Int):(x - q*t)%t=x%t:=by
  have h:=Int.add_mul_emod_self_right x (-q) t;rw [Int.neg_mul,←Int.sub_eq_add_neg] at h;exact h
theorem jn4 {t:Int} (ht:0<t) (x:Int):vUp x t*t=x - x%t+(if x%t=0 then 0 else t):=by
  unfold vUp vDown;rw [if_neg (by omega)];have h1:=Int.emod_add_mul_ediv (-x) t;have h2:=Int.emod_nonneg (-x) (Int.ne_of_gt ht);have h3:=Int.emod_lt_of_pos (-x) ht;have h4:=Int.emod_nonneg x (Int.ne_of_gt ht);have h5:=Int.emod_lt_of_pos x ht
  have h6:(-x)%t=(if x%t=0 then 0 else t - x%t):=by
    have h7:=Int.emod_add_mul_ediv x t
    split
    · rename_i h
      have : -x = -(x / t)*t:=by rw [Int.neg_mul,Int.mul_comm];omega
      rw [this,Int.mul_emod_left]
    · have h8 : -x=(t - x%t)+(-(x / t) - 1)*t:=by
        rw [Int.sub_mul,Int.neg_mul,Int.mul_comm (x / t)];omega
      rw [h8,Int.add_mul_emod_self_right];exact Int.emod_eq_of_lt (by omega) (by omega)
  rw [Int.neg_mul,Int.mul_comm]
  split at h6 <;> rename_i hc
  · rw [if_pos hc];omega
  · rw [if_neg hc];omega
theorem jfy (t x q:Int):nearI t (x - q*t)=nearI t x:=by unfold nearI;rw [jr4]
theorem jvh {lo hi t:Int} (ht:0<t) (hl:lo≤hi) :
    gLeast lo hi t=(if lo - lo / t*t=0∨t≤hi - lo / t*t then 0 else if nearI t (hi - lo / t*t)<nearI t (lo - lo / t*t) then nearI t (hi - lo / t*t) else nearI t (lo - lo / t*t)):=by
  rw [jfy,jfy];unfold gLeast;rw [jn4 ht];have h1:=Int.emod_add_mul_ediv lo t;have h2:=Int.emod_nonneg lo (Int.ne_of_gt ht);have h3:=Int.emod_lt_of_pos lo ht;rw [Int.mul_comm (lo / t) t]
  generalize t*(lo / t)=m at *
  generalize lo%t=f at *
  have e:(lo - f+(if f=0 then 0 else t)≤hi)↔(lo - m=0∨t≤hi - m):=by split <;> omega
  simp only [e]
theorem jvi {t h x:Int} (hh:0<h) (ht:t=2*h):(x - h)%t=if h≤x%t then x%t - h else x%t - h+t:=by
  have h1:=Int.emod_add_mul_ediv x t;have h2:=Int.emod_nonneg x (show t≠0 by omega);have h3:=Int.emod_lt_of_pos x (show 0<t by omega);have h4:x - h=(x%t - h)+(x / t)*t:=by rw [Int.mul_comm (x / t)];omega
  split
  · rw [h4,Int.add_mul_emod_self_right]
    exact Int.emod_eq_of_lt (by omega) (by omega)
  · have h5:x - h=(x%t - h+t)+(x / t - 1)*t:=by rw [Int.sub_mul,Int.mul_comm (x / t)];omega
    rw [h5,Int.add_mul_emod_self_right];exact Int.emod_eq_of_lt (by omega) (by omega)
theorem jzk {lo hi t h:Int} (hh:0<h) (ht:t=2*h) (hl:lo≤hi) :
    gMost lo hi t h=(if (if h<lo - lo / t*t then h+t else h)≤hi - lo / t*t then h else if nearI t (hi - lo / t*t)<nearI t (lo - lo / t*t) then nearI t (lo - lo / t*t) else nearI t (hi - lo / t*t)):=by
  rw [jfy,jfy];unfold gMost;rw [jn4 (by omega),jvi hh ht];have h1:=Int.emod_add_mul_ediv lo t;have h2:=Int.emod_nonneg lo (show t≠0 by omega);have h3:=Int.emod_lt_of_pos lo (show 0<t by omega);rw [Int.mul_comm (lo / t) t]
  generalize t*(lo / t)=m at *
  generalize lo%t=f at *
  congr 1
  apply propext
  split <;> split <;> split <;> omega
def gIn (lo hi q s:Int):Prop:=0≤q∧q≤2048∧lo≤hi∧0≤s∧s≤2048
instance (lo hi q s:Int):Decidable (gIn lo hi q s):=by unfold gIn;infer_instance
def gMx (lo hi t:Int):Int:=if nearI t hi<nearI t lo then nearI t lo else nearI t hi
def gOk (lo hi q:Int):Prop:=(0≤q∧q≤2048∧lo≤hi)∧¬(lo≤0∧0≤hi)
instance (lo hi q:Int):Decidable (gOk lo hi q):=by unfold gOk;infer_instance
theorem jxb (a b:Int):(0<cmpZ a b)↔b<a:=by unfold cmpZ;split <;> (try split) <;> omega
theorem j19 (a b:Int):(cmpZ a b<0)↔a<b:=by unfold cmpZ;split <;> (try split) <;> omega
theorem jkv (a b:Int):(cmpZ a b≤0)↔a≤b:=by unfold cmpZ;split <;> (try split) <;> omega
theorem j2a (a b:Int):(0≤cmpZ a b)↔b≤a:=by unfold cmpZ;split <;> (try split) <;> omega
theorem two_pos (n:Nat):(0:Int)<2^n:=by
  have:=Nat.two_pow_pos n;have h:((2^n:Nat):Int)=2^n:=by push_cast;rfl
  omega
theorem jvj {s:Int} (h0:0≤s) (h1:s≠0):(2:Int)^s.toNat=2*2^(s - 1).toNat:=by
  rw [show s.toNat=(s - 1).toNat+1 by omega,Int.pow_succ,Int.mul_comm]
def pNear (t x:Int):Int:=if cmpZ (1*t - (x - x / t*t)) (x - x / t*t)<0 then 1*t - (x - x / t*t) else x - x / t*t
theorem jzl (t x:Int):x - x / t*t=x%t:=by
  have:=Int.emod_add_mul_ediv x t;rw [Int.mul_comm (x / t)]
  omega
theorem jgh (t x:Int):pNear t x=nearI t x:=by
  unfold pNear nearI;simp only [j19,jzl,Int.one_mul]
namespace V
section
variable (h:Nat→List Int→Int)
end
def gB:A:=.one (.ag [.z 8 false (.v 0),.z 8 false (.v 1),.i .i64 (.v 2)])
def zC (k:Nat) (t:T):V1:=.ag [.z k true t]
def tW:T:=ap1 0 (.v 3)
def tU:T:=.mul (.n 1) tW
def tLow:T:=.mul (ap2 1 (.v 0) tW) tW
def tFr:T:=.sub (.v 0) tLow
def tTo:T:=.sub (.v 1) tLow
def tRs (x:T):T:=.sub x (.mul (ap2 1 x tW) tW)
def tNr (r:T):T:=.ite (.lt (ap2 5 (.sub tU r) r) (.n 0)) (.sub tU r) r
def tH:T:=.mul (.n 1) (ap1 0 (.sub (.v 3) (.n 1)))
def tL1 (y:T):T:=.ite (.eq (ap1 4 tFr) (.n 0)) (.n 0) (.ite (.le (.n 0) (ap2 5 tTo tU)) (.n 0) y)
def tM1 (y:T):T:=.ite (.lt (.n 0) (.v 3)) (.ite (.lt (.n 0) (ap2 5 tFr tH)) (.ite (.le (ap2 5 (.add tH tU) tTo) (.n 0)) tH y) (.ite (.le (ap2 5 tH tTo) (.n 0)) tH y)) y
def tN0:T:=tNr (tRs tFr)
def tN1:T:=tNr (tRs tTo)
def tSw (a b:T):T:=.ite (.lt (.n 0) (ap2 5 tN0 tN1)) a b
def s0:T:=ap1 4 (.v 0)
section
variable {g:Nat→List Int→Int}
variable {ρ:Nat→Int}
theorem jr5:tN0.den (stdF g) ρ=pNear (2^(ρ 3).toNat) (ρ 0 - ρ 0 / 2^(ρ 3).toNat*2^(ρ 3).toNat):=by
  unfold tN0 tNr;rw [jb8,bd_lt];unfold pNear;simp only [decide_eq_true_eq]
  rfl
theorem jr6:tN1.den (stdF g) ρ=pNear (2^(ρ 3).toNat) (ρ 1 - ρ 0 / 2^(ρ 3).toNat*2^(ρ 3).toNat):=by
  unfold tN1 tNr;rw [jb8,bd_lt];unfold pNear;simp only [decide_eq_true_eq]
  rfl
theorem j2b (hi:gIn (ρ 0) (ρ 1) (ρ 2) (ρ 3)):(tSw (tL1 tN1) (tL1 tN0)).den (stdF g) ρ=gLeast (ρ 0) (ρ 1) (2^(ρ 3).toNat):=by
  obtain ⟨h1,h2,h3,h4,h5⟩:=hi;have ht:=two_pos (ρ 3).toNat;rw [jvh ht h3];unfold tSw tL1;simp only [jb8,bd_lt,jcy,bd_le]
  show (if decide (0<cmpZ (tN0.den (stdF g) ρ) (tN1.den (stdF g) ρ))=true then (if (Int.sign (ρ 0 - ρ 0 / 2^(ρ 3).toNat*2^(ρ 3).toNat) == 0)=true then (0:Int) else if decide (0≤cmpZ (ρ 1 - ρ 0 / 2^(ρ 3).toNat*2^(ρ 3).toNat) (1*2^(ρ 3).toNat))=true then 0 else _)
    else (if (Int.sign (ρ 0 - ρ 0 / 2^(ρ 3).toNat*2^(ρ 3).toNat) == 0)=true then (0:Int) else if decide (0≤cmpZ (ρ 1 - ρ 0 / 2^(ρ 3).toNat*2^(ρ 3).toNat) (1*2^(ρ 3).toNat))=true then 0 else _))=_
  rw [jr5,jr6,jgh,jgh];simp only [decide_eq_true_eq,jxb,j2a,Int.one_mul,beq_iff_eq,Int.sign_eq_zero_iff_zero]
  generalize nearI (2^(ρ 3).toNat) (ρ 0 - ρ 0 / 2^(ρ 3).toNat*2^(ρ 3).toNat)=u
  generalize nearI (2^(ρ 3).toNat) (ρ 1 - ρ 0 / 2^(ρ 3).toNat*2^(ρ 3).toNat)=v
  by_cases a1:ρ 0 - ρ 0 / 2^(ρ 3).toNat*2^(ρ 3).toNat=0
  · simp only [a1,if_true,true_or,ite_self]
  · by_cases a2:(2:Int)^(ρ 3).toNat≤ρ 1 - ρ 0 / 2^(ρ 3).toNat*2^(ρ 3).toNat
    · simp only [a1,a2,if_true,if_false,or_true,ite_self]
    · simp only [a1,a2,if_false,or_false]
def gMo (lo hi s:Int):Int:=if s=0 then gMx lo hi (2^s.toNat) else gMost lo hi (2^s.toNat) (2^(s - 1).toNat)
theorem j2c (hi:gIn (ρ 0) (ρ 1) (ρ 2) (ρ 3)):(tSw (tM1 tN0) (tM1 tN1)).den (stdF g) ρ=gMo (ρ 0) (ρ 1) (ρ 3):=by
  obtain ⟨h1,h2,h3,h4,h5⟩:=hi;unfold tSw tM1;simp only [jb8,bd_lt,bd_le]
  show (if decide (0<cmpZ (tN0.den (stdF g) ρ) (tN1.den (stdF g) ρ))=true then
      (if decide (0<ρ 3)=true then (if decide (0<cmpZ (ρ 0 - ρ 0 / 2^(ρ 3).toNat*2^(ρ 3).toNat) (1*2^(ρ 3 - 1).toNat))=true then (if decide (cmpZ (1*2^(ρ 3 - 1).toNat+1*2^(ρ 3).toNat) (ρ 1 - ρ 0 / 2^(ρ 3).toNat*2^(ρ 3).toNat)≤0)=true then 1*2^(ρ 3 - 1).toNat else _) else (if decide (cmpZ (1*2^(ρ 3 - 1).toNat) (ρ 1 - ρ 0 / 2^(ρ 3).toNat*2^(ρ 3).toNat)≤0)=true then 1*2^(ρ 3 - 1).toNat else _)) else _)
    else (if decide (0<ρ 3)=true then (if decide (0<cmpZ (ρ 0 - ρ 0 / 2^(ρ 3).toNat*2^(ρ 3).toNat) (1*2^(ρ 3 - 1).toNat))=true then (if decide (cmpZ (1*2^(ρ 3 - 1).toNat+1*2^(ρ 3).toNat) (ρ 1 - ρ 0 / 2^(ρ 3).toNat*2^(ρ 3).toNat)≤0)=true then 1*2^(ρ 3 - 1).toNat else _) else (if decide (cmpZ (1*2^(ρ 3 - 1).toNat) (ρ 1 - ρ 0 / 2^(ρ 3).toNat*2^(ρ 3).toNat)≤0)=true then 1*2^(ρ 3 - 1).toNat else _)) else _))=_
  rw [jr5,jr6,jgh,jgh];simp only [decide_eq_true_eq,jxb,jkv,Int.one_mul];unfold gMo
  by_cases hs:ρ 3=0
  · simp only [hs,if_true,if_false,Int.lt_irrefl]
    unfold gMx;rw [jfy,jfy]
  · have hn:0<ρ 3:=by omega
    simp only [hs,hn,if_true,if_false];rw [jzk (two_pos _) (jvj h4 hs) h3]
    generalize nearI (2^(ρ 3).toNat) (ρ 0 - ρ 0 / 2^(ρ 3).toNat*2^(ρ 3).toNat)=u
    generalize nearI (2^(ρ 3).toNat) (ρ 1 - ρ 0 / 2^(ρ 3).toNat*2^(ρ 3).toNat)=v
    generalize ρ 0 - ρ 0 / 2^(ρ 3).toNat*2^(ρ 3).toNat=f
    generalize ρ 1 - ρ 0 / 2^(ρ 3).toNat*2^(ρ 3).toNat=t
    by_cases a1:(2:Int)^(ρ 3 - 1).toNat<f
    · simp only [a1,if_true]
      by_cases a2:(2:Int)^(ρ 3 - 1).toNat+2^(ρ 3).toNat≤t
      · simp only [a2,if_true,ite_self]
      · simp only [a2,if_false]
    · simp only [a1,if_false]
      by_cases a2:(2:Int)^(ρ 3 - 1).toNat≤t
      · simp only [a2,if_true,ite_self]
      · simp only [a2,if_false]
end
theorem jn5 (a:Int):(a.sign<0↔a<0)∧(a.sign≤0↔a≤0)∧(0≤a.sign↔0≤a):=by
  rcases Int.lt_trichotomy a 0 with h | h | h
  · rw [Int.sign_eq_neg_one_of_neg h];omega
  · rw [h];decide
  · rw [Int.sign_eq_one_of_pos h];omega
theorem j2d {a b:Int} (h:a≤b):(a.sign*b.sign≤0)↔(a≤0∧0≤b):=by
  rcases Int.lt_trichotomy a 0 with h1 | h1 | h1
  · rw [Int.sign_eq_neg_one_of_neg h1]
    rcases Int.lt_trichotomy b 0 with h2 | h2 | h2
    · rw [Int.sign_eq_neg_one_of_neg h2];omega
    · rw [h2,Int.sign_zero];omega
    · rw [Int.sign_eq_one_of_pos h2];omega
  · rw [h1,Int.sign_zero];omega
  · rw [Int.sign_eq_one_of_pos h1,Int.sign_eq_one_of_pos (show 0<b by omega)];omega
section
variable {g:Nat→List Int→Int} {ρ:Nat→Int}
end
section
variable (h:Nat→List Int→Int)
end
end V
end
end
end Go.Proofs.YtllgjggkchgpbaaGreat