/- V: elem.At, its answer by names: e, 2, logarithms, waves. -/
import Derived.Test.YtllgjggkchgpbaaGreatIn
import Derived.Test.YtllgjggkchgpbaaGreatLm
set_option linter.unusedVariables false
set_option linter.unusedSimpArgs false
namespace Go.Proofs.YtllgjggkchgpbaaGreat
open Go.RowKit Go.Shelf
namespace An
def xV (z x:Int):Int:=av 4000 (nM z x) (nE z x)
def xL (z x q:Int):Int:=vFloor 4000 (xV z x) (nearZ (q+40))
def xH (z x q:Int):Int:=vCeil 4000 (xV z x) (nearZ (q+40))
def cutL (q a:Int):Int:=a / 2^(q+40 - q).toNat
def cutH (q a:Int):Int:=0 - (0 - a) / 2^(q+40 - q).toNat
def n4 (q:Int):Nat:=((q+40) / 4+10).toNat
def n3 (q:Int):Nat:=((q+40) / 3+2).toNat
def n8 (q:Int):Nat:=((q+40) / 8+6).toNat
def eK (z x q:Int):Int:=xL z x q / (if xL z x q<0 then lnLoZ (q+40) else lnHiZ (q+40))
def eA (z x q:Int):Int:=expLo (rLo (xL z x q) (eK z x q) (lnLoZ (q+40)) (lnHiZ (q+40))) (q+40) (n4 q)
def eB (z x q:Int):Int:=expHi (rHi (xH z x q) (eK z x q) (lnLoZ (q+40)) (lnHiZ (q+40))) (q+40) (n4 q)
def tK (z x:Int):Int:=vFloor 4000 (xV z x) (nearZ 0)
def tD (z x:Int):Int:=xV z x - av 4000 (nM (tK z x) 0) (nE (tK z x) 0)
def tV (z x:Int):Int:=av 4000 (pM (tD z x)) (pE (tD z x) (-(4000:Nat)))
def tL (z x q:Int):Int:=mulLo (vFloor 4000 (tV z x) (nearZ (q+40))) (vCeil 4000 (tV z x) (nearZ (q+40))) (lnLoZ (q+40)) (lnHiZ (q+40)) (q+40)
def tH (z x q:Int):Int:=mulHi (vFloor 4000 (tV z x) (nearZ (q+40))) (vCeil 4000 (tV z x) (nearZ (q+40))) (lnLoZ (q+40)) (lnHiZ (q+40)) (q+40)
def tA (z x q:Int):Int:=expLo (tL z x q) (q+40) (n4 q)
def tB (z x q:Int):Int:=expHi (tH z x q) (q+40) (n4 q)
def gE (z x:Int):Int:=lgN (nM z x) (nE z x)
def gV (z x:Int):Int:=av 4000 (pM (xV z x)) (pE (xV z x) (nearZ (0 - gE z x) - (4000:Nat)))
def mmL (z x q:Int):Int:=vFloor 4000 (gV z x) (nearZ (q+40))
def mmH (z x q:Int):Int:=vCeil 4000 (gV z x) (nearZ (q+40))
def zL (z x q:Int):Int:=divLo (mmL z x q - 2^(q+40).toNat) (mmH z x q - 2^(q+40).toNat) (mmL z x q+2^(q+40).toNat) (mmH z x q+2^(q+40).toNat) (q+40)
def zH (z x q:Int):Int:=divHi (mmL z x q - 2^(q+40).toNat) (mmH z x q - 2^(q+40).toNat) (mmL z x q+2^(q+40).toNat) (mmH z x q+2^(q+40).toNat) (q+40)
def sL (z x q:Int):Int:=atanhLo (zL z x q) (q+40) (n3 q)*2
def sH (z x q:Int):Int:=atanhHi (zH z x q) (q+40) (n3 q)*2
def gA (z x q:Int):Int:=sL z x q+(if gE z x<0 then lnHiZ (q+40)*gE z x else lnLoZ (q+40)*gE z x)
def gB (z x q:Int):Int:=sH z x q+(if gE z x<0 then lnLoZ (q+40)*gE z x else lnHiZ (q+40)*gE z x)
def lA (z x q:Int):Int:=divLo (sL z x q) (sH z x q) (lnLoZ (q+40)) (lnHiZ (q+40)) (q+40)+2^(q+40).toNat*gE z x
def lB (z x q:Int):Int:=divHi (sL z x q) (sH z x q) (lnLoZ (q+40)) (lnHiZ (q+40)) (q+40)+2^(q+40).toNat*gE z x
def wV (z x:Int):Int:=if xV z x<0 then av 4000 (pM (-(xV z x))) (pE (-(xV z x)) (-(4000:Nat))) else xV z x
def wL (z x q:Int):Int:=vFloor 4000 (wV z x) (nearZ (q+40))
def wH (z x q:Int):Int:=vCeil 4000 (wV z x) (nearZ (q+40))
def wK (z x q:Int):Int:=wL z x q / hHiZ (q+40)
def wT (z x q:Int):Int:=wL z x q - hHiZ (q+40)*wK z x q
def wG (z x q:Int):Int:=wH z x q - hLoZ (q+40)*wK z x q - wT z x q
def wOdd (c z x q:Int):Bool:=decide (((wK z x q).toNat+c.toNat)%2=1)
def wFl (c z x q:Int):Bool:=decide (2≤((wK z x q).toNat+c.toNat)%4) != (decide (xV z x<0) && decide (c.toNat=0))
def wLo (c z x q:Int):Int:=(if wOdd c z x q then cosLo (wT z x q) (q+40) (n8 q) else sinLo (wT z x q) (q+40) (n8 q)) - wG z x q
def wHi (c z x q:Int):Int:=(if wOdd c z x q then cosHi (wT z x q) (q+40) (n8 q) else sinHi (wT z x q) (q+40) (n8 q))+wG z x q
def wA (c z x q:Int):Int:=if wFl c z x q then wHi c z x q * -1 else wLo c z x q
def wB (c z x q:Int):Int:=if wFl c z x q then wLo c z x q * -1 else wHi c z x q
def atLo (f z x q:Int):Int:=cutL q (if f=0 then eA z x q else if f=1 then tA z x q else if f=2 then gA z x q else if f=3 then lA z x q else wA (f - 4) z x q)
def atHi (f z x q:Int):Int:=cutH q (if f=0 then eB z x q else if f=1 then tB z x q else if f=2 then gB z x q else if f=3 then lB z x q else wB (f - 4) z x q)
def atK (f z x q:Int):Int:=if f=0 then eK z x q else if f=1 then tK z x else 0
def hA (h:Nat→List Int→Int):Nat→List Int→Int
  | 0,[f,z,x,q]=>atLo f z x q
  | 1,[f,z,x,q]=>atHi f z x q
  | 2,[f,z,x,q]=>atK f z x q
  | n,l=>if n<8 then 0 else h (n - 8) l
end An
namespace V
section
variable (h:Nat→List Int→Int)
abbrev FA:Nat→List Int→Int:=FD (An.hA h)
def aM:T:=ap2 56 (.v 0) (.v 1)
def aE:T:=ap2 57 (.v 0) (.v 1)
def aW:T:=.add (.v 2) (.n 40)
def aF:List T:=xF 1 ++ [.le (.n 0) (.v 2),.le (.v 2) (.n 800),.le (.n (-1200)) aE,.le aE (.n 4000)]
def may9:T:=.or (.not (ap2 68 aM aE)) (.le (ap2 58 aM aE) (.n 9))
def lo0:T:=ap3 59 aM aE aW
def hi0:T:=ap3 60 aM aE aW
def lL:T:=ap1 48 aW
def lH:T:=ap1 49 aW
def cap:Int:=2^900
def mE (t:T):List T:=[.le (.n 0) t,.le t (.n cap),.le (.n 0) (ap1 4 t),.le (ap2 5 (.mul t (ap1 0 (.n 1))) (.mul (.n 2) (p2 aW))) (.n 0)]
def n4T:T:=.add (ap2 1 aW (.n 4)) (.n 10)
def eLoT (t:T):T:=ap3 18 aW t n4T
def eHiT (t:T):T:=.add (ap3 19 aW t n4T) (.mul (ap3 17 aW t n4T) (ap1 0 (.n 1)))
def cutLT (t:T):T:=ap2 1 t (p2 (.sub aW (.v 2)))
def cutHT (t:T):T:=.sub (.n 0) (ap2 1 (.sub (.n 0) t) (p2 (.sub aW (.v 2))))
def lnFs:List T:=[.lt (.n 0) lL,.lt (.n 0) lH,rightL lL lH,rightL lo0 hi0]
def atRes (k k':Nat) (lo hi kk:T):A:=.tup [.ag [.z k true (cutLT lo),.z k' true (cutHT hi),.i .i64 (.v 2)],.sc (.i .i64 kk),.sc (.i .i64 (.n 0))]
def ap4' (f:Nat) (a b c d:T):T:=.ap f (.c a (.c b (.c c (.c d .e))))
def atNam (f:Int):A:=.tup [.ag [.z 1000 true (ap4' 80 (.n f) (.v 0) (.v 1) (.v 2)),.z 1000 true (ap4' 81 (.n f) (.v 0) (.v 1) (.v 2)),.i .i64 (.v 2)],.sc (.i .i64 (ap4' 82 (.n f) (.v 0) (.v 1) (.v 2))),.sc (.i .i64 (.n 0))]
def atS (f:FuncId) (c:Int) (fs:List T):Spec:=dsp f [i64 (.n c),d0,i64 (.v 2)] 3 fs (atNam c)
def kP:T:=ap2 1 lo0 lH
def tlP:T:=.add lo0 (.sub (.n 0) (.mul lH kP))
def thP:T:=.add hi0 (.sub (.n 0) (.mul lL kP))
def fPh:List T:=[rightL (eLoT tlP) (eHiT thP),.le (.n 0) (ap1 4 lo0),.le (.n (-1520)) kP,.le kP (.n 1520),.le (.n 0) (ap1 4 kP),rightL (.mul lL kP) (.mul lH kP),rightL (.sub (.n 0) (.mul lH kP)) (.sub (.n 0) (.mul lL kP))]
def fP:List T:=fPh ++ (mE tlP ++ (mE thP ++ (lnFs ++ ([may9] ++ aF))))
def kN:T:=ap2 1 lo0 lL
def tlN:T:=.add lo0 (.sub (.n 0) (.mul lL kN))
def thN:T:=.add hi0 (.sub (.n 0) (.mul lH kN))
def fNh:List T:=[rightL (eLoT tlN) (eHiT thN),.lt (ap1 4 lo0) (.n 0),.le (.n (-1520)) kN,.le kN (.n 1520),.lt (ap1 4 kN) (.n 0),rightL (.mul lH kN) (.mul lL kN),rightL (.sub (.n 0) (.mul lL kN)) (.sub (.n 0) (.mul lH kN))]
def fN:List T:=fNh ++ (mE tlN ++ (mE thN ++ (lnFs ++ ([may9] ++ aF))))
noncomputable def el4A:List (Ctr Tryz.prog (FA h)):=el4 (An.hA h) (dy1 (An.hA h))
theorem xP:in12 (inlX (el4A h) 29 fP [] [i64 (.n 0),d0,i64 (.v 2)])=some ([],atRes 40 140 (eLoT tlP) (eHiT thP) kP):=by kernel_rfl
theorem xN:in12 (inlX (el4A h) 29 fN [] [i64 (.n 0),d0,i64 (.v 2)])=some ([],atRes 40 140 (eLoT tlN) (eHiT thN) kN):=by kernel_rfl
end
end V
namespace An
theorem pow_mono {n m:Nat} (h:n≤m):(2:Int)^n≤2^m:=by
  obtain ⟨j,rfl⟩:=Nat.exists_eq_add_of_le h;rw [Int.pow_add];have h1:(0:Int)<2^n:=Int.pow_pos (by omega);have h2:(0:Int)<2^j:=Int.pow_pos (by omega);have:=Int.mul_le_mul_of_nonneg_left (show (1:Int)≤2^j by omega) (Int.le_of_lt h1)
  omega
theorem pow_cap {w:Int} (h:w≤840):2*2^w.toNat≤V.cap:=by
  unfold V.cap;have:=pow_mono (show w.toNat+1≤900 by omega);rw [Int.pow_succ] at this
  generalize (2:Int)^900=c at *
  omega
theorem rv_neg (v:Int):rv (-v) = - rv v:=by unfold rv;rw [Rat.intCast_neg];grind
theorem rv_pos {v:Int} (h:0<v):0<rv v:=Rat.mul_pos (Rat.intCast_pos.2 h) (Rat.inv_pos.2 (DD_pos _))
theorem jy2:rv 0=0:=by unfold rv;show (0:Rat)*_=0;grind
theorem jg3 {v:Int} (h:0≤v):0≤rv v:=by
  by_cases c:v=0
  · subst c;rw [jy2];grind
  · exact Rat.le_of_lt (rv_pos (by omega))
theorem jrd {z x:Int} (h0 : -4000≤x) (h1:x≤4000):rv (av 4000 (-z) x) = - rv (av 4000 z x):=by
  rw [jd5 h0 h1,jd5 h0 h1,Rat.intCast_neg];grind
theorem jre {z x:Int}:lgN (-z) x=lgN z x:=by
  unfold lgN cM cE
  by_cases hz:x < -4000∨4000<x∨z=0
  · rw [if_pos (by omega),if_pos hz]
    simp
  · have h2:¬(x < -4000∨4000<x∨-z=0):=by omega
    simp only [if_neg hz,if_neg h2,Int.natAbs_neg];rw [if_neg (by omega),if_neg (by omega)]
theorem bd_lg {z x:Int} (h0 : -4000≤x) (h1:x≤4000) {n:Int} (h:lgOk z x=false∨lgN z x<n):Bd (two n) (rv (av 4000 z x)):=by
  have p:=two_pos n
  by_cases hz:z=0
  · subst hz
    rw [jd5 h0 h1]
    show -two n≤(0:Rat)*two x∧(0:Rat)*two x≤two n
    grind
  · have ok:lgOk z x=true:=by
      unfold lgOk cM;rw [if_neg (by omega)];exact decide_eq_true hz
    have hl:lgN z x<n:=by
      rcases h with h | h
      · rw [ok] at h;cases h
      · exact h
    have m:=two_le_two (show lgN z x+1≤n by omega)
    by_cases hp:0<z
    · obtain ⟨l1,l2,-⟩:=jms h0 h1 hp
      have:=two_pos (lgN z x);unfold Bd;grind
    · obtain ⟨l1,l2,-⟩:=jms (z := -z) h0 h1 (by omega)
      rw [jre,jrd h0 h1] at l1 l2;have:=two_pos (lgN z x);unfold Bd;grind
theorem two_ten:two 10=1024:=by show (2:Rat)^10=1024;decide +kernel
theorem jkm {v w:Int} (h0:0≤w) (h1:w≤4000):vFloor 4000 v (nearZ w)<0↔v<0:=by
  unfold vFloor;rw [jkz h0 h1,if_pos h0];have hd:(0:Int)<2^4000:=Int.pow_pos (by omega);have hw:(0:Int)<2^w.toNat:=Int.pow_pos (by omega)
  generalize (2:Int)^4000=d at *
  constructor
  · intro h
    by_cases c:v<0
    · exact c
    · have:=Int.ediv_nonneg (Int.mul_nonneg (show 0≤v by omega) (Int.le_of_lt hw)) (Int.le_of_lt hd)
      omega
  · intro h
    exact Int.ediv_neg_of_neg_of_pos (Int.mul_neg_of_neg_of_pos h hw) hd
def xQ (z x:Int):Rat:=rv (xV z x)
section
variable {z x q:Int} (q0:0≤q) (q1:q≤800)
include q0 q1
theorem xL_ok:((xL z x q:Int):Rat)≤xQ z x*DD (q+40)∧xQ z x*DD (q+40)≤((xH z x q:Int):Rat)∧xL z x q≤xH z x q∧xH z x q≤xL z x q+1:=by
  have f:=jem (V:=xV z x) (w:=q+40) (by omega) (by omega);have c:=jjq (V:=xV z x) (w:=q+40) (by omega) (by omega);exact ⟨f.1,c.1,c.2.1,c.2.2⟩
theorem e_red (hb:Bd 1024 (xQ z x)):RedOK (xQ z x) q (xL z x q) (xH z x q) (eK z x q):=by
  obtain ⟨h1,h2,h3,h4⟩:=xL_ok (z:=z) (x:=x) q0 q1;exact j1k q0 q1 hb h1 h2 h4
theorem e_le (hb:Bd 1024 (xQ z x)):eA z x q≤eB z x q:=by
  obtain ⟨h1,h2,h3,h4⟩:=xL_ok (z:=z) (x:=x) q0 q1;have R:=e_red q0 q1 hb;have N:=jc1 (q:=q+40) (by omega) (by omega) (m:=((q+40) / 4+10).toNat+((q+40+16) / 3+2).toNat) (by omega);obtain ⟨e1,e2⟩:=jgc (k:=eK z x q) h1 h2 N.1 N.2.1;have t1:=jag R.t1;have tt:=jag R.tt;rw [Rat.intCast_add] at tt;have ce:((7000:Int):Rat)=7000:=rfl;have E:=jcd (by omega) (by omega) R.t0 t1 e1 e2 (c:=7000) (by grind) (m:=((q+40) / 4+10).toNat+((q+40+16) / 3+2).toNat) (by omega);exact rat_le (Rat.le_trans E.1 E.2.1)
theorem rl_le (hb:Bd 1024 (xQ z x)):rLo (xL z x q) (eK z x q) (lnLoZ (q+40)) (lnHiZ (q+40))≤rHi (xH z x q) (eK z x q) (lnLoZ (q+40)) (lnHiZ (q+40)):=by
  obtain ⟨h1,h2,h3,h4⟩:=xL_ok (z:=z) (x:=x) q0 q1;have N:=jc1 (q:=q+40) (by omega) (by omega) (m:=((q+40) / 4+10).toNat+((q+40+16) / 3+2).toNat) (by omega);obtain ⟨e1,e2⟩:=jgc (k:=eK z x q) h1 h2 N.1 N.2.1;exact rat_le (Rat.le_trans e1 e2)
end
end An
namespace V
section
variable (h:Nat→List Int→Int)
theorem je2 {ρ:Nat→Int} (hf:allT (FA h) ρ aF):(-100000≤ρ 1∧ρ 1≤100000)∧0≤ρ 2∧ρ 2≤800∧-1200≤nE (ρ 0) (ρ 1)∧nE (ρ 0) (ρ 1)≤4000:=by
  have h2:=jab hf;obtain ⟨g1,g2,g3,g4,-⟩:=h2;exact ⟨jf3 (jbn hf),jaa g1,jaa g2,jaa g3,jaa g4⟩
theorem jif {ρ:Nat→Int} (hf:allT (FA h) ρ ([may9] ++ aF)):An.Bd 1024 (An.xQ (ρ 0) (ρ 1)):=by
  obtain ⟨-,-,-,e0,e1⟩:=je2 h (jab hf);have hm:=(jbn hf).1;unfold may9 at hm;rw [jew,jax,bd_le] at hm
  have hm2:lgOk (nM (ρ 0) (ρ 1)) (nE (ρ 0) (ρ 1))=false∨lgN (nM (ρ 0) (ρ 1)) (nE (ρ 0) (ρ 1))<10:=by
    rcases Bool.or_eq_true _ _ ▸ hm with k | k
    · left
      have k2:(!(b2i (lgOk (nM (ρ 0) (ρ 1)) (nE (ρ 0) (ρ 1))) != 0))=true:=k;rw [jcu] at k2
      simpa using k2
    · right
      have k2:lgN (nM (ρ 0) (ρ 1)) (nE (ρ 0) (ρ 1))≤9:=of_decide_eq_true k
      omega
  have:=An.bd_lg (by omega) e1 hm2;rw [An.two_ten] at this;exact this
theorem jy3 {ρ:Nat→Int} (hf:allT (FA h) ρ aF):allT (FA h) ρ lnFs:=by
  obtain ⟨-,q0,q1,-,-⟩:=je2 h hf;obtain ⟨f1,f2,-,-,-⟩:=An.ln_facts (w:=ρ 2+40) (by omega) (by omega);have x:=An.xL_ok (z:=ρ 0) (x:=ρ 1) q0 q1;exact ⟨jbj f1,jbj (show 0<lnHiZ (ρ 2+40) by omega),jae f2,jae x.2.2.1,trivial⟩
theorem jp1 {ρ:Nat→Int} (q1:ρ 2≤800) {t:T} (h0:0≤t.den (FA h) ρ) (h1:t.den (FA h) ρ≤2^(ρ 2+40).toNat):allT (FA h) ρ (mE t):=by
  have c:=An.pow_cap (w:=ρ 2+40) (by omega);have p:=An.twp (ρ 2+40);refine ⟨jad h0,jad (show _≤cap by omega),jad (show 0≤(t.den (FA h) ρ).sign from Int.sign_nonneg_iff.2 h0),jad (show cmpZ (t.den (FA h) ρ*2^(1:Int).toNat) (2*2^(ρ 2+40).toNat)≤0 from (jce _ _).2 ?_),trivial⟩;rw [show (2:Int)^(1:Int).toNat=2 from rfl]
  omega
theorem atP {ρ:Nat→Int} (hs:¬ An.xL (ρ 0) (ρ 1) (ρ 2)<0):kP.den (FA h) ρ=An.eK (ρ 0) (ρ 1) (ρ 2):=by
  unfold An.eK;rw [if_neg hs];rfl
theorem atN {ρ:Nat→Int} (hs:An.xL (ρ 0) (ρ 1) (ρ 2)<0):kN.den (FA h) ρ=An.eK (ρ 0) (ρ 1) (ρ 2):=by
  unfold An.eK;rw [if_pos hs];rfl
theorem tP {ρ:Nat→Int} (hs:¬ An.xL (ρ 0) (ρ 1) (ρ 2)<0) (hk:¬ An.eK (ρ 0) (ρ 1) (ρ 2)<0):tlP.den (FA h) ρ=An.rLo (An.xL (ρ 0) (ρ 1) (ρ 2)) (An.eK (ρ 0) (ρ 1) (ρ 2)) (lnLoZ (ρ 2+40)) (lnHiZ (ρ 2+40))∧thP.den (FA h) ρ=An.rHi (An.xH (ρ 0) (ρ 1) (ρ 2)) (An.eK (ρ 0) (ρ 1) (ρ 2)) (lnLoZ (ρ 2+40)) (lnHiZ (ρ 2+40)):=by
  have e1:tlP.den (FA h) ρ=An.xL (ρ 0) (ρ 1) (ρ 2)+(0 - lnHiZ (ρ 2+40)*kP.den (FA h) ρ):=rfl;have e2:thP.den (FA h) ρ=An.xH (ρ 0) (ρ 1) (ρ 2)+(0 - lnLoZ (ρ 2+40)*kP.den (FA h) ρ):=rfl;rw [e1,e2,atP h hs];unfold An.rLo An.rHi;rw [if_neg hk,if_neg hk,Int.mul_comm (lnHiZ _),Int.mul_comm (lnLoZ _)]
  omega
theorem tN {ρ:Nat→Int} (hs:An.xL (ρ 0) (ρ 1) (ρ 2)<0) (hk:An.eK (ρ 0) (ρ 1) (ρ 2)<0):tlN.den (FA h) ρ=An.rLo (An.xL (ρ 0) (ρ 1) (ρ 2)) (An.eK (ρ 0) (ρ 1) (ρ 2)) (lnLoZ (ρ 2+40)) (lnHiZ (ρ 2+40))∧thN.den (FA h) ρ=An.rHi (An.xH (ρ 0) (ρ 1) (ρ 2)) (An.eK (ρ 0) (ρ 1) (ρ 2)) (lnLoZ (ρ 2+40)) (lnHiZ (ρ 2+40)):=by
  have e1:tlN.den (FA h) ρ=An.xL (ρ 0) (ρ 1) (ρ 2)+(0 - lnLoZ (ρ 2+40)*kN.den (FA h) ρ):=rfl;have e2:thN.den (FA h) ρ=An.xH (ρ 0) (ρ 1) (ρ 2)+(0 - lnHiZ (ρ 2+40)*kN.den (FA h) ρ):=rfl;rw [e1,e2,atN h hs];unfold An.rLo An.rHi;rw [if_pos hk,if_pos hk,Int.mul_comm (lnHiZ _),Int.mul_comm (lnLoZ _)]
  omega
theorem eden {ρ:Nat→Int} (t:T):(eLoT t).den (FA h) ρ=expLo (t.den (FA h) ρ) (ρ 2+40) (An.n4 (ρ 2)):=rfl
theorem eden' {ρ:Nat→Int} (t:T):(eHiT t).den (FA h) ρ=expHi (t.den (FA h) ρ) (ρ 2+40) (An.n4 (ρ 2)):=rfl
theorem jrf {ρ:Nat→Int} {t:T} (h0:0≤t.den (FA h) ρ):(T.le (.n 0) (ap1 4 t)).bd (FA h) ρ=true:=jad (show 0≤(t.den (FA h) ρ).sign from Int.sign_nonneg_iff.2 h0)
theorem jrg {ρ:Nat→Int} {t:T} (h0:t.den (FA h) ρ<0):(T.lt (ap1 4 t) (.n 0)).bd (FA h) ρ=true:=jbj (show (t.den (FA h) ρ).sign<0 by rw [Int.sign_eq_neg_one_of_neg h0];decide)
theorem jjh {z x q:Int} (q0:0≤q) (q1:q≤800):An.xL z x q<0↔An.eK z x q<0:=by
  obtain ⟨f1,f2,-,-,-⟩:=An.ln_facts (w:=q+40) (by omega) (by omega);unfold An.eK
  constructor
  · intro hs
    rw [if_pos hs];exact Int.ediv_neg_of_neg_of_pos hs f1
  · intro hk
    by_cases hs:An.xL z x q<0
    · exact hs
    · rw [if_neg hs] at hk
      have:=Int.ediv_nonneg (show 0≤An.xL z x q by omega) (show 0≤lnHiZ (q+40) by omega)
      omega
theorem j37 {ρ:Nat→Int} (hf:allT (FA h) ρ ([may9] ++ aF)) (hs:¬ An.xL (ρ 0) (ρ 1) (ρ 2)<0):allT (FA h) ρ fP:=by
  have hb:=jif h hf;have ha:=jab hf;obtain ⟨-,q0,q1,-,-⟩:=je2 h ha;have R:=An.e_red q0 q1 hb;have hk:¬ An.eK (ρ 0) (ρ 1) (ρ 2)<0:=fun c=>hs ((jjh q0 q1).2 c)
  obtain ⟨t1,t2⟩:=tP h hs hk;have ek:=atP h hs;have le:=An.e_le q0 q1 hb;obtain ⟨f1,f2,-,-,-⟩:=An.ln_facts (w:=ρ 2+40) (by omega) (by omega);have ml:=Int.mul_le_mul_of_nonneg_right f2 (show 0≤An.eK (ρ 0) (ρ 1) (ρ 2) by omega);have R1:=R.t1;have R0:=R.t0;have Rk0:=R.k0;have Rk1:=R.k1;have two:=R.tt;have lh:=An.rl_le (z:=ρ 0) (x:=ρ 1) q0 q1 hb;have sx:0≤lo0.den (FA h) ρ:=show 0≤An.xL (ρ 0) (ρ 1) (ρ 2) by omega
  have A:allT (FA h) ρ fPh→allT (FA h) ρ fP:=fun a=>jac a (jac (jp1 h q1 (by rw [t1];exact R0) (by rw [t1];omega)) (jac (jp1 h q1 (by rw [t2];omega) (by rw [t2];exact R1)) (jac (jy3 h ha) hf)))
  refine A ⟨jae ?_,jrf h sx,jad ?_,jad ?_,jrf h ?_,jae ?_,jae ?_,trivial⟩
  · rw [eden,eden',t1,t2];exact le
  · rw [ek];exact Rk0
  · rw [ek];exact Rk1
  · rw [ek];omega
  · show lnLoZ (ρ 2+40)*kP.den (FA h) ρ≤lnHiZ (ρ 2+40)*kP.den (FA h) ρ
    rw [ek];exact ml
  · show 0 - lnHiZ (ρ 2+40)*kP.den (FA h) ρ≤0 - lnLoZ (ρ 2+40)*kP.den (FA h) ρ
    rw [ek];omega
theorem j38 {ρ:Nat→Int} (hf:allT (FA h) ρ ([may9] ++ aF)) (hs:An.xL (ρ 0) (ρ 1) (ρ 2)<0):allT (FA h) ρ fN:=by
  have hb:=jif h hf;have ha:=jab hf;obtain ⟨-,q0,q1,-,-⟩:=je2 h ha;have R:=An.e_red q0 q1 hb;have hk:An.eK (ρ 0) (ρ 1) (ρ 2)<0:=(jjh q0 q1).1 hs;obtain ⟨t1,t2⟩:=tN h hs hk;have ek:=atN h hs;have le:=An.e_le q0 q1 hb;obtain ⟨f1,f2,-,-,-⟩:=An.ln_facts (w:=ρ 2+40) (by omega) (by omega);have ml:=Int.mul_le_mul_of_nonpos_right f2 (show An.eK (ρ 0) (ρ 1) (ρ 2)≤0 by omega);have R1:=R.t1;have R0:=R.t0;have Rk0:=R.k0;have Rk1:=R.k1;have lh:=An.rl_le (z:=ρ 0) (x:=ρ 1) q0 q1 hb;have A:allT (FA h) ρ fNh→allT (FA h) ρ fN:=fun a=>jac a (jac (jp1 h q1 (by rw [t1];exact R0) (by rw [t1];omega)) (jac (jp1 h q1 (by rw [t2];omega) (by rw [t2];exact R1)) (jac (jy3 h ha) hf)))
  refine A ⟨jae ?_,jrg h hs,jad ?_,jad ?_,jrg h ?_,jae ?_,jae ?_,trivial⟩
  · rw [eden,eden',t1,t2];exact le
  · rw [ek];exact Rk0
  · rw [ek];exact Rk1
  · rw [ek];omega
  · show lnHiZ (ρ 2+40)*kN.den (FA h) ρ≤lnLoZ (ρ 2+40)*kN.den (FA h) ρ
    rw [ek];exact ml
  · show 0 - lnLoZ (ρ 2+40)*kN.den (FA h) ρ≤0 - lnHiZ (ρ 2+40)*kN.den (FA h) ρ
    rw [ek];omega
theorem cutden {ρ:Nat→Int} (t:T):(cutLT t).den (FA h) ρ=An.cutL (ρ 2) (t.den (FA h) ρ):=rfl
theorem cutden' {ρ:Nat→Int} (t:T):(cutHT t).den (FA h) ρ=An.cutH (ρ 2) (t.den (FA h) ρ):=rfl
theorem den80 {ρ:Nat→Int} (c:Int):(ap4' 80 (.n c) (.v 0) (.v 1) (.v 2)).den (FA h) ρ=An.atLo c (ρ 0) (ρ 1) (ρ 2):=rfl
theorem den81 {ρ:Nat→Int} (c:Int):(ap4' 81 (.n c) (.v 0) (.v 1) (.v 2)).den (FA h) ρ=An.atHi c (ρ 0) (ρ 1) (ρ 2):=rfl
theorem den82 {ρ:Nat→Int} (c:Int):(ap4' 82 (.n c) (.v 0) (.v 1) (.v 2)).den (FA h) ρ=An.atK c (ρ 0) (ρ 1) (ρ 2):=rfl
theorem j1s {F:Nat→List Int→Int} {ρ:Nat→Int} {k k':Nat} {lo hi kk a b d:T} (hk:k≤1000) (hk':k'≤1000) (h1:(cutLT lo).den F ρ=a.den F ρ) (h2:(cutHT hi).den F ρ=b.den F ρ) (h3:kk.den F ρ=d.den F ρ) :
    eqA F ρ (atRes k k' lo hi kk) (.tup [.ag [.z 1000 true a,.z 1000 true b,.i .i64 (.v 2)],.sc (.i .i64 d),.sc (.i .i64 (.n 0))]):=by
  unfold atRes;refine ⟨?_,?_,?_,trivial⟩
  · refine ⟨⟨hk,rfl,h1⟩,⟨hk',rfl,h2⟩,?_⟩
    exact ⟨⟨rfl,rfl⟩,trivial⟩
  · exact ⟨rfl,h3⟩
  · exact ⟨rfl,rfl⟩
theorem atCase {c:Int} {fs:List T} {k k':Nat} {lo hi kk:T} (hx:in12 (inlX (el4A h) 29 fs [] [i64 (.n c),d0,i64 (.v 2)])=some ([],atRes k k' lo hi kk)) (hk:k≤1000) (hk':k'≤1000)
    (hd:∀ρ,allT (FA h) ρ fs→An.cutL (ρ 2) (lo.den (FA h) ρ)=An.atLo c (ρ 0) (ρ 1) (ρ 2)∧An.cutH (ρ 2) (hi.den (FA h) ρ)=An.atHi c (ρ 0) (ρ 1) (ρ 2)∧kk.den (FA h) ρ=An.atK c (ρ 0) (ρ 1) (ρ 2)) :
    SpecOK Tryz.prog (FA h) (atS 29 c fs):=by
  have he:Enters Tryz.prog (atS 29 c fs).f:=jan (f:=29) (by kernel_rfl)
  have hr:∀ρ,allT (FA h) ρ (atS 29 c fs).fs→eqA (FA h) ρ (atRes k k' lo hi kk) (atS 29 c fs).res:=fun ρ hf=>by
    obtain ⟨d1,d2,d3⟩:=hd ρ hf;exact j1s hk hk' ((cutden h lo).trans (d1.trans (den80 h c).symm)) ((cutden' h hi).trans (d2.trans (den81 h c).symm)) (d3.trans (den82 h c).symm)
  exact fun {ρ β w vs} ha hb hf=>jaq (tab:=el4A h) (sp:=atS 29 c fs) (res:=atRes k k' lo hi kk) follows_any he hx rfl hr ha hb hf
theorem at0:SpecOK Tryz.prog (FA h) (atS 29 0 ([may9] ++ aF)):=by
  intro ρ β w vs ha hb hf;have b:=jif h hf;obtain ⟨-,q0,q1,-,-⟩:=je2 h (jab hf)
  by_cases hs:An.xL (ρ 0) (ρ 1) (ρ 2)<0
  · refine atCase h (xN h) (by omega) (by omega) (fun ρ hf=>?_) ha hb (j38 h hf hs)
    have g:=jab (jab (jab (jab hf)));obtain ⟨-,q0,q1,-,-⟩:=je2 h (jab g);have hs2:(An.xL (ρ 0) (ρ 1) (ρ 2)).sign<0:=jco hf.2.1
    have hs3:An.xL (ρ 0) (ρ 1) (ρ 2)<0:=by
      by_cases c:An.xL (ρ 0) (ρ 1) (ρ 2)<0
      · exact c
      · have:=Int.sign_nonneg_iff.2 (show 0≤An.xL (ρ 0) (ρ 1) (ρ 2) by omega);omega
    obtain ⟨t1,t2⟩:=tN h hs3 ((jjh q0 q1).1 hs3);rw [eden,eden',t1,t2,atN h hs3];exact ⟨rfl,rfl,rfl⟩
  · refine atCase h (xP h) (by omega) (by omega) (fun ρ hf=>?_) ha hb (j37 h hf hs)
    have g:=jab (jab (jab (jab hf)));obtain ⟨-,q0,q1,-,-⟩:=je2 h (jab g);have hs2:0≤(An.xL (ρ 0) (ρ 1) (ρ 2)).sign:=jaa hf.2.1;have hs3:¬ An.xL (ρ 0) (ρ 1) (ρ 2)<0:=by have:=Int.sign_nonneg_iff.1 hs2;omega
    obtain ⟨t1,t2⟩:=tP h hs3 (fun c=>hs3 ((jjh q0 q1).2 c));rw [eden,eden',t1,t2,atP h hs3];exact ⟨rfl,rfl,rfl⟩
end
end V
end Go.Proofs.YtllgjggkchgpbaaGreat
